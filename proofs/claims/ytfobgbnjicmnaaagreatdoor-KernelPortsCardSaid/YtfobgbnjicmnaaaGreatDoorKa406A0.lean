/- THE ABSTRACT MACHINE. -/
import Derived.Calls
import Derived.Orders
import Derived.Scope
import Derived.Lib.Bytealg
import Derived.Lib.Join
import Derived.Laws.Sem
import Derived.Laws.World
import Derived.Laws.Cells
import Derived.Below
import Derived.Laws.StructEq
import Derived.MapKept
import Derived.Laws.BytesString
import Derived.ChangeSame
import Derived.Carry
import Derived.Laws.Strings
import Derived.Laws.RangeAny
import Derived.Sort.AssemblyPlain
import Derived.HandedShaped
import Derived.JoinedOf
import Derived.WideKeyArgs
import Derived.ChangeArms
import Derived.OpenShut
import Derived.RowKit
set_option linter.all false
section
namespace Go.AM
abbrev Env:=Nat->Value
@[reducible] def Hi (α:Type):Type:=α
inductive cH where
 | cells (c:List Value) (flex:Option Nat)
 | ro (f:Nat->Option Value)
 | map (es:List MapEntry) (clock:Nat) (rw:Bool)
 | siter (s:ByteArray) (pos:Nat)
 | miter (m:Option Nat) (since:Nat) (eS:List Nat) (last:Nat)
 | dead
structure AH where
 next:Nat
 raw:Nat->cH
def AH.get (H:AH) (b:Nat):cH:=if b<H.next then H.raw b else .dead
def AH.put (H:AH) (b:Nat) (o:cH):AH:={ next:=H.next,raw:=fun x=>if x=b then o else H.raw x }
def AH.new (H:AH) (o:cH):AH:={ next:=H.next+1,raw:=fun x=>if x=H.next then o else H.raw x }
theorem AH.next_put (H:AH) (b:Nat) (o:cH):(H.put b o).next=H.next:=rfl
theorem AH.next_new (H:AH) (o:cH):(H.new o).next=H.next+1:=rfl
theorem AH.get_put (H:AH) (b:Nat) (o:cH) (x:Nat):(H.put b o).get x=if x=b/\b<H.next then o else H.get x:=by
 simp only [AH.get,AH.put]
 by_cases h:x=b
 ·subst h
  by_cases k:x<H.next <;> simp [k]
 ·simp [h]
theorem AH.get_put_ne (H:AH) {b:Nat} (o:cH) {x:Nat} (h:x≠b):(H.put b o).get x=H.get x:=by
 rw [AH.get_put,if_neg (fun k=>h k.1)]
theorem AH.get_put_self (H:AH) {b:Nat} (o:cH) (h:b<H.next):(H.put b o).get b=o:=by
 rw [AH.get_put,if_pos ⟨rfl,h⟩]
theorem AH.get_new (H:AH) (o:cH) (x:Nat):(H.new o).get x=if x=H.next then o else H.get x:=by
 simp only [AH.get,AH.new]
 by_cases h:x=H.next
 ·subst h; simp
 ·have:x<H.next+1↔x<H.next:=by omega
  simp [h,this]
theorem AH.get_new_self (H:AH) (o:cH):(H.new o).get H.next=o:=by rw [AH.get_new,if_pos rfl]
theorem AH.get_new_ne (H:AH) (o:cH) {x:Nat} (h:x≠H.next):(H.new o).get x=H.get x:=by rw [AH.get_new,if_neg h]
theorem AH.lt_of_get {H:AH} {b:Nat} (h:H.get b ≠ .dead):b<H.next:=by
 apply Classical.byContradiction;intro k;exact h (by simp [AH.get,k])
def qN (f:Nat->Option Value):Nat->Nat->Option (List Value)
 | _,0=>some []
 | i,n+1=>(f i).bind fun v=>(qN f (i+1) n).map (v :: ·)
def cH.row (o:cH) (i n:Nat):Option (List Value) :=
 match o with
 | .cells c _=>if i+n<=c.length then some ((c.drop i).take n) else none
 | .ro f=>qN f i n
 | _=>none
def cH.cell (o:cH) (i:Nat):Option Value :=
 match o with
 | .cells c _=>c[i]?
 | .ro f=>f i
 | _=>none
def bF (c:List Value) (i:Nat) (vs:List Value):List Value:=c.take i++vs++c.drop (i+vs.length)
def upd (T:Env) (d:Nat) (v:Value):Env:=fun n=>if n=d then v else T n
def qM (T:Env) (d:Option Nat) (v:Value):Env :=
 match d with
 | some d=>upd T d v
 | none=>T
def ev (T:Env):Operand->Value
 | .tmp t=>T t
 | .const v=>v
 | .global g => .pointer (some ⟨g,0,none⟩)
 | .func f => .func (.func f) #[] #[]
def pick (c a b:Value):Option Value:=match c with | .bool t=>some (if t then a else b) | _=>none
def aI (x:Value):Option Value :=
 match x with
 | .pointer (some a)=>some (.pointer (some a))
 | .func (.func f) a b=>some (.func (.func f) a b)
 | .iface t v=>some (.iface t v)
 | _=>none
def aA (op:BinOp) (x y:Value):Option Value :=
 match op,x,y with
 | .shl,.int k a,.int _ b=>if b<0 then none else some (.int k (k.wrap (a*2 ^ (min b.toNat k.bits))))
 | .shr,.int k a,.int _ b=>if b<0 then none else some (.int k (a.fdiv (2 ^ (min b.toNat k.bits))))
 | op,.int k a,.int k' b =>
  if k≠k' then none else
  match op with
  | .add=>some (.int k (k.wrap (a+b)))
  | .sub=>some (.int k (k.wrap (a - b)))
  | .mul=>some (.int k (k.wrap (a*b)))
  | .quo=>if b=0 then none else some (.int k (k.wrap (a.tdiv b)))
  | .rem=>if b=0 then none else some (.int k (a.tmod b))
  | .and=>some (.int k (k.wrap (BitVec.ofInt k.bits a&&&BitVec.ofInt k.bits b).toNat))
  | .or=>some (.int k (k.wrap (BitVec.ofInt k.bits a|||BitVec.ofInt k.bits b).toNat))
  | .xor=>some (.int k (k.wrap (BitVec.ofInt k.bits a ^^^ BitVec.ofInt k.bits b).toNat))
  | .andNot=>some (.int k (k.wrap (BitVec.ofInt k.bits a &&& ~~~(BitVec.ofInt k.bits b)).toNat))
  | .eql=>some (.bool (a == b))
  | .neq=>some (.bool (a != b))
  | .lss=>some (.bool (decide (a<b)))
  | .leq=>some (.bool (decide (a<=b)))
  | .gtr=>some (.bool (decide (a > b)))
  | .geq=>some (.bool (decide (a>=b)))
  | _=>none
 | _,_,_=>none
def aBF (op:BinOp) (x y:Value):Option Value :=
 match op,x,y with
 | .add,.string a,.string b=>if a.size+b.size<2 ^ 63 then some (.string (a++b)) else none
 | .eql,.string a,.string b=>some (.bool (a.toList == b.toList))
 | .neq,.string a,.string b=>some (.bool !(a.toList == b.toList))
 | .lss,.string a,.string b=>some (.bool (Op.bytesLess a.toList b.toList))
 | .leq,.string a,.string b=>some (.bool (Op.bytesLess a.toList b.toList||a.toList == b.toList))
 | .gtr,.string a,.string b=>some (.bool !(Op.bytesLess a.toList b.toList||a.toList == b.toList))
 | .geq,.string a,.string b=>some (.bool !(Op.bytesLess a.toList b.toList))
 | _,_,_=>none
def dB (x y:Value):Option Bool :=
 match x,y with
 | .pointer none,.pointer b=>some b.isNone
 | .pointer (some _),.pointer none=>some false
 | .pointer (some a),.pointer (some b)=>if a=b then some true else none
 | _,_=>none
def aBh (x y:Value):Option Bool :=
 match x,y with
 | .slice none _ _,.slice b _ _=>some b.isNone
 | .slice (some _) _ _,.slice none _ _=>some false
 | _,_=>none
def aAI (x y:Value):Option Bool :=
 match x,y with
 | .map none,.map b=>some b.isNone
 | .map (some _),.map none=>some false
 | _,_=>none
def aHI (x y:Value):Option Bool :=
 match x,y with
 | .nilFunc,.nilFunc=>some true
 | .nilFunc,.func _ _ _=>some false
 | .func _ _ _,.nilFunc=>some false
 | _,_=>none
def bW (f:Value->Value->Option Bool) (op:BinOp) (x y:Value):Option Value :=
 match op with
 | .eql=>(f x y).map .bool
 | .neq=>(f x y).map fun b => .bool !b
 | _=>none
def pZ (op:BinOp) (x y:Value):Option Value :=
 match op,x,y with
 | .eql,.bool a,.bool b=>some (.bool (a == b))
 | .neq,.bool a,.bool b=>some (.bool !(a == b))
 | _,_,_=>none
def cB:Nat->Value->Value->Option Bool
 | 0,.int k a,.int k' b=>if k=k' then some (a == b) else none
 | 1,.string a,.string b=>some (a == b)
 | 2,.bool a,.bool b=>some (a == b)
 | _,_,_=>none
def bI:List Nat->List Value->List Value->Option Bool
 | [],[],[]=>some true
 | k :: ks,x :: xs,y :: ys=>(cB k x y).bind fun b=>(bI ks xs ys).map (b && ·)
 | _,_,_=>none
def iS (ks:List Nat) (op:BinOp) (x y:Value):Option Value :=
 match op,x,y with
 | .eql,.agg a,.agg b=>(bI ks a.toList b.toList).map .bool
 | .neq,.agg a,.agg b=>(bI ks a.toList b.toList).map fun t => .bool !t
 | _,_,_=>none
def un (op:UnOp) (x:Value):Option Value :=
 match op,x with
 | .neg,.int k n=>some (.int k (k.wrap (0 - n)))
 | .xor,.int k n=>some (.int k (k.wrap (BitVec.ofInt k.bits (if k.signed then -1 else k.max) ^^^ BitVec.ofInt k.bits n).toNat))
 | .not,.bool b=>some (.bool !b)
 | _,_=>none
def aR (k:IntKind) (x:Value):Option Value:=match x with | .int _ n=>some (.int k (k.wrap n)) | _=>none
def aCo (x:Value):Option Value:=match x with | .string s=>some (.string s) | _=>none
def zM (x:Value):Option Value:=match x with | .int _ n=>some (.string (Utf8.encode n)) | _=>none
def aB (x:Value) (n:Nat):Option Value:=match x with | .pointer (some a)=>some (.pointer (some (a.add n))) | _=>none
def cJ (len size:Nat) (x i:Value):Option Value :=
 match x,i with
 | .pointer (some a),.int _ i=>if 0<=i/\i<len then some (.pointer (some (a.add (i.toNat*size)))) else none
 | _,_=>none
def aK (size:Nat) (x i:Value):Option Value :=
 match x,i with
 | .slice (some a) n _,.int _ i=>if 0<=i/\i<n then some (.pointer (some (a.add (i.toNat*size)))) else none
 | _,_=>none
def mF (x:Value) (i:Nat):Option Value:=match x with | .agg cs=>cs[i]? | _=>none
def xV (x:Value) (i n:Nat):Option Value:=match x with | .agg cs=>some (.agg (cs.extract i (i+n))) | _=>none
def yZ (len size:Nat) (x i:Value):Option Value :=
 match i with
 | .int _ i=>if 0<=i/\i<len then mF x (i.toNat*size) else none
 | _=>none
def aEZ (len size:Nat) (x i:Value):Option Value :=
 match i with
 | .int _ i=>if 0<=i/\i<len then xV x (i.toNat*size) size else none
 | _=>none
def nF (x i:Value):Option Value :=
 match x,i with
 | .string s,.int _ i=>if 0<=i then (s[i.toNat]?).map fun b => .int .u8 b.toNat else none
 | _,_=>none
def jF:Value := .tuple #[.tuple #[]]
def gS:Value->Bool
 | .tuple a=>match a.toList with
  | [.tuple b]=>b.isEmpty
  | _=>false
 | _=>false
def ext (x:Value) (i:Nat):Option Value:=match gS x with
 | true=>none
 | false=>match x with | .tuple vs=>vs[i]? | _=>none
def bnd (x:Option Value) (d hi:Nat):Option Nat :=
 match x with
 | none=>some d
 | some (.int _ i)=>if 0<=i/\i<=hi then some i.toNat else none
 | some _=>none
def aIT (x:Value) (lo hi:Option Value):Option Value :=
 match x with
 | .string s=>(bnd hi s.size s.size).bind fun h=>(bnd lo 0 h).bind fun l=>some (.string (s.extract l h))
 | _=>none
def aCZ (n size:Nat) (x:Value) (lo hi mx:Option Value):Option Value :=
 match x with
 | .pointer (some a)=>if mx.isSome&&hi.isNone then none else (bnd mx n n).bind fun m=>(bnd hi n m).bind fun h=>(bnd lo 0 h).bind fun l =>
   some (.slice (some (if m=l then a else a.add (l*size))) (h - l) (m - l))
 | _=>none
def aEP (n:Nat) (x:Value):Option Value :=
 match x with
 | .slice (some a) len _=>if 0<n/\n<=len then some (.pointer (some a)) else none
 | _=>none
def oK (x:Value):Option Value:=match x with | .string s=>some (.int .i64 s.size) | _=>none
def lenSlc (x:Value):Option Value:=match x with | .slice _ n _=>some (.int .i64 n) | _=>none
def min2 (x y:Value):Option Value:=match x,y with | .int k a,.int k' b=>if k=k' then some (.int k (if b<a then b else a)) else none | _,_=>none
def max2 (x y:Value):Option Value:=match x,y with | .int k a,.int k' b=>if k=k' then some (.int k (if b > a then b else a)) else none | _,_=>none
def gQ:Value->Bool
 | .tuple _=>false
 | _=>true
def aX (places:List (Nat×Nat)) (zero:Array Value) (parts:List (Nat×Value)):Option Value :=
 if parts.all (fun p=>gQ p.2) then (Instr.fill (places[·]?) zero parts).map .agg else none
def mU (size:Nat) (zero:Array Value) (parts:List (Nat×Value)):Option Value :=
 if parts.all (fun p=>gQ p.2) then (Instr.fill (fun i=>some (i*size,size)) zero parts).map .agg else none
def aC (p:Value) (H:AH):Option Value :=
 match p with
 | .pointer (some a)=>if a.spot.isSome then none else (H.get a.block).cell a.off
 | _=>none
def aE (n:Nat) (p:Value) (H:AH):Option Value :=
 match p with
 | .pointer (some a)=>if a.spot.isSome then none else ((H.get a.block).row a.off n).map fun l => .agg l.toArray
 | _=>none
def wV (size:Nat):cH->Bool
 | .cells _ (some e)=>e == size
 | .cells _ none=>true
 | .ro _=>true
 | _=>false
def iN (size:Nat) (x:Value) (lo hi mx:Option Value) (H:AH):Option Value :=
 match x with
 | .slice none n c=>if mx.isSome&&hi.isNone then none else (bnd mx c c).bind fun m=>(bnd hi n m).bind fun h=>(bnd lo 0 h).bind fun l=>some (.slice none (h - l) (m - l))
 | .slice (some a) n c=>if mx.isSome&&hi.isNone || !(c == 0||wV size (H.get a.block)) then none else
   (bnd mx c c).bind fun m=>(bnd hi n m).bind fun h=>(bnd lo 0 h).bind fun l =>
    if h<=m then some (.slice (some (if m=l then a else a.add (l*size))) (h - l) (m - l)) else none
 | _=>none
def rJ (m:Value) (H:AH):Option Value :=
 match m with
 | .map none=>some (.int .i64 0)
 | .map (some r)=>match H.get r with | .map es _ _=>some (.int .i64 es.length) | _=>none
 | _=>none
def iZ (kd:Nat) (k:Value):List MapEntry->Option (Option (Nat×Value))
 | []=>some none
 | e :: es=>(cB kd k e.key).bind fun
   | true=>some (some (0,e.val))
   | false=>(iZ kd k es).map fun r=>r.map fun p=>(p.1+1,p.2)
def lJ (m:Value) (H:AH):Option (List MapEntry) :=
 match m with
 | .map none=>some []
 | .map (some r)=>match H.get r with | .map es _ _=>some es | _=>none
 | _=>none
def look (kd:Nat) (zero:Value) (ok:Bool) (m k:Value) (H:AH):Option Value :=
 (lJ m H).bind fun es=>(iZ kd k es).map fun
  | some (_,v)=>if ok then .tuple #[v,.bool true] else v
  | none=>if ok then .tuple #[zero,.bool false] else zero
def oW (it:Value) (H:AH):Option Value :=
 match it with
 | .pointer (some ⟨r,0,none⟩)=>match H.get r with
   | .miter (some m) _ eS last=>match eS.getLast? with
    | some stamp=>match H.get m with
     | .map es clock _=>if clock=last then (es.find? fun e=>e.born == stamp).map fun e => .tuple #[e.key,e.val] else none
     | _=>none
    | none=>none
   | _=>none
 | _=>none
def wY:Value->Option UInt8
 | .int .u8 n=>some (UInt8.ofNat n.toNat)
 | _=>none
def xJ (x:Value) (H:AH):Option Value :=
 match x with
 | .slice none _ _=>some (.string .empty)
 | .slice (some a) n _=>if n=0 then some (.string .empty) else if a.spot.isSome then none else ((H.get a.block).row a.off n).bind fun l=>(l.mapM wY).map fun bs => .string ⟨bs.toArray⟩
 | _=>none
def mY (n:Nat) (zero:Array Value):List Value:=((Array.range n).map (zero[· % zero.size]!)).toList
def kR (b:Nat):Value := .pointer (some ⟨b,0,none⟩)
def dN (n c b:Nat):Value := .slice (some ⟨b,0,none⟩) n c
def bR (len size:Nat) (zero:Array Value) (parts:List (Nat×Value)):Option (cH×(Nat->Value)) :=
 if parts.all (fun p=>gQ p.2) then (Instr.fill (fun i=>some (i*size,size)) (mY (len*size) zero).toArray parts).map fun cs=>(.cells cs.toList none,dN len len) else none
def eA (v:Value):Option (cH×(Nat->Value)):=if gQ v then some (.cells v.cells.toList none,kR) else none
def qY (size bytes:Nat) (zero:Array Value) (l c:Value):Option (cH×(Nat->Value)) :=
 match l,c with
 | .int _ l,.int _ c=>if 0<=l/\l<=c/\c*bytes<=2 ^ 47/\c<2 ^ 62 then some (.cells (mY (c.toNat*size) zero) none,dN l.toNat c.toNat) else none
 | _,_=>none
def rV (x:Value):Option (cH×(Nat->Value)) :=
 match x with
 | .string s=>some (.siter s 0,kR)
 | _=>none
def mS (x:Value) (H:AH):Option (cH×(Nat->Value)) :=
 match x with
 | .map none=>some (.miter none 0 [] 0,kR)
 | .map (some m)=>match H.get m with | .map _ clock _=>some (.miter (some m) clock [] clock,kR) | _=>none
 | _=>none
def aIA (x:Value):Option (cH×(Nat->Value)) :=
 match x with
 | .string s=>if s.size<2 ^ 62 then some (.cells (s.data.toList.map fun b => .int .u8 b.toNat) (some 1),dN s.size s.size) else none
 | _=>none
def plain1:Value->Bool
 | .agg _=>false
 | .tuple _=>false
 | _=>true
def aQ (p v:Value) (H:AH):Option AH :=
 match p with
 | .pointer (some a)=>if a.spot.isSome || !plain1 v then none else match H.get a.block with
   | .cells c fx=>if a.off<c.length then some (H.put a.block (.cells (c.set a.off v) fx)) else none
   | _=>none
 | _=>none
def aG (n:Nat) (p v:Value) (H:AH):Option AH :=
 match p,v with
 | .pointer (some a),.agg cs=>if a.spot.isSome then none else match H.get a.block with
   | .cells c fx=>if cs.size=n/\a.off+n<=c.length/\cs.toList.all plain1 then some (H.put a.block (.cells (bF c a.off cs.toList) fx)) else none
   | _=>none
 | _,_=>none
def cN (kd:Nat) (m k v:Value) (H:AH):Option AH :=
 match m with
 | .map (some r)=>match H.get r with
   | .map es clock true=>(iZ kd k es).map fun
     | some (i,_)=>H.put r (.map (es.modify i fun e=>{ e with key:=k,val:=v }) clock true)
     | none=>H.put r (.map (es++[{ key:=k,val:=v,born:=clock }]) (clock+1) true)
   | _=>none
 | _=>none
def rW (kd:Nat) (zero:Value) (m k:Value) (H:AH):Option (Value×AH) :=
 match m with
 | .map (some r)=>match H.get r with
   | .map es clock true=>(iZ kd k es).map fun
     | some (i,v)=>(.tuple #[v,.int .i64 (((es[i]?).map (·.born)).getD 0)],H.put r (.map (es.modify i fun e=>{ e with key:=k }) clock true))
     | none=>(.tuple #[zero,.int .i64 clock],H.put r (.map (es++[{ key:=k,val:=zero,born:=clock }]) (clock+1) true))
   | _=>none
 | _=>none
def oB (m s v:Value) (H:AH):Option AH :=
 match m,s with
 | .map (some r),.int _ born=>match H.get r with
   | .map es clock true=>(es.findIdx? (fun e=>(e.born:Int) == born)).map fun i=>H.put r (.map (es.modify i fun e=>{ e with val:=v }) clock true)
   | _=>none
 | _,_=>none
def jV (kd:Nat) (m k:Value) (H:AH):Option AH :=
 match m with
 | .map none=>some H
 | .map (some r)=>match H.get r with
   | .map es clock true=>(iZ kd k es).map fun
     | some (i,_)=>H.put r (.map (es.eraseIdx i) clock true)
     | none=>H
   | _=>none
 | _=>none
def dS (size n:Nat) (x:Value) (H:AH):Option (List Value) :=
 match x with
 | .slice none _ _=>if n=0 then some [] else none
 | .slice (some a) _ _=>if a.spot.isSome then none else (H.get a.block).row a.off (n*size)
 | .string s=>if size=1 then some ((s.extract 0 n).data.toList.map fun b => .int .u8 b.toNat) else none
 | _=>none
def gA (size n:Nat) (x:Value) (H:AH):Option (List Value) :=
 match n,x with
 | 0,.slice (some _) _ _=>some []
 | n,x=>dS size n x H
def pA:Value->Option Nat
 | .slice _ n _=>some n
 | .string s=>some s.size
 | _=>none
def app (size bytes:Nat) (s x:Value) (H:AH):Option (Value×AH) :=
 match s with
 | .slice base n c =>
  (pA x).bind fun m=>(gA size m x H).bind fun new =>
  if !(new.all plain1) then none else
  if n+m<=c then
   match base with
   | none=>if new=[] then some (.slice base (n+m) c,H) else none
   | some a=>if a.spot.isSome then none else match H.get a.block with
    | .cells cs fx=>if a.off+n*size+new.length<=cs.length then some (.slice base (n+m) c,H.put a.block (.cells (bF cs (a.off+n*size) new) fx)) else none
    | .ro _=>if new=[] then some (.slice base (n+m) c,H) else none
    | _=>none
  else
   if 2 ^ 46<(n+m)*bytes\/2 ^ 62<=n+m\/size=0\/bytes=0 then none else
   (dS size n s H).bind fun old =>
   if !(old.all plain1) then none else
   match base with
   | none=>some (dN (n+m) (n+m) H.next,H.new (.cells (old++new) (some size)))
   | some a=>match H.get a.block with
    | .cells _ none=>some (dN (n+m) (n+m) H.next,H.new (.cells (old++new) (some size)))
    | .ro _=>some (dN (n+m) (n+m) H.next,H.new (.cells (old++new) (some size)))
    | .cells _ (some e)=>if e=size then some (dN (n+m) (n+m) H.next,(H.put a.block .dead).new (.cells (old++new) (some size))) else none
    | _=>none
 | _=>none
def oM (size:Nat) (d x:Value) (H:AH):Option (Value×AH) :=
 match d with
 | .slice base n _=>(pA x).bind fun m=>(gA size (Nat.min m n) x H).bind fun new =>
  if !(new.all plain1) then none else
  match base with
  | none=>some (.int .i64 (Nat.min m n:Nat),H)
  | some a=>if a.spot.isSome then none else match H.get a.block with
    | .cells cs fx=>if a.off+new.length<=cs.length then some (.int .i64 (Nat.min m n:Nat),H.put a.block (.cells (bF cs a.off new) fx)) else none
    | .ro _=>if new=[] then some (.int .i64 (Nat.min m n:Nat),H) else none
    | _=>none
 | _=>none
def qP:Value->Bool
 | .bool _=>true
 | .int _ _=>true
 | .float _ _=>true
 | .complex _ _ _=>true
 | .string _=>true
 | .pointer none=>true
 | .slice none _ _=>true
 | .map none=>true
 | .chan none=>true
 | .nilFunc=>true
 | .nilIface=>true
 | _=>false
def rE (zero:List Value) (x:Value) (H:AH):Option AH :=
 match x with
 | .slice none _ _=>some H
 | .slice (some a) n _=>match n with
  | 0=>some H
  | n+1=>if a.spot.isSome || !(zero.all qP) || !(zero.all plain1) then none else match H.get a.block with
   | .cells cs fx=>if a.off+(mY ((n+1)*zero.length) zero.toArray).length<=cs.length then some (H.put a.block (.cells (bF cs a.off (mY ((n+1)*zero.length) zero.toArray)) fx)) else none
   | _=>none
 | _=>none
def qT (it:Value) (H:AH):Option (Value×AH) :=
 match it with
 | .pointer (some ⟨r,0,none⟩)=>match H.get r with
   | .siter s pos =>
    if pos<s.size then some (.tuple #[.bool true,.int .i64 pos,.int .i32 (Utf8.decode s pos).1],H.put r (.siter s (pos+(Utf8.decode s pos).2)))
    else some (.tuple #[.bool false],H)
   | _=>none
 | _=>none
def mJ (it:Value) (H:AH) (K:Value->AH->Prop):Prop :=
 match it with
 | .pointer (some ⟨r,0,none⟩)=>match H.get r with
   | .miter none _ _ _=>K (.tuple #[.bool false]) H
   | .miter (some m) since eS last=>match H.get m with
    | .map es clock _ =>
     ¬ (eS≠[]/\es≠[]/\es.all (fun e=>decide (e.born>=last))=true) /\
     (∀ e∈es,e.born ∉ eS->K (.tuple #[.bool true,e.key,e.val]) (H.put r (.miter (some m) since (eS++[e.born]) clock))) /\
     ((∀ e∈es,e.born<since->e.born∈eS)->K (.tuple #[.bool false]) H)
    | _=>False
   | _=>False
 | _=>False
inductive jG where
 | normal
 | exit (id:Nat)
 | goto (l:Nat)
 | ret
def opt {α:Type} (o:Option α) (K:α->Prop):Prop :=
 match o with
 | some a=>K a
 | none=>False
def eK {α β:Type} (o:Option (α×β)) (K:α->β->Prop):Prop :=
 match o with
 | some p=>K p.1 p.2
 | none=>False
def mk (o:Option (cH×(Nat->Value))) (H:AH) (K:Value->AH->Prop):Prop :=
 match o with
 | some p=>K (p.2 H.next) (H.new p.1)
 | none=>False
def ifB (v:Value) (A B:Prop):Prop :=
 match v with
 | .bool true=>A
 | .bool false=>B
 | _=>False
def gd (g:Value) (want:Bool) (m:(Value->AH->Prop)->Prop) (H:AH) (K:Value->AH->Prop):Prop :=
 match gS g with
 | true=>K jF H
 | false=>match want with
  | true=>ifB g (m K) (K jF H)
  | false=>ifB g (K jF H) (m K)
def gdC (g:Value) (want:Bool) (c:Prop):Prop :=
 match gS g with
 | true=>True
 | false=>match want with
  | true=>ifB g c True
  | false=>ifB g True c
def bJ (cs:List Value) (H:AH) (K:Value->AH->Prop):Prop:=K (kR H.next) (H.new (.cells cs none))
def lM (H:AH) (K:Value->AH->Prop):Prop:=K (.map (some H.next)) (H.new (.map [] 0 true))
def gT (P:Program) (t:TypeId):Option Bool :=
 match P.underlying t with
 | some (.struct _)=>some true
 | some (.array _ _)=>some true
 | some _=>some false
 | none=>none
def cT (P:Program) (t:TypeId):Option Nat:=(P.info? t).map (·.size)
def mI (P:Program) (t:TypeId):Option Nat:=(P.info? t).map (·.bytes)
def lA (P:Program) (t:TypeId):Option Nat :=
 match P.underlying t with
 | some (.int _)=>some 0
 | some .string=>some 1
 | some .bool=>some 2
 | _=>none
def pO (f:TypeId->Option (List Nat)):List Field->List Nat->Option (List Nat)
 | [],n=>some n
 | x :: l, n => if x.name ≠ "_" /\ x.offset = n.length then (f x.type).bind fun m => pO f l (n ++ m) else none
def oP (P:Program):Nat->TypeId->Option (List Nat)
 | 0,_=>none
 | d+1,t =>
  match P.underlying t with
  | some (.int _)=>match cT P t with | some 1=>some [0] | _=>none
  | some .string=>match cT P t with | some 1=>some [1] | _=>none
  | some .bool=>match cT P t with | some 1=>some [2] | _=>none
  | some (.struct fs)=>match P.stoodInHeld t,cT P t,pO (oP P d) fs.toList [] with
   | false,some s,some n=>match s == n.length with | true=>some n | false=>none
   | _,_,_=>none
  | some (.array k e)=>match cT P t,oP P d e with
   | some q,some n=>match q == k*n.length with | true=>some (List.replicate k n).flatten | false=>none
   | _,_=>none
  | _=>none
def eN (P:Program) (t:TypeId):Option Value:=(P.info? t).bind (·.zero)
def zD (f:Value->Value->Option Value) (x:Value):List Value->Option Value
 | []=>some x
 | y :: l=>(f x y).bind fun z=>zD f z l
def jH (f:Value->Value->Option Value):List Value->Option Value
 | []=>none
 | x :: l=>zD f x l
def nU (P:Program) (T:Env) (c:Call):Option Value :=
 match c.callee with
 | .builtin .len =>
  match (c.argTypes[0]?).bind P.underlying,c.args[0]? with
  | some .string,some x=>oK (ev T x)
  | some (.slice _),some x=>lenSlc (ev T x)
  | some (.array n _),some _=>some (.int .i64 n)
  | _,_=>none
 | .builtin .min=>jH min2 (c.args.toList.map (ev T))
 | .builtin .max=>jH max2 (c.args.toList.map (ev T))
 | _=>none
def evP (P:Program) (T:Env):Op->Option Value
 | .pick c a b=>pick (ev T c) (ev T a) (ev T b)
 | .nilCheck x=>aI (ev T x)
 | .binOp op t x y _ =>
  match P.underlying t with
  | some (.int _)=>aA op (ev T x) (ev T y)
  | some .string=>aBF op (ev T x) (ev T y)
  | some .bool=>pZ op (ev T x) (ev T y)
  | some (.pointer e)=>match P.info? e with
   | some _=>bW dB op (ev T x) (ev T y)
   | none=>none
  | some (.slice _)=>bW aBh op (ev T x) (ev T y)
  | some (.map _ _)=>bW aAI op (ev T x) (ev T y)
  | some (.func _ _ _)=>bW aHI op (ev T x) (ev T y)
  | some (.struct _)=>match oP P 20 t,P.eqGuardType P.depth t with
   | some n,false=>iS n op (ev T x) (ev T y)
   | _,_=>none
  | some (.array _ _)=>match oP P 20 t,P.eqGuardType P.depth t with
   | some n,false=>iS n op (ev T x) (ev T y)
   | _,_=>none
  | _=>none
 | .unOp op _ x=>un op (ev T x)
 | .convert s d x =>
  match P.underlying s,P.underlying d with
  | some (.int _),some (.int k)=>aR k (ev T x)
  | some (.int _),some .string=>zM (ev T x)
  | some .string,some .string=>aCo (ev T x)
  | _,_=>none
 | .fieldAddr s x f =>
  match P.underlying s with
  | some (.struct fs)=>match fs[f]? with
   | some fd=>match cT P fd.type with
    | some (_+1)=>aB (ev T x) fd.offset
    | _=>none
   | none=>none
  | _=>none
 | .field t x f =>
  match P.underlying t with
  | some (.struct fs)=>match fs[f]? with
   | some fd=>match gT P fd.type,cT P fd.type with
    | some true,some n=>xV (ev T x) fd.offset n
    | some false,some _=>mF (ev T x) fd.offset
    | _,_=>none
   | none=>none
  | _=>none
 | .indexAddr t x i =>
  match P.underlying t with
  | some (.array n e)=>match cT P e with
   | some s=>cJ n s (ev T x) (ev T i)
   | none=>none
  | some (.slice e)=>match cT P e with
   | some s=>aK s (ev T x) (ev T i)
   | none=>none
  | _=>none
 | .index t x i =>
  match P.underlying t with
  | some (.array n e)=>match gT P e,cT P e with
   | some true,some s=>aEZ n s (ev T x) (ev T i)
   | some false,some s=>yZ n s (ev T x) (ev T i)
   | _,_=>none
  | some .string=>nF (ev T x) (ev T i)
  | _=>none
 | .extract t i=>ext (ev T t) i
 | .slice t x lo hi mx =>
  match P.underlying t with
  | some .string=>match mx with
   | none=>aIT (ev T x) (lo.map (ev T)) (hi.map (ev T))
   | some _=>none
  | some (.array n e)=>match cT P e with
   | some s=>aCZ n s (ev T x) (lo.map (ev T)) (hi.map (ev T)) (mx.map (ev T))
   | none=>none
  | _=>none
 | .sliceToArrayPointer d x =>
  match P.underlying d with
  | some (.array n _)=>aEP n (ev T x)
  | _=>none
 | .makeInterface t x =>
  match P.underlying t with
  | some (.interface _)=>none
  | some _=>some (.iface t (ev T x))
  | none=>none
 | .makeFunc (.func g) f c=>some (.func (.func g) (f.toList.map (ev T)).toArray (c.toList.map (ev T)).toArray)
 | .build t parts =>
  match P.underlying t,eN P t with
  | some (.struct fs),some z=>match fs.toList.mapM (fun f=>(cT P f.type).map fun s=>(f.offset,s)) with
   | some places=>aX places z.cells (parts.toList.map fun p=>(p.1,ev T p.2))
   | none=>none
  | some (.array _ e),some z=>match cT P e with
   | some s=>mU s z.cells (parts.toList.map fun p=>(p.1,ev T p.2))
   | none=>none
  | _,_=>none
 | .call c=>nU P T c
 | _=>none
def evR (P:Program) (T:Env) (op:Op) (H:AH):Option Value :=
 match op with
 | .load t a =>
  match gT P t,cT P t with
  | some true,some n=>aE n (ev T a) H
  | some false,some _=>aC (ev T a) H
  | _,_=>none
 | .lookup t m k ok =>
  match P.underlying t with
  | some (.map kt e)=>match eN P e,lA P kt with
   | some z,some kd=>look kd z ok (ev T m) (ev T k) H
   | _,_=>none
  | _=>none
 | .convert s d x =>
  match P.underlying s,P.underlying d with
  | some (.slice e),some .string=>match P.underlying e with
   | some (.int .u8)=>xJ (ev T x) H
   | _=>none
  | _,_=>none
 | .slice t x lo hi mx =>
  match P.underlying t with
  | some (.slice e)=>match cT P e with
   | some s=>iN s (ev T x) (lo.map (ev T)) (hi.map (ev T)) (mx.map (ev T)) H
   | none=>none
  | _=>none
 | .call c=>match c.callee,(c.argTypes[0]?).bind P.underlying,c.args[0]? with
  | .builtin .len,some (.map _ _),some x=>rJ (ev T x) H
  | _,_,_=>none
 | .entry it=>oW (ev T it) H
 | _=>none
def evA (P:Program) (T:Env) (op:Op):Option (cH×(Nat->Value)) :=
 match op with
 | .alloc t=>match eN P t with
  | some z=>some (.cells z.cells.toList none,kR)
  | none=>none
 | .box _ x=>eA (ev T x)
 | .buildSlice t len parts =>
  match P.underlying t with
  | some (.slice e)=>match eN P e,cT P e with
   | some z,some s=>match decide (len*s<=2 ^ 24) with
    | true=>bR len s z.cells (parts.toList.map fun p=>(p.1,ev T p.2))
    | false=>none
   | _,_=>none
  | _=>none
 | .makeMap t none=>match P.underlying t with
  | some (.map _ _)=>some (.map [] 0 true,fun b => .map (some b))
  | _=>none
 | .makeMap t (some x)=>match P.underlying t,ev T x with
  | some (.map _ _),.int _ _=>some (.map [] 0 true,fun b => .map (some b))
  | _,_=>none
 | .makeSlice t l c =>
  match P.underlying t with
  | some (.slice e)=>match eN P e,cT P e,mI P e with
   | some z,some s,some b=>qY s b z.cells (ev T l) (ev T c)
   | _,_,_=>none
  | _=>none
 | .convert s d x=>match P.underlying s,P.underlying d with
  | some .string,some (.slice e)=>match P.underlying e with
   | some (.int .u8)=>aIA (ev T x)
   | _=>none
  | _,_=>none
 | _=>none
abbrev bB:=FuncId->List Value->AH->(Value->AH->Prop)->Prop
def eH (call:bB) (f:Value) (args:List Value) (H:AH) (K:Value->AH->Prop):Prop :=
 match f with
 | .func (.func g) first cap=>call g (first.toList++args++cap.toList) H K
 | _=>False
def iR (P:Program) (call:bB) (T:Env) (c:Call) (H:AH) (K:Value->AH->Prop):Prop :=
 match c.callee with
 | .value (.func g)=>call g (c.args.toList.map (ev T)) H K
 | .value f=>eH call (ev T f) (c.args.toList.map (ev T)) H K
 | .builtin .append =>
  match c.args[0]?,c.args[1]?,(c.argTypes[0]?).bind P.underlying,(c.argTypes[1]?).bind P.underlying with
  | some s,some x,some (.slice e),some (.slice _)=>match cT P e,mI P e,eN P e with
   | some z,some b,some zv=>match zv.cells.size == z with
    | true=>eK (app z b (ev T s) (ev T x) H) K
    | false=>False
   | _,_,_=>False
  | some s,some x,some (.slice e),some .string=>match cT P e,mI P e,eN P e with
   | some z,some b,some zv=>match zv.cells.size == z with
    | true=>eK (app z b (ev T s) (ev T x) H) K
    | false=>False
   | _,_,_=>False
  | _,_,_,_=>False
 | .builtin .copy =>
  match c.args[0]?,c.args[1]?,(c.argTypes[0]?).bind P.underlying with
  | some d,some x,some (.slice e)=>match cT P e with
   | some z=>eK (oM z (ev T d) (ev T x) H) K
   | none=>False
  | _,_,_=>False
 | .builtin .delete =>
  match c.args[0]?,c.args[1]?,(c.argTypes[0]?).bind P.underlying with
  | some m,some k,some (.map kt _)=>match lA P kt with
   | some kd=>opt (jV kd (ev T m) (ev T k) H) (fun H'=>K (.tuple #[]) H')
   | none=>False
  | _,_,_=>False
 | .builtin .clear =>
  match c.args[0]?,(c.argTypes[0]?).bind P.underlying with
  | some x,some (.slice e)=>match eN P e with
   | some z=>opt (rE z.cells.toList (ev T x) H) (fun H'=>K (.tuple #[]) H')
   | none=>False
  | _,_=>False
 | _=>False
def evM (P:Program) (call:bB) (T:Env) (op:Op) (H:AH) (K:Value->AH->Prop):Prop :=
 match op with
 | .store t a v =>
  match gT P t,cT P t with
  | some true,some n=>opt (aG n (ev T a) (ev T v) H) (K undef)
  | some false,some 1=>opt (aQ (ev T a) (ev T v) H) (K undef)
  | _,_=>False
 | .mapUpdate t m k v=>match P.underlying t with
  | some (.map kt _)=>match lA P kt with
   | some kd=>opt (cN kd (ev T m) (ev T k) (ev T v) H) (K undef)
   | none=>False
  | _=>False
 | .insert t m k v=>match P.underlying t with
  | some (.map kt _)=>match lA P kt with
   | some kd=>opt (cN kd (ev T m) (ev T k) (ev T v) H) (K undef)
   | none=>False
  | _=>False
 | .mapEntry t m k=>match P.underlying t with
  | some (.map kt e)=>match lA P kt,eN P e with
   | some kd,some z=>eK (rW kd z (ev T m) (ev T k) H) K
   | _,_=>False
  | _=>False
 | .entryStore _ m s v=>opt (oB (ev T m) (ev T s) (ev T v) H) (K undef)
 | .range t x=>match P.underlying t with
  | some .string=>mk (rV (ev T x)) H K
  | some (.map _ _)=>mk (mS (ev T x) H) H K
  | _=>False
 | .next it true=>eK (qT (ev T it) H) K
 | .next it false=>mJ (ev T it) H K
 | .call c=>iR P call T c H K
 | _=>False
inductive Cls where
 | P | R | A | M
 deriving DecidableEq
def cls (P:Program):Op->Cls
 | .load _ _ => .R
 | .lookup _ _ _ _ => .R
 | .entry _ => .R
 | .slice t _ _ _ _=>match P.underlying t with
  | some (.slice _) => .R
  | _ => .P
 | .alloc _ => .A
 | .box _ _ => .A
 | .buildSlice _ _ _ => .A
 | .makeMap _ _ => .A
 | .makeSlice _ _ _ => .A
 | .range _ _ => .M
 | .convert s d _ =>
  match P.underlying s,P.underlying d with
  | some (.slice _),some .string => .R
  | some .string,some (.slice _) => .A
  | _,_ => .P
 | .store _ _ _ => .M
 | .mapUpdate _ _ _ _ => .M
 | .insert _ _ _ _ => .M
 | .mapEntry _ _ _ => .M
 | .entryStore _ _ _ _ => .M
 | .next _ _ => .M
 | .panic _ => .M
 | .call c =>
  match c.callee with
  | .builtin .len=>match (c.argTypes[0]?).bind P.underlying with
   | some (.map _ _) => .R
   | _ => .P
  | .builtin .min => .P
  | .builtin .max => .P
  | _ => .M
 | _ => .P
def moved (T:Env):Op->Option Value
 | .move x=>some (ev T x)
 | .assign x=>some (ev T x)
 | _=>none
def fS (P:Program) (call:bB) (T:Env) (op:Op) (H:AH) (K:Value->AH->Prop):Prop :=
 match moved T op with
 | some v=>K v H
 | none=>match cls P op with
  | .P=>opt (evP P T op) (fun v=>K v H)
  | .R=>opt (evR P T op H) (fun v=>K v H)
  | .A=>mk (evA P T op) H K
  | .M=>evM P call T op H K
def aJH (g:Value) (want:Bool):Prop:=g = .bool (!want)\/gS g=true
def mP (ops:List Oper) (T:Env) (j:Nat):Value :=
 match ops[j]? with
 | some o=>match o.dst with
  | some d=>T d
  | none=>undef
 | none=>undef
def nH (P:Program) (call:bB) (ops:List Oper) (o:Oper) (T:Env) (H:AH) (K:Env->AH->Prop):Prop :=
 match o.guard with
 | none=>fS P call T o.op H (fun v H'=>K (qM T o.dst v) H')
 | some (j,want)=>gd (mP ops T j) want (fS P call T o.op H) H (fun v H'=>K (qM T o.dst v) H')
def vU (P:Program) (call:bB) (ops:List Oper):List Oper->Env->AH->(Env->AH->Prop)->Prop
 | [],T,H,K=>K T H
 | o :: l,T,H,K=>nH P call ops o T H (fun T' H'=>vU P call ops l T' H' K)
def isM (P:Program) (o:Oper):Bool:=match cls P o.op with | .M=>true | _=>false
def aFn:Operand->List Nat
 | .tmp t=>[t]
 | _=>[]
def nM (ops:List Oper) (o:Oper):List Nat :=
 o.op.operands.toList.flatMap aFn++(match o.guard with | some (j,_)=>((ops[j]?).bind (·.dst)).toList | none=>[])
def iV (o:Oper):List Nat:=(o.after.toList.filter (Region.binds .any ·)).map (·.on)
def mV (l:List (Nat×Nat)) (i:Nat):Nat :=
 match l with
 | []=>0
 | p :: l=>match p.1 == i with | true=>p.2 | false=>mV l i
structure aMP where
 ix:Nat
 dst:Option Nat
 rd:List Nat
def aBm:Option Nat->Option Nat->Bool
 | some a,some b=>a == b
 | _,_=>false
def aL4:Option Nat->List Nat->Bool
 | some a,l=>l.contains a
 | none,_=>false
def zR (P:Program) (ops:List Oper) (l0:List (Nat×Nat)):List (Nat×Nat)->List aMP->Nat->Nat->Bool
 | [],d,done,_=>d.length == ops.length&&(List.range ops.length).all (done.testBit ·)
 | (i,B) :: l,d,done,muts =>
  match ops[i]? with
  | none=>false
  | some o =>
   !done.testBit i &&
   (iV o).all (done.testBit ·) &&
   B == (iV o).foldl (fun s e=>s|||2 ^ e|||mV l0 e) 0 &&
   (muts&&&B) == muts &&
   d.all (fun x=>(!aBm x.dst o.dst)&&(B.testBit x.ix || !(aL4 x.dst (nM ops o)||aL4 o.dst x.rd))) &&
   (match o.op with | .select _ _=>false | _=>true) &&
   zR P ops l0 l ({ ix:=i,dst:=o.dst,rd:=nM ops o } :: d) (done|||2 ^ i) (match isM P o with | true=>muts|||2 ^ i | false=>muts)
def rL (P:Program) (ops:List Oper) (l:List (Nat×Nat)):Bool:=zR P ops l l [] 0 0
def kG (B:Hi Nat) (H:AH) (R:Prop):List (Nat×(AH->Prop))->Prop
 | []=>R
 | (j,c) :: ps=>match B.testBit j with
  | true=>kG B H R ps
  | false=>c H/\kG B H R ps
def gdO (ops:List Oper) (T:Env) (o:Oper) (c:Prop):Prop :=
 match o.guard with
 | none=>c
 | some (j,want)=>gdC (mP ops T j) want c
def fR (P:Program) (call:bB) (ops:List Oper):List (Nat×Nat)->List (Nat×(AH->Prop))->Env->AH->(Env->AH->Prop)->Prop
 | [],_,T,H,K=>K T H
 | (i,B) :: l,ps,T,H,K =>
  match ops[i]? with
  | none=>False
  | some o=>match cls P o.op with
   | .P=>nH P call ops o T H (fun T' H'=>fR P call ops l ps T' H' K)
   | .R=>nH P call ops o T H (fun T' H'=>fR P call ops l ((i,fun Hx=>gdO ops T o (evR P T o.op Hx=evR P T o.op H)) :: ps) T' H' K)
   | .A=>nH P call ops o T H (fun T' H'=>fR P call ops l ((i,fun Hx=>gdO ops T o (Hx.get H.next=H'.get H.next)) :: ps) T' H' K)
   | .M=>nH P call ops o T H (fun T' H'=>kG B H' (fR P call ops l ps T' H' K) ps)
def aEy (r:Env->AH->Prop) (K:Hi (jG->Env->AH->Prop)):jG->Env->AH->Prop
 | .normal,T,H=>r T H
 | e,T,H=>K e T H
def aEi (id:Nat) (K:Hi (jG->Env->AH->Prop)):jG->Env->AH->Prop
 | .exit id',T,H=>match id' == id with | true=>K .normal T H | false=>K (.exit id') T H
 | e,T,H=>K e T H
def aB4 (K:Hi (jG->Env->AH->Prop)):jG->Env->AH->Prop
 | .goto _,_,_=>False
 | e,T,H=>K e T H
def aEf:List (Nat×Value)->Env
 | []=>fun _=>undef
 | p :: l=>fun n=>if n=p.1 then p.2 else aEf l n
def restr (keep:List Nat) (T:Env):Env:=aEf (keep.map fun s=>(s,T s))
def aIS (keep:List Nat) (B:Env->AH->(jG->Env->AH->Prop)->Prop) (T:Env) (H:AH) (K:jG->Env->AH->Prop):Prop :=
 ∀ X:Env->AH->Prop,(∀ T H,B T H (aEy (fun T' H'=>X (restr keep T') H') K)->X T H)->X (restr keep T) H
def dR:Code->Nat
 | .region id _ _=>id
 | .seq a _=>dR a
 | .block _ c=>dR c
 | .scope c=>dR c
 | .loop c=>dR c
 | _=>0
structure bC where
 keep:Nat->List Nat
 order:Nat->List (Nat×Nat)
def fN (P:Program) (call:bB) (kp:bC):Code->Env->AH->(jG->Env->AH->Prop)->Prop
 | .skip,T,H,K=>K .normal T H
 | .label _,T,H,K=>K .normal T H
 | .exit id,T,H,K=>K (.exit id) T H
 | .goto l,T,H,K=>K (.goto l) T H
 | .ret,T,H,K=>K .ret T H
 | .seq a b,T,H,K=>∃ J:Env->AH->Prop,(∀ T' H',J T' H'->fN P call kp b T' H' K)/\fN P call kp a T H (aEy J K)
 | .cond c a b,T,H,K=>ifB (ev T c) (fN P call kp a T H K) (fN P call kp b T H K)
 | .block id c,T,H,K=>fN P call kp c T H (aEi id K)
 | .loop c,T,H,K=>aIS (kp.keep (dR c)) (fun T H K=>fN P call kp c T H K) T H K
 | .scope c,T,H,K=>fN P call kp c T H (aB4 K)
 | .region id ops false,T,H,K=>vU P call ops.toList ops.toList (restr (kp.keep id) T) H (fun T' H'=>K .normal T' H')
 | .region id ops true,T,H,K =>
  match rL P ops.toList (kp.order id) with
  | true=>fR P call ops.toList (kp.order id) [] (restr (kp.keep id) T) H (fun T' H'=>K .normal T' H')
  | false=>False
 | _,_,_,_=>False
def aDz (P:Program) (T:Env) (H:AH):ResultVar->Option Value
 | .tmp t=>some (T t)
 | .cell a t=>match gT P t,cT P t with
  | some true,some n=>aE n (T a) H
  | some false,some _=>aC (T a) H
  | _,_=>none
def uB (P:Program) (T:Env) (H:AH):List ResultVar->(List Value->Prop)->Prop
 | [],K=>K []
 | r :: rs,K=>opt (aDz P T H r) (fun v=>uB P T H rs (fun vs=>K (v :: vs)))
def one (vs:List Value):Value:=match vs with | [v]=>v | vs => .tuple vs.toArray
def rG (args:List Value):Env:=fun n=>args.getD n undef
def results (P:Program) (rs:List ResultVar) (T:Env) (H:AH) (Q:Value->AH->Prop):Prop:=uB P T H rs (fun vs=>Q (one vs) H)
def vY (P:Program) (rs:List ResultVar) (Q:Value->AH->Prop):jG->Env->AH->Prop
 | .normal,T,H=>results P rs T H Q
 | .ret,T,H=>results P rs T H Q
 | _,_,_=>False
def mN (P:Program) (call:bB) (kp:bC) (fn:Func) (args:List Value) (H:AH) (Q:Value->AH->Prop):Prop :=
 match fn.body with
 | some c=>fN P call kp c (rG args) H (vY P fn.results.toList Q)
 | none=>False
def cs:List Nat->Code->Code
 | [],c=>c
 | i :: p,.seq a b=>cs p (if i=0 then a else b)
 | i :: p,.cond _ a b=>cs p (if i=0 then a else b)
 | _ :: p,.block _ c=>cs p c
 | _ :: p,.loop c=>cs p c
 | _ :: p,.scope c=>cs p c
 | _ :: _,c=>c
def aH (f:Func):Code:=f.body.getD .skip
def pU (x c:Value) (H:AH) (K:Value->AH->Prop):Prop :=
 match x,c with
 | .string s,.int .u8 n=>K (.int .i64 (Lib.countByte s.data.toList n.toNat.toUInt8:Nat)) H
 | _,_=>False
def pX (x c:Value) (H:AH) (K:Value->AH->Prop):Prop :=
 match x,c with
 | .string s,.int .u8 n=>K (.int .i64 (Lib.indexByte s.data.toList n.toNat.toUInt8)) H
 | _,_=>False
def iY (x y:Value) (H:AH) (K:Value->AH->Prop):Prop :=
 match x,y with
 | .pointer (some ⟨b,o,none⟩),.int .i64 d=>match H.get b with
  | .cells c fx=>match c[o]? with
   | some (.int .i64 n)=>K (.int .i64 (IntKind.i64.wrap (n+d))) (H.put b (.cells (c.set o (.int .i64 (IntKind.i64.wrap (n+d)))) fx))
   | _=>False
  | _=>False
 | _,_=>False
def lT (x:Value) (H:AH) (K:Value->AH->Prop):Prop :=
 match x with
 | .pointer (some ⟨b,o,none⟩)=>match (H.get b).cell o with
  | some (.int .i64 n)=>K (.int .i64 n) H
  | _=>False
 | _=>False
structure Sy where
 call:bB
 fid:Nat->FuncId
 tid:Nat->TypeId
 gid:Nat->Nat
end Go.AM
end
section
namespace Go.AM
open Go.RowKit (Below)
structure Loc where
 block:Nat
 shift:Nat
 total:Nat
 flex:Option Nat
structure Inj where
 base:Nat
 loc:Nat->Option Loc
def rT (ρ:Inj) (a a':Addr):Prop :=
 (a.block<ρ.base/\a'=a)\/(ρ.base<=a.block/\a.spot=none/\∃ l,ρ.loc a.block=some l/\a'=⟨l.block,l.shift+a.off,none⟩)
def aCb (ρ:Inj) (a:Addr) (c:Nat) (a':Addr) (c':Nat):Prop :=
 c'=c\/∃ l e,ρ.base<=a.block/\ρ.loc a.block=some l/\l.flex=some e/\c<=c'/\a'.off+c'*e<=l.total
def aLd (ρ:Inj) (a:Addr) (n c:Nat) (a':Addr) (c':Nat):Prop :=
 (rT ρ a a'/\aCb ρ a c a' c') \/
 (n=0/\c=0/\ρ.base<=a.block/\a.spot=none/\∃ l e,ρ.loc a.block=some l/\l.flex=some e/\a'.block=l.block/\a'.spot=none/\a'.off+c'*e<=l.total) \/
 (n=0/\c=0/\c'=0/\a'=a)
def aGL (ρ:Inj) (r r':Nat):Prop:=(r<ρ.base/\r'=r)\/(ρ.base<=r/\∃ l,ρ.loc r=some l/\r'=l.block)
inductive aO (ρ:Inj):Value->Value->Prop
 | any (v):aO ρ (.tuple #[]) v
 | bool (b):aO ρ (.bool b) (.bool b)
 | int (k n):aO ρ (.int k n) (.int k n)
 | float (k b):aO ρ (.float k b) (.float k b)
 | complex (k a b):aO ρ (.complex k a b) (.complex k a b)
 | string (s):aO ρ (.string s) (.string s)
 | pnil:aO ρ (.pointer none) (.pointer none)
 | ptr (a a') (h:rT ρ a a'):aO ρ (.pointer (some a)) (.pointer (some a'))
 | snil (n c):aO ρ (.slice none n c) (.slice none n c)
 | slc (a a' n c c') (h:aLd ρ a n c a' c'):aO ρ (.slice (some a) n c) (.slice (some a') n c')
 | mnil:aO ρ (.map none) (.map none)
 | map (r r') (h:aGL ρ r r'):aO ρ (.map (some r)) (.map (some r'))
 | cnil:aO ρ (.chan none) (.chan none)
 | func (fn f f' c c') (hf:f.length=f'.length) (h:∀ (i:Nat) (x y:Value),f[i]? = some x->f'[i]? = some y->aO ρ x y)
   (hc:c.length=c'.length) (k:∀ (i:Nat) (x y:Value),c[i]? = some x->c'[i]? = some y->aO ρ x y):aO ρ (.func fn ⟨f⟩ ⟨c⟩) (.func fn ⟨f'⟩ ⟨c'⟩)
 | nilFunc:aO ρ .nilFunc .nilFunc
 | nilIface:aO ρ .nilIface .nilIface
 | iface (t v v') (h:aO ρ v v'):aO ρ (.iface t v) (.iface t v')
 | agg (l l') (hl:l.length=l'.length) (h:∀ (i:Nat) (x y:Value),l[i]? = some x->l'[i]? = some y->aO ρ x y):aO ρ (.agg ⟨l⟩) (.agg ⟨l'⟩)
 | tuple (l l') (hl:l.length=l'.length) (h:∀ (i:Nat) (x y:Value),l[i]? = some x->l'[i]? = some y->aO ρ x y):aO ρ (.tuple ⟨l⟩) (.tuple ⟨l'⟩)
 | skip:aO ρ (.tuple ⟨[.tuple ⟨[]⟩]⟩) (.tuple ⟨[]⟩)
def bG (ρ:Inj) (l l':List Value):Prop:=l.length=l'.length/\∀ (i:Nat) (x y:Value),l[i]? = some x->l'[i]? = some y->aO ρ x y
def Inj.le (ρ ρ':Inj):Prop:=ρ'.base=ρ.base/\∀ b l,ρ.loc b=some l->ρ'.loc b=some l
theorem Inj.le_refl (ρ:Inj):ρ.le ρ:=⟨rfl,fun _ _ h=>h⟩
theorem Inj.le_trans {a b c:Inj} (h:a.le b) (k:b.le c):a.le c:=⟨k.1.trans h.1,fun x l hx=>k.2 x l (h.2 x l hx)⟩
theorem rT.mono {ρ ρ':Inj} (h:ρ.le ρ') {a a':Addr} (r:rT ρ a a'):rT ρ' a a':=by
 rcases r with ⟨h1,h2⟩ | ⟨h1,h2,l,h3,h4⟩
 ·exact .inl ⟨h.1▸h1,h2⟩
 ·exact .inr ⟨h.1▸h1,h2,l,h.2 _ _ h3,h4⟩
theorem aCb.mono {ρ ρ':Inj} (h:ρ.le ρ') {a a':Addr} {c c':Nat} (r:aCb ρ a c a' c'):aCb ρ' a c a' c':=by
 rcases r with h1 | ⟨l,e,h1,h2,h3⟩
 ·exact .inl h1
 ·exact .inr ⟨l,e,h.1▸h1,h.2 _ _ h2,h3⟩
theorem aLd.mono {ρ ρ':Inj} (h:ρ.le ρ') {a a':Addr} {n c c':Nat} (r:aLd ρ a n c a' c'):aLd ρ' a n c a' c':=by
 rcases r with ⟨h1,h2⟩ | ⟨h1,h2,h3,h4,l,e,h5,h6⟩ | h1
 ·exact .inl ⟨h1.mono h,h2.mono h⟩
 ·exact .inr (.inl ⟨h1,h2,h.1▸h3,h4,l,e,h.2 _ _ h5,h6⟩)
 ·exact .inr (.inr h1)
theorem aGL.mono {ρ ρ':Inj} (h:ρ.le ρ') {a a':Nat} (r:aGL ρ a a'):aGL ρ' a a':=by
 rcases r with ⟨h1,h2⟩ | ⟨h1,l,h3,h4⟩
 ·exact .inl ⟨h.1▸h1,h2⟩
 ·exact .inr ⟨h.1▸h1,l,h.2 _ _ h3,h4⟩
theorem aO.mono {ρ ρ':Inj} (h:ρ.le ρ') {v v':Value} (r:aO ρ v v'):aO ρ' v v':=by
 induction r with
 | any v=>exact .any v
 | bool b=>exact .bool b
 | int k n=>exact .int k n
 | float k b=>exact .float k b
 | complex k a b=>exact .complex k a b
 | string s=>exact .string s
 | pnil=>exact .pnil
 | ptr a a' r=>exact .ptr a a' (r.mono h)
 | snil n c=>exact .snil n c
 | slc a a' n c c' r=>exact .slc a a' n c c' (r.mono h)
 | mnil=>exact .mnil
 | map r r' k=>exact .map r r' (k.mono h)
 | cnil=>exact .cnil
 | func fn f f' c c' hf _ hc _ ih1 ih2=>exact .func fn f f' c c' hf ih1 hc ih2
 | nilFunc=>exact .nilFunc
 | nilIface=>exact .nilIface
 | iface t v v' _ ih=>exact .iface t v v' ih
 | agg l l' hl _ ih=>exact .agg l l' hl ih
 | tuple l l' hl _ ih=>exact .tuple l l' hl ih
 | skip=>exact .skip
section lists
variable {ρ:Inj} {l l' k k':List Value} {x y:Value}
theorem bG.nil:bG ρ [] []:=⟨rfl,fun i x y h=>by simp at h⟩
theorem bG.cons (h:aO ρ x y) (r:bG ρ l l'):bG ρ (x :: l) (y :: l'):=by
 refine ⟨by simp [r.1],fun i a b ha hb =>?_⟩
 cases i with
 | zero=>simp at ha hb; subst ha; subst hb; exact h
 | succ i=>simp at ha hb; exact r.2 i a b ha hb
theorem bG.head (r:bG ρ (x :: l) (y :: l')):aO ρ x y:=r.2 0 x y rfl rfl
theorem bG.tail (r:bG ρ (x :: l) (y :: l')):bG ρ l l':=⟨by have:=r.1; simpa using this,fun i a b ha hb=>r.2 (i+1) a b (by simpa using ha) (by simpa using hb)⟩
theorem bG.cases_nil {l':List Value} (r:bG ρ [] l'):l'=[]:=by
 have:=r.1; cases l' <;> simp_all
theorem bG.cases_cons {l':List Value} (r:bG ρ (x :: l) l'):∃ y k,l'=y :: k/\aO ρ x y/\bG ρ l k:=by
 cases l' with
 | nil=>have:=r.1; simp at this
 | cons y k=>exact ⟨y,k,rfl,r.head,r.tail⟩
theorem bG.append (r:bG ρ l l') (s:bG ρ k k'):bG ρ (l++k) (l'++k'):=by
 refine ⟨by simp [r.1,s.1],fun i a b ha hb =>?_⟩
 by_cases hi:i<l.length
 ·rw [List.getElem?_append_left hi] at ha
  rw [List.getElem?_append_left (by rw [<- r.1]; exact hi)] at hb
  exact r.2 i a b ha hb
 ·rw [List.getElem?_append_right (by omega)] at ha
  rw [List.getElem?_append_right (by rw [<- r.1]; omega),<- r.1] at hb
  exact s.2 _ a b ha hb
theorem bG.take (r:bG ρ l l') (n:Nat):bG ρ (l.take n) (l'.take n):=by
 refine ⟨by simp [r.1],fun i a b ha hb =>?_⟩
 rw [List.getElem?_take] at ha hb
 split at ha
 ·rename_i h; simp only [h,if_true] at hb; exact r.2 i a b ha hb
 ·simp at ha
theorem bG.drop (r:bG ρ l l') (n:Nat):bG ρ (l.drop n) (l'.drop n):=by
 refine ⟨by simp [r.1],fun i a b ha hb =>?_⟩
 rw [List.getElem?_drop] at ha hb;exact r.2 _ a b ha hb
theorem bG.get (r:bG ρ l l') {i:Nat} (h:l[i]? = some x):∃ y,l'[i]? = some y/\aO ρ x y:=by
 have hi:i<l.length:=by
  rcases Nat.lt_or_ge i l.length with g | g
  ·exact g
  ·simp [List.getElem?_eq_none g] at h
 have hi':i<l'.length:=r.1▸hi;exact ⟨l'[i],List.getElem?_eq_getElem hi',r.2 i x _ h (List.getElem?_eq_getElem hi')⟩
theorem bG.set (r:bG ρ l l') (i:Nat) (h:aO ρ x y):bG ρ (l.set i x) (l'.set i y):=by
 refine ⟨by simp [r.1],fun j a b ha hb =>?_⟩
 rw [List.getElem?_set] at ha hb
 by_cases hij:i=j
 ·subst hij
  simp only [if_true] at ha hb
  split at ha
  ·rename_i hl
   rw [if_pos (by rw [<- r.1]; exact hl)] at hb
   simp only [Option.some.injEq] at ha hb; subst ha; subst hb; exact h
  ·simp at ha
 ·simp only [hij,if_false] at ha hb; exact r.2 j a b ha hb
theorem bG.agg (r:bG ρ l l'):aO ρ (.agg ⟨l⟩) (.agg ⟨l'⟩) := .agg l l' r.1 r.2
theorem bG.tuple (r:bG ρ l l'):aO ρ (.tuple ⟨l⟩) (.tuple ⟨l'⟩) := .tuple l l' r.1 r.2
end lists
theorem aO.agg_inv {ρ:Inj} {cs:Array Value} {v:Value} (h:aO ρ (.agg cs) v):∃ ds:Array Value,v = .agg ds/\bG ρ cs.toList ds.toList:=by
 cases h with
 | agg l l' hl h=>exact ⟨⟨l'⟩,rfl,hl,h⟩
theorem aO.cells {ρ:Inj} {v v':Value} (h:aO ρ v v') (hu:v≠undef):bG ρ v.cells.toList v'.cells.toList:=by
 cases h with
 | any v=>exact absurd rfl hu
 | agg l l' hl h=>exact ⟨hl,h⟩
 | tuple l l' hl h=>exact bG.cons (.tuple l l' hl h) bG.nil
 | skip=>exact bG.cons .skip bG.nil
 | bool b=>exact bG.cons (.bool b) bG.nil
 | int k n=>exact bG.cons (.int k n) bG.nil
 | float k b=>exact bG.cons (.float k b) bG.nil
 | complex k a b=>exact bG.cons (.complex k a b) bG.nil
 | string s=>exact bG.cons (.string s) bG.nil
 | pnil=>exact bG.cons .pnil bG.nil
 | ptr a a' r=>exact bG.cons (.ptr a a' r) bG.nil
 | snil n c=>exact bG.cons (.snil n c) bG.nil
 | slc a a' n c c' r=>exact bG.cons (.slc a a' n c c' r) bG.nil
 | mnil=>exact bG.cons .mnil bG.nil
 | map r r' k=>exact bG.cons (.map r r' k) bG.nil
 | cnil=>exact bG.cons .cnil bG.nil
 | func fn f f' c c' hf h1 hc h2=>exact bG.cons (.func fn f f' c c' hf h1 hc h2) bG.nil
 | nilFunc=>exact bG.cons .nilFunc bG.nil
 | nilIface=>exact bG.cons .nilIface bG.nil
 | iface t v v' h=>exact bG.cons (.iface t v v' h) bG.nil
theorem aO.plain1 {ρ:Inj} {v v':Value} (h:aO ρ v v') (hp:plain1 v=true):v'.oneCell'=true:=by
 cases h <;> first | rfl | simp [AM.plain1] at hp
theorem aEu {ρ:Inj} {v v':Value} (h:aO ρ v v') (hs:gS v=true):∃ a,v' = .tuple a:=by
 cases h with
 | any v=>simp [gS] at hs
 | tuple l l' _ _=>exact ⟨_,rfl⟩
 | skip=>exact ⟨_,rfl⟩
 | _=>simp [gS] at hs
def flat:Value->Bool
 | .bool _=>true
 | .int _ _=>true
 | .string _=>true
 | _=>false
theorem aO.flat {ρ:Inj} {v v':Value} (h:aO ρ v v') (hf:flat v=true):v'=v:=by
 cases h <;> first | rfl | simp [AM.flat] at hf
def fJ (B:Nat) (v:Value):Prop:=aO ⟨B,fun _=>none⟩ v v
theorem fJ.rel {ρ:Inj} {v:Value} (h:fJ ρ.base v):aO ρ v v :=
 aO.mono (ρ:=⟨ρ.base,fun _=>none⟩) (ρ':=ρ) ⟨rfl,fun _ _ h=>by simp at h⟩ h
def aON (g:Nat) (w0:World) (b:Nat):cH->Prop
 | .ro f=>∀ i v,f i=some v->w0.cell? ⟨b,i,none⟩=some v/\fJ g v
 | .map es cl rw=>rw=false/\w0.heap[b]? = some (.map es.toArray cl)/\∀ e∈es,fJ g e.key/\fJ g e.val
 | .dead=>True
 | _=>False
structure lC (ρ:Inj) (es es':List MapEntry):Prop where
 len:es.length=es'.length
 at_:∀ (i:Nat) (e e':MapEntry),es[i]? = some e->es'[i]? = some e'->e.born=e'.born/\aO ρ e.key e'.key/\aO ρ e.val e'.val
def aAw (ρ:Inj) (l:Loc) (o:cH) (obj:Option Obj):Prop :=
 match o with
 | .cells c fx=>fx=l.flex/\∃ C e fr,obj=some (.cells C e fr)/\C.size=l.total/\l.shift+c.length<=l.total /\
   (∀ i,i<l.total->¬ (fr.1<=i/\i<fr.2))/\∀ i x,c[i]? = some x->∃ y,C[l.shift+i]? = some y/\aO ρ x y
 | .map es cl _=>∃ es',obj=some (.map es' cl)/\lC ρ es es'.toList
 | .siter s pos=>l.shift=0/\obj=some (.stringIter s pos)
 | .miter m since eS last=>l.shift=0/\match m with
  | none=>obj=some (.mapIter none since eS.toArray last)
  | some r=>∃ r',aGL ρ r r'/\obj=some (.mapIter (some r') since eS.toArray last)
 | .ro _=>False
 | .dead=>True
structure R (P:Program) (ρ:Inj) (w0:World) (H:AH) (w:World):Prop where
 size:ρ.base<=w0.heap.size
 glob:P.globals.size<=ρ.base
 nxt:ρ.base<=H.next
 below:Below w0.heap.size w0 w
 ro:∀ b,b<ρ.base->aON ρ.base w0 b (H.get b)
 own:∀ b l,ρ.loc b=some l->ρ.base<=b/\b<H.next/\w0.heap.size<=l.block/\l.block<w.heap.size/\aAw ρ l (H.get b) (w.heap[l.block]?)
 inj:∀ b b' l l',ρ.loc b=some l->ρ.loc b'=some l'->H.get b ≠ .dead->H.get b' ≠ .dead->l.block=l'.block->b=b'
theorem lC.mono {ρ ρ':Inj} (h:ρ.le ρ') {es es':List MapEntry} (r:lC ρ es es'):lC ρ' es es' :=
 ⟨r.len,fun i e e' he he'=>let ⟨a,b,c⟩:=r.at_ i e e' he he'; ⟨a,b.mono h,c.mono h⟩⟩
theorem aAw.mono {ρ ρ':Inj} (h:ρ.le ρ') {l:Loc} {o:cH} {obj:Option Obj} (r:aAw ρ l o obj):aAw ρ' l o obj:=by
 cases o with
 | cells c fx =>
  obtain ⟨h1,C,e,fr,h2,h3,h4,h5,h6⟩:=r;exact ⟨h1,C,e,fr,h2,h3,h4,h5,fun i x hx=>let ⟨y,a,b⟩:=h6 i x hx; ⟨y,a,b.mono h⟩⟩
 | map es cl rw=>obtain ⟨es',h1,h2⟩:=r; exact ⟨es',h1,h2.mono h⟩
 | siter s pos=>exact r
 | miter m since eS last =>
  cases m with
  | none=>exact r
  | some q=>obtain ⟨h0,q',h1,h2⟩:=r; exact ⟨h0,q',h1.mono h,h2⟩
 | ro f=>exact r.elim
 | dead=>trivial
theorem R.drew {P:Program} {ρ:Inj} {w0 w:World} {H:AH} (r:R P ρ w0 H w):R P ρ w0 H { w with drawn:=w.drawn+1 } :=
 { size:=r.size,glob:=r.glob,nxt:=r.nxt,below:=r.below.drew,ro:=r.ro,own:=r.own,inj:=r.inj }
theorem R.new {P:Program} {ρ:Inj} {w0 w:World} {H:AH} (r:R P ρ w0 H w) (o:cH):R P ρ w0 (H.new o) w where
 size:=r.size
 glob:=r.glob
 nxt:=Nat.le_succ_of_le r.nxt
 below:=r.below
 ro b hb:=by
  have:b≠H.next:=by have:=r.nxt; omega
  rw [AH.get_new_ne _ _ this]; exact r.ro b hb
 own b l hl:=by
  obtain ⟨h1,h2,h3,h4,h5⟩:=r.own b l hl;refine ⟨h1,Nat.lt_succ_of_lt h2,h3,h4,?_⟩;have:b≠H.next:=by omega
  rw [AH.get_new_ne _ _ this]; exact h5
 inj b b' l l' hl hl':=by
  have h1:b≠H.next:=by have:=(r.own b l hl).2.1; omega
  have h2:b'≠H.next:=by have:=(r.own b' l' hl').2.1; omega
  rw [AH.get_new_ne _ _ h1,AH.get_new_ne _ _ h2]; exact r.inj b b' l l' hl hl'
def Inj.put (ρ:Inj) (b:Nat) (l:Loc):Inj:={ base:=ρ.base,loc:=fun x=>if x=b then some l else ρ.loc x }
theorem Inj.le_put {ρ:Inj} {b:Nat} {l:Loc} (h:ρ.loc b=none):ρ.le (ρ.put b l) :=
 ⟨rfl,fun x k hk=>by
  have:x≠b:=by intro e; subst e; simp [h] at hk
  simp [Inj.put,this,hk]⟩
theorem aG8 {w:World} {o:Obj} {k:Nat} (h:k<w.heap.size):(w.heap.push o)[k]? = w.heap[k]? :=by
 rw [Array.getElem?_push,if_neg (by omega)]
theorem R.laid {P:Program} {ρ:Inj} {w0 w:World} {H:AH} (r:R P ρ w0 H w) {b:Nat} (hb:ρ.base<=b) (hn:b<H.next) (hl:ρ.loc b=none) (l:Loc) (obj:Obj)
  (hlb:l.block=w.heap.size) (ho:aAw ρ l (H.get b) (some obj)):R P (ρ.put b l) w0 H (w.alloc obj) where
 size:=r.size
 glob:=r.glob
 nxt:=r.nxt
 below:=r.below.alloc (show w0.heap.size<=w.heap.size by have:=r.below.size; omega) obj
 ro:=r.ro
 own b' l' h':=by
  have hle:=Inj.le_put (l:=l) hl;have hsz:=r.below.size
  by_cases e:b'=b
  ·subst e
   simp only [Inj.put,if_true,Option.some.injEq] at h';subst h';refine ⟨hb,hn,show w0.heap.size<=l.block by omega,by rw [World.size_alloc]; omega,?_⟩
   have:(w.alloc obj).heap[l.block]? = some obj:=by show (w.heap.push obj)[l.block]? = _; rw [hlb]; simp
   rw [this]; exact ho.mono hle
  ·simp only [Inj.put,e,if_false] at h'
   obtain ⟨h1,h2,h3,h4,h5⟩:=r.own b' l' h';refine ⟨h1,h2,h3,by rw [World.size_alloc]; omega,?_⟩
   have:(w.alloc obj).heap[l'.block]? = w.heap[l'.block]? :=aG8 h4;rw [this]; exact h5.mono hle
 inj b1 b2 l1 l2 h1 h2 d1 d2 he:=by
  by_cases e1:b1=b
  ·by_cases e2:b2=b
   ·rw [e1,e2]
   ·simp only [Inj.put,e1,if_true,Option.some.injEq] at h1
    simp only [Inj.put,e2,if_false] at h2;have:=(r.own b2 l2 h2).2.2.2.1;subst h1; omega
  ·by_cases e2:b2=b
   ·simp only [Inj.put,e2,if_true,Option.some.injEq] at h2
    simp only [Inj.put,e1,if_false] at h1;have:=(r.own b1 l1 h1).2.2.2.1;subst h2; omega
   ·simp only [Inj.put,e1,if_false] at h1
    simp only [Inj.put,e2,if_false] at h2;exact r.inj b1 b2 l1 l2 h1 h2 d1 d2 he
theorem R.wrote {P:Program} {ρ:Inj} {w0 w:World} {H:AH} (r:R P ρ w0 H w) {b:Nat} {l:Loc} (hl:ρ.loc b=some l) (hd:H.get b ≠ .dead) (o:cH) (obj:Obj)
  (ho:aAw ρ l o (some obj)):R P ρ w0 (H.put b o) { w with heap:=w.heap.setIfInBounds l.block obj } where
 size:=r.size
 glob:=r.glob
 nxt:=r.nxt
 below:=r.below.trans ⟨rfl,rfl,rfl,by simp,fun k hk=>by
  have:=(r.own b l hl).2.2.1;rw [Array.getElem?_setIfInBounds_ne (by omega)]⟩
 ro b' hb':=by
  have:b'≠b:=by have:=(r.own b l hl).1; omega
  rw [AH.get_put_ne _ _ this]; exact r.ro b' hb'
 own b' l' h':=by
  obtain ⟨h1,h2,h3,h4,h5⟩:=r.own b' l' h';refine ⟨h1,h2,h3,by simpa using h4,?_⟩
  by_cases e:b'=b
  ·subst e
   rw [hl] at h'; simp only [Option.some.injEq] at h'; subst h';rw [AH.get_put_self _ _ h2];rw [Array.getElem?_setIfInBounds_self_of_lt h4]; exact ho
  ·rw [AH.get_put_ne _ _ e]
   by_cases hbl:l'.block=l.block
   ·have:H.get b' = .dead:=by
     apply Classical.byContradiction;intro hd';exact e (r.inj b' b l' l h' hl hd' hd hbl)
    rw [this]; trivial
   ·rw [Array.getElem?_setIfInBounds_ne (fun e=>hbl e.symm)]; exact h5
 inj b1 b2 l1 l2 h1 h2:=by
  intro d1 d2 he;refine r.inj b1 b2 l1 l2 h1 h2 ?_ ?_ he
  ·by_cases e:b1=b
   ·rw [e]; exact hd
   ·rwa [AH.get_put_ne _ _ e] at d1
  ·by_cases e:b2=b
   ·rw [e]; exact hd
   ·rwa [AH.get_put_ne _ _ e] at d2
theorem R.killed {P:Program} {ρ:Inj} {w0 w:World} {H:AH} (r:R P ρ w0 H w) {b:Nat} (hb:ρ.base<=b):R P ρ w0 (H.put b .dead) w where
 size:=r.size
 glob:=r.glob
 nxt:=r.nxt
 below:=r.below
 ro b' hb':=by
  have:b'≠b:=by omega
  rw [AH.get_put_ne _ _ this]; exact r.ro b' hb'
 own b' l' h':=by
  obtain ⟨h1,h2,h3,h4,h5⟩:=r.own b' l' h';refine ⟨h1,h2,h3,h4,?_⟩
  by_cases e:b'=b
  ·subst e; rw [AH.get_put_self _ _ h2]; trivial
  ·rw [AH.get_put_ne _ _ e]; exact h5
 inj b1 b2 l1 l2 h1 h2:=by
  intro d1 d2 he
  by_cases e1:b1=b
  ·subst e1; rw [AH.get_put_self _ _ (r.own _ _ h1).2.1] at d1; exact absurd rfl d1
  ·by_cases e2:b2=b
   ·subst e2; rw [AH.get_put_self _ _ (r.own _ _ h2).2.1] at d2; exact absurd rfl d2
   ·rw [AH.get_put_ne _ _ e1] at d1
    rw [AH.get_put_ne _ _ e2] at d2;exact r.inj b1 b2 l1 l2 h1 h2 d1 d2 he
end Go.AM
end
section
namespace Go.AM
def jN (ρ:Inj) (T:Env) (a:Act):Prop:=∀ t,aO ρ (T t) (a.tmps.getD t undef)
theorem jN.mono {ρ ρ':Inj} (h:ρ.le ρ') {T:Env} {a:Act} (r:jN ρ T a):jN ρ' T a:=fun t=>(r t).mono h
def aCq (v:Value):Bool :=
 match v with
 | .agg cs=>cs.toList.all qP
 | v=>qP v
theorem aDb {ρ:Inj} {v:Value} (h:qP v=true):aO ρ v v:=by
 unfold qP at h
 split at h <;> first | constructor | simp at h
theorem bG.refl_lit {ρ:Inj} {l:List Value} (h:l.all qP=true):bG ρ l l:=by
 refine ⟨rfl,fun i x y hx hy =>?_⟩;rw [hx] at hy;simp only [Option.some.injEq] at hy; subst hy;exact aDb (List.all_eq_true.1 h x (List.mem_of_getElem? hx))
theorem oZ {ρ:Inj} {v:Value} (h:aCq v=true):aO ρ v v:=by
 unfold aCq at h
 split at h
 ·rename_i cs; exact (bG.refl_lit h).agg
 ·exact aDb h
def rS (P:Program):Operand->Bool
 | .tmp _=>true
 | .const v=>aCq v
 | .global g=>decide (g<P.globals.size)
 | .func _=>true
section
variable {P:Program} {ρ:Inj} {T:Env} {a:Act}
theorem bY (hg:P.globals.size<=ρ.base) (hT:jN ρ T a) {x:Operand} (h:rS P x=true):aO ρ (ev T x) (a.eval x):=by
 cases x with
 | tmp t=>exact hT t
 | const v=>exact oZ h
 | global g=>exact .ptr _ _ (.inl ⟨Nat.lt_of_lt_of_le (of_decide_eq_true h) hg,rfl⟩)
 | func f=>exact .func _ [] [] [] [] rfl (fun i x y h=>by simp at h) rfl (fun i x y h=>by simp at h)
end
section prims
variable {P:Program} {ρ:Inj} {x x' y y' z z' v:Value}
theorem aD8 {op:BinOp} (h:aA op x y=some v):∃ k k' a b,x = .int k a/\y = .int k' b:=by
 unfold aA at h
 split at h <;> first | exact ⟨_,_,_,_,rfl,rfl⟩ | simp at h
theorem aBX {op:BinOp} {t:TypeId} {X Y:Operand} (h:aA op x y=some v) (hx:aO ρ x x') (hy:aO ρ y y') :
    aO ρ v v/\∀ w,(do eqGuard op t X Y x' y'; binOp op t x' y':Sem Value).run P w = .ok v w:=by
  obtain ⟨k,k',a,b,rfl,rfl⟩:=aD8 h;obtain rfl:=hx.flat rfl;obtain rfl:=hy.flat rfl
  have hg:∀ w,(eqGuard op t X Y (.int k a) (.int k' b)).run P w = .ok () w:=by
    intro w; unfold eqGuard; split <;> rfl
  have key:aO ρ v v/\∀ w,(binOp op t (.int k a) (.int k' b)).run P w = .ok v w:=by
    cases op with
    | shl =>
      simp only [aA] at h
      split at h
      · simp at h
      · rename_i hb
        simp only [Option.some.injEq] at h; subst h;exact ⟨.int _ _,fun w=>by simp [binOp,Op.shift,hb]⟩
    | shr =>
      simp only [aA] at h
      split at h
      · simp at h
      · rename_i hb
        simp only [Option.some.injEq] at h; subst h;exact ⟨.int _ _,fun w=>by simp [binOp,Op.shift,hb]⟩
    | quo | rem =>
      simp only [aA] at h
      split at h
      · simp at h
      · rename_i hk
        have hk:k=k':=by simpa using hk
        subst hk
        split at h
        · simp at h
        · rename_i hb
          simp only [Option.some.injEq] at h; subst h;exact ⟨.int _ _,fun w=>by simp [binOp,Op.intDiv,hb]⟩
    | _ =>
      simp only [aA] at h
      split at h
      · simp at h
      · rename_i hk
        have hk:k=k':=by simpa using hk
        subst hk
        first
          | (simp only [Option.some.injEq] at h; subst h
             exact ⟨by constructor,fun w=>by simp [binOp,Op.intArith,Op.intBits,Op.intCmp]⟩)
          | simp at h
  refine ⟨key.1,fun w =>?_⟩
  show (Sem.bind _ _).run P w=_
  rw [Sem.run_bind',hg w];exact key.2 w
theorem aBH {op:BinOp} {t:TypeId} {X Y:Operand} (h:aBF op x y=some v) (hx:aO ρ x x') (hy:aO ρ y y') :
    aO ρ v v/\∀ w,(do eqGuard op t X Y x' y'; binOp op t x' y':Sem Value).run P w = .ok v w:=by
  have hs:∃ a b,x = .string a/\y = .string b:=by
    unfold aBF at h
    split at h <;> first | exact ⟨_,_,rfl,rfl⟩ | simp at h
  obtain ⟨a,b,rfl,rfl⟩:=hs;obtain rfl:=hx.flat rfl;obtain rfl:=hy.flat rfl
  have hg:∀ w,(eqGuard op t X Y (.string a) (.string b)).run P w = .ok () w:=by
    intro w; unfold eqGuard; split <;> rfl
  have key:aO ρ v v/\∀ w,(binOp op t (.string a) (.string b)).run P w = .ok v w:=by
    cases op <;> simp only [aBF] at h <;> first
      | (rw [Option.ite_none_right_eq_some] at h
         obtain ⟨hc,h⟩:=h;simp only [Option.some.injEq] at h; subst h;refine ⟨.string _,fun w =>?_⟩
         have:¬ ((((a.size+b.size:Nat)):Int) > IntKind.i64.max):=by
           have e:IntKind.i64.max=9223372036854775807:=by decide
           rw [e]; omega
         unfold binOp Op.stringOp;simp only [this,if_false]
         rfl)
      | (simp only [Option.some.injEq] at h; subst h
         exact ⟨.bool _,fun w=>by simp [binOp,Op.stringOp]⟩)
      | simp at h
  refine ⟨key.1,fun w =>?_⟩
  show (Sem.bind _ _).run P w=_
  rw [Sem.run_bind',hg w];exact key.2 w
theorem rT.same {ρ:Inj} {a b c:Addr} (h:rT ρ a b) (h':rT ρ a c):b=c:=by
 rcases h with ⟨h1,rfl⟩ | ⟨h1,_,l,h2,rfl⟩
 ·rcases h' with ⟨_,rfl⟩ | ⟨h3,_⟩
  ·rfl
  ·omega
 ·rcases h' with ⟨h3,_⟩ | ⟨_,_,l',h4,rfl⟩
  ·omega
  ·rw [h2] at h4; cases h4; rfl
theorem aD4 {t e:TypeId} {b:Bool} {ti:TypeInfo} (ht:P.underlying t=some (.pointer e)) (hi:P.info? e=some ti) (h:dB x y=some b) (hx:aO ρ x x') (hy:aO ρ y y') (d:Nat) (w:World) :
  (Op.equalIn (d+1) t x' y').run P w = .ok b w:=by
 unfold dB at h
 split at h
 ·cases hx <;> cases hy <;> (simp only [Option.some.injEq] at h; subst h; simp [Op.equalIn,underlying,ht])
 ·cases hx <;> cases hy <;> (simp only [Option.some.injEq] at h; subst h; simp [Op.equalIn,underlying,ht])
 ·split at h
  ·rename_i e
   subst e;simp only [Option.some.injEq] at h;subst h;cases hx with
   | ptr _ a' r =>
    cases hy with
    | ptr _ b' r' =>
     obtain rfl:=r.same r';simp [Op.equalIn,underlying,ht,sizeOf,typeInfo,hi,sameAddr]
  ·simp at h
 ·simp at h
theorem aDU {t e:TypeId} {b:Bool} (ht:P.underlying t=some (.slice e)) (h:aBh x y=some b) (hx:aO ρ x x') (hy:aO ρ y y') (d:Nat) (w:World) :
  (Op.equalIn (d+1) t x' y').run P w = .ok b w:=by
 unfold aBh at h
 split at h <;> first
  | (simp at h; done)
  | (cases hx <;> cases hy <;> (simp only [Option.some.injEq] at h; subst h; simp [Op.equalIn,underlying,ht]))
theorem aDH {t k e:TypeId} {b:Bool} (ht:P.underlying t=some (.map k e)) (h:aAI x y=some b) (hx:aO ρ x x') (hy:aO ρ y y') (d:Nat) (w:World) :
  (Op.equalIn (d+1) t x' y').run P w = .ok b w:=by
 unfold aAI at h
 split at h <;> first
  | (simp at h; done)
  | (cases hx <;> cases hy <;> (simp only [Option.some.injEq] at h; subst h; simp [Op.equalIn,underlying,ht]))
theorem aEj {t:TypeId} {p r:Array TypeId} {q b:Bool} (ht:P.underlying t=some (.func p r q)) (h:aHI x y=some b) (hx:aO ρ x x') (hy:aO ρ y y') (d:Nat) (w:World) :
  (Op.equalIn (d+1) t x' y').run P w = .ok b w:=by
 unfold aHI at h
 split at h <;> first
  | (simp at h; done)
  | (cases hx <;> cases hy <;> (simp only [Option.some.injEq] at h; subst h; simp [Op.equalIn,underlying,ht]))
theorem aCl {op:BinOp} {t:TypeId} {e:TypeId} {X Y:Operand} {ti:TypeInfo} (ht:P.underlying t=some (.pointer e)) (hi:P.info? e=some ti) (h:bW dB op x y=some v) (hx:aO ρ x x') (hy:aO ρ y y') :
    aO ρ v v/\∀ w,(do eqGuard op t X Y x' y'; binOp op t x' y':Sem Value).run P w = .ok v w:=by
  have key:∀ b,dB x y=some b->∀ w,(eqGuard op t X Y x' y').run P w = .ok () w/\(op = .eql->binOp op t x' y'=do pure (.bool (<- Op.equal t x' y')))/\(op = .neq->binOp op t x' y'=do pure (.bool (!(<- Op.equal t x' y')))):=by
    intro b hb w;unfold dB at hb
    repeat' split at hb
    all_goals first
      | (simp at hb; done)
      | (cases hx <;> cases hy <;> cases op <;> exact ⟨rfl,fun h=>by first | rfl | simp at h,fun h=>by first | rfl | simp at h⟩)
  cases op <;> simp only [bW,Option.map_eq_some_iff] at h <;> first
    | (simp at h; done)
    | (obtain ⟨b,hb,rfl⟩:=h
       refine ⟨.bool _,fun w =>?_⟩;obtain ⟨h1,h2,h3⟩:=key b hb w
       show (Sem.bind _ _).run P w=_
       rw [Sem.run_bind',h1]
       first | rw [h2 rfl] | rw [h3 rfl]
       have:=aD4 ht hi hb hx hy 9999 w
       show (Sem.bind (Op.equalIn (9999+1) t x' y') _).run P w=_
       rw [Sem.run_bind',this]
       rfl)
theorem aCu {op:BinOp} {t:TypeId} {e:TypeId} {X Y:Operand} (ht:P.underlying t=some (.slice e)) (h:bW aBh op x y=some v) (hx:aO ρ x x') (hy:aO ρ y y') :
    aO ρ v v/\∀ w,(do eqGuard op t X Y x' y'; binOp op t x' y':Sem Value).run P w = .ok v w:=by
  have key:∀ b,aBh x y=some b->∀ w,(eqGuard op t X Y x' y').run P w = .ok () w/\(op = .eql->binOp op t x' y'=do pure (.bool (<- Op.equal t x' y')))/\(op = .neq->binOp op t x' y'=do pure (.bool (!(<- Op.equal t x' y')))):=by
    intro b hb w;unfold aBh at hb
    split at hb <;> first
      | (simp at hb; done)
      | (cases hx <;> cases hy <;> cases op <;> exact ⟨rfl,fun h=>by first | rfl | simp at h,fun h=>by first | rfl | simp at h⟩)
  cases op <;> simp only [bW,Option.map_eq_some_iff] at h <;> first
    | (simp at h; done)
    | (obtain ⟨b,hb,rfl⟩:=h
       refine ⟨.bool _,fun w =>?_⟩;obtain ⟨h1,h2,h3⟩:=key b hb w
       show (Sem.bind _ _).run P w=_
       rw [Sem.run_bind',h1]
       first | rw [h2 rfl] | rw [h3 rfl]
       have:=aDU ht hb hx hy 9999 w
       show (Sem.bind (Op.equalIn (9999+1) t x' y') _).run P w=_
       rw [Sem.run_bind',this]
       rfl)
theorem aBw {op:BinOp} {t:TypeId} {k e:TypeId} {X Y:Operand} (ht:P.underlying t=some (.map k e)) (h:bW aAI op x y=some v) (hx:aO ρ x x') (hy:aO ρ y y') :
    aO ρ v v/\∀ w,(do eqGuard op t X Y x' y'; binOp op t x' y':Sem Value).run P w = .ok v w:=by
  have key:∀ b,aAI x y=some b->∀ w,(eqGuard op t X Y x' y').run P w = .ok () w/\(op = .eql->binOp op t x' y'=do pure (.bool (<- Op.equal t x' y')))/\(op = .neq->binOp op t x' y'=do pure (.bool (!(<- Op.equal t x' y')))):=by
    intro b hb w;unfold aAI at hb
    split at hb <;> first
      | (simp at hb; done)
      | (cases hx <;> cases hy <;> cases op <;> exact ⟨rfl,fun h=>by first | rfl | simp at h,fun h=>by first | rfl | simp at h⟩)
  cases op <;> simp only [bW,Option.map_eq_some_iff] at h <;> first
    | (simp at h; done)
    | (obtain ⟨b,hb,rfl⟩:=h
       refine ⟨.bool _,fun w =>?_⟩;obtain ⟨h1,h2,h3⟩:=key b hb w
       show (Sem.bind _ _).run P w=_
       rw [Sem.run_bind',h1]
       first | rw [h2 rfl] | rw [h3 rfl]
       have:=aDH ht hb hx hy 9999 w
       show (Sem.bind (Op.equalIn (9999+1) t x' y') _).run P w=_
       rw [Sem.run_bind',this]
       rfl)
theorem aCO {op:BinOp} {t:TypeId} {p r:Array TypeId} {q:Bool} {X Y:Operand} (ht:P.underlying t=some (.func p r q)) (h:bW aHI op x y=some v) (hx:aO ρ x x') (hy:aO ρ y y') :
    aO ρ v v/\∀ w,(do eqGuard op t X Y x' y'; binOp op t x' y':Sem Value).run P w = .ok v w:=by
  have key:∀ b,aHI x y=some b->∀ w,(eqGuard op t X Y x' y').run P w = .ok () w/\(op = .eql->binOp op t x' y'=do pure (.bool (<- Op.equal t x' y')))/\(op = .neq->binOp op t x' y'=do pure (.bool (!(<- Op.equal t x' y')))):=by
    intro b hb w;unfold aHI at hb
    split at hb <;> first
      | (simp at hb; done)
      | (cases hx <;> cases hy <;> cases op <;> exact ⟨rfl,fun h=>by first | rfl | simp at h,fun h=>by first | rfl | simp at h⟩)
  cases op <;> simp only [bW,Option.map_eq_some_iff] at h <;> first
    | (simp at h; done)
    | (obtain ⟨b,hb,rfl⟩:=h
       refine ⟨.bool _,fun w =>?_⟩;obtain ⟨h1,h2,h3⟩:=key b hb w
       show (Sem.bind _ _).run P w=_
       rw [Sem.run_bind',h1]
       first | rw [h2 rfl] | rw [h3 rfl]
       have:=aEj ht hb hx hy 9999 w
       show (Sem.bind (Op.equalIn (9999+1) t x' y') _).run P w=_
       rw [Sem.run_bind',this]
       rfl)
end prims
end Go.AM
end
section
namespace Go.AM
theorem rT.add {ρ:Inj} {a a':Addr} (h:rT ρ a a') (n:Nat):rT ρ (a.add n) (a'.add n):=by
 rcases h with ⟨h1,rfl⟩ | ⟨h1,h2,l,h3,rfl⟩
 ·exact .inl ⟨by unfold Addr.add; split <;> exact h1,rfl⟩
 ·refine .inr ⟨by unfold Addr.add; split <;> exact h1,?_,l,?_,?_⟩
  ·unfold Addr.add; split
   ·exact h2
   ·rfl
  ·unfold Addr.add; split <;> exact h3
  ·unfold Addr.add
   split
   ·rfl
   ·simp [Nat.add_assoc]
section runs
variable {P:Program} {w:World}
theorem aT {t:TypeId} {d:TypeDesc} (h:P.underlying t=some d):(underlying t).run P w = .ok d w:=by simp [underlying,h]
theorem cC {t:TypeId} {n:Nat} (h:cT P t=some n):(sizeOf t).run P w = .ok n w:=by
 unfold cT at h;cases hi:P.info? t with
 | none=>simp [hi] at h
 | some i=>simp [hi] at h; simp [sizeOf,typeInfo,hi,h]
theorem kB {t:TypeId} {b:Bool} (h:gT P t=some b):(isAgg t).run P w = .ok b w:=by
 unfold gT at h;cases hu:P.underlying t with
 | none=>simp [hu] at h
 | some d=>cases d <;> simp [hu] at h <;> subst h <;> simp [isAgg,underlying,hu]
theorem gO {t:TypeId} {z:Value} (h:eN P t=some z):(zeroValue t).run P w = .ok z w:=by
 unfold eN at h;cases hi:P.info? t with
 | none=>simp [hi] at h
 | some i=>simp [hi] at h; simp [zeroValue,typeInfo,hi,h]
end runs
def fY (P:Program) (s:Sem Value) (v:Value):Prop:=∀ w,s.run P w = .ok v w
section prims
variable {P:Program} {ρ:Inj} {x x' y y' z z' v:Value}
theorem aE2 {c c':Value} (h:pick c x y=some v) (hc:aO ρ c c') (hx:aO ρ x x') (hy:aO ρ y y') :
  ∃ v',aO ρ v v'/\fY P (do pure (if <- asBool c' then x' else y')) v':=by
 unfold pick at h
 split at h
 ·rename_i t
  obtain rfl:=hc.flat rfl;simp only [Option.some.injEq] at h; subst h;refine ⟨if t then x' else y',?_,fun w=>by simp [asBool]⟩
  cases t
  ·exact hy
  ·exact hx
 ·simp at h
theorem aAG {op:BinOp} {t:TypeId} {X Y:Operand} (ht:P.underlying t=some .bool) (h:pZ op x y=some v) (hx:aO ρ x x') (hy:aO ρ y y') :
    aO ρ v v/\fY P (do eqGuard op t X Y x' y'; binOp op t x' y') v:=by
  have hs:∃ a b,x = .bool a/\y = .bool b:=by
    unfold pZ at h
    split at h <;> first | exact ⟨_,_,rfl,rfl⟩ | simp at h
  obtain ⟨a,b,rfl,rfl⟩:=hs;obtain rfl:=hx.flat rfl;obtain rfl:=hy.flat rfl
  have he:∀ d w,(Op.equalIn (d+1) t (.bool a) (.bool b)).run P w = .ok (a == b) w:=by
    intro d w; simp [Op.equalIn,underlying,ht]
  cases op <;> simp only [pZ] at h <;> first
    | (simp at h; done)
    | (simp only [Option.some.injEq] at h; subst h
       refine ⟨.bool _,fun w =>?_⟩
       show (Sem.bind (Op.equalIn (9999+1) t (.bool a) (.bool b)) _).run P w=_
       rw [Sem.run_bind',he]; rfl)
theorem aJ1 {op:UnOp} (h:un op x=some v) (hx:aO ρ x x'):aO ρ v v/\fY P (Op.unary op x') v:=by
 unfold un at h
 split at h
 ·obtain rfl:=hx.flat rfl
  simp only [Option.some.injEq] at h; subst h;exact ⟨.int _ _,fun w=>by simp [Op.unary,Op.intArith]⟩
 ·obtain rfl:=hx.flat rfl
  simp only [Option.some.injEq] at h; subst h;exact ⟨.int _ _,fun w=>by simp [Op.unary,Op.intBits]⟩
 ·obtain rfl:=hx.flat rfl
  simp only [Option.some.injEq] at h; subst h;exact ⟨.bool _,fun w=>by simp [Op.unary]⟩
 ·simp at h
theorem aAr {s d:TypeId} {k j:IntKind} (hs:P.underlying s=some (.int j)) (hd:P.underlying d=some (.int k)) (h:aR k x=some v) (hx:aO ρ x x') :
  aO ρ v v/\fY P (convert s d x') v:=by
 unfold aR at h
 split at h
 ·obtain rfl:=hx.flat rfl
  simp only [Option.some.injEq] at h; subst h;exact ⟨.int _ _,fun w=>by simp [convert,underlying,hs,hd,Conv.intToInt]⟩
 ·simp at h
theorem xZ {s d:TypeId} {j:IntKind} (hs:P.underlying s=some (.int j)) (hd:P.underlying d=some .string) (h:zM x=some v) (hx:aO ρ x x') :
  aO ρ v v/\fY P (convert s d x') v:=by
 unfold zM at h
 split at h
 ·obtain rfl:=hx.flat rfl
  simp only [Option.some.injEq] at h; subst h;exact ⟨.string _,fun w=>by simp [convert,underlying,hs,hd,Conv.intToString]⟩
 ·simp at h
theorem aAF {s d:TypeId} (hs:P.underlying s=some .string) (hd:P.underlying d=some .string) (h:aCo x=some v) (hx:aO ρ x x') :
  aO ρ v v/\fY P (convert s d x') v:=by
 unfold aCo at h
 split at h
 ·obtain rfl:=hx.flat rfl
  simp only [Option.some.injEq] at h; subst h;exact ⟨.string _,fun w=>by simp [convert,underlying,hs,hd]⟩
 ·simp at h
theorem aAA {s f:Nat} {fs:Array Field} {fd:Field} {n:Nat} (hs:P.underlying s=some (.struct fs)) (hf:fs[f]? = some fd) (hn:cT P fd.type=some (n+1)) (h:aB x fd.offset=some v)
  (hx:aO ρ x x'):∃ v',aO ρ v v'/\fY P (Instr.fieldAt s x' f) v':=by
 unfold aB at h
 split at h
 ·rename_i a
  cases hx with
  | ptr a a' r =>
   simp only [Option.some.injEq] at h; subst h;refine ⟨_,.ptr _ _ (r.add fd.offset),fun w =>?_⟩;simp [Instr.fieldAt,underlying,hs,hf,Instr.sureAddr,fieldPlace,cC hn]
 ·simp at h
theorem sQ {t n e s:Nat} {i i':Value} (ht:P.underlying t=some (.array n e)) (hs:cT P e=some s) (h:cJ n s x i=some v) (hx:aO ρ x x') (hi:aO ρ i i') :
  ∃ v',aO ρ v v'/\fY P (Instr.indexAt t x' i') v':=by
 unfold cJ at h
 split at h
 ·rename_i a k j
  obtain rfl:=hi.flat rfl;cases hx with
  | ptr a a' r =>
   split at h
   ·rename_i hb
    simp only [Option.some.injEq] at h; subst h;refine ⟨_,.ptr _ _ (r.add _),fun w =>?_⟩;simp [Instr.indexAt,asIntOf,underlying,ht,Instr.sureAddr,hb,cC hs]
   ·simp at h
 ·simp at h
theorem tP {t e s:Nat} {i i':Value} (ht:P.underlying t=some (.slice e)) (hs:cT P e=some s) (h:aK s x i=some v) (hx:aO ρ x x') (hi:aO ρ i i') :
  ∃ v',aO ρ v v'/\fY P (Instr.indexAt t x' i') v':=by
 unfold aK at h
 split at h
 ·rename_i a n c k j
  obtain rfl:=hi.flat rfl;cases hx with
  | slc a a' n c c' r =>
   split at h
   ·rename_i hb
    simp only [Option.some.injEq] at h; subst h;rcases r with ⟨r,_⟩ | ⟨r,_⟩ | ⟨r,_⟩
    ·refine ⟨_,.ptr _ _ (r.add _),fun w =>?_⟩
     simp [Instr.indexAt,asIntOf,underlying,ht,hb,cC hs]
    ·omega
    ·omega
   ·simp at h
 ·simp at h
theorem vG {t off n:Nat} (ht:gT P t=some false) (_hn:cT P t=some n) (h:mF x off=some v) (hx:aO ρ x x') :
  ∃ cs v',x' = .agg cs/\aO ρ v v'/\fY P (part t cs off) v':=by
 unfold mF at h
 split at h
 ·rename_i cs
  obtain ⟨ds,rfl,r⟩:=hx.agg_inv;have h':cs.toList[off]? = some v:=by simpa using h
  obtain ⟨y,hy,hr⟩:=r.get h';have hy':ds[off]? = some y:=by simpa using hy
  exact ⟨ds,y,rfl,hr,fun w=>by simp [part,kB ht,hy']⟩
 ·simp at h
theorem vH {t off n:Nat} (ht:gT P t=some true) (hn:cT P t=some n) (h:xV x off n=some v) (hx:aO ρ x x') :
  ∃ cs v',x' = .agg cs/\aO ρ v v'/\fY P (part t cs off) v':=by
 unfold xV at h
 split at h
 ·rename_i cs
  obtain ⟨ds,rfl,r⟩:=hx.agg_inv;simp only [Option.some.injEq] at h; subst h;refine ⟨ds,.agg (ds.extract off (off+n)),rfl,?_,fun w=>by simp [part,kB ht,cC hn]⟩
  have:bG ρ (cs.extract off (off+n)).toList (ds.extract off (off+n)).toList:=by
   simp only [Array.toList_extract];exact (r.drop off).take _
  exact this.agg
 ·simp at h
theorem aBA {t n e s:Nat} {i i':Value} (ht:P.underlying t=some (.array n e)) (ha:gT P e=some false) (hs:cT P e=some s) (h:yZ n s x i=some v) (hx:aO ρ x x') (hi:aO ρ i i') :
  ∃ v',aO ρ v v'/\fY P (Instr.index t x' i') v':=by
 unfold yZ at h
 split at h
 ·rename_i k j
  obtain rfl:=hi.flat rfl
  split at h
  ·rename_i hb
   obtain ⟨cs,v',rfl,hr,hg⟩:=vG ha hs h hx;exact ⟨v',hr,fun w=>by simp [Instr.index,asIntOf,underlying,ht,hb,cC hs,hg w]⟩
  ·simp at h
 ·simp at h
theorem aBz {t n e s:Nat} {i i':Value} (ht:P.underlying t=some (.array n e)) (ha:gT P e=some true) (hs:cT P e=some s) (h:aEZ n s x i=some v) (hx:aO ρ x x') (hi:aO ρ i i') :
  ∃ v',aO ρ v v'/\fY P (Instr.index t x' i') v':=by
 unfold aEZ at h
 split at h
 ·rename_i k j
  obtain rfl:=hi.flat rfl
  split at h
  ·rename_i hb
   obtain ⟨cs,v',rfl,hr,hg⟩:=vH ha hs h hx;exact ⟨v',hr,fun w=>by simp [Instr.index,asIntOf,underlying,ht,hb,cC hs,hg w]⟩
  ·simp at h
 ·simp at h
theorem aDw {t:Nat} {i i':Value} (ht:P.underlying t=some .string) (h:nF x i=some v) (hx:aO ρ x x') (hi:aO ρ i i') :
  aO ρ v v/\fY P (Instr.index t x' i') v:=by
 unfold nF at h
 split at h
 ·rename_i s k j
  obtain rfl:=hi.flat rfl;obtain rfl:=hx.flat rfl
  split at h
  ·rename_i hb
   simp only [Option.map_eq_some_iff] at h;obtain ⟨b,hb',rfl⟩:=h;refine ⟨.int _ _,fun w =>?_⟩;simp [Instr.index,asIntOf,underlying,ht,hb,hb']
  ·simp at h
 ·simp at h
theorem aGJ {i:Nat} (h:ext x i=some v) (hx:aO ρ x x'):∃ v',aO ρ v v'/\fY P (Instr.extract x' i) v':=by
 unfold ext at h
 split at h
 ·simp at h
 rename_i hns
 split at h
 ·rename_i vs
  cases hx with
  | any v=>simp at h
  | skip=>simp [gS] at hns
  | tuple l l' hl hr =>
   obtain ⟨y,hy,r⟩:=bG.get (l:=l) (l':=l') ⟨hl,hr⟩ (by simpa using h)
   refine ⟨y,r,fun w =>?_⟩;have:(⟨l'⟩:Array Value)[i]? = some y:=by simpa using hy
   simp [Instr.extract,this]
 ·simp at h
theorem lF {o o':Option Value} {d hi n:Nat} {c:BoundsCode} (h:bnd o d hi=some n) (hr:∀ x,o=some x->∃ x',o'=some x'/\aO ρ x x') (hn:o=none->o'=none) :
  (o'=none/\n=d)\/∃ x',o'=some x'/\n<=hi/\∀ H w,hi<=H->(Instr.sliceBound x' H c).run P w = .ok n w:=by
 unfold bnd at h
 split at h
 ·simp only [Option.some.injEq] at h; exact .inl ⟨hn rfl,h.symm⟩
 ·rename_i k i
  split at h
  ·rename_i hb
   simp only [Option.some.injEq] at h; subst h;obtain ⟨x',hx',r⟩:=hr _ rfl;obtain rfl:=r.flat rfl;refine .inr ⟨_,hx',by omega,fun H w hH =>?_⟩
   have:0<=i/\i<=(H:Int):=⟨hb.1,by omega⟩
   simp [Instr.sliceBound,asIntOf,this]
  ·simp at h
 ·simp at h
theorem aCT {t:Nat} {lo hi lo' hi':Option Value} (ht:P.underlying t=some .string) (h:aIT x lo hi=some v) (hx:aO ρ x x')
  (hl:(∀ z,lo=some z->∃ z',lo'=some z'/\aO ρ z z')/\(lo=none->lo'=none)) (hh:(∀ z,hi=some z->∃ z',hi'=some z'/\aO ρ z z')/\(hi=none->hi'=none)) :
  aO ρ v v/\fY P (Instr.sliceAt t x' lo' hi' none) v:=by
 unfold aIT at h
 split at h
 ·rename_i s
  obtain rfl:=hx.flat rfl;simp only [Option.bind_eq_some_iff,Option.some.injEq] at h;obtain ⟨hn,h1,ln,h2,rfl⟩:=h;refine ⟨.string _,fun w =>?_⟩;have e1:=lF (P:=P) (c := .sliceAlen) h1 hh.1 hh.2;have e2:=lF (P:=P) (c := .sliceB) h2 hl.1 hl.2;rcases e1 with ⟨rfl,rfl⟩ | ⟨z,rfl,hz,e1⟩ <;> rcases e2 with ⟨rfl,rfl⟩ | ⟨z',rfl,hz',e2⟩
  ·simp [Instr.sliceAt,Instr.slice,Instr.sliceBounds,underlying,ht]
  ·simp [Instr.sliceAt,Instr.slice,Instr.sliceBounds,underlying,ht,e2 _ _ (Nat.le_refl _)]
  ·simp [Instr.sliceAt,Instr.slice,Instr.sliceBounds,underlying,ht,e1 _ _ (Nat.le_refl _)]
  ·simp [Instr.sliceAt,Instr.slice,Instr.sliceBounds,underlying,ht,e1 _ _ (Nat.le_refl _),e2 _ _ (Nat.le_refl _)]
 ·simp at h
end prims
end Go.AM
namespace Go.AM
section prims
variable {P:Program} {ρ:Inj} {x x' y y' z z' v:Value}
def qZ (ρ:Inj) (o o':Option Value):Prop:=(∀ z,o=some z->∃ z',o'=some z'/\aO ρ z z')/\(o=none->o'=none)
theorem nX {b:Bool} {n c c' m h l:Nat} {lo hi mx lo' hi' mx':Option Value} (hc:c<=c') (h0:(mx.isSome&&hi.isNone)=false)
  (hm:bnd mx c c=some m) (hh:bnd hi n m=some h) (hl:bnd lo 0 h=some l) (rm:qZ ρ mx mx') (rh:qZ ρ hi hi') (rl:qZ ρ lo lo') :
  ∃ m',(∀ w,(Instr.sliceBounds b n c' lo' hi' mx').run P w = .ok (l,h,m') w)/\((mx=none/\m=c/\m'=c')\/(m'=m/\m<=c))/\l<=h/\(h<=m\/h=n):=by
 have e3:=lF (P:=P) (c:=if mx'.isSome then .slice3C else .sliceB) hl rl.1 rl.2
 have hlh:l<=h:=by
  rcases e3 with ⟨_,rfl⟩ | ⟨_,_,g,_⟩
  ·exact Nat.zero_le _
  ·exact g
 cases mx with
 | none =>
  have hmx':=rm.2 rfl;subst hmx';have hmc:m=c:=by simp [bnd] at hm; exact hm.symm
  subst hmc;have e2:=lF (P:=P) (c:=if b then .sliceAcap else .sliceAlen) hh rh.1 rh.2;refine ⟨c',fun w =>?_,.inl ⟨rfl,rfl,rfl⟩,hlh,?_⟩
  ·rcases e2 with ⟨rfl,rfl⟩ | ⟨z,rfl,hz,e2⟩ <;> rcases e3 with ⟨rfl,rfl⟩ | ⟨z',rfl,hz',e3⟩
   ·simp [Instr.sliceBounds]
   ·have g:=e3 h w (Nat.le_refl _); simp at g
    simp [Instr.sliceBounds,g]
   ·have g:=e2 c' w hc
    simp [Instr.sliceBounds,g]
   ·have g:=e2 c' w hc
    have g':=e3 h w (Nat.le_refl _); simp at g';simp [Instr.sliceBounds,g,g']
  ·rcases e2 with ⟨_,rfl⟩ | ⟨_,_,hz,_⟩
   ·exact .inr rfl
   ·exact .inl hz
 | some q =>
  obtain ⟨q',rfl,rq⟩:=rm.1 q rfl;cases hi with
  | none=>simp at h0
  | some u =>
   obtain ⟨u',rfl,ru⟩:=rh.1 u rfl;have e1:=lF (P:=P) (o:=some q) (o':=some q') (c:=if b then .slice3Acap else .slice3Alen) hm (fun x hx=>by simp at hx; subst hx; exact ⟨q',rfl,rq⟩) (by simp)
   have e2:=lF (P:=P) (o:=some u) (o':=some u') (c := .slice3B) hh (fun x hx=>by simp at hx; subst hx; exact ⟨u',rfl,ru⟩) (by simp)
   rcases e1 with ⟨g,_⟩ | ⟨z,hz,hzm,e1⟩
   ·simp at g
   ·rcases e2 with ⟨g,_⟩ | ⟨z2,hz2,hzm2,e2⟩
    ·simp at g
    ·simp only [Option.some.injEq] at hz hz2; subst hz; subst hz2
     refine ⟨m,fun w =>?_,.inr ⟨rfl,hzm⟩,hlh,.inl hzm2⟩;have g1:=e1 c' w hc;have g2:=e2 m w (Nat.le_refl _);rcases e3 with ⟨rfl,rfl⟩ | ⟨z',rfl,hz',e3⟩
     ·simp [Instr.sliceBounds,g1,g2]
     ·have g3:=e3 h w (Nat.le_refl _); simp at g3
      simp [Instr.sliceBounds,g1,g2,g3]
theorem aFj (a:Addr) (n:Nat):(a.add n).off=a.off+n:=by
 unfold Addr.add; split
 ·simp [*]
 ·rfl
theorem uX (a:Addr) (n:Nat):(a.add n).block=a.block:=by unfold Addr.add; split <;> rfl
theorem aIo {a:Addr} (h:a.spot=none) (n:Nat):(a.add n).spot=none:=by
 unfold Addr.add; split
 ·exact h
 ·rfl
theorem add_zero (a:Addr):a.add 0=a:=by simp [Addr.add]
theorem oF {w0 w:World} {H:AH} (hR:R P ρ w0 H w) {b s e:Nat} {q:Loc} (hq:ρ.loc b=some q) (hfx:q.flex=some e) (hf:wV s (H.get b)=true):e=s:=by
 obtain ⟨_,_,_,_,ho⟩:=hR.own _ _ hq;unfold wV at hf
 split at hf
 ·rename_i cs e2 hget
  rw [hget] at ho;have h1:=ho.1;rw [hfx] at h1;simp only [Option.some.injEq] at h1;have h3:e2=s:=by simpa using hf
  omega
 ·rename_i cs hget
  rw [hget] at ho;have h1:=ho.1;rw [hfx] at h1; simp at h1
 ·rename_i f hget
  rw [hget] at ho; exact ho.elim
 ·simp at hf
theorem aC7 {t n e s:Nat} {lo hi mx lo' hi' mx':Option Value} (ht:P.underlying t=some (.array n e)) (hs:cT P e=some s) (h:aCZ n s x lo hi mx=some v) (hx:aO ρ x x')
  (rm:qZ ρ mx mx') (rh:qZ ρ hi hi') (rl:qZ ρ lo lo'):∃ v',aO ρ v v'/\fY P (Instr.sliceAt t x' lo' hi' mx') v':=by
 unfold aCZ at h
 split at h
 ·rename_i a
  cases hx with
  | ptr a a' r =>
   split at h
   ·simp at h
   ·rename_i h0
    simp only [Option.bind_eq_some_iff,Option.some.injEq] at h;obtain ⟨m,hm,hh,h1,l,h2,rfl⟩:=h;obtain ⟨m',hb,hmm,_,_⟩:=nX (P:=P) (b:=false) (Nat.le_refl n) (by cases hi <;> cases mx <;> simp_all) hm h1 h2 rm rh rl
    have:m'=m:=by rcases hmm with ⟨_,rfl,rfl⟩ | ⟨rfl,_⟩ <;> rfl
    subst this;refine ⟨.slice (some (if m'=l then a' else a'.add (l*s))) (hh - l) (m' - l),.slc _ _ _ _ _ (.inl ⟨?_,.inl rfl⟩),fun w =>?_⟩
    ·split
     ·exact r
     ·exact r.add _
    ·simp [Instr.sliceAt,underlying,ht,Instr.sureAddr,hb w,cC hs]
 ·simp at h
theorem aC1 {t e s:Nat} {lo hi mx lo' hi' mx':Option Value} {H:AH} {w0 w:World} (ht:P.underlying t=some (.slice e)) (hs:cT P e=some s) (h:iN s x lo hi mx H=some v) (hx:aO ρ x x')
  (rm:qZ ρ mx mx') (rh:qZ ρ hi hi') (rl:qZ ρ lo lo') (hR:R P ρ w0 H w):∃ v',aO ρ v v'/\(Instr.sliceAt t x' lo' hi' mx').run P w = .ok v' w:=by
 unfold iN at h
 split at h
 ·rename_i n c
  cases hx with
  | snil n c =>
   split at h
   ·simp at h
   ·rename_i h0
    simp only [Option.bind_eq_some_iff,Option.some.injEq] at h;obtain ⟨m,hm,hh,h1,l,h2,rfl⟩:=h;obtain ⟨m',hb,hmm,_,_⟩:=nX (P:=P) (b:=true) (Nat.le_refl c) (by cases hi <;> cases mx <;> simp_all) hm h1 h2 rm rh rl
    have:m'=m:=by rcases hmm with ⟨_,rfl,rfl⟩ | ⟨rfl,_⟩ <;> rfl
    subst this;refine ⟨_,.snil _ _,?_⟩;simp [Instr.sliceAt,Instr.slice,underlying,ht,hb w,cC hs]
 ·rename_i a n c
  cases hx with
  | slc a a' n c c' r =>
   split at h
   ·simp at h
   ·rename_i h0
    simp only [Bool.or_eq_true,Bool.not_eq_true',not_or,Bool.not_eq_true,Bool.not_eq_false] at h0;simp only [Option.bind_eq_some_iff] at h;obtain ⟨m,hm,hh,h1,l,h2,h3⟩:=h;rw [Option.ite_none_right_eq_some] at h3;obtain ⟨hhm,h3⟩:=h3;simp only [Option.some.injEq] at h3; subst h3
    have hcc:c<=c':=by
     rcases r with ⟨_,rfl | ⟨_,_,_,_,_,g,_⟩⟩ | ⟨_,rfl,_⟩ | ⟨_,rfl,_⟩
     ·exact Nat.le_refl _
     ·exact g
     ·exact Nat.zero_le _
     ·exact Nat.zero_le _
    obtain ⟨m',hb,hmm,hlh,_⟩:=nX (P:=P) (b:=true) hcc (by
     cases hi <;> cases mx <;> simp_all) hm h1 h2 rm rh rl
    refine ⟨.slice (some (if m'=l then a' else a'.add (l*s))) (hh - l) (m' - l),.slc _ _ _ _ _ ?_,?_⟩
    ·by_cases hcz:c=0
     ·subst hcz
      have hm0:m=0:=by rcases hmm with ⟨_,g,_⟩ | ⟨_,g⟩ <;> omega
      have hl0:l=0:=by omega
      have hh0:hh=0:=by omega
      subst hm0; subst hl0; subst hh0;have e1:(if m'=0 then a' else a'.add (0*s))=a':=by rw [Nat.zero_mul,add_zero]; split <;> rfl
      have e2:(if (0:Nat)=0 then a else a.add (0*s))=a:=by simp
      rw [e1,e2];simp only [Nat.sub_zero];rcases hmm with ⟨_,_,rfl⟩ | ⟨rfl,_⟩
      ·rcases r with r | ⟨_,_,r⟩ | ⟨_,_,r⟩
       ·exact .inl r
       ·exact .inr (.inl ⟨rfl,rfl,r⟩)
       ·exact .inr (.inr ⟨rfl,rfl,r⟩)
      ·rcases r with ⟨ra,_⟩ | ⟨_,_,hba,hsp,q,e',hq,hfx,hbl,hsp',hoff⟩ | ⟨_,_,_,r⟩
       ·exact .inl ⟨ra,.inl rfl⟩
       ·exact .inr (.inl ⟨rfl,rfl,hba,hsp,q,e',hq,hfx,hbl,hsp',by omega⟩)
       ·exact .inr (.inr ⟨rfl,rfl,rfl,r⟩)
     have hfit:wV s (H.get a.block)=true:=by simpa [hcz] using h0.2
     rcases r with ⟨ra,rc⟩ | ⟨hn0,hc0,hba,hsp,q,e',hq,hfx,hbl,hsp',hoff⟩ | ⟨_,hc0,_⟩
     ·rcases hmm with ⟨hmx,rfl,rfl⟩ | ⟨rfl,hmc⟩
      ·rcases rc with rfl | ⟨q,e',hba,hq,hfx,hcc',hoff⟩
       ·refine .inl ⟨?_,.inl rfl⟩
        split
        ·exact ra
        ·exact ra.add _
       ·obtain rfl:=oF hR hq hfx hfit
        have ha':a'=⟨q.block,q.shift+a.off,none⟩/\a.spot=none:=by
         rcases ra with ⟨g,_⟩ | ⟨_,g,q2,hq2,rfl⟩
         ·omega
         ·rw [hq] at hq2; simp only [Option.some.injEq] at hq2; subst hq2; exact ⟨rfl,g⟩
        have hmul:(m' - l)*e'+l*e'<=m'*e':=by
         rw [<- Nat.add_mul]; exact Nat.mul_le_mul_right _ (by omega)
        by_cases hml:m=l
        ·by_cases hml':m'=l
         ·refine .inl ⟨?_,.inl (by omega)⟩
          simp only [hml,hml',if_true]; exact ra
         ·refine .inr (.inl ⟨by omega,by omega,by simp only [hml,if_true]; exact hba,by simp only [hml,if_true]; exact ha'.2,q,e',by simp only [hml,if_true]; exact hq,hfx,?_,?_,?_⟩)
          ·simp only [hml',if_false,uX,ha'.1]
          ·simp only [hml',if_false]; exact aIo (by rw [ha'.1]) _
          ·simp only [hml',if_false,aFj]; omega
        ·have hml':¬ m'=l:=by omega
         simp only [hml,hml',if_false];refine .inl ⟨ra.add _,.inr ⟨q,e',by rw [uX]; exact hba,by rw [uX]; exact hq,hfx,by omega,?_⟩⟩
         rw [aFj]; omega
      ·refine .inl ⟨?_,.inl rfl⟩
       split
       ·exact ra
       ·exact ra.add _
     ·exact absurd hc0 hcz
     ·exact absurd hc0 hcz
    ·simp [Instr.sliceAt,Instr.slice,underlying,ht,hb w,cC hs,apply_ite]
 ·simp at h
theorem aBO {t n e:Nat} (ht:P.underlying t=some (.array n e)) (h:aEP n x=some v) (hx:aO ρ x x'):∃ v',aO ρ v v'/\fY P (Instr.arrayAt t x') v':=by
 unfold aEP at h
 split at h
 ·rename_i a len c
  rw [Option.ite_none_right_eq_some] at h;obtain ⟨⟨hn,hl⟩,h⟩:=h;simp only [Option.some.injEq] at h; subst h;cases hx with
  | slc a a' n c c' r =>
   rcases r with ⟨ra,_⟩ | ⟨g,_⟩ | ⟨g,_⟩
   ·refine ⟨_,.ptr _ _ ra,fun w =>?_⟩
    have:¬ len<n:=by omega
    simp [Instr.arrayAt,underlying,ht,this]
   ·omega
   ·omega
 ·simp at h
theorem aBt {ats:Array TypeId} {args:Array Value} {t ty:TypeId} (h1:ats[0]? = some t) (h2:args[0]? = some x') (ht:P.underlying t=some .string) (h:oK x=some v) (hx:aO ρ x x') :
  aO ρ v v/\fY P (Builtin.len_ ats ty args) v:=by
 unfold oK at h
 split at h
 ·obtain rfl:=hx.flat rfl
  simp only [Option.some.injEq] at h; subst h;exact ⟨.int _ _,fun w=>by simp [Builtin.len_,h1,h2,underlying,ht,goInt]⟩
 ·simp at h
theorem aCa {ats:Array TypeId} {args:Array Value} {t ty e:TypeId} (h1:ats[0]? = some t) (h2:args[0]? = some x') (ht:P.underlying t=some (.slice e)) (h:lenSlc x=some v) (hx:aO ρ x x') :
  aO ρ v v/\fY P (Builtin.len_ ats ty args) v:=by
 unfold lenSlc at h
 split at h
 ·simp only [Option.some.injEq] at h; subst h
  refine ⟨.int _ _,fun w =>?_⟩;cases hx <;> simp [Builtin.len_,h1,h2,underlying,ht,goInt]
 ·simp at h
theorem aEa (h:min2 x y=some v) (hx:aO ρ x x') (hy:aO ρ y y'):aO ρ v v/\fY P (Builtin.min2 x' y') v:=by
 unfold min2 at h
 split at h
 ·obtain rfl:=hx.flat rfl
  obtain rfl:=hy.flat rfl;rw [Option.ite_none_right_eq_some] at h;obtain ⟨rfl,h⟩:=h;simp only [Option.some.injEq] at h; subst h;exact ⟨.int _ _,fun w=>by simp [Builtin.min2]⟩
 ·simp at h
theorem aFb (h:max2 x y=some v) (hx:aO ρ x x') (hy:aO ρ y y'):aO ρ v v/\fY P (Builtin.max2 x' y') v:=by
 unfold max2 at h
 split at h
 ·obtain rfl:=hx.flat rfl
  obtain rfl:=hy.flat rfl;rw [Option.ite_none_right_eq_some] at h;obtain ⟨rfl,h⟩:=h;simp only [Option.some.injEq] at h; subst h;exact ⟨.int _ _,fun w=>by simp [Builtin.max2]⟩
 ·simp at h
theorem rR {f:Value->Value->Option Value} {g:Value->Value->Sem Value} (hfg:∀ x y x' y' v,f x y=some v->aO ρ x x'->aO ρ y y'->aO ρ v v/\fY P (g x' y') v) :
  ∀ (l l':List Value) (x x' v:Value),zD f x l=some v->aO ρ x x'->bG ρ l l'->∃ v',aO ρ v v'/\fY P (l'.foldlM g x') v'
 | [],l',x,x',v,h,hx,hl=>by
  obtain rfl:=hl.cases_nil;simp only [zD,Option.some.injEq] at h; subst h;exact ⟨x',hx,fun w=>rfl⟩
 | y :: l,l',x,x',v,h,hx,hl=>by
  obtain ⟨y',k,rfl,hy,hk⟩:=hl.cases_cons;simp only [zD,Option.bind_eq_some_iff] at h;obtain ⟨z,h1,h2⟩:=h;obtain ⟨hz,hg⟩:=hfg _ _ _ _ _ h1 hx hy;obtain ⟨v',hv,hv'⟩:=rR hfg l k z z v h2 hz hk;refine ⟨v',hv,fun w =>?_⟩;rw [List.foldlM_cons,Sem.run_bind,hg w];exact hv' w
theorem oI (place:Nat->Option (Nat×Nat)):∀ (ps ps':List (Nat×Value)) (cs cs' ds:Array Value),Instr.fill place cs ps=some ds->ps.length=ps'.length ->
  (∀ (i:Nat) (p p':Nat×Value),ps[i]? = some p->ps'[i]? = some p'->p'.1=p.1/\aO ρ p.2 p'.2/\p.2≠undef)->bG ρ cs.toList cs'.toList->∃ ds',Instr.fill place cs' ps'=some ds'/\bG ρ ds.toList ds'.toList
 | [],ps',cs,cs',ds,h,hl,_,hc=>by
  have:ps'=[]:=by cases ps' <;> simp_all
  subst this;simp only [Instr.fill,Option.some.injEq] at h; subst h;exact ⟨cs',rfl,hc⟩
 | (i,u) :: ps,ps',cs,cs',ds,h,hl,hr,hc=>by
  cases ps' with
  | nil=>simp at hl
  | cons p' ps' =>
   obtain ⟨j,u'⟩:=p';obtain ⟨hj,hu,hne⟩:=hr 0 (i,u) (j,u') rfl rfl;simp only at hj hu hne;subst hj;simp only [Instr.fill] at h ⊢;cases hp:place j with
   | none=>simp [hp] at h
   | some q =>
    obtain ⟨off,size⟩:=q;simp only [hp] at h ⊢;have hcl:=hu.cells hne;have hsz:u'.cells.size=u.cells.size:=by have:=hcl.1; simpa using this.symm
    have hsc:cs'.size=cs.size:=by have:=hc.1; simpa using this.symm
    rw [hsz,hsc]
    split at h
    ·simp at h
    ·rename_i hcond
     rw [if_neg hcond];refine oI place ps ps' _ _ ds h (by simpa using hl) (fun k p p' hk hk'=>hr (k+1) p p' (by simpa using hk) (by simpa using hk')) ?_
     have gen:∀ (zs zs':List (Value×Nat)) (cs cs':Array Value),bG ρ cs.toList cs'.toList->zs.length=zs'.length->(∀ (i:Nat) (p p':Value×Nat),zs[i]? = some p->zs'[i]? = some p'->p'.2=p.2/\aO ρ p.1 p'.1) ->
       bG ρ (zs.foldl (fun cs (c,j)=>cs.setIfInBounds (off+j) c) cs).toList (zs'.foldl (fun cs (c,j)=>cs.setIfInBounds (off+j) c) cs').toList:=by
      intro zs
      induction zs with
      | nil=>intro zs' cs cs' hc hl _; cases zs' <;> simp_all
      | cons p zs ih =>
       intro zs' cs cs' hc hl hr;cases zs' with
       | nil=>simp at hl
       | cons p' zs' =>
        obtain ⟨e,r⟩:=hr 0 p p' rfl rfl;simp only [List.foldl_cons];refine ih zs' _ _ ?_ (by simpa using hl) (fun k q q' hk hk'=>hr (k+1) q q' (by simpa using hk) (by simpa using hk'))
        rw [e];simp only [Array.toList_setIfInBounds];exact hc.set _ r
     have e:∀ (a:Array Value) (b:Array Value),(a.zipIdx.foldl (fun cs (c,j)=>cs.setIfInBounds (off+j) c) b)=(a.toList.zipIdx.foldl (fun cs (c,j)=>cs.setIfInBounds (off+j) c) b):=by
      intro a b; rw [<- Array.foldl_toList,Array.toList_zipIdx]
     rw [e,e];refine gen _ _ _ _ hc (by simp [hcl.1]) (fun k p p' hk hk' =>?_)
     rw [List.getElem?_zipIdx] at hk hk';simp only [Option.map_eq_some_iff] at hk hk';obtain ⟨c,hc1,rfl⟩:=hk;obtain ⟨c',hc1',rfl⟩:=hk';exact ⟨rfl,hcl.2 k c c' hc1 hc1'⟩
end prims
end Go.AM
end
section
namespace Go.AM
section
variable {P:Program} {ρ:Inj} {T:Env} {a:Act} {v:Value}
theorem aE3 {o:Oper} {s:Sem Value} {v':Value} (hs:execOp a.eval o=(do pure (.value (<- s)):Sem Next)) (hg:fY P s v') (w:World):(execOp a.eval o).run P w = .ok (.value v') w:=by
 rw [hs]; simp [hg w]
theorem mT:∀ {ks:List Nat} {xs ys:List Value} {b:Bool},bI ks xs ys=some b->xs.length=ks.length/\ys.length=ks.length
 | [],[],[],_,_=>⟨rfl,rfl⟩
 | k :: ks,x :: xs,y :: ys,b,h=>by
  simp only [bI,Option.bind_eq_some_iff,Option.map_eq_some_iff] at h;obtain ⟨_,_,_,h,_⟩:=h;have:=mT h;simp [this]
 | [],[],_ :: _,_,h=>by simp [bI] at h
 | [],_ :: _,_,_,h=>by simp [bI] at h
 | _ :: _,[],_,_,h=>by simp [bI] at h
 | _ :: _,_ :: _,[],_,h=>by simp [bI] at h
theorem oQ {ks ks':List Nat}:∀ {xs ys:List Value} {b:Bool},bI (ks++ks') xs ys=some b ->
  ∃ b1 b2,bI ks (xs.take ks.length) (ys.take ks.length)=some b1/\bI ks' (xs.drop ks.length) (ys.drop ks.length)=some b2/\b=(b1&&b2):=by
 induction ks with
 | nil=>intro xs ys b h; exact ⟨true,b,by simp [bI],by simpa using h,by simp⟩
 | cons k ks ih =>
  intro xs ys b h
  match xs,ys with
  | x :: xs,y :: ys =>
   simp only [List.cons_append,bI,Option.bind_eq_some_iff,Option.map_eq_some_iff] at h;obtain ⟨c,hc,d,hd,rfl⟩:=h;obtain ⟨b1,b2,h1,h2,rfl⟩:=ih hd;exact ⟨c&&b1,b2,by simp [bI,hc,h1],by simpa using h2,by simp [Bool.and_assoc]⟩
  | [],_=>simp [bI] at h
  | _ :: _,[]=>simp [bI] at h
def vO (P:Program) (t:TypeId) (xs:List Value):Value:=match gT P t with | some true => .agg ⟨xs⟩ | _=>xs.headD undef
theorem tA {t N off:Nat} {b:Bool} (ha:gT P t=some b) (hs:cT P t=some N) (cs:Array Value) (h1:b=false->N=1) (hl:off+N<=cs.size) (w:World) :
  (part t cs off).run P w = .ok (vO P t ((cs.toList.drop off).take N)) w:=by
 cases b with
 | true =>
  simp only [part,vO,ha,Sem.run_bind,kB ha,Result.andThen_ok,if_true,cC hs,Sem.run_pure]
  congr 2
  apply Array.ext';simp only [Array.toList_extract];rw [List.extract_eq_take_drop]
  congr 1; omega
 | false =>
  have:=h1 rfl; subst this;have hlt:off<cs.size:=by omega
  have:cs[off]? = some cs[off]:=Array.getElem?_eq_getElem hlt;simp only [part,vO,ha,Sem.run_bind,kB ha,Result.andThen_ok,Bool.false_eq_true,if_false,this,Sem.run_pure]
  congr 1
  rw [List.drop_eq_getElem_cons (by simpa using hlt)]
  simp
def aLY (P:Program) (t n:Nat):Prop:=∃ b,gT P t=some b/\cT P t=some n/\(b=false->n=1)
theorem aET {d t:Nat} {ks:List Nat} (h:oP P d t=some ks):aLY P t ks.length:=by
 cases d with
 | zero=>simp [oP] at h
 | succ d =>
  simp only [oP] at h
  split at h <;> rename_i hu
  ·split at h
   ·rename_i hs; simp only [Option.some.injEq] at h; subst h; exact ⟨false,by simp [gT,hu],hs,fun _=>rfl⟩
   ·simp at h
  ·split at h
   ·rename_i hs; simp only [Option.some.injEq] at h; subst h; exact ⟨false,by simp [gT,hu],hs,fun _=>rfl⟩
   ·simp at h
  ·split at h
   ·rename_i hs; simp only [Option.some.injEq] at h; subst h; exact ⟨false,by simp [gT,hu],hs,fun _=>rfl⟩
   ·simp at h
  ·split at h
   ·rename_i s n h1 h2 h3
    split at h
    ·rename_i he
     simp only [Option.some.injEq] at h; subst h;refine ⟨true,by simp [gT,hu],?_,fun h=>by simp at h⟩
     rw [h2]; simpa using he
    ·simp at h
   ·simp at h
  ·split at h
   ·rename_i q n h1 h2
    split at h
    ·rename_i he
     simp only [Option.some.injEq] at h; subst h;refine ⟨true,by simp [gT,hu],?_,fun h=>by simp at h⟩
     have he':=eq_of_beq he;rw [h1,he']; simp
    ·simp at h
   ·simp at h
  ·simp at h
def aKD (P:Program) (D:Nat) (t:Nat) (ks:List Nat):Prop:=∀ (xs ys:List Value) (b:Bool),bI ks xs ys=some b->∀ w,(Op.equalIn D t (vO P t xs) (vO P t ys)).run P w = .ok b w
theorem wA (D:Nat) (f:TypeId->Option (List Nat)) (hf:∀ t n,f t=some n->aKD P D t n/\aLY P t n.length) (xs ys:Array Value):∀ (fs:List Field) (n total:List Nat) (b:Bool),
  pO f fs n=some total->xs.size=total.length->ys.size=total.length->bI (total.drop n.length) (xs.toList.drop n.length) (ys.toList.drop n.length)=some b->∀ w,(Op.eqFields D xs ys fs).run P w = .ok b w
 | [],n,total,b,h,hx,hy,hs,w=>by
  simp only [pO,Option.some.injEq] at h; subst h;have e1:xs.toList.drop n.length=[]:=List.drop_eq_nil_of_le (by simp [hx])
  have e2:ys.toList.drop n.length=[]:=List.drop_eq_nil_of_le (by simp [hy])
  have e3:n.drop n.length=[]:=List.drop_eq_nil_of_le (Nat.le_refl _);rw [e1,e2,e3] at hs;simp only [bI,Option.some.injEq] at hs; subst hs
  rfl
 | x :: fs,n,total,b,h,hx,hy,hs,w=>by
  simp only [pO] at h;rw [Option.ite_none_right_eq_some] at h;obtain ⟨⟨hn,ho⟩,h⟩:=h;simp only [Option.bind_eq_some_iff] at h;obtain ⟨m,hm,h⟩:=h;obtain ⟨he,q,ha,hsz,hq⟩:=hf _ _ hm
  have hpre2:∀ (fs:List Field) (k t:List Nat),pO f fs k=some t->∃ r,t=k++r:=by
   intro fs
   induction fs with
   | nil=>intro k t h; simp only [pO,Option.some.injEq] at h; exact ⟨[],by simp [h]⟩
   | cons y fs ih =>
    intro k t h;simp only [pO] at h;rw [Option.ite_none_right_eq_some] at h;obtain ⟨_,h⟩:=h;simp only [Option.bind_eq_some_iff] at h;obtain ⟨m,_,h⟩:=h;obtain ⟨r,rfl⟩:=ih _ _ h;exact ⟨m++r,by simp⟩
  obtain ⟨r,rfl⟩:=hpre2 fs _ _ h;have hd:(n++m++r).drop n.length=m++r:=by simp
  rw [hd] at hs;obtain ⟨b1,b2,h1,h2,rfl⟩:=oQ hs;have p1:=tA ha hsz xs hq (off:=n.length) (by simp at hx; omega) w
  have p2:=tA ha hsz ys hq (off:=n.length) (by simp at hy; omega) w
  have p3:=he _ _ b1 h1 w;simp only [Op.eqFields];rw [if_pos hn,ho];simp only [Sem.run_bind,p1,p2,p3,Result.andThen_ok];cases b1 with
  | false=>simp
  | true =>
   simp only [Bool.not_true,Bool.false_eq_true,if_false,Bool.true_and];refine wA D f hf xs ys fs (n++m) (n++m++r) b2 h hx hy ?_ w;have e:(n++m++r).drop (n++m).length=r:=by simp
   rw [e,List.length_append,<- List.drop_drop,<- List.drop_drop]; exact h2
theorem xK (D:Nat) {e:Nat} {ks:List Nat} (he:aKD P D e ks) (hp:aLY P e ks.length) (xs ys:Array Value):∀ (k i:Nat) (b:Bool),
  xs.size=(i+k)*ks.length->ys.size=(i+k)*ks.length->bI (List.replicate k ks).flatten (xs.toList.drop (i*ks.length)) (ys.toList.drop (i*ks.length))=some b->∀ w,
  ((forIn (List.range' i k) (none,PUnit.unit) (fun i (_:Option Bool×PUnit)=>(do
    if !(<- Op.equalIn D e (<- part e xs (i*ks.length)) (<- part e ys (i*ks.length))) then pure (ForInStep.done (some false,PUnit.unit)) else pure (ForInStep.yield (none,PUnit.unit)):Sem (ForInStep (Option Bool×PUnit)))) >>= fun r=>match r.1 with | some a=>pure a | none=>pure true:Sem Bool)).run P w = .ok b w
 | 0,i,b,hx,hy,hs,w=>by
  rw [List.drop_eq_nil_of_le (by simp [hx]),List.drop_eq_nil_of_le (by simp [hy])] at hs
  simp only [List.replicate_zero,List.flatten_nil,bI,Option.some.injEq] at hs; subst hs;simp
 | k+1,i,b,hx,hy,hs,w=>by
  obtain ⟨q,ha,hsz,hq⟩:=hp;have hsk:(i+(k+1))*ks.length=i*ks.length+ks.length+k*ks.length:=by rw [<- Nat.add_assoc,Nat.add_mul,Nat.add_mul,Nat.one_mul]; omega
  rw [List.replicate_succ,List.flatten_cons] at hs;obtain ⟨b1,b2,h1,h2,rfl⟩:=oQ hs;rw [List.drop_drop,List.drop_drop] at h2;have e1:i*ks.length+ks.length=(i+1)*ks.length:=by rw [Nat.add_mul,Nat.one_mul]
  rw [e1] at h2;have ih:=xK D he ⟨q,ha,hsz,hq⟩ xs ys k (i+1) b2 (by rw [hx]; congr 1; omega) (by rw [hy]; congr 1; omega) h2 w
  have p1:=tA ha hsz xs hq (off:=i*ks.length) (by omega) w
  have p2:=tA ha hsz ys hq (off:=i*ks.length) (by omega) w
  have p3:=he _ _ b1 h1 w;simp only [List.range'_succ,List.forIn_cons,Sem.run_bind,p1,p2,p3,Result.andThen_ok] at ih ⊢;cases b1 with
  | false=>simp
  | true =>
   simp only [Bool.not_true,Bool.false_eq_true,if_false,Bool.true_and,Sem.run_pure,Result.andThen_ok];exact ih
theorem kP {t:Nat} (h:gT P t=some true) (xs:List Value):vO P t xs = .agg ⟨xs⟩:=by simp [vO,h]
theorem yR:∀ (d t D:Nat) (ks:List Nat),oP P d t=some ks->d<=D->aKD P D t ks/\aLY P t ks.length
 | 0,t,D,ks,h,_=>by simp [oP] at h
 | d+1,t,D,ks,h,hD=>by
  refine ⟨?_,aET h⟩;obtain ⟨E,rfl⟩:∃ E,D=E+1:=⟨D - 1,by omega⟩
  have leaf:∀ (kd:Nat),ks=[kd]->gT P t=some false->(∀ x y b,cB kd x y=some b->∀ w,(Op.equalIn (E+1) t x y).run P w = .ok b w)->aKD P (E+1) t ks:=by
   intro kd hk ha hl xs ys b hs w;subst hk
   match xs,ys with
   | [x],[y] =>
    simp only [bI,Option.bind_eq_some_iff,Option.map_some,Option.some.injEq,Bool.and_true] at hs;obtain ⟨c,hc,rfl⟩:=hs;simp only [vO,ha,List.headD_cons];exact hl x y c hc w
   | [],_=>simp [bI] at hs
   | [_],[]=>simp [bI] at hs
   | [_],_ :: _ :: _=>simp [bI] at hs
   | _ :: _ :: _,[]=>simp [bI] at hs
   | _ :: _ :: _,_ :: _=>simp [bI] at hs
  simp only [oP] at h
  split at h
  ·rename_i k hu
   split at h
   ·simp only [Option.some.injEq] at h
    refine leaf 0 h.symm (by simp [gT,hu]) (fun x y b hb w =>?_)
    unfold cB at hb
    split at hb
    ·rw [Option.ite_none_right_eq_some] at hb
     obtain ⟨rfl,hc⟩:=hb;simp only [Option.some.injEq] at hc; subst hc;exact run_equalIn_int w E t _ k _ _ hu
    ·simp at *
    ·simp at *
    ·simp at hb
   ·simp at h
  ·rename_i hu
   split at h
   ·simp only [Option.some.injEq] at h
    refine leaf 1 h.symm (by simp [gT,hu]) (fun x y b hb w =>?_)
    unfold cB at hb
    split at hb
    ·simp at *
    ·simp only [Option.some.injEq] at hb; subst hb
     rw [beq_toListBytes];exact run_equalIn_string w E t _ _ hu
    ·simp at *
    ·simp at hb
   ·simp at h
  ·rename_i hu
   split at h
   ·simp only [Option.some.injEq] at h
    refine leaf 2 h.symm (by simp [gT,hu]) (fun x y b hb w =>?_)
    unfold cB at hb
    split at hb
    ·simp at *
    ·simp at *
    ·simp only [Option.some.injEq] at hb; subst hb
     exact run_equalIn_bool' w E t _ _ hu
    ·simp at hb
   ·simp at h
  ·rename_i fs hu
   split at h
   ·rename_i s n h1 h2 h3
    split at h
    ·rename_i he
     simp only [Option.some.injEq] at h; subst h;intro xs ys b hs w;have ha:gT P t=some true:=by simp [gT,hu]
     rw [kP ha,kP ha];have hfo:P.fieldsOf t=fs:=by simp [Program.fieldsOf,hu]
     rw [run_equalIn_struct w E t _ _ (by rw [hfo]; exact hu) h1,hfo]
     have hl:=mT hs;exact wA E (oP P d) (fun t' n' h'=>yR d t' E n' h' (by omega)) ⟨xs⟩ ⟨ys⟩ fs.toList [] n b h3 (by simpa using hl.1) (by simpa using hl.2) (by simpa using hs) w
    ·simp at h
   ·simp at h
  ·rename_i k e hu
   split at h
   ·rename_i q n h1 h2
    split at h
    ·rename_i he
     simp only [Option.some.injEq] at h; subst h;intro xs ys b hs w;have ha:gT P t=some true:=by simp [gT,hu]
     rw [kP ha,kP ha];obtain ⟨g1,g2⟩:=yR d e E n h2 (by omega)
     have hl:=mT hs;have hlen:(List.replicate k n).flatten.length=k*n.length:=by simp
     have key:=xK E g1 g2 ⟨xs⟩ ⟨ys⟩ k 0 b (by simpa [hlen] using hl.1) (by simpa [hlen] using hl.2) (by simpa using hs) w
     obtain ⟨_,_,hsz,_⟩:=g2;simp only [Op.equalIn,Sem.run_bind,aT hu,Result.andThen_ok,cC hsz];rw [Std.Legacy.Range.forIn_eq_forIn_range'];simp only [Std.Legacy.Range.size,Nat.sub_zero,Nat.add_sub_cancel,Nat.div_one];simp only [Sem.run_bind] at key ⊢;rw [<- key]; congr 1; funext a w1; split <;> simp_all
    ·simp at h
   ·simp at h
  ·simp at h
end
end Go.AM
end
section
namespace Go.AM
section
variable {P:Program} {ρ:Inj} {T:Env} {a:Act} {v:Value}
theorem tE {op:BinOp} {t:TypeId} {ks:List Nat} {X Y:Operand} {x x' y y':Value} (hk:oP P 20 t=some ks) (hg:P.eqGuardType P.depth t=false) (ha:gT P t=some true)
  (h:iS ks op x y=some v) (hx:aO ρ x x') (hy:aO ρ y y'):aO ρ v v/\∀ w,(do eqGuard op t X Y x' y'; binOp op t x' y':Sem Value).run P w = .ok v w:=by
 have hflat:∀ (ks:List Nat) (l l':List Value),bG ρ l l'->∀ m c,bI ks l m=some c\/bI ks m l=some c->l'=l:=by
  intro ks
  induction ks with
  | nil =>
   intro l l' hl m c h;cases l with
   | nil=>exact hl.cases_nil
   | cons x l=>rcases h with h | h <;> cases m <;> simp [bI] at h
  | cons k ks ih =>
   intro l l' hl m c h;cases l with
   | nil=>rcases h with h | h <;> cases m <;> simp [bI] at h
   | cons z l =>
    obtain ⟨z',l2,rfl,hz,hl2⟩:=hl.cases_cons;cases m with
    | nil=>rcases h with h | h <;> simp [bI] at h
    | cons u m =>
     have hzf:flat z=true/\∃ c,bI ks l m=some c\/bI ks m l=some c:=by
      rcases h with h | h
      ·simp only [bI,Option.bind_eq_some_iff,Option.map_eq_some_iff] at h
       obtain ⟨c1,h1,c2,h2,_⟩:=h;refine ⟨?_,c2,.inl h2⟩;unfold cB at h1
       split at h1 <;> first | rfl | simp at h1
      ·simp only [bI,Option.bind_eq_some_iff,Option.map_eq_some_iff] at h
       obtain ⟨c1,h1,c2,h2,_⟩:=h;refine ⟨?_,c2,.inr h2⟩;unfold cB at h1
       split at h1 <;> first | rfl | simp at h1
     obtain ⟨hf,c2,h2⟩:=hzf;obtain rfl:=hz.flat hf;rw [ih l l2 hl2 m c2 h2]
 have he:=(yR 20 t 10000 ks hk (by omega)).1
 unfold iS at h
 split at h
 ·rename_i xs ys
  obtain ⟨xs',rfl,rx⟩:=hx.agg_inv;obtain ⟨ys',rfl,ry⟩:=hy.agg_inv;simp only [Option.map_eq_some_iff] at h;obtain ⟨b,hb,rfl⟩:=h;have e1:xs'=xs:=Array.ext' (hflat _ _ _ rx _ _ (.inl hb));have e2:ys'=ys:=Array.ext' (hflat _ _ _ ry _ _ (.inr hb));subst e1; subst e2;refine ⟨.bool _,fun w =>?_⟩;have hr:=he _ _ b hb w;rw [kP ha,kP ha] at hr
  show (Sem.bind _ _).run P w=_
  rw [Sem.run_bind',run_eqGuard_agg w _ _ _ _ _ _ hg];simp only [Result.andThen_ok];rw [run_eql_struct];rw [hr]; rfl
 ·rename_i xs ys
  obtain ⟨xs',rfl,rx⟩:=hx.agg_inv;obtain ⟨ys',rfl,ry⟩:=hy.agg_inv;simp only [Option.map_eq_some_iff] at h;obtain ⟨b,hb,rfl⟩:=h;have e1:xs'=xs:=Array.ext' (hflat _ _ _ rx _ _ (.inl hb));have e2:ys'=ys:=Array.ext' (hflat _ _ _ ry _ _ (.inr hb));subst e1; subst e2;refine ⟨.bool _,fun w =>?_⟩;have hr:=he _ _ b hb w;rw [kP ha,kP ha] at hr
  show (Sem.bind _ _).run P w=_
  rw [Sem.run_bind',run_eqGuard_agg w _ _ _ _ _ _ hg];simp only [Result.andThen_ok];rw [run_neq_struct];rw [hr]; rfl
 ·simp at h
theorem qJ {lo:Option Operand} (hg:P.globals.size<=ρ.base) (hT:jN ρ T a) (h:∀ x∈lo.toList,rS P x=true):qZ ρ (lo.map (ev T)) (lo.map a.eval):=by
 cases lo with
 | none=>exact ⟨by simp,by simp⟩
 | some x=>exact ⟨fun z hz=>⟨a.eval x,rfl,by simp at hz; subst hz; exact bY hg hT (h x (by simp))⟩,by simp⟩
theorem pN (hg:P.globals.size<=ρ.base) (hT:jN ρ T a):∀ (l:List Operand),(∀ x∈l,rS P x=true)->bG ρ (l.map (ev T)) (l.map a.eval)
 | [],_=>bG.nil
 | x :: l,h=>bG.cons (bY hg hT (h x (by simp))) (pN hg hT l fun y hy=>h y (by simp [hy]))
theorem aBo {fs:List Field} {places:List (Nat×Nat)} (h:fs.mapM (fun f=>(cT P f.type).map fun s=>(f.offset,s))=some places) (w:World) :
  ((fs.mapM fun f=>do pure (f.offset,<- sizeOf f.type):Sem (List (Nat×Nat)))).run P w = .ok places w:=by
 induction fs generalizing places with
 | nil=>simp at h; subst h; rfl
 | cons f fs ih =>
  simp only [List.mapM_cons,Option.bind_eq_bind,Option.bind_eq_some_iff,Option.pure_def,Option.some.injEq,Option.map_eq_some_iff] at h;obtain ⟨p,⟨s,hs,rfl⟩,ps,h2,rfl⟩:=h;simp only [List.mapM_cons,Sem.run_bind,cC hs,Result.andThen_ok,Sem.run_pure,ih h2]
theorem uY (hg:P.globals.size<=ρ.base) (hT:jN ρ T a) {parts:Array (Nat×Operand)} (hok:∀ p∈parts.toList,rS P p.2=true) (hd:(parts.toList.map fun p=>(p.1,ev T p.2)).all (fun p=>gQ p.2)=true) :
  ∀ (i:Nat) (p p':Nat×Value),(parts.toList.map fun p=>(p.1,ev T p.2))[i]? = some p->((parts.map fun (i,x)=>(i,a.eval x)).toList)[i]? = some p'->p'.1=p.1/\aO ρ p.2 p'.2/\p.2≠undef:=by
 intro i p p' hp hp';have hdp:=List.all_eq_true.1 hd p (List.mem_of_getElem? hp);simp only [Array.toList_map,List.getElem?_map,Option.map_eq_some_iff] at hp hp';obtain ⟨q,hq,rfl⟩:=hp;obtain ⟨q',hq',rfl⟩:=hp';rw [hq] at hq'; simp only [Option.some.injEq] at hq'; subst hq';refine ⟨rfl,bY hg hT (hok q (List.mem_of_getElem? hq)),fun e =>?_⟩;rw [e] at hdp; simp [gQ,undef] at hdp
def lS (P:Program) (t:TypeId):Bool:=match eN P t with | some z=>z.cells.toList.all qP | none=>true
def jI (P:Program):Op->Bool
 | .build t _=>lS P t
 | .alloc t=>lS P t
 | .buildSlice t _ _=>match P.underlying t with | some (.slice e)=>lS P e | _=>true
 | .makeSlice t _ _=>match P.underlying t with | some (.slice e)=>lS P e | _=>true
 | .lookup t _ _ _=>match P.underlying t with | some (.map _ e)=>lS P e&&(match eN P e with | some z=>aCq z | none=>true) | _=>true
 | .mapEntry t _ _=>match P.underlying t with | some (.map _ e)=>lS P e&&(match eN P e with | some z=>aCq z | none=>true) | _=>true
 | .call c=>match c.callee,(c.argTypes[0]?).bind P.underlying with | .builtin .append,some (.slice e)=>lS P e | _,_=>true
 | _=>true
theorem aAR (hg:P.globals.size<=ρ.base) (hT:jN ρ T a) {o:Oper} (hok:∀ x∈o.op.operands.toList,rS P x=true) (hty:jI P o.op=true) (h:evP P T o.op=some v) :
  ∃ v',aO ρ v v'/\∀ w,(execOp a.eval o).run P w = .ok (.value v') w:=by
 have lift:∀ {s:Sem Value} {v':Value},aO ρ v v'->execOp a.eval o=(do pure (.value (<- s)):Sem Next)->fY P s v'->∃ v',aO ρ v v'/\∀ w,(execOp a.eval o).run P w = .ok (.value v') w :=
  fun hr hs hgv=>⟨_,hr,aE3 hs hgv⟩
 cases hop:o.op with
 | pick c x y =>
  rw [hop] at h hok;simp only [evP] at h;obtain ⟨v',hr,hgv⟩:=aE2 (P:=P) h (bY hg hT (hok c (by simp [Op.operands]))) (bY hg hT (hok x (by simp [Op.operands]))) (bY hg hT (hok y (by simp [Op.operands])))
  refine ⟨v',hr,fun w =>?_⟩;have:=hgv w;simp only [execOp,hop];simp at this ⊢
  revert this
  generalize (asBool (a.eval c)).run P w=r;cases r <;> simp
 | nilCheck x =>
  rw [hop] at h hok;simp only [evP] at h;have hx:=bY hg hT (hok x (by simp [Op.operands]))
  obtain ⟨x',hx'⟩:∃ x',a.eval x=x':=⟨_,rfl⟩;rw [hx'] at hx;unfold aI at h
  split at h
  ·rename_i b hb
   rw [hb] at hx;cases hx with
   | ptr _ a' r=>simp only [Option.some.injEq] at h; subst h; exact ⟨_,.ptr _ _ r,fun w=>by simp [execOp,hop,hx']⟩
  ·rename_i f c d hb
   rw [hb] at hx;cases hx with
   | func fn f f' c c' hf h1 hc h2=>simp only [Option.some.injEq] at h; subst h; exact ⟨_,.func _ f f' c c' hf h1 hc h2,fun w=>by simp [execOp,hop,hx']⟩
  ·rename_i t u hb
   rw [hb] at hx;cases hx with
   | iface t u u' r=>simp only [Option.some.injEq] at h; subst h; exact ⟨_,.iface _ _ _ r,fun w=>by simp [execOp,hop,hx']⟩
  ·simp at h
 | binOp op t x y ty =>
  rw [hop] at h hok;simp only [evP] at h;have hx:=bY hg hT (hok x (by simp [Op.operands]))
  have hy:=bY hg hT (hok y (by simp [Op.operands]))
  have fin:(aO ρ v v/\∀ w,(do eqGuard op t x y (a.eval x) (a.eval y); binOp op t (a.eval x) (a.eval y):Sem Value).run P w = .ok v w)->∃ v',aO ρ v v'/\∀ w,(execOp a.eval o).run P w = .ok (.value v') w :=
   fun ⟨h1,h2⟩=>lift h1 (by simp only [execOp,hop]) h2
  split at h
  ·exact fin (aBX h hx hy)
  ·exact fin (aBH h hx hy)
  ·rename_i ht; exact fin (aAG ht h hx hy)
  ·rename_i ht
   split at h
   ·rename_i hi; exact fin (aCl ht hi h hx hy)
   ·simp at h
  ·rename_i ht; exact fin (aCu ht h hx hy)
  ·rename_i ht; exact fin (aBw ht h hx hy)
  ·rename_i ht; exact fin (aCO ht h hx hy)
  ·rename_i ht
   split at h
   ·rename_i ks hk he; exact fin (tE hk he (by simp [gT,ht]) h hx hy)
   ·simp at h
  ·rename_i ht
   split at h
   ·rename_i ks hk he; exact fin (tE hk he (by simp [gT,ht]) h hx hy)
   ·simp at h
  ·simp at h
 | unOp op t x =>
  rw [hop] at h hok;simp only [evP] at h;obtain ⟨hr,hgv⟩:=aJ1 (P:=P) h (bY hg hT (hok x (by simp [Op.operands])))
  exact lift hr (by simp only [execOp,hop]) hgv
 | convert s d x =>
  rw [hop] at h hok;simp only [evP] at h;have hx:=bY hg hT (hok x (by simp [Op.operands]))
  split at h
  ·rename_i h1 h2
   obtain ⟨hr,hgv⟩:=aAr h1 h2 h hx;exact lift hr (by simp only [execOp,hop]) hgv
  ·rename_i h1 h2
   obtain ⟨hr,hgv⟩:=xZ h1 h2 h hx;exact lift hr (by simp only [execOp,hop]) hgv
  ·rename_i h1 h2
   obtain ⟨hr,hgv⟩:=aAF h1 h2 h hx;exact lift hr (by simp only [execOp,hop]) hgv
  ·simp at h
 | fieldAddr s x f =>
  rw [hop] at h hok;simp only [evP] at h;have hx:=bY hg hT (hok x (by simp [Op.operands]))
  split at h
  ·rename_i fs hs
   split at h
   ·rename_i fd hf
    split at h
    ·rename_i n hn
     obtain ⟨v',hr,hgv⟩:=aAA hs hf hn h hx;exact lift hr (by simp only [execOp,hop]) hgv
    ·simp at h
   ·simp at h
  ·simp at h
 | field t x f =>
  rw [hop] at h hok;simp only [evP] at h;have hx:=bY hg hT (hok x (by simp [Op.operands]))
  split at h
  ·rename_i fs hs
   split at h
   ·rename_i fd hf
    split at h
    ·rename_i n h1 h2
     obtain ⟨cs,v',hc,hr,hgv⟩:=vH h1 h2 h hx;refine lift (s:=Instr.field t (a.eval x) f) hr (by simp only [execOp,hop]) (fun w =>?_)
     simp [Instr.field,underlying,hs,hf,hc,asAgg,hgv w]
    ·rename_i n h1 h2
     obtain ⟨cs,v',hc,hr,hgv⟩:=vG h1 h2 h hx;refine lift (s:=Instr.field t (a.eval x) f) hr (by simp only [execOp,hop]) (fun w =>?_)
     simp [Instr.field,underlying,hs,hf,hc,asAgg,hgv w]
    ·simp at h
   ·simp at h
  ·simp at h
 | indexAddr t x i =>
  rw [hop] at h hok;simp only [evP] at h;have hx:=bY hg hT (hok x (by simp [Op.operands]))
  have hi:=bY hg hT (hok i (by simp [Op.operands]))
  split at h
  ·rename_i ht
   split at h
   ·rename_i s hs
    obtain ⟨v',hr,hgv⟩:=sQ ht hs h hx hi;exact lift hr (by simp only [execOp,hop]) hgv
   ·simp at h
  ·rename_i ht
   split at h
   ·rename_i s hs
    obtain ⟨v',hr,hgv⟩:=tP ht hs h hx hi;exact lift hr (by simp only [execOp,hop]) hgv
   ·simp at h
  ·simp at h
 | index t x i =>
  rw [hop] at h hok;simp only [evP] at h;have hx:=bY hg hT (hok x (by simp [Op.operands]))
  have hi:=bY hg hT (hok i (by simp [Op.operands]))
  split at h
  ·rename_i ht
   split at h
   ·rename_i s h1 h2
    obtain ⟨v',hr,hgv⟩:=aBz ht h1 h2 h hx hi;exact lift hr (by simp only [execOp,hop]) hgv
   ·rename_i s h1 h2
    obtain ⟨v',hr,hgv⟩:=aBA ht h1 h2 h hx hi;exact lift hr (by simp only [execOp,hop]) hgv
   ·simp at h
  ·rename_i ht
   obtain ⟨hr,hgv⟩:=aDw ht h hx hi;exact lift hr (by simp only [execOp,hop]) hgv
  ·simp at h
 | extract t i =>
  rw [hop] at h hok;simp only [evP] at h;obtain ⟨v',hr,hgv⟩:=aGJ (P:=P) h (bY hg hT (hok t (by simp [Op.operands])))
  exact lift hr (by simp only [execOp,hop]) hgv
 | slice t x lo hi mx =>
  rw [hop] at h hok;simp only [evP] at h;have hx:=bY hg hT (hok x (by simp [Op.operands]))
  have hl:=qJ (lo:=lo) hg hT (fun y hy=>hok y (by simp [Op.operands]; simp at hy; simp [hy]))
  have hh:=qJ (lo:=hi) hg hT (fun y hy=>hok y (by simp [Op.operands]; simp at hy; simp [hy]))
  have hm:=qJ (lo:=mx) hg hT (fun y hy=>hok y (by simp [Op.operands]; simp at hy; simp [hy]))
  split at h
  ·rename_i ht
   split at h
   ·obtain ⟨hr,hgv⟩:=aCT ht h hx hl hh
    exact lift hr (by simp only [execOp,hop]; rfl) hgv
   ·simp at h
  ·rename_i ht
   split at h
   ·rename_i s hs
    obtain ⟨v',hr,hgv⟩:=aC7 ht hs h hx hm hh hl;exact lift hr (by simp only [execOp,hop]) hgv
   ·simp at h
  ·simp at h
 | sliceToArrayPointer d x =>
  rw [hop] at h hok;simp only [evP] at h
  split at h
  ·rename_i ht
   obtain ⟨v',hr,hgv⟩:=aBO ht h (bY hg hT (hok x (by simp [Op.operands])))
   exact lift hr (by simp only [execOp,hop]) hgv
  ·simp at h
 | makeInterface t x =>
  rw [hop] at h hok;simp only [evP] at h;have hx:=bY hg hT (hok x (by simp [Op.operands]))
  split at h
  ·simp at h
  ·rename_i d hni hd
   simp only [Option.some.injEq] at h; subst h;refine lift (s:=Instr.makeInterface t (a.eval x)) (.iface t _ _ hx) (by simp only [execOp,hop]) (fun w =>?_)
   simp only [Instr.makeInterface,Sem.run_bind,aT hd,Result.andThen_ok];cases d <;> first | rfl | (exact absurd rfl (hni _))
  ·simp at h
 | makeFunc fn f c =>
  rw [hop] at h hok;cases fn with
  | func g =>
   simp only [evP,Option.some.injEq] at h; subst h;have hf:=pN hg hT f.toList (fun x hx=>hok x (by simp only [Op.operands,Array.toList_append,List.mem_append]; exact .inl hx))
   have hc:=pN hg hT c.toList (fun x hx=>hok x (by simp only [Op.operands,Array.toList_append,List.mem_append]; exact .inr hx))
   refine lift (s:=Instr.makeFunc (.func g) (f.map a.eval) (c.map a.eval)) (v' := .func (.func g) ⟨f.toList.map a.eval⟩ ⟨c.toList.map a.eval⟩) (.func _ _ _ _ _ hf.1 hf.2 hc.1 hc.2) (by simp only [execOp,hop]) (fun w =>?_)
   have e1:(⟨f.toList.map a.eval⟩:Array Value)=f.map a.eval:=by apply Array.ext'; simp
   have e2:(⟨c.toList.map a.eval⟩:Array Value)=c.map a.eval:=by apply Array.ext'; simp
   rw [e1,e2]; rfl
  | _=>simp [evP] at h
 | build t parts =>
  rw [hop] at h hok hty;simp only [evP] at h;have hpk:∀ p∈parts.toList,rS P p.2=true:=fun p hp=>hok p.2 (by simp only [Op.operands]; exact List.mem_map_of_mem hp)
  split at h
  ·rename_i fs z ht hz
   have hz':z.cells.toList.all qP=true:=by simpa [jI,lS,hz] using hty
   split at h
   ·rename_i places hpl
    unfold aX at h;rw [Option.ite_none_right_eq_some] at h;obtain ⟨hd,h⟩:=h;simp only [Option.map_eq_some_iff] at h;obtain ⟨ds,hds,rfl⟩:=h;obtain ⟨ds',h1,h2⟩:=oI (ρ:=ρ) _ _ ((parts.map fun (i,x)=>(i,a.eval x)).toList) _ _ _ hds (by simp) (uY hg hT hpk hd) (bG.refl_lit hz')
    refine lift (s:=Instr.build t (parts.map fun (i,x)=>(i,a.eval x))) h2.agg (by simp only [execOp,hop]) (fun w =>?_)
    have hb:=aBo hpl w
    have h1':Instr.fill (fun x=>places.toArray[x]?) z.cells ((parts.map fun (i,x)=>(i,a.eval x)).toList)=some ds':=by
     have e:(fun x:Nat=>places.toArray[x]?)=(fun x:Nat=>places[x]?):=by funext x; simp
     rw [e]; exact h1
    simp only [Instr.build,Sem.run_bind,gO hz,Result.andThen_ok,aT ht,Array.mapM_eq_mapM_toList,Sem.run_map,hb,h1']
    rfl
   ·simp at h
  ·rename_i k e z ht hz
   have hz':z.cells.toList.all qP=true:=by simpa [jI,lS,hz] using hty
   split at h
   ·rename_i s hs
    unfold mU at h;rw [Option.ite_none_right_eq_some] at h;obtain ⟨hd,h⟩:=h;simp only [Option.map_eq_some_iff] at h;obtain ⟨ds,hds,rfl⟩:=h;obtain ⟨ds',h1,h2⟩:=oI (ρ:=ρ) _ _ ((parts.map fun (i,x)=>(i,a.eval x)).toList) _ _ _ hds (by simp) (uY hg hT hpk hd) (bG.refl_lit hz')
    refine lift (s:=Instr.build t (parts.map fun (i,x)=>(i,a.eval x))) h2.agg (by simp only [execOp,hop]) (fun w =>?_)
    simp only [Instr.build,Sem.run_bind,gO hz,Result.andThen_ok,aT ht,cC hs,h1]
    rfl
   ·simp at h
  ·simp at h
 | call c =>
  rw [hop] at h hok;simp only [evP,nU] at h;have hargs:=pN hg hT c.args.toList (fun x hx=>hok x (by simp only [Op.operands,Call.operands,Array.toList_append,List.mem_append]; exact .inr hx))
  have hat:∀ x,c.args[0]? = some x->aO ρ (ev T x) (a.eval x)/\(c.args.map a.eval)[0]? = some (a.eval x):=fun x hx =>
   ⟨bY hg hT (hok x (by simp only [Op.operands,Call.operands,Array.toList_append,List.mem_append]; exact .inr (List.mem_of_getElem? (i:=0) (by simpa using hx)))),by simp [hx]⟩
  split at h
  ·rename_i hc
   split at h
   ·rename_i x hu hx
    simp only [Option.bind_eq_some_iff] at hu;obtain ⟨t,h1,h2⟩:=hu;obtain ⟨hr,hv⟩:=hat x hx;obtain ⟨hr',hgv⟩:=aBt (P:=P) (ty:=o.type) h1 hv h2 h hr;exact ⟨v,hr',fun w=>by simp [execOp,hop,resolve,hc,invoke,builtin,hgv w]⟩
   ·rename_i e x hu hx
    simp only [Option.bind_eq_some_iff] at hu;obtain ⟨t,h1,h2⟩:=hu;obtain ⟨hr,hv⟩:=hat x hx;obtain ⟨hr',hgv⟩:=aCa (P:=P) (ty:=o.type) h1 hv h2 h hr;exact ⟨v,hr',fun w=>by simp [execOp,hop,resolve,hc,invoke,builtin,hgv w]⟩
   ·rename_i n e x hu hx
    simp only [Option.bind_eq_some_iff] at hu;obtain ⟨t,h1,h2⟩:=hu;obtain ⟨hr,hv⟩:=hat x hx;simp only [Option.some.injEq] at h; subst h;exact ⟨_,.int _ _,fun w=>by simp [execOp,hop,resolve,hc,invoke,builtin,Builtin.len_,h1,hx,underlying,h2,goInt]⟩
   ·simp at h
  ·rename_i hc
   have hl:c.args.toList.map a.eval=(c.args.map a.eval).toList:=by simp
   unfold jH at h
   split at h
   ·simp at h
   ·rename_i x l hm
    rw [hm] at hargs;obtain ⟨y,k,hk,hy,hyk⟩:=hargs.cases_cons;obtain ⟨v',hr,hgv⟩:=rR (P:=P) (g:=Builtin.min2) (fun _ _ _ _ _ h1 h2 h3=>aEa h1 h2 h3) l k x y v h hy hyk;refine ⟨v',hr,fun w =>?_⟩;rw [hl] at hk;simp [execOp,hop,resolve,hc,invoke,builtin,Builtin.min_];rw [hl,hk];simp [hgv w]
  ·rename_i hc
   have hl:c.args.toList.map a.eval=(c.args.map a.eval).toList:=by simp
   unfold jH at h
   split at h
   ·simp at h
   ·rename_i x l hm
    rw [hm] at hargs;obtain ⟨y,k,hk,hy,hyk⟩:=hargs.cases_cons;obtain ⟨v',hr,hgv⟩:=rR (P:=P) (g:=Builtin.max2) (fun _ _ _ _ _ h1 h2 h3=>aFb h1 h2 h3) l k x y v h hy hyk;refine ⟨v',hr,fun w =>?_⟩;rw [hl] at hk;simp [execOp,hop,resolve,hc,invoke,builtin,Builtin.max_];rw [hl,hk];simp [hgv w]
  ·simp at h
 | _=>rw [hop] at h; simp [evP] at h
end
end Go.AM
end
section
namespace Go.AM
open Go.RowKit (Below)
section
variable {P:Program} {ρ:Inj} {T:Env} {a:Act} {v:Value} {w0 w:World} {H:AH}
theorem yU {C:Array Value} {e:TypeId} {fr:Nat×Nat} {b:Nat} (h:w.heap[b]? = some (.cells C e fr)) (i:Nat):w.cell? ⟨b,i,none⟩=C[i]? :=by
 simp [World.cell?,h]
theorem R.cell (hR:R P ρ w0 H w) {A A':Addr} (r:rT ρ A A') {i:Nat} {x:Value} (hs:A.spot=none) (h:(H.get A.block).cell (A.off+i)=some x):∃ y,w.cell? (A'.add i)=some y/\aO ρ x y:=by
 have ha:∀ B:Addr,B.spot=none->B.add i=⟨B.block,B.off+i,none⟩:=by
  intro B hB;obtain ⟨b,o,s⟩:=B;simp only at hB; subst hB;unfold Addr.add; split
  ·simp [*]
  ·rfl
 rcases r with ⟨hb,rfl⟩ | ⟨hb,_,l,hl,rfl⟩
 ·have ho:=hR.ro _ hb
  cases hg:H.get A'.block with
  | ro f =>
   rw [hg] at ho h;obtain ⟨h1,h2⟩:=ho _ _ h;refine ⟨x,?_,?_⟩
   ·rw [ha A' hs,hR.below.cell (p:=⟨A'.block,A'.off+i,none⟩) (Nat.lt_of_lt_of_le hb hR.size)]; exact h1
   ·exact h2.rel
  | cells c fx=>rw [hg] at ho; exact ho.elim
  | _=>rw [hg] at h; simp [cH.cell] at h
 ·obtain ⟨_,_,_,_,ho⟩:=hR.own _ _ hl
  cases hg:H.get A.block with
  | cells c fx =>
   rw [hg] at ho h;obtain ⟨_,C,e,fr,h1,h2,h3,_,h5⟩:=ho;obtain ⟨y,hy,hr⟩:=h5 _ _ h;refine ⟨y,?_,hr⟩;rw [ha _ rfl,yU h1,<- hy]
   congr 1; simp only; omega
  | ro f=>rw [hg] at ho; exact ho.elim
  | _=>rw [hg] at h; simp [cH.cell] at h
theorem aA3 {f:Nat->Option Value}:∀ (n i:Nat) (l:List Value),qN f i n=some l->l.length=n/\∀ j x,l[j]? = some x->f (i+j)=some x
 | 0,i,l,h=>by simp only [qN,Option.some.injEq] at h; subst h; exact ⟨rfl,fun j x hx=>by simp at hx⟩
 | n+1,i,l,h=>by
  simp only [qN,Option.bind_eq_some_iff,Option.map_eq_some_iff] at h;obtain ⟨y,hy,l',hl',rfl⟩:=h;obtain ⟨h1,h2⟩:=aA3 n (i+1) l' hl';refine ⟨by simp [h1],fun j x hx =>?_⟩
  cases j with
  | zero=>simp at hx; subst hx; exact hy
  | succ j=>simp at hx; have:=h2 j x hx; rw [<- this]; congr 1; omega
theorem nJ {o:cH} {i n:Nat} {l:List Value} (h:o.row i n=some l):l.length=n/\∀ j x,l[j]? = some x->o.cell (i+j)=some x:=by
 unfold cH.row at h
 split at h
 ·rename_i c fx
  rw [Option.ite_none_right_eq_some] at h;obtain ⟨hle,h⟩:=h;simp only [Option.some.injEq] at h; subst h;refine ⟨by simp; omega,fun j x hx =>?_⟩
  rw [List.getElem?_take] at hx
  split at hx
  ·rw [List.getElem?_drop] at hx; exact hx
  ·simp at hx
 ·exact aA3 n i l h
 ·simp at h
theorem R.row (hR:R P ρ w0 H w) {A A':Addr} (r:rT ρ A A') {n:Nat} {l:List Value} (hs:A.spot=none) (h:(H.get A.block).row A.off n=some l) :
  ∃ l',bG ρ l l'/\l'.length=n/\∀ j x,l'[j]? = some x->w.cell? (A'.add j)=some x:=by
 obtain ⟨hlen,hc⟩:=nJ h
 have key:∀ (l:List Value) (k:Nat),(∀ j x,l[j]? = some x->∃ y,w.cell? (A'.add (k+j))=some y/\aO ρ x y)->∃ l',bG ρ l l'/\∀ j x,l'[j]? = some x->w.cell? (A'.add (k+j))=some x:=by
  intro l
  induction l with
  | nil=>intro k _; exact ⟨[],bG.nil,fun j x hx=>by simp at hx⟩
  | cons x l ih =>
   intro k hk;obtain ⟨y,hy,hr⟩:=hk 0 x rfl;obtain ⟨l',h1,h2⟩:=ih (k+1) (fun j z hz=>by have:=hk (j+1) z (by simpa using hz); rw [show k+1+j=k+(j+1) from by omega]; exact this)
   refine ⟨y :: l',bG.cons hr h1,fun j z hz =>?_⟩;cases j with
   | zero=>simp at hz; subst hz; exact hy
   | succ j=>simp at hz; have:=h2 j z hz; rw [show k+(j+1)=k+1+j from by omega]; exact this
 obtain ⟨l',h1,h2⟩:=key l 0 (fun j x hx=>by rw [Nat.zero_add]; exact hR.cell r hs (hc j x hx))
 exact ⟨l',h1,h1.1▸hlen,fun j x hx=>by have:=h2 j x hx; rwa [Nat.zero_add] at this⟩
theorem vW (hR:R P ρ w0 H w) {t:Nat} {p p':Value} (ht:gT P t=some false) (h:aC p H=some v) (hp:aO ρ p p'):∃ v',aO ρ v v'/\(Instr.loadAt t p').run P w = .ok v' w:=by
 unfold aC at h
 split at h
 ·rename_i A
  split at h
  ·simp at h
  ·rename_i hs
   have hs:A.spot=none:=by simpa using hs
   cases hp with
   | ptr _ A' r =>
    obtain ⟨y,hy,hr⟩:=hR.cell r (i:=0) hs (by simpa using h)
    rw [add_zero] at hy;refine ⟨y,hr,?_⟩;simp [Instr.loadAt,Instr.sureAddr,loadVar,kB ht,hy]
 ·simp at h
theorem vN (hR:R P ρ w0 H w) {t n:Nat} {p p':Value} (ht:gT P t=some true) (hn:cT P t=some n) (h:aE n p H=some v) (hp:aO ρ p p'):∃ v',aO ρ v v'/\(Instr.loadAt t p').run P w = .ok v' w:=by
 unfold aE at h
 split at h
 ·rename_i A
  split at h
  ·simp at h
  ·rename_i hs
   have hs:A.spot=none:=by simpa using hs
   simp only [Option.map_eq_some_iff] at h;obtain ⟨l,hl,rfl⟩:=h;cases hp with
   | ptr _ A' r =>
    obtain ⟨l',h1,h2,h3⟩:=hR.row r hs hl;refine ⟨.agg l'.toArray,h1.agg,?_⟩;have:=run_loadCells_list (P:=P) (w:=w) A' l' h3;rw [h2] at this;simp [Instr.loadAt,Instr.sureAddr,loadVar,kB ht,cC hn,this]
 ·simp at h
theorem aDT (hR:R P ρ w0 H w) {s d e:Nat} {x x':Value} (hs:P.underlying s=some (.slice e)) (he:P.underlying e=some (.int .u8)) (hd:P.underlying d=some .string) (h:xJ x H=some v) (hx:aO ρ x x') :
  aO ρ v v/\(convert s d x').run P w = .ok v w:=by
 unfold xJ at h
 split at h
 ·simp only [Option.some.injEq] at h; subst h
  cases hx with
  | snil=>exact ⟨.string _,by rw [run_convert_bytes_string w s d e none _ _ hs he hd]; simp [Conv.bytesToString]⟩
 ·rename_i A n c
  split at h
  ·rename_i hn0
   subst hn0;simp only [Option.some.injEq] at h; subst h;refine ⟨.string _,?_⟩;cases hx with
   | slc _ A' _ _ c' r =>
    rw [run_convert_bytes_string w s d e (some A') 0 c' hs he hd];rw [run_bytesToString w A' 0 c' [] (by simp [loadCells,loadCellsFrom])]
    simp
  rename_i hnz
  split at h
  ·simp at h
  ·rename_i hsp
   have hsp:A.spot=none:=by simpa using hsp
   simp only [Option.bind_eq_some_iff,Option.map_eq_some_iff] at h;obtain ⟨l,hl,bs,hbs,rfl⟩:=h;refine ⟨.string _,?_⟩;cases hx with
   | slc _ A' _ _ c' r =>
    rw [run_convert_bytes_string w s d e (some A') n c' hs he hd]
    have hns:∀ (l:List Value) (bs:List UInt8),l.mapM wY=some bs->∃ ns:List Int,l=ns.map (Value.int .u8)/\bs=ns.map (fun n=>UInt8.ofNat n.toNat):=by
     intro l
     induction l with
     | nil=>intro bs h; simp at h; subst h; exact ⟨[],rfl,rfl⟩
     | cons x l ih =>
      intro bs h;simp only [List.mapM_cons,Option.bind_eq_bind,Option.bind_eq_some_iff,Option.pure_def,Option.some.injEq] at h;obtain ⟨b,hb,bs',hbs',rfl⟩:=h;obtain ⟨ns,rfl,rfl⟩:=ih bs' hbs';unfold wY at hb
      split at hb
      ·rename_i m
       simp only [Option.some.injEq] at hb; subst hb;exact ⟨m :: ns,rfl,rfl⟩
      ·simp at hb
    obtain ⟨ns,rfl,rfl⟩:=hns l bs hbs
    have fin:∀ (ns:List Int) (s:ByteArray),ns.foldl (fun r n=>r.push (UInt8.ofNat n.toNat)) s=⟨s.data++(ns.map (fun n=>UInt8.ofNat n.toNat)).toArray⟩:=by
     intro ns
     induction ns with
     | nil=>intro s; simp
     | cons m ns ih=>intro s; rw [List.foldl_cons,ih]; simp [ByteArray.push]
    have hload:(loadCells A' n).run P w = .ok (ns.map (Value.int .u8)).toArray w:=by
     rcases r with ⟨r,_⟩ | ⟨rfl,_⟩ | ⟨rfl,_⟩
     ·obtain ⟨l',h1,h2,h3⟩:=hR.row r hsp hl
      have hl':l'=ns.map (Value.int .u8):=by
       apply List.ext_getElem?;intro j;cases hj:(ns.map (Value.int .u8))[j]? with
       | none =>
        rw [List.getElem?_eq_none_iff] at hj ⊢;rw [<- h1.1]; exact hj
       | some x =>
        obtain ⟨y,hy,hr⟩:=h1.get hj;rw [hy]
        have hf:flat x=true:=by
         rw [List.getElem?_map] at hj;simp only [Option.map_eq_some_iff] at hj;obtain ⟨m,_,rfl⟩:=hj
         rfl
        rw [hr.flat hf]
      rw [<- hl',<- h2];exact run_loadCells_list w A' l' h3
     ·have:=(nJ hl).1
      have:ns=[]:=by cases ns <;> simp_all
      subst this;simp [loadCells,loadCellsFrom]
     ·exact absurd rfl hnz
    rw [run_bytesToString w A' n c' ns hload,fin];simp [ByteArray.empty,ByteArray.emptyWithCapacity]
    rfl
 ·simp at h
theorem aCt (hR:R P ρ w0 H w) {ats:Array TypeId} {args:Array Value} {t ty k e:Nat} {x x':Value} (h1:ats[0]? = some t) (h2:args[0]? = some x') (ht:P.underlying t=some (.map k e)) (h:rJ x H=some v) (hx:aO ρ x x') :
  aO ρ v v/\(Builtin.len_ ats ty args).run P w = .ok v w:=by
 unfold rJ at h
 split at h
 ·simp only [Option.some.injEq] at h; subst h
  cases hx;exact ⟨.int _ _,by simp [Builtin.len_,h1,h2,underlying,ht,goInt]⟩
 ·rename_i r
  split at h
  ·rename_i es cl rw_ hg
   simp only [Option.some.injEq] at h; subst h;refine ⟨.int _ _,?_⟩;cases hx with
   | map _ r' hr =>
    have:∃ es',w.heap[r']? = some (.map es' cl)/\es'.size=es.length:=by
     rcases hr with ⟨hb,rfl⟩ | ⟨hb,l,hl,rfl⟩
     ·have ho:=hR.ro _ hb
      rw [hg] at ho;obtain ⟨_,h3,_⟩:=ho;exact ⟨es.toArray,by rw [hR.below.block _ (Nat.lt_of_lt_of_le hb hR.size)]; exact h3,by simp⟩
     ·obtain ⟨_,_,_,_,ho⟩:=hR.own _ _ hl
      rw [hg] at ho;obtain ⟨es',h3,h4⟩:=ho;exact ⟨es',h3,by have:=h4.len; simpa using this.symm⟩
    obtain ⟨es',h3,h4⟩:=this;have h5:=run_getObj_map (P:=P) w _ _ _ h3;simp [Builtin.len_,h1,h2,underlying,ht,goInt,h5,h4]
  ·simp at h
 ·simp at h
theorem R.map (hR:R P ρ w0 H w) {r r':Nat} {es:List MapEntry} {cl:Nat} {b:Bool} (hr:aGL ρ r r') (hg:H.get r = .map es cl b) :
  ∃ es',w.heap[r']? = some (.map es' cl)/\lC ρ es es'.toList/\(b=true->ρ.base<=r/\∃ l,ρ.loc r=some l/\r'=l.block):=by
 rcases hr with ⟨hb,rfl⟩ | ⟨hb,l,hl,rfl⟩
 ·have ho:=hR.ro _ hb
  rw [hg] at ho;obtain ⟨h1,h3,h4⟩:=ho;refine ⟨es.toArray,by rw [hR.below.block _ (Nat.lt_of_lt_of_le hb hR.size)]; exact h3,⟨by simp,fun i e e' he he' =>?_⟩,fun h=>by simp [h1] at h⟩
  have he'':es[i]? = some e':=by simpa using he'
  rw [he] at he''; simp only [Option.some.injEq] at he''; subst he'';obtain ⟨g1,g2⟩:=h4 e (List.mem_of_getElem? he);exact ⟨rfl,g1.rel,g2.rel⟩
 ·obtain ⟨_,_,_,_,ho⟩:=hR.own _ _ hl
  rw [hg] at ho;obtain ⟨es',h3,h4⟩:=ho;exact ⟨es',h3,h4,fun _=>⟨hb,l,hl,rfl⟩⟩
def pM:Nat->TypeDesc->Prop
 | 0,.int _=>True
 | 1,.string=>True
 | 2,.bool=>True
 | _,_=>False
theorem tK {t kd:Nat} (h:lA P t=some kd):∃ d,P.underlying t=some d/\pM kd d:=by
 unfold lA at h
 split at h
 ·rename_i k hu; simp only [Option.some.injEq] at h; subst h; exact ⟨_,hu,trivial⟩
 ·rename_i hu; simp only [Option.some.injEq] at h; subst h; exact ⟨_,hu,trivial⟩
 ·rename_i hu; simp only [Option.some.injEq] at h; subst h; exact ⟨_,hu,trivial⟩
 ·simp at h
theorem aCn {kd:Nat} {d:TypeDesc} {x y:Value} {b:Bool} (hk:pM kd d) (h:cB kd x y=some b):Instr.sameNow d x y=some b/\flat x=true/\flat y=true:=by
 unfold cB at h
 split at h
 ·rw [Option.ite_none_right_eq_some] at h
  obtain ⟨rfl,h⟩:=h;simp only [Option.some.injEq] at h; subst h;cases d <;> simp [pM] at hk
  exact ⟨by simp [Instr.sameNow],rfl,rfl⟩
 ·simp only [Option.some.injEq] at h; subst h
  cases d <;> simp [pM] at hk
  exact ⟨by simp [Instr.sameNow],rfl,rfl⟩
 ·simp only [Option.some.injEq] at h; subst h
  cases d <;> simp [pM] at hk
  exact ⟨by simp [Instr.sameNow],rfl,rfl⟩
 ·simp at h
theorem lC.tail {e e':MapEntry} {es es':List MapEntry} (h:lC ρ (e :: es) (e' :: es')):lC ρ es es' :=
 ⟨by have:=h.len; simpa using this,fun i x y hx hy=>h.at_ (i+1) x y (by simpa using hx) (by simpa using hy)⟩
theorem kQ {kd:Nat} {d:TypeDesc} (hk:pM kd d) {k k':Value} (hkk:aO ρ k k'):∀ (es es':List MapEntry) (r:Option (Nat×Value)) (n:Nat),iZ kd k es=some r->lC ρ es es' ->
  ∃ r',Instr.findNow d k' es' n=some r'/\(r=none->r'=none)/\∀ i u,r=some (i,u)->∃ u',r'=some (n+i,u')/\aO ρ u u'/\i<es.length
 | [],es',r,n,h,he=>by
  have:es'=[]:=by have:=he.len; cases es' <;> simp_all
  subst this;simp only [iZ,Option.some.injEq] at h; subst h;exact ⟨none,rfl,fun _=>rfl,fun i u h=>by simp at h⟩
 | e :: es,es',r,n,h,he=>by
  cases es' with
  | nil=>have:=he.len; simp at this
  | cons e' es' =>
   obtain ⟨_,hkey,hval⟩:=he.at_ 0 e e' rfl rfl;simp only [iZ,Option.bind_eq_some_iff] at h;obtain ⟨b,hb,h⟩:=h;obtain ⟨h1,h2,h3⟩:=aCn hk hb;obtain rfl:=hkk.flat h2;have hke:=hkey.flat h3;cases b with
   | true =>
    simp only [Option.some.injEq] at h; subst h;refine ⟨some (n,e'.val),by simp [Instr.findNow,hke,h1],fun h=>by simp at h,fun i u h =>?_⟩
    simp only [Option.some.injEq,Prod.mk.injEq] at h;obtain ⟨rfl,rfl⟩:=h;exact ⟨e'.val,rfl,hval,by simp⟩
   | false =>
    simp only [Option.map_eq_some_iff] at h;obtain ⟨q,hq,rfl⟩:=h;obtain ⟨r',g1,g2,g3⟩:=kQ hk hkk es es' q (n+1) hq he.tail;refine ⟨r',by simp [Instr.findNow,hke,h1,g1],fun h=>g2 (by cases q <;> simp_all),fun i u h =>?_⟩
    cases q with
    | none=>simp at h
    | some p =>
     simp only [Option.map_some,Option.some.injEq,Prod.mk.injEq] at h;obtain ⟨rfl,rfl⟩:=h;obtain ⟨u',a1,a2,a3⟩:=g3 p.1 p.2 rfl;exact ⟨u',by rw [a1]; congr 2; omega,a2,by simp; omega⟩
theorem tX {kd:Nat} {d:TypeDesc} (hk:pM kd d) (k:Value) (_h:True):(∀ (w:World) (e:Bool) (kt n:Nat),P.underlying kt=some d->(Instr.checkKey e (n+1) kt k).run P w = .ok () w):=by
 intro w e kt n hu;unfold Instr.checkKey;simp only [Sem.run_bind,aT hu,Result.andThen_ok];unfold pM at hk
 split at hk <;> first | (cases k <;> rfl) | exact hk.elim
theorem lB {kt:TypeId} {d:TypeDesc} {k:Value} {l:List MapEntry} {r:Option (Nat×Value)} (hd:P.underlying kt=some d) (h:Instr.findNow d k l 0=some r) (w:World) :
  (Instr.findKey kt k l).run P w = .ok r w:=by simp [Instr.findKey,underlying,hd,h]
theorem aE8 (hR:R P ρ w0 H w) {t kt e kd:Nat} {z m m' k k':Value} {ok:Bool} (ht:P.underlying t=some (.map kt e)) (hz:eN P e=some z) (hkd:lA P kt=some kd) (hlz:aCq z=true)
  (h:look kd z ok m k H=some v) (hm:aO ρ m m') (hk:aO ρ k k'):∃ v',aO ρ v v'/\(Instr.lookup t m' k' ok).run P w = .ok v' w:=by
 obtain ⟨d,hd,hkd'⟩:=tK hkd;unfold look at h;simp only [Option.bind_eq_some_iff,Option.map_eq_some_iff] at h;obtain ⟨es,hes,r,hr,rfl⟩:=h
 have he:∃ es':Array MapEntry,lC ρ es es'.toList/\((m' = .map none/\es' = #[])\/∃ q cl,m' = .map (some q)/\w.heap[q]? = some (.map es' cl)):=by
  unfold lJ at hes
  split at hes
  ·simp only [Option.some.injEq] at hes; subst hes
   cases hm;exact ⟨#[],⟨rfl,fun i e e' h=>by simp at h⟩,.inl ⟨rfl,rfl⟩⟩
  ·rename_i q
   split at hes
   ·rename_i es0 cl b hg
    simp only [Option.some.injEq] at hes; subst hes;cases hm with
    | map _ q' hq =>
     obtain ⟨es',h1,h2,_⟩:=hR.map hq hg;exact ⟨es',h2,.inr ⟨q',cl,rfl,h1⟩⟩
   ·simp at hes
  ·simp at hes
 obtain ⟨es',her,hrun⟩:=he;obtain ⟨r',g1,g2,g3⟩:=kQ hkd' hk es es'.toList r 0 hr her;have hck:=fun e=>tX (P:=P) hkd' k' trivial w e kt 9999 hd;have hfk:=lB (P:=P) hd g1 w
 have main:∀ (v:Value) (b:Bool),(r'=none->v=z/\b=false)->(∀ i u,r'=some (i,u)->v=u/\b=true)->(Instr.lookup t m' k' ok).run P w = .ok (if ok then .tuple #[v,.bool b] else v) w:=by
  intro v b h1 h2;rcases hrun with ⟨rfl,rfl⟩ | ⟨q,cl,rfl,hq⟩
  ·simp only [Instr.lookup,Sem.run_bind,aT ht,Result.andThen_ok,Sem.run_pure,hck,hfk]
   cases r' with
   | none =>
    obtain ⟨rfl,rfl⟩:=h1 rfl;simp only [Sem.run_bind,gO hz,Result.andThen_ok,Sem.run_pure]
   | some p =>
    obtain ⟨rfl,rfl⟩:=h2 p.1 p.2 rfl;simp only [Sem.run_bind,Sem.run_pure,Result.andThen_ok]
  ·have h5:=run_getObj_map (P:=P) w _ _ _ hq
   simp only [Instr.lookup,Sem.run_bind,aT ht,Result.andThen_ok,Sem.run_pure,h5,hck,hfk];cases r' with
   | none =>
    obtain ⟨rfl,rfl⟩:=h1 rfl;simp only [Sem.run_bind,gO hz,Result.andThen_ok,Sem.run_pure]
   | some p =>
    obtain ⟨rfl,rfl⟩:=h2 p.1 p.2 rfl;simp only [Sem.run_bind,Sem.run_pure,Result.andThen_ok]
 cases r with
 | none =>
  have:=g2 rfl; subst this;refine ⟨_,?_,main z false (fun _=>⟨rfl,rfl⟩) (fun i u h=>by simp at h)⟩
  cases ok
  ·exact oZ hlz
  ·exact (bG.cons (oZ hlz) (bG.cons (.bool false) bG.nil)).tuple
 | some p =>
  obtain ⟨u',a1,a2,_⟩:=g3 p.1 p.2 rfl;subst a1;refine ⟨_,?_,main u' true (fun h=>by simp at h) (fun i u h=>by simp at h; exact ⟨h.2,rfl⟩)⟩
  cases ok
  ·exact a2
  ·exact (bG.cons a2 (bG.cons (.bool true) bG.nil)).tuple
theorem aA6 {ρ:Inj}:∀ {es es':List MapEntry},lC ρ es es'->∀ (st:Nat) (e:MapEntry),es.find? (fun e=>e.born == st)=some e->∃ e',es'.find? (fun e=>e.born == st)=some e'/\aO ρ e.key e'.key/\aO ρ e.val e'.val
 | [],_,_,st,e,h=>by simp at h
 | x :: es,[],hr,st,e,h=>by have:=hr.len; simp at this
 | x :: es,y :: es',hr,st,e,h=>by
  obtain ⟨h1,h2,h3⟩:=hr.at_ 0 x y rfl rfl;simp only [List.find?_cons] at h ⊢;rw [<- h1];cases hb:(x.born == st) with
  | true =>
   rw [hb] at h;simp only [Option.some.injEq] at h;subst h;exact ⟨y,rfl,h2,h3⟩
  | false =>
   rw [hb] at h;simp only at h ⊢;exact aA6 (es:=es) (es':=es') ⟨by have:=hr.len; simpa using this,fun i a b ha hb=>hr.at_ (i+1) a b (by simpa using ha) (by simpa using hb)⟩ st e h
theorem aB1 (hR:R P ρ w0 H w) {x x':Value} (h:oW x H=some v) (hx:aO ρ x x'):∃ v',aO ρ v v'/\(Instr.entry x').run P w = .ok v' w:=by
 unfold oW at h
 split at h
 ·rename_i r
  split at h
  ·rename_i m since eS last hg
   split at h
   ·rename_i stamp hst
    split at h
    ·rename_i es cl rw_ hgm
     rw [Option.ite_none_right_eq_some] at h;obtain ⟨hcl,h⟩:=h;rw [Option.map_eq_some_iff] at h;obtain ⟨e,he,rfl⟩:=h;cases hx with
     | ptr _ A' ra =>
      rcases ra with ⟨hb,rfl⟩ | ⟨hb,_,l,hl,rfl⟩
      ·have:=hR.ro _ hb
       simp only at this;rw [hg] at this; exact this.elim
      ·have ho:=(hR.own _ _ hl).2.2.2.2
       simp only at ho;rw [hg] at ho;obtain ⟨hs0,r',hr,hobj⟩:=ho;obtain ⟨es',h3,h4,_⟩:=hR.map hr hgm;obtain ⟨e',he',hk,hv⟩:=aA6 h4 stamp e he;simp only [hs0,Nat.zero_add];have hgo:(getObj l.block).run P w = .ok (.mapIter (some r') since eS.toArray last) w:=by simp [getObj,Sem.run,hobj]
       have hgm':=run_getObj_map (P:=P) w _ _ _ h3;have hback:eS.toArray.back? = some stamp:=by rw [List.back?_toArray]; exact hst
       have hfind:es'.find? (fun e=>e.born == stamp)=some e':=by rw [<- Array.find?_toList]; exact he'
       refine ⟨.tuple #[e'.key,e'.val],(bG.cons hk (bG.cons hv bG.nil)).tuple,?_⟩;subst hcl;simp only [Instr.entry,Sem.run_bind,hgo,Result.andThen_ok,hback,hgm',bne_self_eq_false,Bool.false_eq_true,if_false];simp only [Sem.run_pure,Result.andThen_ok,hfind]
    ·simp at h
   ·simp at h
  ·simp at h
 ·simp at h
theorem aAW (hR:R P ρ w0 H w) (hT:jN ρ T a) {o:Oper} (hok:∀ x∈o.op.operands.toList,rS P x=true) (hty:jI P o.op=true) (h:evR P T o.op H=some v) :
  ∃ v',aO ρ v v'/\(execOp a.eval o).run P w = .ok (.value v') w:=by
 have hg:=hR.glob
 have lift:∀ {s:Sem Value},execOp a.eval o=(do pure (.value (<- s)):Sem Next)->(∃ v',aO ρ v v'/\s.run P w = .ok v' w)->∃ v',aO ρ v v'/\(execOp a.eval o).run P w = .ok (.value v') w:=by
  intro s hs ⟨v',hr,h⟩;exact ⟨v',hr,by rw [hs]; simp [h]⟩
 cases hop:o.op with
 | load t x =>
  rw [hop] at h hok;simp only [evR] at h;have hx:=bY hg hT (hok x (by simp [Op.operands]))
  split at h
  ·rename_i n h1 h2
   exact lift (by simp only [execOp,hop]) (vN hR h1 h2 h hx)
  ·rename_i n h1 h2
   exact lift (by simp only [execOp,hop]) (vW hR h1 h hx)
  ·simp at h
 | lookup t m k ok =>
  rw [hop] at h hok hty;simp only [evR] at h;have hm:=bY hg hT (hok m (by simp [Op.operands]))
  have hk:=bY hg hT (hok k (by simp [Op.operands]))
  split at h
  ·rename_i kt e ht
   split at h
   ·rename_i z kd hz hkd
    have hlz:aCq z=true:=by simp [jI,ht,hz] at hty; exact hty.2
    exact lift (by simp only [execOp,hop]) (aE8 hR ht hz hkd hlz h hm hk)
   ·simp at h
  ·simp at h
 | convert s d x =>
  rw [hop] at h hok;simp only [evR] at h;have hx:=bY hg hT (hok x (by simp [Op.operands]))
  split at h
  ·rename_i e h1 h2
   split at h
   ·rename_i he
    exact lift (by simp only [execOp,hop]) ⟨v,aDT hR h1 he h2 h hx⟩
   ·simp at h
  ·simp at h
 | slice t x lo hi mx =>
  rw [hop] at h hok;simp only [evR] at h;have hx:=bY hg hT (hok x (by simp [Op.operands]))
  have hl:=qJ (lo:=lo) hg hT (fun y hy=>hok y (by simp [Op.operands]; simp at hy; simp [hy]))
  have hh:=qJ (lo:=hi) hg hT (fun y hy=>hok y (by simp [Op.operands]; simp at hy; simp [hy]))
  have hm:=qJ (lo:=mx) hg hT (fun y hy=>hok y (by simp [Op.operands]; simp at hy; simp [hy]))
  split at h
  ·rename_i e ht
   split at h
   ·rename_i s hs
    exact lift (by simp only [execOp,hop]) (aC1 ht hs h hx hm hh hl hR)
   ·simp at h
  ·simp at h
 | call c =>
  rw [hop] at h hok;simp only [evR] at h
  split at h
  ·rename_i kt e x hc hu hx
   simp only [Option.bind_eq_some_iff] at hu;obtain ⟨t,h1,h2⟩:=hu;have hr:=bY hg hT (hok x (by simp only [Op.operands,Call.operands,Array.toList_append,List.mem_append]; exact .inr (List.mem_of_getElem? (i:=0) (by simpa using hx))))
   obtain ⟨hr',hgv⟩:=aCt (P:=P) (ty:=o.type) hR h1 (args:=c.args.map a.eval) (by simp [hx]) h2 h hr
   exact ⟨v,hr',by simp [execOp,hop,resolve,hc,invoke,builtin,hgv]⟩
  ·simp at h
 | entry it =>
  rw [hop] at h hok;simp only [evR] at h;have hx:=bY hg hT (hok it (by simp [Op.operands]))
  exact lift (by simp only [execOp,hop]) (aB1 hR h hx)
 | _=>rw [hop] at h; simp [evR] at h
end
end Go.AM
end
section
namespace Go.AM
open Go.RowKit (Below)
section
variable {P:Program} {ρ:Inj} {T:Env} {a:Act} {v:Value} {w0 w:World} {H:AH}
theorem sC {l:Loc} {c:List Value} {C:Array Value} {e:Nat} {fr:Nat×Nat} (hs:l.shift=0) (ht:C.size=l.total) (hl:c.length<=C.size)
  (hf:∀ i,i<l.total->¬ (fr.1<=i/\i<fr.2)) (h:∀ (i:Nat) (x:Value),c[i]? = some x->∃ y,C[i]? = some y/\aO ρ x y):aAw ρ l (.cells c l.flex) (some (.cells C e fr)) :=
 ⟨rfl,C,e,fr,rfl,ht,by rw [hs]; omega,hf,fun i x hx=>by rw [hs,Nat.zero_add]; exact h i x hx⟩
theorem qD {b:Nat} {l:Loc} (hb:ρ.base<=b) (hl:ρ.loc b=some l) (hs:l.shift=0):aO ρ (kR b) (.pointer (some ⟨l.block,0,none⟩)) :=
 .ptr _ _ (.inr ⟨hb,rfl,l,hl,by simp [hs]⟩)
def aOS (P:Program) (ρ:Inj) (w0:World) (H:AH) (b:Nat) (x:Value) (s:Sem Value) (w:World):Prop :=
 ∃ ρ' v' w',ρ.le ρ'/\(∀ y,y≠b->ρ'.loc y=ρ.loc y)/\R P ρ' w0 H w'/\aO ρ' x v'/\s.run P w = .ok v' w'
theorem tU (hR:R P ρ w0 H w) {b:Nat} (hb:ρ.base<=b) (hn:b<H.next) (hl:ρ.loc b=none) {c:List Value} (hg:H.get b = .cells c none) {C:Array Value} (hc:bG ρ c C.toList) (e:Nat) (x:Value) (s:Sem Value) (mkv:Nat->Value)
  (hx:∀ ρ':Inj,ρ'.base=ρ.base->ρ'.loc b=some ⟨w.heap.size,0,C.size,none⟩->aO ρ' x (mkv w.heap.size)) (hs:s.run P w = .ok (mkv w.heap.size) (w.alloc (.cells C e))):aOS P ρ w0 H b x s w:=by
 refine ⟨ρ.put b ⟨w.heap.size,0,C.size,none⟩,mkv w.heap.size,_,Inj.le_put hl,fun y hy=>by simp [Inj.put,hy],?_,?_,hs⟩
 ·refine hR.laid hb hn hl _ _ rfl ?_
  rw [hg]
  exact sC (l:=⟨w.heap.size,0,C.size,none⟩) rfl rfl (by have:=hc.1; simp at this; omega) (fun i _ h=>by simp at h) (fun i x hx=>by
   obtain ⟨y,hy,hr⟩:=hc.get hx;exact ⟨y,by simpa using hy,hr⟩)
 ·exact hx _ rfl (by simp [Inj.put])
theorem zN {t:Nat} {z:Value} (hz:eN P t=some z) (h:lS P t=true):z.cells.toList.all qP=true:=by simpa [lS,hz] using h
theorem aLr {x:Value} (h:gQ x=true):x≠undef:=by intro e; rw [e] at h; simp [gQ,undef] at h
theorem zT {n:Int} (h0:0<=n) (h1:n<2 ^ 62):IntKind.i64.wrap n=n:=by
 have e1:n % (2 ^ 64:Int)=n:=Int.emod_eq_of_lt h0 (by omega)
 have e2:¬ (n>=(2 ^ 63:Int)):=by omega
 show (if true&&decide (n % (2 ^ 64:Int)>=(2 ^ 63:Int)) then n % (2 ^ 64:Int) - 2 ^ 64 else n % (2 ^ 64:Int))=n
 simp only [e1,e2,decide_false,Bool.and_false,Bool.false_eq_true,if_false]
theorem aDe {α:Type} (xs:Array α) (x:α) (f:α->α):(xs.push x).modify xs.size f=xs.push (f x):=by
 apply Array.ext_getElem?;intro i;rw [Array.getElem?_modify,Array.getElem?_push,Array.getElem?_push]
 by_cases h:xs.size=i
 ·subst h; simp
 ·rw [if_neg h,if_neg (fun e=>h e.symm),if_neg (fun e=>h e.symm)]
theorem aBR (w:World) (C:Array Value) (e n:Nat):(w.alloc (.cells C e)).freeze ⟨w.heap.size,n,none⟩ 1=w.alloc (.cells C e (n,n+1)):=by
 show ({ w with heap:=(w.heap.push _).modify w.heap.size _ }:World)={ w with heap:=w.heap.push _ }
 rw [aDe]
 rfl
def gG (s:ByteArray) (cap:Nat):Array Value:=(s.data.map fun (b:UInt8)=>Value.int .u8 (b.toNat:Nat))++Array.replicate (cap - s.size) (Value.int .u8 0)
theorem tW (w:World) (e:Nat) (s:ByteArray):∃ cap,s.size<=cap/\(Conv.stringToBytes e s).run P w = .ok (.slice (some ⟨w.heap.size,0,none⟩) s.size cap)
  (w.drew.alloc (.cells (gG s cap) e (cap,cap+1))):=by
 refine ⟨(Question.appendCap s.size 0 e).cut (w.tape w.drawn (.appendCap s.size 0 e)),by simp [Question.cut],?_⟩
 have hc:s.size<=(Question.appendCap s.size 0 e).cut (w.tape w.drawn (.appendCap s.size 0 e)):=by simp [Question.cut]
 have hch:(choose (.appendCap s.size 0 e)).run P w = .ok ((Question.appendCap s.size 0 e).cut (w.tape w.drawn (.appendCap s.size 0 e))) w.drew:=by
  rw [run_choose]; rfl
 generalize (Question.appendCap s.size 0 e).cut (w.tape w.drawn (.appendCap s.size 0 e))=cap at *
 have hsz:(gG s cap).size=cap:=by
  have:s.data.size=s.size:=rfl;simp [gG,this]; omega
 have hd:(Conv.stringToBytes e s:Sem Value)=(do
   let cap <- choose (.appendCap s.size 0 e)
   let a <- newRow e (gG s cap)
   markStringish a
   pure (.slice (some a) s.size cap)):=rfl
 rw [hd];simp only [Sem.run_bind,hch,Result.andThen_ok,newRow,run_newObj,Sem.run_pure,markStringish,run_shape]
 have hsh:World.shape? (w.drew.alloc (.cells (gG s cap) e)) w.drew.heap.size=some (e,cap):=by
  unfold World.shape?
  have:(w.drew.alloc (.cells (gG s cap) e)).heap[w.drew.heap.size]? = some (.cells (gG s cap) e):=by
   show (w.drew.heap.push _)[w.drew.heap.size]? = _
   rw [Array.getElem?_push_size]
  rw [this];simp only [hsz]
 rw [World.alloc_eq,hsh];simp only [run_freeze,Result.andThen_ok];have:=aBR w.drew (gG s cap) e cap;rw [this]
 rfl
theorem aAQ (hR:R P ρ w0 H w) (hT:jN ρ T a) {o:Oper} (hok:∀ x∈o.op.operands.toList,rS P x=true) (hty:jI P o.op=true) {obj:cH} {mkv:Nat->Value} (h:evA P T o.op=some (obj,mkv))
  {b:Nat} (hb:ρ.base<=b) (hn:b<H.next) (hl:ρ.loc b=none) (hget:H.get b=obj) :
  ∃ ρ' v' w',ρ.le ρ'/\(∀ y,y≠b->ρ'.loc y=ρ.loc y)/\R P ρ' w0 H w'/\aO ρ' (mkv b) v'/\(execOp a.eval o).run P w = .ok (.value v') w':=by
 have hg:=hR.glob
 have lift:∀ {s:Sem Value},execOp a.eval o=(do pure (.value (<- s)):Sem Next)->aOS P ρ w0 H b (mkv b) s w ->
   ∃ ρ' v' w',ρ.le ρ'/\(∀ y,y≠b->ρ'.loc y=ρ.loc y)/\R P ρ' w0 H w'/\aO ρ' (mkv b) v'/\(execOp a.eval o).run P w = .ok (.value v') w':=by
  intro s hs ⟨ρ',v',w',h1,h2,h3,h4,h5⟩;exact ⟨ρ',v',w',h1,h2,h3,h4,by rw [hs]; simp [h5]⟩
 cases hop:o.op with
 | alloc t =>
  rw [hop] at h hok hty;simp only [evA] at h
  split at h
  ·rename_i z hz
   simp only [Option.some.injEq,Prod.mk.injEq] at h;obtain ⟨rfl,rfl⟩:=h;have hz':=zN hz hty;refine lift (s:=Instr.alloc t true (.tuple #[])) (by simp only [execOp,hop]) (tU hR hb hn hl hget (C:=z.cells) (bG.refl_lit hz') t _ _ (fun k => .pointer (some ⟨k,0,none⟩)) (fun ρ' h1 h2 =>?_) ?_)
   ·exact qD (h1▸hb) h2 rfl
   ·simp [Instr.alloc,gO hz,newVar,newRow]
  ·simp at h
 | box t x =>
  rw [hop] at h hok;simp only [evA,eA] at h;rw [Option.ite_none_right_eq_some] at h;obtain ⟨hd,h⟩:=h;simp only [Option.some.injEq,Prod.mk.injEq] at h;obtain ⟨rfl,rfl⟩:=h;have hx:=bY hg hT (hok x (by simp [Op.operands]))
  refine lift (s:=Instr.box t (a.eval x)) (by simp only [execOp,hop]) (tU hR hb hn hl hget (C:=(a.eval x).cells) (hx.cells (aLr hd)) t _ _ (fun k => .pointer (some ⟨k,0,none⟩)) (fun ρ' h1 h2 =>?_) ?_)
  ·exact qD (h1▸hb) h2 rfl
  ·simp [Instr.box,newVar,newRow]
 | buildSlice t len parts =>
  rw [hop] at h hok hty;simp only [evA] at h;have hpk:∀ p∈parts.toList,rS P p.2=true:=fun p hp=>hok p.2 (by simp only [Op.operands]; exact List.mem_map_of_mem hp)
  split at h
  ·rename_i e ht
   split at h
   ·rename_i z s hz hs
    split at h
    ·rename_i hle
     have hle:len*s<=2 ^ 24:=of_decide_eq_true hle;unfold bR at h;rw [Option.ite_none_right_eq_some] at h;obtain ⟨hd,h⟩:=h;simp only [Option.map_eq_some_iff,Prod.mk.injEq] at h;obtain ⟨ds,hds,rfl,rfl⟩:=h;have hz':z.cells.toList.all qP=true:=zN hz (by simpa [jI,ht] using hty)
     have hrep:(mY (len*s) z.cells).all qP=true:=by
      refine List.all_eq_true.2 fun x hx =>?_;simp only [mY,Array.toList_map,Array.toList_range,List.mem_map] at hx;obtain ⟨i,_,rfl⟩:=hx
      by_cases hzs:i % z.cells.size<z.cells.size
      ·rw [getElem!_pos z.cells _ hzs]
       exact List.all_eq_true.1 hz' _ (by simp)
      ·rw [getElem!_neg z.cells _ hzs]; rfl
     obtain ⟨ds',h1,h2⟩:=oI (ρ:=ρ) _ _ ((parts.map fun (i,x)=>(i,a.eval x)).toList) _ _ _ hds (by simp) (uY hg hT hpk hd) (bG.refl_lit (l:=(mY (len*s) z.cells)) hrep)
     refine lift (s:=Instr.buildSlice t len (parts.map fun (i,x)=>(i,a.eval x))) (by simp only [execOp,hop]) (tU hR hb hn hl hget (C:=ds') h2 e _ _ (fun k => .slice (some ⟨k,0,none⟩) len len) (fun ρ' g1 g2 =>?_) ?_)
     ·exact .slc _ _ _ _ _ (.inl ⟨.inr ⟨g1▸hb,rfl,_,g2,rfl⟩,.inl rfl⟩)
     ·have hgt:¬ (len*s > 2 ^ 24):=by omega
      simp only [Instr.buildSlice,Sem.run_bind,aT ht,Result.andThen_ok,cC hs,Sem.run_ite,if_neg hgt,Sem.run_pure]
      by_cases h0:len*s=0
      ·have e1:(Array.range (len*s)).map (fun x=>z.cells[x % z.cells.size]!)=(Array.range (len*s)).map (fun i=>(#[]:Array Value)[i % (#[]:Array Value).size]!):=by simp [h0]
       rw [e1] at h1;simp only [if_pos h0,Result.andThen_ok,h1];simp [newRow]
      ·simp only [if_neg h0,Sem.run_bind,gO hz,Result.andThen_ok,Sem.run_pure,h1]
       simp [newRow]
    ·simp at h
   ·simp at h
  ·simp at h
 | makeMap t r =>
  rw [hop] at h hok
  have fin:obj = .map [] 0 true->mkv=(fun b => .map (some b))->(∃ k e,P.underlying t=some (.map k e))->(∀ x,r=some x->∃ k n,a.eval x = .int k n) ->
    ∃ ρ' v' w',ρ.le ρ'/\(∀ y,y≠b->ρ'.loc y=ρ.loc y)/\R P ρ' w0 H w'/\aO ρ' (mkv b) v'/\(execOp a.eval o).run P w = .ok (.value v') w':=by
   rintro rfl rfl ⟨k,e,ht⟩ hr;refine lift (s:=Instr.makeMap t (r.map a.eval)) (by simp only [execOp,hop]) ⟨ρ.put b ⟨w.heap.size,0,0,none⟩,.map (some w.heap.size),w.alloc (.map #[] 0),Inj.le_put hl,fun y hy=>by simp [Inj.put,hy],?_,?_,?_⟩
   ·refine hR.laid hb hn hl _ _ rfl ?_
    rw [hget];exact ⟨#[],rfl,rfl,fun i e e' h=>by simp at h⟩
   ·exact .map _ _ (.inr ⟨hb,_,by simp [Inj.put]; rfl,rfl⟩)
   ·cases r with
    | none=>simp [Instr.makeMap]
    | some x =>
     obtain ⟨k',n,hx⟩:=hr x rfl;simp [Instr.makeMap,hx,asInt,asIntOf,underlying,ht]
  cases r with
  | none =>
   simp only [evA] at h
   split at h
   ·rename_i k e ht
    simp only [Option.some.injEq,Prod.mk.injEq] at h;exact fin h.1.symm h.2.symm ⟨_,_,ht⟩ (fun x hx=>by simp at hx)
   ·simp at h
  | some x =>
   simp only [evA] at h;have hx:=bY hg hT (hok x (by simp [Op.operands]))
   split at h
   ·rename_i k e k' n ht hi
    simp only [Option.some.injEq,Prod.mk.injEq] at h;rw [hi] at hx;exact fin h.1.symm h.2.symm ⟨_,_,ht⟩ (fun y hy=>by simp at hy; subst hy; exact ⟨_,_,hx.flat rfl⟩)
   ·simp at h
 | makeSlice t l c =>
  rw [hop] at h hok hty;simp only [evA] at h;have hlx:=bY hg hT (hok l (by simp [Op.operands]))
  have hcx:=bY hg hT (hok c (by simp [Op.operands]))
  split at h
  ·rename_i e ht
   split at h
   ·rename_i z s q hz hs hq
    unfold qY at h
    split at h
    ·rename_i _ n _ m hn1 hm1
     rw [Option.ite_none_right_eq_some] at h;obtain ⟨⟨h0,h1,h2,h3⟩,h⟩:=h;simp only [Option.some.injEq,Prod.mk.injEq] at h;obtain ⟨rfl,rfl⟩:=h;rw [hn1] at hlx; rw [hm1] at hcx;have el:=hlx.flat rfl;have ec:=hcx.flat rfl;have hz':z.cells.toList.all qP=true:=zN hz (by simpa [jI,ht] using hty)
     have hrep:(mY (m.toNat*s) z.cells).all qP=true:=by
      refine List.all_eq_true.2 fun x hx =>?_;simp only [mY,Array.toList_map,Array.toList_range,List.mem_map] at hx;obtain ⟨i,_,rfl⟩:=hx
      by_cases hzs:i % z.cells.size<z.cells.size
      ·rw [getElem!_pos z.cells _ hzs]
       exact List.all_eq_true.1 hz' _ (by simp)
      ·rw [getElem!_neg z.cells _ hzs]; rfl
     refine lift (s:=Instr.makeSlice t (a.eval l) (a.eval c)) (by simp only [execOp,hop]) (tU hR hb hn hl hget (C:=(Array.range (m.toNat*s)).map (fun x=>z.cells[x % z.cells.size]!)) (bG.refl_lit hrep) e _ _ (fun k => .slice (some ⟨k,0,none⟩) n.toNat m.toNat) (fun ρ' g1 g2 =>?_) ?_)
     ·exact .slc _ _ _ _ _ (.inl ⟨.inr ⟨g1▸hb,rfl,_,g2,rfl⟩,.inl rfl⟩)
     ·rw [el,ec]
      have hqi:(P.info? e).map (·.bytes)=some q:=hq;obtain ⟨ti,hti,htb⟩:=Option.map_eq_some_iff.1 hqi;have w1:=zT h0 (by omega:n<2 ^ 62)
      have w2:=zT (by omega:0<=m) h3
      have hti':(typeInfo e).run P w = .ok ti w:=by simp [typeInfo,hti]
      have hbig:¬ ((ti.bytes:Int)*m > 2 ^ 48):=by rw [htb,Int.mul_comm]; omega
      have hm0:¬ m<0:=by omega
      have hn0:¬ n<0:=by omega
      have hnm:¬ n > m:=by omega
      simp only [Instr.makeSlice,Sem.run_bind,aT ht,Result.andThen_ok,asInt,asIntOf,Sem.run_pure,hti',w1,w2,hm0,hbig,hn0,hnm,decide_false,Bool.or_false,Bool.false_eq_true,if_false,Sem.run_ite,run_askRoom,cC hs]
      by_cases hzero:m.toNat*s=0
      ·simp only [if_pos hzero,Result.andThen_ok]
       have e0:(Array.range 0) = #[]:=rfl;simp [newRow,hzero,e0]
      ·simp only [if_neg hzero,Sem.run_bind,gO hz,Result.andThen_ok,Sem.run_pure]
       simp [newRow]
    ·simp at h
   ·simp at h
  ·simp at h
 | convert s d x =>
  rw [hop] at h hok;simp only [evA] at h;have hx:=bY hg hT (hok x (by simp [Op.operands]))
  split at h
  ·rename_i e hs hd
   split at h
   ·rename_i he
    unfold aIA at h
    split at h
    ·rename_i str hstr
     rw [Option.ite_none_right_eq_some] at h;obtain ⟨hlt,h⟩:=h;simp only [Option.some.injEq,Prod.mk.injEq] at h;obtain ⟨rfl,rfl⟩:=h;rw [hstr] at hx;have ex:=hx.flat rfl;refine lift (s:=convert s d (a.eval x)) (by simp only [execOp,hop]) ?_
     obtain ⟨cap,hcap,hrun⟩:=tW (P:=P) w e str;have hR2:=hR.drew;refine ⟨ρ.put b ⟨w.heap.size,0,cap,some 1⟩,.slice (some ⟨w.heap.size,0,none⟩) str.size cap,_,Inj.le_put hl,fun y hy=>by simp [Inj.put,hy],hR2.laid hb hn hl ⟨w.heap.size,0,cap,some 1⟩ (.cells (gG str cap) e (cap,cap+1)) rfl ?_,?_,?_⟩
     ·rw [hget]
      have hsz:str.data.size=str.size:=rfl;refine sC (l:=⟨w.heap.size,0,cap,some 1⟩) rfl (by simp [gG,hsz]; omega) (by simp [gG,hsz]) (fun i hi hh=>by simp only at hh hi; omega) (fun i x hx=>⟨x,?_,?_⟩)
      ·have hi:i<str.data.size:=by
        rcases Nat.lt_or_ge i str.data.size with g | g
        ·exact g
        ·rw [List.getElem?_eq_none (by simpa using g)] at hx; simp at hx
       unfold gG;rw [Array.getElem?_append_left (by simpa using hi),<- hx]
       simp
      ·rw [List.getElem?_map] at hx
       simp only [Option.map_eq_some_iff] at hx;obtain ⟨q,_,rfl⟩:=hx;exact .int _ _
     ·exact .slc _ _ _ _ _ (.inl ⟨.inr ⟨hb,rfl,_,by simp [Inj.put]; rfl,rfl⟩,.inr ⟨⟨w.heap.size,0,cap,some 1⟩,1,hb,by simp [Inj.put],rfl,hcap,by simp⟩⟩)
     ·rw [ex]
      simp only [convert,Sem.run_bind,aT hs,aT hd,Result.andThen_ok,aT he];exact hrun
    ·simp at h
   ·simp at h
  ·simp at h
 | _=>rw [hop] at h; simp [evA] at h
end
end Go.AM
end
section
namespace Go.AM
open Go.RowKit (Below)
theorem kH {c vs:List Value} {k:Nat} (h:k+vs.length<=c.length):(bF c k vs).length=c.length:=by
 simp [bF]; omega
theorem jY {c vs:List Value} {k:Nat} (h:k+vs.length<=c.length) (i:Nat):(bF c k vs)[i]? = if i<k then c[i]? else if i<k+vs.length then vs[i - k]? else c[i]? :=by
 unfold bF
 by_cases h1:i<k
 ·rw [if_pos h1,List.append_assoc,List.getElem?_append_left (by simp; omega),List.getElem?_take,if_pos h1]
 ·rw [if_neg h1]
  have hl:(c.take k).length=k:=by simp; omega
  by_cases h2:i<k+vs.length
  ·rw [if_pos h2,List.getElem?_append_left (by simp; omega),List.getElem?_append_right (by omega),hl]
  ·rw [if_neg h2,List.getElem?_append_right (by simp; omega),List.getElem?_drop]
   congr 1
   simp; omega
theorem aDs {c vs:List Value} {v:Value} {k:Nat} (h:k+vs.length+1<=c.length):bF (c.set k v) (k+1) vs=bF c k (v :: vs):=by
 apply List.ext_getElem?;intro i;rw [jY (by simp; omega),jY (by simp; omega)]
 simp only [List.length_cons]
 by_cases h1:i<k
 ·rw [if_pos (by omega),if_pos h1,List.getElem?_set,if_neg (by omega)]
 ·by_cases h2:i=k
  ·subst h2
   rw [if_pos (by omega),if_neg h1,if_pos (by omega)]
   rw [List.getElem?_set,if_pos rfl,if_pos (by omega)]
   simp
  ·by_cases h3:i<k+1+vs.length
   ·rw [if_neg (by omega),if_pos h3,if_neg h1,if_pos (by omega)]
    rw [show i - k=(i - (k+1))+1 from by omega,List.getElem?_cons_succ]
   ·rw [if_neg (by omega),if_neg h3,if_neg h1,if_neg (by omega),List.getElem?_set,if_neg (by omega)]
theorem rH (c:List Value) (k:Nat):bF c k []=c:=by simp [bF]
def World.setBlk (w:World) (b:Nat) (o:Obj):World:={ w with heap:=w.heap.setIfInBounds b o }
section
variable {P:Program} {ρ:Inj} {T:Env} {a:Act} {v:Value} {w0 w:World} {H:AH}
theorem aDn {C:Array Value} {e:Nat} {fr:Nat×Nat} {b:Nat} (h:w.heap[b]? = some (.cells C e fr)) (i:Nat) (x:Value) :
  w.setCell ⟨b,i,none⟩ x=World.setBlk w b (.cells (C.setIfInBounds i x) e fr):=by
 unfold World.setCell World.setBlk
 congr 1
 apply Array.ext_getElem?;intro j;rw [Array.getElem?_modify,Array.getElem?_setIfInBounds];have hb:b<w.heap.size:=(Array.getElem?_eq_some_iff.1 h).1
 by_cases hj:b=j
 ·subst hj
  rw [if_pos rfl,if_pos rfl,if_pos hb,h]; rfl
 ·simp [hj]
theorem yX (b:Nat) (o:Obj) (h:b<w.heap.size):(World.setBlk w b o).heap[b]? = some o:=by
 simp [World.setBlk,h]
theorem aAx (b:Nat) (o o':Obj):World.setBlk (World.setBlk w b o) b o'=World.setBlk w b o':=by
 unfold World.setBlk
 congr 1
 apply Array.ext_getElem?;intro j;simp only [Array.getElem?_setIfInBounds,Array.size_setIfInBounds]
 split <;> simp_all
theorem vQ {b:Nat} {o:Obj} (h:w.heap[b]? = some o):World.setBlk w b o=w:=by
 unfold World.setBlk
 have:w.heap.setIfInBounds b o=w.heap:=by
  apply Array.ext_getElem?;intro j;rw [Array.getElem?_setIfInBounds];have hb:b<w.heap.size:=(Array.getElem?_eq_some_iff.1 h).1
  split
  ·rename_i e; subst e; simp [h]
  ·rfl
 rw [this]
theorem kZ {b o e:Nat} {fr:Nat×Nat}:∀ (vs:List Value) (i:Nat) (C:Array Value) (w:World),w.heap[b]? = some (.cells C e fr)->o+i+vs.length<=C.size->(∀ j,j<C.size->¬ (fr.1<=j/\j<fr.2)) ->
  (∀ x∈vs,x.oneCell'=true)->(storeCells ⟨b,o,none⟩ vs i).run P w = .ok () (World.setBlk w b (.cells ⟨bF C.toList (o+i) vs⟩ e fr))
 | [],i,C,w,hb,_,_,_=>by
  rw [rH]
  show Result.ok () w=_
  congr 1
  exact (vQ hb).symm
 | x :: vs,i,C,w,hb,hl,hf,h1=>by
  simp only [List.length_cons] at hl
  have hadd:(⟨b,o,none⟩:Addr).add i=⟨b,o+i,none⟩:=by
   unfold Addr.add; split
   ·simp [*]
   ·rfl
  have hlt:o+i<C.size:=by omega
  have hc:w.cell? ⟨b,o+i,none⟩=some C[o+i]:=by rw [yU hb]; exact Array.getElem?_eq_getElem hlt
  have hfz:w.frozen? ⟨b,o+i,none⟩=false:=by
   obtain ⟨f1,f2⟩:=fr;simp only [World.frozen?,hb];have:=hf (o+i) hlt;simp only [not_and] at this;simp; intro h; exact Nat.le_of_not_lt (this h)
  have hst:(store ((⟨b,o,none⟩:Addr).add i) x).run P w = .ok () (World.setBlk w b (.cells (C.setIfInBounds (o+i) x) e fr)):=by
   rw [hadd,run_store P w _ x .plain (h1 x (by simp)),hc]
   simp only [hfz,Bool.false_eq_true,if_false];rw [aDn hb]
  have hblt:b<w.heap.size:=(Array.getElem?_eq_some_iff.1 hb).1
  have ih:=kZ (b:=b) (o:=o) (e:=e) (fr:=fr) vs (i+1) (C.setIfInBounds (o+i) x) (World.setBlk w b (.cells (C.setIfInBounds (o+i) x) e fr)) (yX _ _ hblt) (by simp; omega)
   (fun j hj=>hf j (by simpa using hj)) (fun y hy=>h1 y (by simp [hy]))
  simp only [storeCells,Sem.run_bind,hst,Result.andThen_ok,ih,aAx]
  congr 4
  have e1:(C.setIfInBounds (o+i) x).toList=C.toList.set (o+i) x:=by simp
  rw [e1,<- Nat.add_assoc,aDs (by simpa using (by omega:o+i+vs.length+1<=C.size))]
theorem R.stored (hR:R P ρ w0 H w) {A A':Addr} (r:rT ρ A A') (hs:A.spot=none) {c vs vs':List Value} {fx:Option Nat} (hg:H.get A.block = .cells c fx) (k:Nat) (hl:A.off+k+vs.length<=c.length) (hv:bG ρ vs vs') (h1:vs.all plain1=true) :
  ∃ w',R P ρ w0 (H.put A.block (.cells (bF c (A.off+k) vs) fx)) w'/\(storeCells (A'.add k) vs').run P w = .ok () w':=by
 rcases r with ⟨hb,rfl⟩ | ⟨hb,_,l,hlc,rfl⟩
 ·have:=hR.ro _ hb
  rw [hg] at this; exact this.elim
 ·obtain ⟨_,_,hbl,hbw,ho⟩:=hR.own _ _ hlc
  rw [hg] at ho;obtain ⟨hfx,C,e,fr,hC,hsz,hle,hfr,hcell⟩:=ho
  have hadd:(⟨l.block,l.shift+A.off,none⟩:Addr).add k=⟨l.block,l.shift+A.off+k,none⟩:=by
   unfold Addr.add; split
   ·simp [*]
   ·rfl
  have hone:∀ x∈vs',x.oneCell'=true:=by
   intro x hx;obtain ⟨i,hi⟩:=List.getElem?_of_mem hx
   have hi2:i<vs.length:=by
    rw [hv.1];rcases Nat.lt_or_ge i vs'.length with g | g
    ·exact g
    ·rw [List.getElem?_eq_none g] at hi; simp at hi
   exact (hv.2 i _ x (List.getElem?_eq_getElem hi2) hi).plain1 (List.all_eq_true.1 h1 _ (List.getElem_mem hi2))
  have hrun:=kZ (P:=P) (b:=l.block) (o:=l.shift+A.off+k) (e:=e) (fr:=fr) vs' 0 C w hC (by rw [<- hv.1]; omega) (fun j hj=>hfr j (by omega)) hone
  rw [Nat.add_zero] at hrun;refine ⟨_,hR.wrote hlc (by rw [hg]; simp) (.cells (bF c (A.off+k) vs) fx) (.cells ⟨bF C.toList (l.shift+A.off+k) vs'⟩ e fr) ?_,by rw [hadd]; exact hrun⟩
  have hlv:=hv.1;refine ⟨hfx,_,e,fr,rfl,?_,?_,hfr,?_⟩
  ·show (bF C.toList (l.shift+A.off+k) vs').length=_
   rw [kH (by simp; omega)]; simpa using hsz
  ·rw [kH (by omega)]; exact hle
  ·intro i x hx
   rw [jY (by omega)] at hx
   have harr:∀ (l:List Value) (j:Nat),(⟨l⟩:Array Value)[j]? = l[j]? :=fun l j=>by rw [<- Array.getElem?_toList]
   rw [harr,jY (by simp; omega)]
   by_cases g1:i<A.off+k
   ·rw [if_pos g1] at hx
    rw [if_pos (by omega)]
    obtain ⟨y,hy,hr⟩:=hcell i x hx;exact ⟨y,by simpa using hy,hr⟩
   ·rw [if_neg g1] at hx
    rw [if_neg (by omega)]
    by_cases g2:i<A.off+k+vs.length
    ·rw [if_pos g2] at hx
     rw [if_pos (by omega)]
     obtain ⟨y,hy,hr⟩:=hv.get hx;exact ⟨y,by rw [<- hy]; congr 1; omega,hr⟩
    ·rw [if_neg g2] at hx
     rw [if_neg (by omega)]
     obtain ⟨y,hy,hr⟩:=hcell i x hx;exact ⟨y,by simpa using hy,hr⟩
theorem aAj {c:List Value} {k:Nat} {x:Value} (h:k<c.length):bF c k [x]=c.set k x:=by
 apply List.ext_getElem?;intro i;rw [jY (by simp; omega),List.getElem?_set]
 simp only [List.length_singleton]
 by_cases h1:i<k
 ·rw [if_pos h1,if_neg (by omega)]
 ·by_cases h2:i=k
  ·subst h2; rw [if_neg h1,if_pos (by omega),if_pos rfl,if_pos h]; simp
  ·rw [if_neg h1,if_neg (by omega),if_neg (by omega)]
theorem aBl (hR:R P ρ w0 H w) {t:Nat} {p p' x x':Value} {H':AH} (ht:cT P t=some 1) (h:aQ p x H=some H') (hp:aO ρ p p') (hx:aO ρ x x'):∃ w',R P ρ w0 H' w'/\(Instr.storeAt t p' x').run P w = .ok () w':=by
 unfold aQ at h
 split at h
 ·rename_i A
  split at h
  ·simp at h
  ·rename_i hs
   simp only [Bool.or_eq_true,Bool.not_eq_true',not_or,Bool.not_eq_true,Bool.not_eq_false] at hs;obtain ⟨hs,hp1⟩:=hs;have hs:A.spot=none:=by simpa using hs
   split at h
   ·rename_i c fx hg
    rw [Option.ite_none_right_eq_some] at h;obtain ⟨hlt,h⟩:=h;simp only [Option.some.injEq] at h; subst h
    have hcx:x'.cells = #[x']:=by
     have:=hx.plain1 hp1;cases x' <;> first | rfl | simp [Value.oneCell'] at this
    cases hp with
    | ptr _ A' r =>
     obtain ⟨w',h1,h2⟩:=hR.stored r hs hg 0 (vs:=[x]) (vs':=[x']) (by simp; omega) (bG.cons hx bG.nil) (by simp [hp1])
     rw [Nat.add_zero,aAj hlt] at h1;rw [add_zero] at h2;refine ⟨w',h1,?_⟩;simp [Instr.storeAt,Instr.sureAddr,storeVar,hcx,cC ht,h2]
   ·simp at h
 ·simp at h
theorem aBq (hR:R P ρ w0 H w) {t n:Nat} {p p' x x':Value} {H':AH} (ht:cT P t=some n) (h:aG n p x H=some H') (hp:aO ρ p p') (hx:aO ρ x x'):∃ w',R P ρ w0 H' w'/\(Instr.storeAt t p' x').run P w = .ok () w':=by
 unfold aG at h
 split at h
 ·rename_i A cs
  split at h
  ·simp at h
  ·rename_i hs
   have hs:A.spot=none:=by simpa using hs
   split at h
   ·rename_i c fx hg
    rw [Option.ite_none_right_eq_some] at h;obtain ⟨⟨hn,hlt,hpl⟩,h⟩:=h;simp only [Option.some.injEq] at h; subst h;obtain ⟨ds,rfl,hr⟩:=hx.agg_inv;have hdn:ds.size=n:=by have:=hr.1; simp at this; omega
    cases hp with
    | ptr _ A' r =>
     obtain ⟨w',h1,h2⟩:=hR.stored r hs hg 0 (vs:=cs.toList) (vs':=ds.toList) (by simp; omega) hr hpl
     rw [Nat.add_zero] at h1;rw [add_zero] at h2;refine ⟨w',h1,?_⟩;simp [Instr.storeAt,Instr.sureAddr,storeVar,Value.cells,cC ht,hdn,h2]
   ·simp at h
 ·simp at h
end
end Go.AM
end
section
namespace Go.AM
open Go.RowKit (Below)
section
variable {P:Program} {ρ:Inj} {T:Env} {a:Act} {v:Value} {w0 w:World} {H:AH}
theorem aDW {kd:Nat} {k:Value}:∀ (es:List MapEntry) (i:Nat) (u:Value),iZ kd k es=some (some (i,u))->∃ e,es[i]? = some e/\e.val=u/\cB kd k e.key=some true
 | [],i,u,h=>by simp [iZ] at h
 | e :: es,i,u,h=>by
  simp only [iZ,Option.bind_eq_some_iff] at h;obtain ⟨b,hb,h⟩:=h;cases b with
  | true =>
   simp only [Option.some.injEq,Prod.mk.injEq] at h;obtain ⟨rfl,rfl⟩:=h;exact ⟨e,rfl,rfl,hb⟩
  | false =>
   simp only [Option.map_eq_some_iff] at h;obtain ⟨q,hq,h⟩:=h;cases q with
   | none=>simp at h
   | some p =>
    obtain ⟨pp,hpp,h⟩:=h;simp only [Option.some.injEq] at hpp; subst hpp;simp only [Prod.mk.injEq] at h;obtain ⟨rfl,rfl⟩:=h;obtain ⟨e',h1,h2,h3⟩:=aDW es p.1 p.2 hq;exact ⟨e',by simpa using h1,h2,h3⟩
theorem aKl {a b:ByteArray} (h:(a == b)=true):a=b:=by
 obtain ⟨x⟩:=a;obtain ⟨y⟩:=b;have e:x=y:=by simpa using (show (x == y)=true from h)
 rw [e]
theorem aEw (a:ByteArray):(a == a)=true:=by
 obtain ⟨x⟩:=a
 show (x == x)=true
 simp
theorem aAC {kd:Nat} {x y:Value} (h:cB kd x y=some true):y=x/\flat x=true/\Instr.sameBits 10000 x x=true:=by
 unfold cB at h
 split at h
 ·rw [Option.ite_none_right_eq_some] at h
  obtain ⟨rfl,h⟩:=h;simp at h; subst h;exact ⟨rfl,rfl,by simp [Instr.sameBits]⟩
 ·rename_i s s'
  simp only [Option.some.injEq] at h;have:=aKl h;subst this;exact ⟨rfl,rfl,by simp only [Instr.sameBits]; exact aEw _⟩
 ·simp at h; subst h
  exact ⟨rfl,rfl,by simp [Instr.sameBits]⟩
 ·simp at h
theorem lC.modify {es es':List MapEntry} (h:lC ρ es es') (i:Nat) (f f':MapEntry->MapEntry) (hf:∀ e e',e.born=e'.born/\aO ρ e.key e'.key/\aO ρ e.val e'.val->(f e).born=(f' e').born/\aO ρ (f e).key (f' e').key/\aO ρ (f e).val (f' e').val) :
  lC ρ (es.modify i f) (es'.modify i f'):=by
 refine ⟨by simp [h.len],fun j e e' he he' =>?_⟩
 rw [List.getElem?_modify] at he he'
 by_cases hij:i=j
 ·subst hij
  simp only [if_true,Option.map_eq_map,Option.map_eq_some_iff] at he he';obtain ⟨x,hx,rfl⟩:=he;obtain ⟨y,hy,rfl⟩:=he';exact hf _ _ (h.at_ _ _ _ hx hy)
 ·simp only [hij,if_false] at he he'
  simp at he he';exact h.at_ _ _ _ he he'
theorem lC.push {es es':List MapEntry} (h:lC ρ es es') {e e':MapEntry} (he:e.born=e'.born/\aO ρ e.key e'.key/\aO ρ e.val e'.val):lC ρ (es++[e]) (es'++[e']):=by
 refine ⟨by simp [h.len],fun j x y hx hy =>?_⟩
 by_cases hj:j<es.length
 ·rw [List.getElem?_append_left hj] at hx
  rw [List.getElem?_append_left (h.len▸hj)] at hy;exact h.at_ _ _ _ hx hy
 ·rw [List.getElem?_append_right (by omega)] at hx
  rw [List.getElem?_append_right (by have:=h.len; omega),<- h.len] at hy
  cases hk:j - es.length with
  | zero=>rw [hk] at hx hy; simp at hx hy; subst hx; subst hy; exact he
  | succ n=>rw [hk] at hx; simp at hx
theorem lC.eraseIdx {es es':List MapEntry} (h:lC ρ es es') (i:Nat):lC ρ (es.eraseIdx i) (es'.eraseIdx i):=by
 refine ⟨by rw [List.length_eraseIdx,List.length_eraseIdx,h.len],fun j x y hx hy =>?_⟩
 rw [List.getElem?_eraseIdx] at hx hy
 split at hx
 ·rename_i hj; rw [if_pos hj] at hy; exact h.at_ _ _ _ hx hy
 ·rename_i hj; rw [if_neg hj] at hy; exact h.at_ _ _ _ hx hy
theorem R.mapAt (hR:R P ρ w0 H w) {r:Nat} {m':Value} {es:List MapEntry} {cl:Nat} (hm:aO ρ (.map (some r)) m') (hg:H.get r = .map es cl true) :
  ∃ l es',ρ.loc r=some l/\m' = .map (some l.block)/\w.heap[l.block]? = some (.map es' cl)/\lC ρ es es'.toList /\
   ∀ (fs:List MapEntry) (fs':Array MapEntry) (c2:Nat),lC ρ fs fs'.toList->R P ρ w0 (H.put r (.map fs c2 true)) (World.setBlk w l.block (.map fs' c2)):=by
 cases hm with
 | map _ r' hr =>
  obtain ⟨es',h1,h2,h3⟩:=hR.map hr hg;obtain ⟨_,l,hl,rfl⟩:=h3 rfl;exact ⟨l,es',hl,rfl,h1,h2,fun fs fs' c2 hf=>hR.wrote hl (by rw [hg]; simp) _ _ ⟨fs',rfl,hf⟩⟩
theorem hG {r:Nat} {es:Array MapEntry} {cl:Nat} (o:Obj) (hb:w.heap[r]? = some (.map es cl)):(setObj r o).run P w = .ok () (World.setBlk w r o):=by
 simp [setObj,Sem.run,hb,World.setBlk]
theorem aCS {es:List MapEntry} {es':Array MapEntry} (he:lC ρ es es'.toList) {kd i:Nat} {k k' u:Value} (hk:aO ρ k k') (hf:iZ kd k es=some (some (i,u))) (w:World) :
  (Instr.keyThatStays (((es'[i]?).map (·.key)).getD k') k').run P w = .ok k' w/\k'=k:=by
 obtain ⟨e,h1,_,h3⟩:=aDW es i u hf;obtain ⟨h4,h5,h6⟩:=aAC h3;have hk':=hk.flat h5
 have hi:i<es'.toList.length:=by
  rw [<- he.len];rcases Nat.lt_or_ge i es.length with g | g
  ·exact g
  ·rw [List.getElem?_eq_none g] at h1; simp at h1
 have h7:=(he.at_ i e _ h1 (List.getElem?_eq_getElem hi)).2.1;rw [h4] at h7;have h8:=h7.flat h5;have h9:es'[i]? = some es'.toList[i]:=by rw [<- Array.getElem?_toList]; exact List.getElem?_eq_getElem hi
 subst hk';refine ⟨?_,rfl⟩;rw [h9];simp only [Option.map_some,Option.getD_some,h8];simp [Instr.keyThatStays,h6]
theorem tQ (hR:R P ρ w0 H w) {t kt e kd:Nat} {m m' k k' x x':Value} {H':AH} (ht:P.underlying t=some (.map kt e)) (hkd:lA P kt=some kd) (h:cN kd m k x H=some H') (hm:aO ρ m m') (hk:aO ρ k k') (hx:aO ρ x x') :
  ∃ w',R P ρ w0 H' w'/\(Instr.mapUpdate t m' k' x').run P w = .ok () w':=by
 obtain ⟨d,hd,hkd'⟩:=tK hkd;unfold cN at h
 split at h
 ·rename_i r
  split at h
  ·rename_i es cl hg
   obtain ⟨l,es',hl,rfl,hb,her,hw⟩:=hR.mapAt hm hg;simp only [Option.map_eq_some_iff] at h;obtain ⟨q,hq,rfl⟩:=h;obtain ⟨q',g1,g2,g3⟩:=kQ hkd' hk es es'.toList q 0 hq her;have hck:=fun e=>tX (P:=P) hkd' k' trivial w e kt 9999 hd;have hfk:=lB (P:=P) hd g1 w;have hgo:=run_getObj_map (P:=P) w _ _ _ hb;cases q with
   | none =>
    have:=g2 rfl; subst this;refine ⟨_,hw (es++[{ key:=k,val:=x,born:=cl }]) (es'.push { key:=k',val:=x',born:=cl }) (cl+1) (by simpa using her.push (e:={ key:=k,val:=x,born:=cl }) (e':={ key:=k',val:=x',born:=cl }) ⟨rfl,hk,hx⟩),?_⟩
    simp only [Instr.mapUpdate,Sem.run_bind,aT ht,Result.andThen_ok,hgo,hck,hfk];exact hG _ hb
   | some p =>
    obtain ⟨i,u⟩:=p;obtain ⟨u',a1,_,_⟩:=g3 i u rfl;subst a1;obtain ⟨s1,s2⟩:=aCS (P:=P) her hk hq w;rw [Nat.zero_add] at hfk;refine ⟨_,hw (es.modify i fun e=>{ e with key:=k,val:=x }) (es'.modify i fun e=>{ e with key:=k',val:=x' }) cl (by rw [Array.toList_modify]; exact her.modify i _ _ (fun e e' h=>⟨h.1,hk,hx⟩)),?_⟩
    simp only [Instr.mapUpdate,Sem.run_bind,aT ht,Result.andThen_ok,hgo,hck,hfk,s1];exact hG _ hb
  ·simp at h
 ·simp at h
theorem aBE (hR:R P ρ w0 H w) {t kt e kd:Nat} {z m m' k k':Value} {H':AH} (ht:P.underlying t=some (.map kt e)) (hkd:lA P kt=some kd) (hz:eN P e=some z) (hlz:aCq z=true) (h:rW kd z m k H=some (v,H')) (hm:aO ρ m m') (hk:aO ρ k k') :
  ∃ v' w',R P ρ w0 H' w'/\aO ρ v v'/\(Instr.mapEntry t m' k').run P w = .ok v' w':=by
 obtain ⟨d,hd,hkd'⟩:=tK hkd;unfold rW at h
 split at h
 ·rename_i r
  split at h
  ·rename_i es cl hg
   obtain ⟨l,es',hl,rfl,hb,her,hw⟩:=hR.mapAt hm hg;simp only [Option.map_eq_some_iff] at h;obtain ⟨q,hq,h⟩:=h;obtain ⟨q',g1,g2,g3⟩:=kQ hkd' hk es es'.toList q 0 hq her;have hck:=fun e=>tX (P:=P) hkd' k' trivial w e kt 9999 hd;have hfk:=lB (P:=P) hd g1 w;have hgo:=run_getObj_map (P:=P) w _ _ _ hb;cases q with
   | none =>
    have:=g2 rfl; subst this;simp only [Prod.mk.injEq] at h;obtain ⟨rfl,rfl⟩:=h;refine ⟨_,_,hw (es++[{ key:=k,val:=z,born:=cl }]) (es'.push { key:=k',val:=z,born:=cl }) (cl+1) (by simpa using her.push (e:={ key:=k,val:=z,born:=cl }) (e':={ key:=k',val:=z,born:=cl }) ⟨rfl,hk,oZ hlz⟩),(bG.cons (oZ hlz) (bG.cons (.int _ _) bG.nil)).tuple,?_⟩
    simp only [Instr.mapEntry,Sem.run_bind,aT ht,Result.andThen_ok,hgo,hck,hfk,gO hz,hG (P:=P) _ hb]
    rfl
   | some p =>
    obtain ⟨i,u⟩:=p;obtain ⟨u',a1,hu,hi⟩:=g3 i u rfl;subst a1;obtain ⟨s1,s2⟩:=aCS (P:=P) her hk hq w;rw [Nat.zero_add] at hfk;simp only [Prod.mk.injEq] at h;obtain ⟨rfl,rfl⟩:=h
    have hborn:((es'[i]?).map (fun x=>(x.born:Int))).getD 0=((es[i]?).map (fun x=>(x.born:Int))).getD 0:=by
     have hi':i<es'.toList.length:=by rw [<- her.len]; exact hi
     have h9:es'[i]? = some es'.toList[i]:=by rw [<- Array.getElem?_toList]; exact List.getElem?_eq_getElem hi'
     rw [h9,List.getElem?_eq_getElem hi];simp only [Option.map_some,Option.getD_some];rw [(her.at_ i _ _ (List.getElem?_eq_getElem hi) (List.getElem?_eq_getElem hi')).1]
    refine ⟨_,_,hw (es.modify i fun e=>{ e with key:=k }) (es'.modify i fun e=>{ e with key:=k' }) cl (by rw [Array.toList_modify]; exact her.modify i _ _ (fun e e' h=>⟨h.1,hk,h.2.2⟩)),(bG.cons hu (bG.cons (.int _ _) bG.nil)).tuple,?_⟩
    simp only [Instr.mapEntry,Sem.run_bind,aT ht,Result.andThen_ok,hgo,hck,hfk,s1,hG (P:=P) _ hb,hborn]
    rfl
  ·simp at h
 ·simp at h
theorem aBS (hR:R P ρ w0 H w) {ats:Array TypeId} {args:Array Value} {t ty kt e kd:Nat} {m m' k k':Value} {H':AH} (h1:ats[0]? = some t) (h2:args[0]? = some m') (h3:args[1]? = some k') (ht:P.underlying t=some (.map kt e)) (hkd:lA P kt=some kd)
  (h:jV kd m k H=some H') (hm:aO ρ m m') (hk:aO ρ k k'):∃ w',R P ρ w0 H' w'/\(Builtin.delete_ ats ty args).run P w = .ok (.tuple #[]) w':=by
 obtain ⟨d,hd,hkd'⟩:=tK hkd;have hck:=fun e=>tX (P:=P) hkd' k' trivial w e kt 9999 hd;unfold jV at h
 split at h
 ·simp only [Option.some.injEq] at h; subst h
  cases hm;refine ⟨w,hR,?_⟩;simp only [Builtin.delete_,h1,h2,h3,Sem.run_bind,aT ht,Result.andThen_ok,hck]
  rfl
 ·rename_i r
  split at h
  ·rename_i es cl hg
   obtain ⟨l,es',hl,rfl,hb,her,hw⟩:=hR.mapAt hm hg;simp only [Option.map_eq_some_iff] at h;obtain ⟨q,hq,rfl⟩:=h;obtain ⟨q',g1,g2,g3⟩:=kQ hkd' hk es es'.toList q 0 hq her;have hfk:=lB (P:=P) hd g1 w;have hgo:=run_getObj_map (P:=P) w _ _ _ hb;cases q with
   | none =>
    have:=g2 rfl; subst this;refine ⟨w,hR,?_⟩;have hs:World.setBlk w l.block (.map es' cl)=w:=vQ hb;simp only [Builtin.delete_,h1,h2,h3,Sem.run_bind,aT ht,Result.andThen_ok,hgo,hck,hfk,hG (P:=P) _ hb,hs]
    rfl
   | some p =>
    obtain ⟨i,u⟩:=p;obtain ⟨u',a1,hu,hi⟩:=g3 i u rfl;subst a1;rw [Nat.zero_add] at hfk;have hi':i<es'.size:=by have:=her.len; simp at this; omega
    refine ⟨_,hw (es.eraseIdx i) (es'.eraseIdxIfInBounds i) cl (by simp only [Array.eraseIdxIfInBounds,hi',dif_pos,Array.toList_eraseIdx]; exact her.eraseIdx i),?_⟩
    simp only [Builtin.delete_,h1,h2,h3,Sem.run_bind,aT ht,Result.andThen_ok,hgo,hck,hfk,hG (P:=P) _ hb]
    rfl
  ·simp at h
 ·simp at h
theorem aAu (hR:R P ρ w0 H w) {t:Nat} {m m' s s' x x':Value} {H':AH} (h:oB m s x H=some H') (hm:aO ρ m m') (hs:aO ρ s s') (hx:aO ρ x x') :
    ∃ w',R P ρ w0 H' w'/\(Instr.entryStore t m' s' x').run P w = .ok () w':=by
  unfold oB at h
  split at h
  · rename_i r kd born
    obtain rfl:=hs.flat rfl
    split at h
    · rename_i es cl hg
      obtain ⟨l,es',hl,rfl,hb,her,hw⟩:=hR.mapAt hm hg;simp only [Option.map_eq_some_iff] at h;obtain ⟨i,hi,rfl⟩:=h;have hgo:=run_getObj_map (P:=P) w _ _ _ hb
      have hfi:∀ (es es':List MapEntry),lC ρ es es'->es.findIdx? (fun e=>(e.born:Int) == born)=es'.findIdx? (fun e=>(e.born:Int) == born):=by
        intro es
        induction es with
        | nil => intro es' h; have : es' = [] := by have := h.len; cases es' <;> simp_all
                 subst this; rfl
        | cons e es ih =>
          intro es' h;cases es' with
          | nil=>have:=h.len; simp at this
          | cons e' es' =>
            rw [List.findIdx?_cons,List.findIdx?_cons,(h.at_ 0 e e' rfl rfl).1,ih es' h.tail]
      have hi':es'.findIdx? (fun e=>(e.born:Int) == born)=some i:=by
        rw [<- hi,hfi es es'.toList her];cases es';rw [List.findIdx?_toArray]
      refine ⟨_,hw (es.modify i fun e=>{ e with val:=x }) (es'.modify i fun e=>{ e with val:=x' }) cl (by rw [Array.toList_modify]; exact her.modify i _ _ (fun e e' h=>⟨h.1,h.2.1,hx⟩)),?_⟩
      simp only [Instr.entryStore,Sem.run_bind,hgo,Result.andThen_ok,asInt,asIntOf,Sem.run_pure,hi'];exact hG _ hb
    · simp at h
  · simp at h
end
end Go.AM
end
section
namespace Go.AM
open Go.RowKit (Below)
section
variable {P:Program} {ρ:Inj} {T:Env} {a:Act} {v:Value} {w0 w:World} {H:AH}
theorem R.moved (r:R P ρ w0 H w) {b:Nat} {l l':Loc} (hl:ρ.loc b=some l) (hd:H.get b ≠ .dead) (o:cH) (obj:Obj) (hb':l'.block=l.block)
  (ho:aAw ρ l' o (some obj)):R P (ρ.put H.next l') w0 ((H.put b .dead).new o) (World.setBlk w l.block obj):=by
 have hn:ρ.loc H.next=none:=by
  cases h:ρ.loc H.next with
  | none=>rfl
  | some q=>have:=(r.own _ _ h).2.1; omega
 obtain ⟨hb1,hb2,hb3,hb4,_⟩:=r.own b l hl;have hle:=Inj.le_put (l:=l') hn
 have get:∀ z,((H.put b .dead).new o).get z=if z=H.next then o else if z=b then .dead else H.get z:=fun z=>by
  rw [AH.get_new,AH.next_put,AH.get_put]; simp [hb2]
 refine { size:=r.size,glob:=r.glob,nxt:=Nat.le_succ_of_le r.nxt,below :=?_,ro :=?_,own :=?_,inj :=?_ }
 ·exact r.below.trans ⟨rfl,rfl,rfl,by simp [World.setBlk],fun k hk=>by
   have hk:k<w0.heap.size:=hk
   show (w.heap.setIfInBounds _ _)[k]? = _
   rw [Array.getElem?_setIfInBounds_ne (by omega)]⟩
 ·intro x hx
  have hx:x<ρ.base:=hx;have h1:x≠H.next:=by have:=r.nxt; omega
  have h2:x≠b:=by omega
  rw [get,if_neg h1,if_neg h2]; exact r.ro x hx
 ·intro x q hq
  by_cases e:x=H.next
  ·subst e
   simp only [Inj.put,if_true,Option.some.injEq] at hq; subst hq;refine ⟨r.nxt,Nat.lt_succ_self _,by rw [hb']; exact hb3,by simp [World.setBlk]; omega,?_⟩
   rw [get,if_pos rfl,hb',yX _ _ hb4]; exact ho.mono hle
  ·simp only [Inj.put,e,if_false] at hq
   obtain ⟨h1,h2,h3,h4,h5⟩:=r.own x q hq;refine ⟨h1,Nat.lt_succ_of_lt h2,h3,by simpa [World.setBlk] using h4,?_⟩
   rw [get,if_neg e]
   by_cases e2:x=b
   ·rw [if_pos e2]; trivial
   ·rw [if_neg e2]
    by_cases hbl:q.block=l.block
    ·have:H.get x = .dead:=Classical.byContradiction fun hx=>e2 (r.inj x b q l hq hl hx hd hbl)
     rw [this]; trivial
    ·show aAw _ _ _ (w.heap.setIfInBounds _ _)[q.block]?
     rw [Array.getElem?_setIfInBounds_ne (fun e=>hbl e.symm)]; exact h5.mono hle
 ·intro x y q q' hq hq' dx dy he
  rw [get] at dx dy
  by_cases ex:x=H.next
  ·by_cases ey:y=H.next
   ·rw [ex,ey]
   ·simp only [Inj.put,ex,if_true,Option.some.injEq] at hq
    simp only [Inj.put,ey,if_false] at hq';rw [if_neg ey] at dy;have hyb:y≠b:=by intro e; rw [if_pos e] at dy; exact dy rfl
    rw [if_neg hyb] at dy;exact absurd (r.inj y b q' l hq' hl dy hd (by rw [<- he,<- hq,hb'])) hyb
  ·by_cases ey:y=H.next
   ·simp only [Inj.put,ey,if_true,Option.some.injEq] at hq'
    simp only [Inj.put,ex,if_false] at hq;rw [if_neg ex] at dx;have hxb:x≠b:=by intro e; rw [if_pos e] at dx; exact dx rfl
    rw [if_neg hxb] at dx;exact absurd (r.inj x b q l hq hl dx hd (by rw [he,<- hq',hb'])) hxb
   ·simp only [Inj.put,ex,ey,if_false] at hq hq'
    rw [if_neg ex] at dx;rw [if_neg ey] at dy;have hxb:x≠b:=by intro e; rw [if_pos e] at dx; exact dx rfl
    have hyb:y≠b:=by intro e; rw [if_pos e] at dy; exact dy rfl
    rw [if_neg hxb] at dx;rw [if_neg hyb] at dy;exact r.inj x y q q' hq hq' dx dy he
theorem aDc {b:Nat} {o:cH} (h:H.get b=o) (hd:o ≠ .dead):H.put b o=H:=by
 have hlt:=AH.lt_of_get (H:=H) (b:=b) (by rw [h]; exact hd)
 unfold AH.put;cases H with
 | mk n raw =>
  simp only [AH.mk.injEq,true_and]
  funext x
  split
  ·rename_i e; subst e; rw [<- h]; simp only [AH.get]; rw [if_pos hlt]
  ·rfl
theorem xR {x x':Value} {m:Nat} (h:pA x=some m) (hx:aO ρ x x') (w:World):(Builtin.lenOf x').run P w = .ok m w:=by
 unfold pA at h
 split at h
 ·simp only [Option.some.injEq] at h; subst h
  cases hx <;> rfl
 ·simp only [Option.some.injEq] at h; subst h
  cases hx; rfl
 ·simp at h
theorem pD (hR:R P ρ w0 H w) {size n:Nat} {x x':Value} {l:List Value} (h:dS size n x H=some l) (hx:aO ρ x x') (hn:∀ m,pA x=some m->n<=m) :
  ∃ l',bG ρ l l'/\(Builtin.firstCells size n x').run P w = .ok l'.toArray w:=by
 unfold dS at h
 split at h
 ·rw [Option.ite_none_right_eq_some] at h
  obtain ⟨_,h⟩:=h;simp only [Option.some.injEq] at h; subst h;cases hx;exact ⟨[],bG.nil,rfl⟩
 ·rename_i A k c
  split at h
  ·simp at h
  ·rename_i hs
   have hs:A.spot=none:=by simpa using hs
   cases hx with
   | slc _ A' _ _ c' r =>
    rcases r with ⟨r,_⟩ | ⟨rfl,_⟩ | ⟨rfl,_⟩
    ·obtain ⟨l',h1,h2,h3⟩:=hR.row r hs h
     refine ⟨l',h1,?_⟩;have:=run_loadCells_list (P:=P) w A' l' h3;rw [h2] at this;exact this
    ·have hn0:n=0:=by have:=hn 0 rfl; omega
     subst hn0;rw [Nat.zero_mul] at h;have hl:=(nJ h).1;have:l=[]:=List.eq_nil_of_length_eq_zero hl;subst this;refine ⟨[],bG.nil,?_⟩
     show (loadCells A' (0*size)).run P w=_
     rw [Nat.zero_mul]; rfl
    ·have hn0:n=0:=by have:=hn 0 rfl; omega
     subst hn0;rw [Nat.zero_mul] at h;have hl:=(nJ h).1;have:l=[]:=List.eq_nil_of_length_eq_zero hl;subst this;refine ⟨[],bG.nil,?_⟩
     show (loadCells A' (0*size)).run P w=_
     rw [Nat.zero_mul]; rfl
 ·rename_i s
  rw [Option.ite_none_right_eq_some] at h;obtain ⟨_,h⟩:=h;simp only [Option.some.injEq] at h; subst h;obtain rfl:=hx.flat rfl;refine ⟨_,bG.refl_lit (List.all_eq_true.2 fun x hx =>?_),?_⟩
  ·simp only [List.mem_map] at hx
   obtain ⟨b,_,rfl⟩:=hx
   rfl
  ·show Result.ok _ w=_
   congr 1
   apply Array.ext';simp
 ·simp at h
theorem sT {size n:Nat} {x:Value} {l:List Value} (h:dS size n x H=some l) (hn:∀ m,pA x=some m->n<=m):l.length=n*size:=by
 unfold dS at h
 split at h
 ·rw [Option.ite_none_right_eq_some] at h
  obtain ⟨rfl,h⟩:=h;simp only [Option.some.injEq] at h; subst h;simp
 ·split at h
  ·simp at h
  ·exact (nJ h).1
 ·rename_i s
  rw [Option.ite_none_right_eq_some] at h;obtain ⟨rfl,h⟩:=h;simp only [Option.some.injEq] at h; subst h;have:=hn s.size rfl;have e:s.data.size=s.size:=rfl;simp [e]; omega
 ·simp at h
theorem oD (hR:R P ρ w0 H w) {size n:Nat} {x x':Value} {l:List Value} (h:gA size n x H=some l) (hx:aO ρ x x') (hn:∀ m,pA x=some m->n<=m) :
  ∃ l',bG ρ l l'/\(Builtin.firstCells size n x').run P w = .ok l'.toArray w:=by
 unfold gA at h
 split at h
 ·simp only [Option.some.injEq] at h; subst h
  cases hx with
  | slc _ A' _ _ c' r =>
   refine ⟨[],bG.nil,?_⟩
   show (loadCells A' (0*size)).run P w=_
   rw [Nat.zero_mul]; rfl
 ·exact pD hR h hx hn
theorem yK {size n:Nat} {x:Value} {l:List Value} (h:gA size n x H=some l) (hn:∀ m,pA x=some m->n<=m):l.length=n*size:=by
 unfold gA at h
 split at h
 ·simp only [Option.some.injEq] at h; subst h; simp
 ·exact sT h hn
theorem aFo (newLen:Nat):∀ (r c:Nat),c<=2*newLen->256<=newLen->Builtin.growBy newLen r c<=2*newLen
 | 0,c,h,_=>h
 | r+1,c,h,h2=>by
  unfold Builtin.growBy
  split
  ·exact h
  ·exact aFo newLen r _ (by omega) h2
theorem aEv {need cap:Nat} (h:cap<need):Builtin.nextslicecap need cap<=2*need:=by
 unfold Builtin.nextslicecap
 split
 ·omega
 ·split
  ·omega
  ·exact aFo need 4 cap (by omega) (by omega)
theorem aHG (hR:R P ρ w0 H w) {ats:Array TypeId} {args:Array Value} {t t2 ty e size bytes:Nat} {z s s' x x':Value} {H':AH} {d2:TypeDesc} (h1:ats[0]? = some t) (h2:ats[1]? = some t2) (h3:args[0]? = some s') (h4:args[1]? = some x')
    (ht:P.underlying t=some (.slice e)) (ht2:P.underlying t2=some d2) (hnz:d2 = .string\/∃ q,d2 = .slice q) (hsz:cT P e=some size) (hby:mI P e=some bytes) (hz:eN P e=some z) (hzs:z.cells.size=size)
    (h:app size bytes s x H=some (v,H')) (hs:aO ρ s s') (hx:aO ρ x x') :
    ∃ ρ' v' w',ρ.le ρ'/\(∀ b,b<H.next->ρ'.loc b=ρ.loc b)/\H.next<=H'.next/\R P ρ' w0 H' w'/\aO ρ' v v'/\(Builtin.append_ ats ty args).run P w = .ok v' w':=by
  have hqi:(P.info? e).map (·.bytes)=some bytes:=hby;obtain ⟨ti,hti,htb⟩:=Option.map_eq_some_iff.1 hqi;have hti':∀ w,(typeInfo e).run P w = .ok ti w:=fun w=>by simp [typeInfo,hti]
  unfold app at h
  split at h
  · rename_i base n c
    simp only [Option.bind_eq_some_iff] at h;obtain ⟨m,hm,new,hnew,h⟩:=h;have hlen:=fun w=>xR (P:=P) hm hx w;obtain ⟨new',hnr,hnrun⟩:=oD hR hnew hx (fun k hk=>by rw [hm] at hk; simp at hk; omega)
    split at h
    · simp at h
    · rename_i hpl
      have hpl:new.all plain1=true:=by simpa using hpl
      have hone:new'.length=new.length:=hnr.1.symm;have hone:new'.length=new.length:=hnr.1.symm
      have runFits:∀ (b':Option Addr) (c':Nat) (w':World),s' = .slice b' n c'->n+m<=c'->(match b' with | none=>(pure ():Sem Unit) | some a'=>storeCells (a'.add (n*size)) new').run P w = .ok () w' ->
          (Builtin.append_ ats ty args).run P w = .ok (.slice b' (n+m) c') w':=by
        intro b' c' w' hs' hle hst;subst hs';cases b' with
        | none =>
          have hw:w'=w:=by simp at hst; exact hst.symm
          subst hw
          rcases hnz with rfl | ⟨q,rfl⟩ <;>
            simp only [Builtin.append_,h1,h2,h3,h4,Sem.run_bind,aT ht,aT ht2,Result.andThen_ok,cC hsz,Sem.run_pure,Bool.false_eq_true,if_false,hlen,Sem.run_ite,if_pos hle,Bool.not_false,if_true,hnrun]
        | some a' =>
          have hst':(storeCells (a'.add (n*size)) new').run P w = .ok () w':=hst
          rcases hnz with rfl | ⟨q,rfl⟩ <;>
            simp only [Builtin.append_,h1,h2,h3,h4,Sem.run_bind,aT ht,aT ht2,Result.andThen_ok,cC hsz,Sem.run_pure,Bool.false_eq_true,if_false,hlen,Sem.run_ite,if_pos hle,Bool.not_false,if_true,hnrun,hst']
      have runGrows:∀ (b':Option Addr) (c':Nat) (old' new':List Value),s' = .slice b' n c'->¬ n+m<=c'->(n+m)*bytes<=2 ^ 46->n+m<2 ^ 62->bytes≠0->(Builtin.firstCells size n s').run P w.drew = .ok old'.toArray w.drew->(Builtin.firstCells size m x').run P w.drew = .ok new'.toArray w.drew ->
          ∃ cap,n+m<=cap/\(Builtin.append_ ats ty args).run P w = .ok (.slice (some ⟨w.heap.size,0,none⟩) (n+m) cap) (w.drew.alloc (.cells (old'.toArray++new'.toArray++Builtin.zeroCells z.cells (cap - (n+m))) e)):=by
        intro b' c' old' new' hs' hgt hbd hlt hb0 hold hnw;subst hs';refine ⟨(Question.appendCap (n+m) c' e).cut (w.tape w.drawn (.appendCap (n+m) c' e)),by simp [Question.cut],?_⟩
        have hch:(choose (.appendCap (n+m) c' e)).run P w = .ok ((Question.appendCap (n+m) c' e).cut (w.tape w.drawn (.appendCap (n+m) c' e))) w.drew:=by
          rw [run_choose]; rfl
        generalize (Question.appendCap (n+m) c' e).cut (w.tape w.drawn (.appendCap (n+m) c' e))=cap at *
        have g1:¬ ((((n+m:Nat)):Int) > IntKind.i64.max/\(False\/ti.bytes=0)):=by
          rintro ⟨g,_⟩;have e:IntKind.i64.max=9223372036854775807:=by decide
          rw [e] at g; omega
        have g2:¬ (Builtin.nextslicecap (n+m) c'*ti.bytes > 2 ^ 48):=by
          have:=aEv (need:=n+m) (cap:=c') (by omega)
          have h5:Builtin.nextslicecap (n+m) c'*ti.bytes<=(2*(n+m))*ti.bytes:=Nat.mul_le_mul_right _ this;rw [Nat.mul_assoc,htb] at h5;rw [htb]; omega
        have h0:ti.bytes≠0:=by rw [htb]; exact hb0
        rcases hnz with rfl | ⟨q,rfl⟩ <;>
          (simp only [Builtin.append_,h1,h2,h3,h4,Sem.run_bind,aT ht,aT ht2,Result.andThen_ok,cC hsz,Sem.run_pure,Bool.false_eq_true,if_false,hlen,Sem.run_ite,if_neg hgt,hti',Bool.not_false,if_true,g2,hch,run_askRoom,hold,hnw,gO hz,h0,or_false,and_false]
           simp [newRow]
           rfl)
      have hnl:=yK hnew (fun k hk=>by rw [hm] at hk; simp at hk; omega)
      have hnl':new'.length=m*size:=by rw [hone]; exact hnl
      split at h
      · rename_i hle
        cases base with
        | none =>
          rw [Option.ite_none_right_eq_some] at h;obtain ⟨hnil,h⟩:=h;simp only [Option.some.injEq,Prod.mk.injEq] at h;obtain ⟨rfl,rfl⟩:=h;cases hs with
          | snil=>exact ⟨ρ,_,w,ρ.le_refl,fun _ _=>rfl,Nat.le_refl _,hR,.snil _ _,runFits none c w rfl hle rfl⟩
        | some A =>
          simp only at h
          split at h
          · simp at h
          · rename_i hsp
            have hsp:A.spot=none:=by simpa using hsp
            cases hs with
            | slc _ A' _ _ c' r =>
              have hcc:c<=c':=by
                rcases r with ⟨_,rfl | ⟨_,_,_,_,_,g,_⟩⟩ | ⟨_,rfl,_⟩ | ⟨_,rfl,_⟩
                · exact Nat.le_refl _
                · exact g
                · exact Nat.zero_le _
                · exact Nat.zero_le _
              have nothing:new=[]->(storeCells (A'.add (n*size)) new').run P w = .ok () w:=by
                intro hn0;have:new'=[]:=List.eq_nil_of_length_eq_zero (by rw [hone,hn0]; rfl)
                rw [this]; rfl
              split at h
              · rename_i cs fx hg
                rw [Option.ite_none_right_eq_some] at h;obtain ⟨hfit,h⟩:=h;simp only [Option.some.injEq,Prod.mk.injEq] at h;obtain ⟨rfl,rfl⟩:=h;rcases r with ⟨ra,rc⟩ | hrest
                · obtain ⟨w1,q1,q2⟩:=hR.stored ra hsp hg (n*size) hfit hnr hpl
                  refine ⟨ρ,_,w1,ρ.le_refl,fun _ _=>rfl,Nat.le_refl _,q1,.slc _ _ _ _ _ (.inl ⟨ra,rc⟩),runFits (some A') c' w1 rfl (by omega) q2⟩
                · have hnc:n=0/\c=0:=by rcases hrest with ⟨h1,h2,_⟩ | ⟨h1,h2,_⟩ <;> exact ⟨h1,h2⟩
                  obtain ⟨rfl,rfl⟩:=hnc;have hm0:m=0:=by omega
                  subst hm0;have hn0:new=[]:=List.eq_nil_of_length_eq_zero (by rw [hnl,Nat.zero_mul])
                  refine ⟨ρ,_,w,ρ.le_refl,fun _ _=>rfl,Nat.le_refl _,?_,.slc _ _ _ _ _ (.inr hrest),runFits (some A') c' w rfl (by omega) (nothing hn0)⟩
                  rw [hn0,rH,aDc hg (by simp)]; exact hR
              · rename_i f hg
                rw [Option.ite_none_right_eq_some] at h;obtain ⟨hn0,h⟩:=h;simp only [Option.some.injEq,Prod.mk.injEq] at h;obtain ⟨rfl,rfl⟩:=h;rcases r with ⟨ra,rc⟩ | ⟨_,_,hb,_,l,_,hl,_⟩ | ⟨q1,q2,q3,q4⟩
                · exact ⟨ρ,_,w,ρ.le_refl,fun _ _=>rfl,Nat.le_refl _,hR,.slc _ _ _ _ _ (.inl ⟨ra,rc⟩),runFits (some A') c' w rfl (by omega) (nothing hn0)⟩
                · have:=(hR.own _ _ hl).2.2.2.2
                  rw [hg] at this; exact this.elim
                · exact ⟨ρ,_,w,ρ.le_refl,fun _ _=>rfl,Nat.le_refl _,hR,.slc _ _ _ _ _ (.inr (.inr ⟨by omega,q2,q3,q4⟩)),runFits (some A') c' w rfl (by omega) (nothing hn0)⟩
              · simp at h
      · rename_i hgt
        split at h
        · simp at h
        · rename_i hbd
          simp only [not_or,Nat.not_lt,Nat.not_le] at hbd;obtain ⟨hb1,hb2,hb3,hb4⟩:=hbd;simp only [Option.bind_eq_some_iff] at h;obtain ⟨old,hold,h⟩:=h;have hol:=sT hold (fun k hk=>by simp [pA] at hk; omega)
          split at h
          · simp at h
          ·
            have realloc:∀ (H0:AH) (b':Option Addr) (c':Nat),R P ρ w0 H0 w->H0.next=H.next->s' = .slice b' n c'->¬ n+m<=c' ->
                ∃ ρ' v' w',ρ.le ρ'/\(∀ b,b<H.next->ρ'.loc b=ρ.loc b)/\H.next<=(H0.new (.cells (old++new) (some size))).next/\R P ρ' w0 (H0.new (.cells (old++new) (some size))) w'/\aO ρ' (dN (n+m) (n+m) H.next) v'/\(Builtin.append_ ats ty args).run P w = .ok v' w':=by
              intro H0 b' c' hR0 hn0 hs' hgt';obtain ⟨old',ho1,ho2⟩:=pD hR.drew hold hs (fun k hk=>by simp [pA] at hk; omega)
              obtain ⟨nw,hw1,hw2⟩:=oD hR.drew hnew hx (fun k hk=>by rw [hm] at hk; simp at hk; omega)
              obtain ⟨cap,hcap,hrun⟩:=runGrows b' c' old' nw hs' hgt' hb1 hb2 hb4 ho2 hw2
              have hnone:ρ.loc H.next=none:=by
                cases hq:ρ.loc H.next with
                | none=>rfl
                | some q=>have:=(hR.own _ _ hq).2.1; omega
              have hlen1:old'.length=n*size:=by rw [<- ho1.1]; exact hol
              have hlen2:nw.length=m*size:=by rw [<- hw1.1]; exact hnl
              have hzc:(Builtin.zeroCells z.cells (cap - (n+m))).size=(cap - (n+m))*size:=by simp [Builtin.zeroCells,hzs]
              have hmul:n*size+m*size+(cap - (n+m))*size=cap*size:=by rw [<- Nat.add_mul,<- Nat.add_mul]; congr 1; omega
              have hCs:(old'.toArray++nw.toArray++Builtin.zeroCells z.cells (cap - (n+m))).size=cap*size:=by
                simp only [Array.size_append,hzc,List.size_toArray,hlen1,hlen2]; exact hmul
              have hRn:=(hR0.drew).new (.cells (old++new) (some size));have hget:(H0.new (.cells (old++new) (some size))).get H.next = .cells (old++new) (some size):=by rw [<- hn0]; exact AH.get_new_self _ _
              refine ⟨ρ.put H.next ⟨w.heap.size,0,cap*size,some size⟩,_,_,Inj.le_put hnone,fun b hb=>by simp only [Inj.put]; rw [if_neg (by omega)],by simp [AH.new,hn0],hRn.laid hR.nxt (by simp [AH.new,hn0]) hnone ⟨w.heap.size,0,cap*size,some size⟩ (.cells (old'.toArray++nw.toArray++Builtin.zeroCells z.cells (cap - (n+m))) e) rfl ?_,?_,hrun⟩
              · rw [hget]
                refine sC (l:=⟨w.heap.size,0,cap*size,some size⟩) rfl hCs (by rw [hCs]; simp only [List.length_append,hol,hnl]; omega) (fun i _ hh=>by simp at hh) (fun i x hx =>?_)
                obtain ⟨y,hy,hr⟩:=(ho1.append hw1).get hx;refine ⟨y,?_,hr⟩
                have hi:i<(old'.toArray++nw.toArray).size:=by
                  rcases Nat.lt_or_ge i (old'++nw).length with g | g
                  · simpa using g
                  · rw [List.getElem?_eq_none g] at hy; simp at hy
                rw [Array.getElem?_append_left hi,<- hy];simp
              · exact .slc _ _ _ _ _ (.inl ⟨.inr ⟨hR.nxt,rfl,⟨w.heap.size,0,cap*size,some size⟩,by simp [Inj.put],rfl⟩,.inr ⟨⟨w.heap.size,0,cap*size,some size⟩,size,hR.nxt,by simp [Inj.put],rfl,hcap,by simp⟩⟩)
            cases base with
            | none =>
              simp only [Option.some.injEq,Prod.mk.injEq] at h;obtain ⟨rfl,rfl⟩:=h;have hs0:=hs;cases hs0 with
              | snil=>exact realloc H none c hR rfl rfl hgt
            | some A =>
              simp only at h;have hs0:=hs;cases hs0 with
              | slc _ A' _ _ c' r =>
                split at h
                · rename_i cs hg
                  simp only [Option.some.injEq,Prod.mk.injEq] at h;obtain ⟨rfl,rfl⟩:=h;refine realloc H (some A') c' hR rfl rfl ?_;rcases r with ⟨ra,rfl | ⟨l,e',_,hl,hfx,_⟩⟩ | ⟨_,_,_,_,l,e',hl,hfx,_⟩ | ⟨_,rfl,rfl,_⟩
                  · exact hgt
                  · have:=(hR.own _ _ hl).2.2.2.2
                    rw [hg] at this;have:=this.1;rw [hfx] at this; simp at this
                  · have:=(hR.own _ _ hl).2.2.2.2
                    rw [hg] at this;have:=this.1;rw [hfx] at this; simp at this
                  · exact hgt
                · rename_i f hg
                  simp only [Option.some.injEq,Prod.mk.injEq] at h;obtain ⟨rfl,rfl⟩:=h;refine realloc H (some A') c' hR rfl rfl ?_;rcases r with ⟨ra,rfl | ⟨l,e',_,hl,hfx,_⟩⟩ | ⟨_,_,_,_,l,e',hl,hfx,_⟩ | ⟨_,rfl,rfl,_⟩
                  · exact hgt
                  · have:=(hR.own _ _ hl).2.2.2.2
                    rw [hg] at this; exact this.elim
                  · have:=(hR.own _ _ hl).2.2.2.2
                    rw [hg] at this; exact this.elim
                  · exact hgt
                · rename_i cs e2 hg
                  rw [Option.ite_none_right_eq_some] at h;obtain ⟨rfl,h⟩:=h;simp only [Option.some.injEq,Prod.mk.injEq] at h;obtain ⟨rfl,rfl⟩:=h
                  have hbb:ρ.base<=A.block:=by
                    rcases Nat.lt_or_ge A.block ρ.base with g | g
                    · have:=hR.ro _ g
                      rw [hg] at this; exact this.elim
                    · exact g
                  by_cases hin:n+m<=c'
                  ·
                    have facts:∃ l o',ρ.loc A.block=some l/\A'=⟨l.block,o',none⟩/\o'+c'*e2<=l.total/\(n=0\/rT ρ A A'):=by
                      rcases r with ⟨ra,rfl | ⟨l,e',_,hl,hfx,_,hoff⟩⟩ | ⟨h0,_,_,_,l,e',hl,hfx,hb,hsp,hoff⟩ | ⟨_,rfl,rfl,_⟩
                      · exact absurd hin hgt
                      · obtain rfl:=oF (s:=e2) hR hl hfx (by rw [hg]; simp [wV])
                        refine ⟨l,A'.off,hl,?_,hoff,.inr ra⟩;rcases ra with ⟨g,_⟩ | ⟨_,_,l2,hl2,rfl⟩
                        · omega
                        · rw [hl] at hl2; simp only [Option.some.injEq] at hl2; subst hl2; rfl
                      · obtain rfl:=oF (s:=e2) hR hl hfx (by rw [hg]; simp [wV])
                        refine ⟨l,A'.off,hl,?_,hoff,.inl h0⟩;obtain ⟨ab,ao,asp⟩:=A';simp only at hb hsp;subst hb; subst hsp; rfl
                      · exact absurd hin hgt
                    obtain ⟨l,o',hl,rfl,hoff,harel⟩:=facts;obtain ⟨_,_,_,hlb,hol2⟩:=hR.own _ _ hl;rw [hg] at hol2;obtain ⟨hfx,C,te,fr,hC,hsz2,hle2,hfr,hcell⟩:=hol2
                    have hspA:A.spot=none:=by
                      unfold dS at hold;simp only at hold
                      split at hold
                      · simp at hold
                      · rename_i g; simpa using g
                    have hold':∃ old',bG ρ old old'/\∀ j x,old'[j]? = some x->C[o'+j]? = some x:=by
                      unfold dS at hold;simp only at hold
                      split at hold
                      · simp at hold
                      · rcases harel with rfl | ra
                        · rw [Nat.zero_mul] at hold
                          have:old=[]:=List.eq_nil_of_length_eq_zero (nJ hold).1;subst this;exact ⟨[],bG.nil,fun j x hx=>by simp at hx⟩
                        · obtain ⟨l',q1,q2,q3⟩:=hR.row ra hspA hold
                          refine ⟨l',q1,fun j x hx =>?_⟩;have:=q3 j x hx
                          have hadd:(⟨l.block,o',none⟩:Addr).add j=⟨l.block,o'+j,none⟩:=by
                            unfold Addr.add; split
                            · simp [*]
                            · rfl
                          rw [hadd,yU hC] at this; exact this
                    obtain ⟨old',q1,q2⟩:=hold';have hlen1:old'.length=n*e2:=by rw [<- q1.1]; exact hol
                    have hmul:n*e2+m*e2<=c'*e2:=by rw [<- Nat.add_mul]; exact Nat.mul_le_mul_right _ hin
                    have honeC:∀ x∈new',x.oneCell'=true:=by
                      intro x hx;obtain ⟨i,hi⟩:=List.getElem?_of_mem hx
                      have hi2:i<new.length:=by
                        rw [hnr.1];rcases Nat.lt_or_ge i new'.length with g | g
                        · exact g
                        · rw [List.getElem?_eq_none g] at hi; simp at hi
                      exact (hnr.2 i _ x (List.getElem?_eq_getElem hi2) hi).plain1 (List.all_eq_true.1 hpl _ (List.getElem_mem hi2))
                    have hadd:(⟨l.block,o',none⟩:Addr).add (n*e2)=⟨l.block,o'+n*e2,none⟩:=by
                      unfold Addr.add; split
                      · simp [*]
                      · rfl
                    have hst:=kZ (P:=P) (b:=l.block) (o:=o'+n*e2) (e:=te) (fr:=fr) new' 0 C w hC (by rw [hnl']; omega) (fun j hj=>hfr j (by omega)) honeC
                    rw [Nat.add_zero] at hst;have hCl:C.toList.length=l.total:=by simpa using hsz2
                    have hmoved:=hR.moved hl (by rw [hg]; simp) (.cells (old++new) (some e2)) (.cells ⟨bF C.toList (o'+n*e2) new'⟩ te fr) (l':=⟨l.block,o',l.total,some e2⟩) rfl (by
                      refine ⟨rfl,_,te,fr,rfl,?_,?_,hfr,?_⟩
                      · show (bF C.toList (o'+n*e2) new').length=_
                        rw [kH (by rw [hCl,hnl']; omega)]; exact hCl
                      · simp only [List.length_append,hol,hnl]; omega
                      · intro i x hx
                        have harr:∀ (l:List Value) (j:Nat),(⟨l⟩:Array Value)[j]? = l[j]? :=fun l j=>by rw [<- Array.getElem?_toList]
                        rw [harr,jY (by rw [hCl,hnl']; omega)]
                        dsimp only
                        by_cases g:i<n*e2
                        · rw [if_pos (by omega)]
                          rw [List.getElem?_append_left (by rw [hol]; exact g)] at hx
                          obtain ⟨y,hy,hr⟩:=q1.get hx;exact ⟨y,by rw [Array.getElem?_toList]; exact q2 i y hy,hr⟩
                        · rw [if_neg (by omega)]
                          rw [List.getElem?_append_right (by rw [hol]; omega),hol] at hx
                          obtain ⟨y,hy,hr⟩:=hnr.get hx
                          have hi:i - n*e2<new'.length:=by
                            rcases Nat.lt_or_ge (i - n*e2) new'.length with g | g
                            · exact g
                            · rw [List.getElem?_eq_none g] at hy; simp at hy
                          rw [if_pos (by omega)]
                          exact ⟨y,by rw [<- hy]; congr 1; omega,hr⟩)
                    have hnone:ρ.loc H.next=none:=by
                      cases hq:ρ.loc H.next with
                      | none=>rfl
                      | some q=>have:=(hR.own _ _ hq).2.1; omega
                    refine ⟨ρ.put H.next ⟨l.block,o',l.total,some e2⟩,_,_,Inj.le_put hnone,fun b hb=>by simp only [Inj.put]; rw [if_neg (by omega)],by simp [AH.new,AH.put],hmoved,?_,runFits (some ⟨l.block,o',none⟩) c' _ rfl hin (by
                      show (storeCells ((⟨l.block,o',none⟩:Addr).add (n*e2)) new').run P w=_
                      rw [hadd]; exact hst)⟩
                    exact .slc _ _ _ _ _ (.inl ⟨.inr ⟨hR.nxt,rfl,⟨l.block,o',l.total,some e2⟩,by simp [Inj.put],by simp⟩,.inr ⟨⟨l.block,o',l.total,some e2⟩,e2,hR.nxt,by simp [Inj.put],rfl,hin,hoff⟩⟩)
                  · exact realloc (H.put A.block .dead) (some A') c' (hR.killed hbb) rfl rfl hin
                · simp at h
  · simp at h
end
end Go.AM
end
section
namespace Go.AM
open Go.RowKit (Below)
section
variable {P:Program} {ρ:Inj} {T:Env} {a:Act} {v:Value} {w0 w:World} {H:AH}
theorem aEg (hR:R P ρ w0 H w) {ats:Array TypeId} {args:Array Value} {t ty e size:Nat} {d d' x x':Value} {H':AH} (h1:ats[0]? = some t) (h3:args[0]? = some d') (h4:args[1]? = some x')
  (ht:P.underlying t=some (.slice e)) (hsz:cT P e=some size) (h:oM size d x H=some (v,H')) (hd:aO ρ d d') (hx:aO ρ x x') :
  ∃ w',H'.next=H.next/\R P ρ w0 H' w'/\aO ρ v v/\(Builtin.copy_ ats ty args).run P w = .ok v w':=by
 unfold oM at h
 split at h
 ·rename_i base n c
  simp only [Option.bind_eq_some_iff] at h;obtain ⟨m,hm,new,hnew,h⟩:=h;have hlen:=fun w=>xR (P:=P) hm hx w;obtain ⟨new',hnr,hnrun⟩:=oD hR hnew hx (fun k hk=>by rw [hm] at hk; simp at hk; subst hk; exact Nat.min_le_left _ _)
  have hnl:=yK hnew (fun k hk=>by rw [hm] at hk; simp at hk; subst hk; exact Nat.min_le_left _ _)
  split at h
  ·simp at h
  ·rename_i hpl
   have hpl:new.all plain1=true:=by simpa using hpl
   cases base with
   | none =>
    simp only [Option.some.injEq,Prod.mk.injEq] at h;obtain ⟨rfl,rfl⟩:=h;cases hd with
    | snil =>
     refine ⟨w,rfl,hR,.int _ _,?_⟩;simp only [Builtin.copy_,h1,h3,h4,Sem.run_bind,aT ht,Result.andThen_ok,hlen,cC hsz,hnrun]
     rfl
   | some A =>
    simp only at h
    split at h
    ·simp at h
    ·rename_i hsp
     have hsp:A.spot=none:=by simpa using hsp
     cases hd with
     | slc _ A' _ _ c' r =>
      have run:∀ w',(storeCells A' new').run P w = .ok () w'->(Builtin.copy_ ats ty args).run P w = .ok (.int .i64 (Nat.min m n:Nat)) w':=by
       intro w' hst;simp only [Builtin.copy_,h1,h3,h4,Sem.run_bind,aT ht,Result.andThen_ok,hlen,cC hsz,hnrun,hst]
       rfl
      split at h
      ·rename_i cs fx hg
       rw [Option.ite_none_right_eq_some] at h;obtain ⟨hfit,h⟩:=h;simp only [Option.some.injEq,Prod.mk.injEq] at h;obtain ⟨rfl,rfl⟩:=h;rcases r with ⟨ra,rc⟩ | hrest
       ·obtain ⟨w1,q1,q2⟩:=hR.stored ra hsp hg 0 (by simpa using hfit) hnr hpl
        rw [Nat.add_zero] at q1;rw [add_zero] at q2;exact ⟨w1,rfl,q1,.int _ _,run w1 q2⟩
       ·have hnc:n=0:=by rcases hrest with ⟨h1,_⟩ | ⟨h1,_⟩ <;> exact h1
        subst hnc;have hn0:new=[]:=List.eq_nil_of_length_eq_zero (by rw [hnl]; simp)
        have:new'=[]:=List.eq_nil_of_length_eq_zero (by rw [<- hnr.1,hn0]; rfl)
        refine ⟨w,rfl,?_,.int _ _,run w (by rw [this]; rfl)⟩
        rw [hn0,rH,aDc hg (by simp)]; exact hR
      ·rename_i f hg
       rw [Option.ite_none_right_eq_some] at h;obtain ⟨hn0,h⟩:=h;simp only [Option.some.injEq,Prod.mk.injEq] at h;obtain ⟨rfl,rfl⟩:=h;have:new'=[]:=List.eq_nil_of_length_eq_zero (by rw [<- hnr.1,hn0]; rfl)
       exact ⟨w,rfl,hR,.int _ _,run w (by rw [this]; rfl)⟩
      ·simp at h
 ·simp at h
theorem aBr (hR:R P ρ w0 H w) {t:Nat} {x x':Value} {obj:cH} {mkv:Nat->Value} (ht:P.underlying t=some .string) (h:rV x=some (obj,mkv)) (hx:aO ρ x x') :
  ∃ ρ' v' w',ρ.le ρ'/\(∀ b,b<H.next->ρ'.loc b=ρ.loc b)/\R P ρ' w0 (H.new obj) w'/\aO ρ' (mkv H.next) v'/\(Instr.range t x').run P w = .ok v' w':=by
 unfold rV at h
 split at h
 ·rename_i s
  simp only [Option.some.injEq,Prod.mk.injEq] at h;obtain ⟨rfl,rfl⟩:=h;obtain rfl:=hx.flat rfl
  have hnone:ρ.loc H.next=none:=by
   cases hq:ρ.loc H.next with
   | none=>rfl
   | some q=>have:=(hR.own _ _ hq).2.1; omega
  refine ⟨ρ.put H.next ⟨w.heap.size,0,0,none⟩,.pointer (some ⟨w.heap.size,0,none⟩),w.alloc (.stringIter s 0),Inj.le_put hnone,fun b hb=>by simp only [Inj.put]; rw [if_neg (by omega)],?_,?_,?_⟩
  ·refine (hR.new (.siter s 0)).laid hR.nxt (Nat.lt_succ_self _) hnone ⟨w.heap.size,0,0,none⟩ (.stringIter s 0) rfl ?_
   have hgn:(H.new (.siter s 0)).get H.next = .siter s 0:=AH.get_new_self _ _;rw [hgn];exact ⟨rfl,rfl⟩
  ·exact qD (l:=⟨w.heap.size,0,0,none⟩) hR.nxt (by simp [Inj.put]) rfl
  ·simp [Instr.range,underlying,ht]
 ·simp at h
theorem aC9 (hR:R P ρ w0 H w) {ty:Nat} {x x':Value} {H':AH} (h:qT x H=some (v,H')) (hx:aO ρ x x') :
  ∃ w',H'.next=H.next/\R P ρ w0 H' w'/\aO ρ v v/\(Instr.next x' true ty).run P w = .ok v w':=by
 unfold qT at h
 split at h
 ·rename_i r
  split at h
  ·rename_i s pos hg
   cases hx with
   | ptr _ A' ra =>
    rcases ra with ⟨hb,rfl⟩ | ⟨hb,_,l,hl,rfl⟩
    ·have:=hR.ro _ hb
     simp only at this;rw [hg] at this; exact this.elim
    ·have ho:=(hR.own _ _ hl).2.2.2.2
     simp only at ho;rw [hg] at ho;obtain ⟨hs0,hobj⟩:=ho;simp only [hs0,Nat.zero_add];have hgo:(getObj l.block).run P w = .ok (.stringIter s pos) w:=by simp [getObj,Sem.run,hobj]
     split at h
     ·rename_i hpos
      simp only [Option.some.injEq,Prod.mk.injEq] at h;obtain ⟨rfl,rfl⟩:=h
      have hset:(setObj l.block (.stringIter s (pos+(Utf8.decode s pos).2))).run P w = .ok () (World.setBlk w l.block (.stringIter s (pos+(Utf8.decode s pos).2))):=by
       simp [setObj,Sem.run,hobj,World.setBlk]
      refine ⟨_,rfl,hR.wrote hl (by simp only; rw [hg]; simp) (.siter s (pos+(Utf8.decode s pos).2)) (.stringIter s (pos+(Utf8.decode s pos).2)) ⟨hs0,rfl⟩,(bG.cons (.bool _) (bG.cons (.int _ _) (bG.cons (.int _ _) bG.nil))).tuple,?_⟩
      simp only [Instr.next,Sem.run_bind,hgo,Result.andThen_ok,hpos,if_true,hset]
      rfl
     ·rename_i hpos
      simp only [Option.some.injEq,Prod.mk.injEq] at h;obtain ⟨rfl,rfl⟩:=h;refine ⟨w,rfl,hR,(bG.cons (.bool _) bG.nil).tuple,?_⟩;simp only [Instr.next,Sem.run_bind,hgo,Result.andThen_ok,hpos,if_false]
      rfl
  ·simp at h
 ·simp at h
theorem aCg (hR:R P ρ w0 H w) {t kt et:Nat} {x x':Value} {obj:cH} {mkv:Nat->Value} (ht:P.underlying t=some (.map kt et)) (h:mS x H=some (obj,mkv)) (hx:aO ρ x x') :
  ∃ ρ' v' w',ρ.le ρ'/\(∀ b,b<H.next->ρ'.loc b=ρ.loc b)/\R P ρ' w0 (H.new obj) w'/\aO ρ' (mkv H.next) v'/\(Instr.range t x').run P w = .ok v' w':=by
 have hnone:ρ.loc H.next=none:=by
  cases hq:ρ.loc H.next with
  | none=>rfl
  | some q=>have:=(hR.own _ _ hq).2.1; omega
 have fin:∀ (o:cH) (ob:Obj),aAw ρ ⟨w.heap.size,0,0,none⟩ o (some ob)->(Instr.range t x').run P w = .ok (.pointer (some ⟨w.heap.size,0,none⟩)) (w.alloc ob)->obj=o->mkv=kR ->
   ∃ ρ' v' w',ρ.le ρ'/\(∀ b,b<H.next->ρ'.loc b=ρ.loc b)/\R P ρ' w0 (H.new obj) w'/\aO ρ' (mkv H.next) v'/\(Instr.range t x').run P w = .ok v' w':=by
  rintro o ob ho hrun rfl rfl;refine ⟨ρ.put H.next ⟨w.heap.size,0,0,none⟩,.pointer (some ⟨w.heap.size,0,none⟩),w.alloc ob,Inj.le_put hnone,fun b hb=>by simp only [Inj.put]; rw [if_neg (by omega)],?_,?_,hrun⟩
  ·refine (hR.new obj).laid hR.nxt (Nat.lt_succ_self _) hnone ⟨w.heap.size,0,0,none⟩ ob rfl ?_
   rw [AH.get_new_self];exact ho
  ·exact qD (l:=⟨w.heap.size,0,0,none⟩) hR.nxt (by simp [Inj.put]) rfl
 unfold mS at h
 split at h
 ·simp only [Option.some.injEq,Prod.mk.injEq] at h
  obtain ⟨rfl,rfl⟩:=h;cases hx;exact fin (.miter none 0 [] 0) (.mapIter none 0 #[] 0) ⟨rfl,rfl⟩ (by simp [Instr.range,underlying,ht]) rfl rfl
 ·rename_i r
  split at h
  ·rename_i es cl rw_ hg
   simp only [Option.some.injEq,Prod.mk.injEq] at h;obtain ⟨rfl,rfl⟩:=h;cases hx with
   | map _ r' hr =>
    obtain ⟨es',h3,h4,_⟩:=hR.map hr hg;have h5:=run_getObj_map (P:=P) w _ _ _ h3;exact fin (.miter (some r) cl [] cl) (.mapIter (some r') cl #[] cl) ⟨rfl,r',hr,rfl⟩ (by simp [Instr.range,underlying,ht,h5]) rfl rfl
  ·simp at h
 ·simp at h
theorem aDa (hR:R P ρ w0 H w) {ty:Nat} {x x':Value} {K:Value->AH->Prop} (h:mJ x H K) (hx:aO ρ x x') :
  ∃ v v' H' w',H'.next=H.next/\R P ρ w0 H' w'/\aO ρ v v'/\(Instr.next x' false ty).run P w = .ok v' w'/\K v H':=by
 unfold mJ at h
 split at h
 ·rename_i r
  split at h
  ·rename_i since eS last hg
   cases hx with
   | ptr _ A' ra =>
    rcases ra with ⟨hb,rfl⟩ | ⟨hb,_,l,hl,rfl⟩
    ·have:=hR.ro _ hb
     simp only at this;rw [hg] at this; exact this.elim
    ·have ho:=(hR.own _ _ hl).2.2.2.2
     simp only at ho;rw [hg] at ho;obtain ⟨hs0,hobj⟩:=ho;simp only [hs0,Nat.zero_add];have hgo:(getObj l.block).run P w = .ok (.mapIter none since eS.toArray last) w:=by simp [getObj,Sem.run,hobj]
     exact ⟨_,.tuple #[.bool false],H,w,rfl,hR,(bG.cons (.bool _) bG.nil).tuple,by simp only [Instr.next,Sem.run_bind,hgo,Result.andThen_ok]; rfl,h⟩
  ·rename_i m since eS last hg
   split at h
   ·rename_i es cl rw_ hgm
    obtain ⟨hne,hstep,hend⟩:=h;cases hx with
    | ptr _ A' ra =>
     rcases ra with ⟨hb,rfl⟩ | ⟨hb,_,l,hl,rfl⟩
     ·have:=hR.ro _ hb
      simp only at this;rw [hg] at this; exact this.elim
     ·have ho:=(hR.own _ _ hl).2.2.2.2
      simp only at ho;rw [hg] at ho;obtain ⟨hs0,r',hr,hobj⟩:=ho;obtain ⟨es',h3,h4,_⟩:=hR.map hr hgm;simp only [hs0,Nat.zero_add];have hgo:(getObj l.block).run P w = .ok (.mapIter (some r') since eS.toArray last) w:=by simp [getObj,Sem.run,hobj]
      have hgm':=run_getObj_map (P:=P) w _ _ _ h3
      have hborn:∀ e'∈es',∃ e∈es,e.born=e'.born/\aO ρ e.key e'.key/\aO ρ e.val e'.val:=by
       intro e' he';obtain ⟨i,hi,rfl⟩:=Array.getElem_of_mem he';have hl':=h4.len;simp only [Array.length_toList] at hl';have hi2:i<es.length:=by omega
       exact ⟨es[i],List.getElem_mem hi2,h4.at_ i _ _ (List.getElem?_eq_getElem hi2) (by simp [hi])⟩
      have hborn2:∀ e∈es,∃ e'∈es',e.born=e'.born:=by
       intro e he;obtain ⟨i,hi,rfl⟩:=List.getElem_of_mem he;have hl':=h4.len;simp only [Array.length_toList] at hl';have hi2:i<es'.size:=by omega
       exact ⟨es'[i],Array.getElem_mem hi2,(h4.at_ i _ _ (List.getElem?_eq_getElem hi) (by simp [hi2])).1⟩
      have hguard:(!eS.toArray.isEmpty && !es'.isEmpty&&es'.all fun x=>decide (x.born>=last))=false:=by
       cases hb:(!eS.toArray.isEmpty && !es'.isEmpty&&es'.all fun x=>decide (x.born>=last)) with
       | false=>rfl
       | true =>
        exfalso;simp only [Bool.and_eq_true,Bool.not_eq_true',Array.all_eq_true_iff_forall_mem,decide_eq_true_eq] at hb;obtain ⟨⟨b1,b2⟩,b3⟩:=hb;refine hne ⟨by rintro rfl; simp at b1,?_,?_⟩
        ·rintro rfl
         have:=h4.len;simp at this;have:es' = #[]:=Array.eq_empty_of_size_eq_zero this.symm;subst this; simp at b2
        ·rw [List.all_eq_true]
         intro e he;obtain ⟨e',he',hbe⟩:=hborn2 e he;have:=b3 e' he';simp; omega
      generalize hcand:((if ((es'.filter fun e => !eS.toArray.contains e.born).filter fun x=>decide (x.born<since)).isEmpty=true then #[none] else #[])++(((es'.filter fun e => !eS.toArray.contains e.born).filter fun x=>decide (x.born<since))++((es'.filter fun e => !eS.toArray.contains e.born).filter fun x=>decide (x.born>=since))).map some:Array (Option MapEntry))=cand
      have hsize:0<cand.size:=by
       rw [<- hcand]
       by_cases he:((es'.filter fun e => !eS.toArray.contains e.born).filter fun x=>decide (x.born<since)).isEmpty=true
       ·rw [if_pos he]; simp; omega
       ·rw [if_neg he]
        have:0<((es'.filter fun e => !eS.toArray.contains e.born).filter fun x=>decide (x.born<since)).size:=by
         rw [Array.isEmpty_iff] at he;exact Array.size_pos_iff.2 he
        simp only [Array.size_append,Array.size_map];omega
      have hch:∃ n w1,(choose (.mapNext cand.size)).run P w = .ok n w1/\n<cand.size/\R P ρ w0 H w1/\w1.heap=w.heap:=by
       by_cases hf:(Question.mapNext cand.size).forced=true
       ·exact ⟨0,w,by rw [run_choose,if_pos hf],hsize,hR,rfl⟩
       ·exact ⟨_,w.drew,by rw [run_choose,if_neg hf]; rfl,Nat.mod_lt _ hsize,hR.drew,rfl⟩
      obtain ⟨n,w1,hch,hlt,hdrew,hheap⟩:=hch
      have hrun:∀ (q:Option MapEntry),cand[n]? = some q->(Instr.next (.pointer (some ⟨l.block,0,none⟩)) false ty).run P w=((match q with
        | some e=>(do setObj l.block (.mapIter (some r') since (eS.toArray.push e.born) cl); pure (.tuple #[.bool true,e.key,e.val]):Sem Value)
        | none=>pure (.tuple #[.bool false])).run P w1):=by
       intro q hq;simp only [Instr.next,Sem.run_bind,hgo,hgm',Result.andThen_ok,hguard,Bool.false_eq_true,if_false];simp only [Sem.run_pure,Sem.run_bind,Result.andThen_ok,hcand,hch,hq];cases q <;> rfl
      have hq:cand[n]? = some cand[n]:=Array.getElem?_eq_getElem hlt;have hmem:cand[n]∈cand:=Array.getElem_mem hlt;cases hc:cand[n] with
      | none =>
       rw [hc] at hq hmem;refine ⟨_,.tuple #[.bool false],H,w1,rfl,hdrew,(bG.cons (.bool _) bG.nil).tuple,(hrun _ hq).trans rfl,hend fun e he hs =>?_⟩;apply Classical.byContradiction;intro hns;obtain ⟨e',he',hbe⟩:=hborn2 e he;rw [<- hcand] at hmem
       by_cases hemp:((es'.filter fun e => !eS.toArray.contains e.born).filter fun x=>decide (x.born<since)).isEmpty=true
       ·rw [Array.isEmpty_iff] at hemp
        have:e'∈((es'.filter fun e => !eS.toArray.contains e.born).filter fun x=>decide (x.born<since)):=by
         simp only [Array.mem_filter,decide_eq_true_eq,Bool.not_eq_true'];refine ⟨⟨he',?_⟩,by omega⟩
         rw [<- hbe]
         simpa using hns
        rw [hemp] at this;simp at this
       ·rw [if_neg hemp] at hmem
        simp at hmem
      | some e' =>
       rw [hc] at hq hmem
       have he':e'∈es'/\e'.born ∉ eS:=by
        rw [<- hcand] at hmem;simp only [Array.mem_append,Array.mem_map,Array.mem_filter,Option.some.injEq,exists_eq_right,Bool.not_eq_true',decide_eq_true_eq] at hmem;rcases hmem with hmem | (⟨⟨g1,g2⟩,_⟩ | ⟨⟨g1,g2⟩,_⟩)
        ·exfalso
         split at hmem <;> simp at hmem
        ·exact ⟨g1,by simpa using g2⟩
        ·exact ⟨g1,by simpa using g2⟩
       obtain ⟨e,he,hbe,hk,hv⟩:=hborn e' he'.1
       have hset:(setObj l.block (.mapIter (some r') since (eS.toArray.push e'.born) cl)).run P w1 = .ok () (World.setBlk w1 l.block (.mapIter (some r') since (eS.toArray.push e'.born) cl)):=by
        simp [setObj,Sem.run,hheap,hobj,World.setBlk]
       refine ⟨_,.tuple #[.bool true,e'.key,e'.val],H.put r (.miter (some m) since (eS++[e.born]) cl),_,rfl,hdrew.wrote hl (by simp only; rw [hg]; simp) (.miter (some m) since (eS++[e.born]) cl) (.mapIter (some r') since (eS.toArray.push e'.born) cl) ⟨hs0,r',hr,by rw [hbe]; simp⟩,(bG.cons (.bool _) (bG.cons hk (bG.cons hv bG.nil))).tuple,?_,hstep e he (by rw [hbe]; exact he'.2)⟩
       rw [hrun _ hq];simp only [Sem.run_bind,hset,Result.andThen_ok]
       rfl
   ·exact h.elim
  ·exact h.elim
 ·exact h.elim
def mO (P:Program) (ρ:Inj) (w0:World) (n:Nat) (K:Value->AH->Prop) (v':Value) (w':World):Prop :=
 ∃ ρ' v H',ρ.le ρ'/\(∀ b,b<n->ρ'.loc b=ρ.loc b)/\n<=H'.next/\R P ρ' w0 H' w'/\aO ρ' v v'/\K v H'
def aE6 (P : Program) (f : FuncId) : Prop := ∃ fn, P.funcs[f]? = some fn /\ fn.body.isNone = false /\ (fn.name == "runtime.NumGoroutine") = false
def nT (P:Program):bB:=fun f args H K=>(aE6 P f/\∀ ρ w0 w args',R P ρ w0 H w->bG ρ args args'.toList ->
 Calls P f args' w (fun e w'=>∃ v',e = .returned v'/\mO P ρ w0 H.next K v' w')) \/
 (∀ ρ w0 w args',R P ρ w0 H w->bG ρ args args'.toList->∃ v' w',(callFunc f args').run P w = .ok (.value v') w'/\mO P ρ w0 H.next K v' w')
def gP (P:Program) (call:bB):Prop:=∀ f args H K,call f args H K->nT P f args H K
theorem mM {f:FuncId} (h:aE6 P f) (args:Array Value) (w:World):(callFunc f args).run P w = .ok (.enter f args) w:=by
 obtain ⟨fn,h1,h2,h3⟩:=h;unfold callFunc;simp only [Sem.run_bind,run_program,Result.andThen_ok,h1,h2,h3,Bool.false_eq_true,if_false]
 rfl
def rM (P:Program) (s:Sem Next) (w:World) (Q:Value->World->Prop):Prop :=
 (∃ v' w',s.run P w = .ok (.value v') w'/\Q v' w')\/(∃ w',s.run P w = .ok .skip w'/\Q undef w') \/
 (∃ f args w1,s.run P w = .ok (.enter f args) w1/\Calls P f args w1 (fun e w'=>∃ v',e = .returned v'/\Q v' w'))
theorem eL {K:Value->AH->Prop} {v v':Value} {H':AH} {w':World} (hn:H.next<=H'.next) (hR:R P ρ w0 H' w') (hv:aO ρ v v') (hk:K v H'):mO P ρ w0 H.next K v' w' :=
 ⟨ρ,v,H',ρ.le_refl,fun _ _=>rfl,hn,hR,hv,hk⟩
theorem iP {α β:Type} {o:Option (α×β)} {K:α->β->Prop} (h:eK o K):∃ x y,o=some (x,y)/\K x y:=by
 cases o with
 | none=>exact h.elim
 | some p=>exact ⟨p.1,p.2,rfl,h⟩
theorem eQ {α:Type} {o:Option α} {K:α->Prop} (h:opt o K):∃ x,o=some x/\K x:=by
 cases o with
 | none=>exact h.elim
 | some p=>exact ⟨p,rfl,h⟩
theorem aAd {o:Option (cH×(Nat->Value))} {K:Value->AH->Prop} (h:mk o H K):∃ obj m,o=some (obj,m)/\K (m H.next) (H.new obj):=by
 cases o with
 | none=>exact h.elim
 | some p=>exact ⟨p.1,p.2,rfl,h⟩
theorem wJ {kd:Nat} {m k x:Value} {H':AH} (h:cN kd m k x H=some H'):H'.next=H.next:=by
 unfold cN at h
 split at h
 ·split at h
  ·simp only [Option.map_eq_some_iff] at h
   obtain ⟨q,_,rfl⟩:=h
   split <;> rfl
  ·simp at h
 ·simp at h
theorem aDF {kd:Nat} {z m k:Value} {H':AH} (h:rW kd z m k H=some (v,H')):H'.next=H.next:=by
 unfold rW at h
 split at h
 ·split at h
  ·simp only [Option.map_eq_some_iff] at h
   obtain ⟨q,_,h⟩:=h;cases q with
   | none=>simp only [Prod.mk.injEq] at h; rw [<- h.2]; rfl
   | some p=>obtain ⟨i,u⟩:=p; simp only [Prod.mk.injEq] at h; rw [<- h.2]; rfl
  ·simp at h
 ·simp at h
theorem aBn {m s x:Value} {H':AH} (h:oB m s x H=some H'):H'.next=H.next:=by
 unfold oB at h
 split at h
 ·split at h
  ·simp only [Option.map_eq_some_iff] at h
   obtain ⟨q,_,rfl⟩:=h
   rfl
  ·simp at h
 ·simp at h
theorem aDG {z:List Value} {x:Value} {H':AH} (h:rE z x H=some H'):H'.next=H.next:=by
 unfold rE at h
 split at h
 ·simp only [Option.some.injEq] at h; rw [<- h]
 ·split at h
  ·simp only [Option.some.injEq] at h; rw [<- h]
  ·split at h
   ·simp at h
   ·split at h
    ·rw [Option.ite_none_right_eq_some] at h
     obtain ⟨_,h⟩:=h;simp only [Option.some.injEq] at h; rw [<- h]; rfl
    ·simp at h
 ·simp at h
theorem aCJ (hR:R P ρ w0 H w) {ats:Array TypeId} {args:Array Value} {t ty e:Nat} {z x x':Value} {H':AH} (h1:ats[0]? = some t) (h2:args[0]? = some x') (ht:P.underlying t=some (.slice e)) (hz:eN P e=some z)
  (h:rE z.cells.toList x H=some H') (hx:aO ρ x x'):∃ w',R P ρ w0 H' w'/\(Builtin.clear_ ats ty args).run P w = .ok (.tuple #[]) w':=by
 unfold rE at h
 split at h
 ·rename_i n c
  simp only [Option.some.injEq] at h; subst h;cases hx with
  | snil =>
   refine ⟨w,hR,?_⟩;simp only [Builtin.clear_,h1,h2,Sem.run_bind,aT ht,Result.andThen_ok]
   rfl
 ·rename_i a n c
  cases hx with
  | slc _ a' _ _ c' r =>
   split at h
   ·simp only [Option.some.injEq] at h; subst h
    refine ⟨w,hR,?_⟩;simp only [Builtin.clear_,h1,h2,Sem.run_bind,aT ht,Result.andThen_ok]
    rfl
   ·rename_i m
    split at h
    ·simp at h
    ·rename_i hs
     simp only [Bool.or_eq_true,Bool.not_eq_true',not_or,Bool.not_eq_true,Option.isSome_eq_false_iff,Option.isNone_iff_eq_none,Bool.not_eq_false] at hs;obtain ⟨⟨hsp,hlit⟩,hpl⟩:=hs
     split at h
     ·rename_i cs fx hg
      rw [Option.ite_none_right_eq_some] at h;obtain ⟨hfit,h⟩:=h;simp only [Option.some.injEq] at h; subst h;have hza:z.cells.toList.toArray=z.cells:=by simp
      rw [hza] at *
      have hmem:∀ v∈mY ((m+1)*z.cells.toList.length) z.cells,v∈z.cells.toList:=by
       intro v hv;simp only [mY,Array.toList_map,List.mem_map,Array.toList_range,List.mem_range] at hv;obtain ⟨i,hi,rfl⟩:=hv
       have hpos:0<z.cells.size:=by
        apply Nat.pos_of_ne_zero;intro h0;simp [h0] at hi
       rw [getElem!_pos z.cells _ (Nat.mod_lt _ hpos)];simp
      have hl:bG ρ (mY ((m+1)*z.cells.toList.length) z.cells) (mY ((m+1)*z.cells.toList.length) z.cells):=by
       apply bG.refl_lit;rw [List.all_eq_true] at hlit ⊢;exact fun v hv=>hlit v (hmem v hv)
      have hp:(mY ((m+1)*z.cells.toList.length) z.cells).all plain1=true:=by
       rw [List.all_eq_true] at hpl ⊢;exact fun v hv=>hpl v (hmem v hv)
      rcases r with ⟨ra,rc⟩ | hrest
      ·obtain ⟨w1,q1,q2⟩:=hR.stored ra hsp hg 0 (by simpa using hfit) hl hp
       rw [Nat.add_zero] at q1;rw [add_zero] at q2;refine ⟨w1,q1,?_⟩;have e:(Builtin.zeroCells z.cells (m+1)).toList=mY ((m+1)*z.cells.toList.length) z.cells:=by simp [Builtin.zeroCells,mY]
       simp only [Builtin.clear_,h1,h2,Sem.run_bind,aT ht,Result.andThen_ok,gO hz,e,q2]
       rfl
      ·rcases hrest with ⟨h1,_⟩ | ⟨h1,_⟩ <;> simp at h1
     ·simp at h
 ·simp at h
theorem aC2 {kd:Nat} {m k:Value} {H':AH} (h:jV kd m k H=some H'):H'.next=H.next:=by
 unfold jV at h
 split at h
 ·simp only [Option.some.injEq] at h; rw [<- h]
 ·split at h
  ·simp only [Option.map_eq_some_iff] at h
   obtain ⟨q,_,rfl⟩:=h
   split <;> rfl
  ·simp at h
 ·simp at h
theorem aCv {p x:Value} {H':AH} (h:aQ p x H=some H'):H'.next=H.next:=by
 unfold aQ at h
 split at h
 ·split at h
  ·simp at h
  ·split at h
   ·rw [Option.ite_none_right_eq_some] at h
    obtain ⟨_,h⟩:=h;simp only [Option.some.injEq] at h; rw [<- h]; rfl
   ·simp at h
 ·simp at h
theorem aD5 {n:Nat} {p x:Value} {H':AH} (h:aG n p x H=some H'):H'.next=H.next:=by
 unfold aG at h
 split at h
 ·split at h
  ·simp at h
  ·split at h
   ·rw [Option.ite_none_right_eq_some] at h
    obtain ⟨_,h⟩:=h;simp only [Option.some.injEq] at h; rw [<- h]; rfl
   ·simp at h
 ·simp at h
theorem aDg {call:bB} (hcall:gP P call) (hR:R P ρ w0 H w) {f f':Value} {args:List Value} {args':Array Value} {K:Value->AH->Prop} (h:eH call f args H K) (hf:aO ρ f f') (ha:bG ρ args args'.toList) :
  ∃ d,(Deferred.ofValue f' args').run P w = .ok d w/\((∃ g as,(invoke d.target d.args).run P w = .ok (.enter g as) w/\Calls P g as w (fun e w'=>∃ v',e = .returned v'/\mO P ρ w0 H.next K v' w')) \/
   (∃ v' w',(invoke d.target d.args).run P w = .ok (.value v') w'/\mO P ρ w0 H.next K v' w')):=by
 unfold eH at h
 split at h
 ·rename_i g first cap
  cases hf with
  | func _ f1 f1' c1 c1' e1 r1 e2 r2 =>
   have hrel:bG ρ (f1++args++c1) ((⟨f1'⟩++args'++⟨c1'⟩:Array Value).toList):=by
    simp only [Array.toList_append];exact (bG.append (bG.append ⟨e1,r1⟩ ha) ⟨e2,r2⟩)
   refine ⟨_,rfl,?_⟩;rcases hcall _ _ _ _ h with ⟨he,hc⟩ | hx
   ·refine .inl ⟨g,⟨f1'⟩++args'++⟨c1'⟩,?_,hc ρ w0 w _ hR hrel⟩
    show (callFunc g (⟨f1'⟩++args'++⟨c1'⟩)).run P w=_
    exact mM he _ w
   ·obtain ⟨v',w',h1,h2⟩:=hx ρ w0 w _ hR hrel
    exact .inr ⟨v',w',h1,h2⟩
 ·exact h.elim
theorem aG4 {call:bB} (hcall:gP P call) (hR:R P ρ w0 H w) (hT:jN ρ T a) {o:Oper} (hok:∀ x∈o.op.operands.toList,rS P x=true) (hty:jI P o.op=true) {K:Value->AH->Prop} (h:evM P call T o.op H K) :
  rM P (execOp a.eval o) w (mO P ρ w0 H.next K):=by
 have hg:=hR.glob
 have val:∀ {s:Sem Value},execOp a.eval o=(do pure (.value (<- s)):Sem Next)->(∃ v' w',s.run P w = .ok v' w'/\mO P ρ w0 H.next K v' w')->rM P (execOp a.eval o) w (mO P ρ w0 H.next K):=by
  rintro s hs ⟨v',w',h1,h2⟩;exact .inl ⟨v',w',by rw [hs]; simp [h1],h2⟩
 have unit:∀ {s:Sem Unit},execOp a.eval o=(do s; pure .skip:Sem Next)->(∃ w',s.run P w = .ok () w'/\mO P ρ w0 H.next K undef w')->rM P (execOp a.eval o) w (mO P ρ w0 H.next K):=by
  rintro s hs ⟨w',h1,h2⟩;exact .inr (.inl ⟨w',by rw [hs]; simp [h1],h2⟩)
 cases hop:o.op with
 | store t p x =>
  rw [hop] at h hok;simp only [evM] at h;have hp:=bY hg hT (hok p (by simp [Op.operands]))
  have hx:=bY hg hT (hok x (by simp [Op.operands]))
  split at h
  ·rename_i n h1 h2
   obtain ⟨H',hs,hk⟩:=eQ h;obtain ⟨w',r1,r2⟩:=aBq hR h2 hs hp hx;exact unit (by simp only [execOp,hop]) ⟨w',r2,eL (by rw [aD5 hs]; exact Nat.le_refl _) r1 (.any _) hk⟩
  ·rename_i h1 h2
   obtain ⟨H',hs,hk⟩:=eQ h;obtain ⟨w',r1,r2⟩:=aBl hR h2 hs hp hx;exact unit (by simp only [execOp,hop]) ⟨w',r2,eL (by rw [aCv hs]; exact Nat.le_refl _) r1 (.any _) hk⟩
  ·exact h.elim
 | mapUpdate t m k x =>
  rw [hop] at h hok;simp only [evM] at h;have hm:=bY hg hT (hok m (by simp [Op.operands]))
  have hk:=bY hg hT (hok k (by simp [Op.operands]))
  have hx:=bY hg hT (hok x (by simp [Op.operands]))
  split at h
  ·rename_i kt e ht
   split at h
   ·rename_i kd hkd
    obtain ⟨H',hs,hk'⟩:=eQ h;obtain ⟨w',r1,r2⟩:=tQ hR ht hkd hs hm hk hx;exact unit (by simp only [execOp,hop]) ⟨w',r2,eL (by rw [wJ hs]; exact Nat.le_refl _) r1 (.any _) hk'⟩
   ·exact h.elim
  ·exact h.elim
 | insert t m k x =>
  rw [hop] at h hok;simp only [evM] at h;have hm:=bY hg hT (hok m (by simp [Op.operands]))
  have hk:=bY hg hT (hok k (by simp [Op.operands]))
  have hx:=bY hg hT (hok x (by simp [Op.operands]))
  split at h
  ·rename_i kt e ht
   split at h
   ·rename_i kd hkd
    obtain ⟨H',hs,hk'⟩:=eQ h;obtain ⟨w',r1,r2⟩:=tQ hR ht hkd hs hm hk hx;exact unit (by simp only [execOp,hop]) ⟨w',r2,eL (by rw [wJ hs]; exact Nat.le_refl _) r1 (.any _) hk'⟩
   ·exact h.elim
  ·exact h.elim
 | mapEntry t m k =>
  rw [hop] at h hok hty;simp only [evM] at h;have hm:=bY hg hT (hok m (by simp [Op.operands]))
  have hk:=bY hg hT (hok k (by simp [Op.operands]))
  split at h
  ·rename_i kt e ht
   split at h
   ·rename_i kd z hkd hz
    obtain ⟨v,H',hs,hk'⟩:=iP h;have hlz:aCq z=true:=by simp [jI,ht,hz] at hty; exact hty.2
    obtain ⟨v',w',r1,r2,r3⟩:=aBE hR ht hkd hz hlz hs hm hk;exact val (by simp only [execOp,hop]) ⟨v',w',r3,eL (by rw [aDF hs]; exact Nat.le_refl _) r1 r2 hk'⟩
   ·exact h.elim
  ·exact h.elim
 | entryStore t m s x =>
  rw [hop] at h hok;simp only [evM] at h;have hm:=bY hg hT (hok m (by simp [Op.operands]))
  have hs':=bY hg hT (hok s (by simp [Op.operands]))
  have hx:=bY hg hT (hok x (by simp [Op.operands]))
  obtain ⟨H',hs,hk'⟩:=eQ h;obtain ⟨w',r1,r2⟩:=aAu (t:=t) hR hs hm hs' hx;exact unit (by simp only [execOp,hop]) ⟨w',r2,eL (by rw [aBn hs]; exact Nat.le_refl _) r1 (.any _) hk'⟩
 | range t x =>
  rw [hop] at h hok;simp only [evM] at h;have hx:=bY hg hT (hok x (by simp [Op.operands]))
  split at h
  ·rename_i ht
   obtain ⟨obj,m,hm,hk'⟩:=aAd h;obtain ⟨ρ',v',w',r1,r2,r3,r4,r5⟩:=aBr hR ht hm hx;exact val (by simp only [execOp,hop]) ⟨v',w',r5,ρ',_,_,r1,r2,Nat.le_succ _,r3,r4,hk'⟩
  ·rename_i kt et ht
   obtain ⟨obj,m,hm,hk'⟩:=aAd h;obtain ⟨ρ',v',w',r1,r2,r3,r4,r5⟩:=aCg hR ht hm hx;exact val (by simp only [execOp,hop]) ⟨v',w',r5,ρ',_,_,r1,r2,Nat.le_succ _,r3,r4,hk'⟩
  ·exact h.elim
 | next it b =>
  rw [hop] at h hok;have hx:=bY hg hT (hok it (by simp [Op.operands]))
  cases b with
  | true =>
   simp only [evM] at h;obtain ⟨v,H',hs,hk'⟩:=iP h;obtain ⟨w',r0,r1,r2,r3⟩:=aC9 (ty:=o.type) hR hs hx;exact val (by simp only [execOp,hop]) ⟨v,w',r3,eL (by rw [r0]; exact Nat.le_refl _) r1 r2 hk'⟩
  | false =>
   simp only [evM] at h;obtain ⟨v,v',H',w',r0,r1,r2,r3,hk'⟩:=aDa (ty:=o.type) hR h hx;exact val (by simp only [execOp,hop]) ⟨v',w',r3,eL (by rw [r0]; exact Nat.le_refl _) r1 r2 hk'⟩
 | call c =>
  rw [hop] at h hok hty;simp only [evM,iR] at h;have hargs:=pN hg hT c.args.toList (fun x hx=>hok x (by simp only [Op.operands,Call.operands,Array.toList_append,List.mem_append]; exact .inr hx))
  have hargs':bG ρ (c.args.toList.map (ev T)) (c.args.map a.eval).toList:=by rw [Array.toList_map]; exact hargs
  have hat:∀ (i:Nat) x,c.args[i]? = some x->aO ρ (ev T x) (a.eval x)/\(c.args.map a.eval)[i]? = some (a.eval x):=fun i x hx =>
   ⟨bY hg hT (hok x (by simp only [Op.operands,Call.operands,Array.toList_append,List.mem_append]; exact .inr (List.mem_of_getElem? (i:=i) (by simpa using hx)))),by simp [hx]⟩
  split at h
  ·rename_i g hc
   rcases hcall _ _ _ _ h with ⟨he,hcl⟩ | hx
   ·refine .inr (.inr ⟨g,c.args.map a.eval,w,?_,hcl ρ w0 w _ hR hargs'⟩)
    simp only [execOp,hop,resolve,hc,Act.eval,Deferred.ofValue,Sem.run_bind,Sem.run_pure,Result.andThen_ok,invoke];have:=mM he (c.args.map a.eval) w
    simpa using this
   ·obtain ⟨v',w',h1,h2⟩:=hx ρ w0 w _ hR hargs'
    refine .inl ⟨v',w',?_,h2⟩;simp only [execOp,hop,resolve,hc,Act.eval,Deferred.ofValue,Sem.run_bind,Sem.run_pure,Result.andThen_ok,invoke]
    simpa using h1
  ·rename_i f hnf hc
   have hf:=bY hg hT (hok f (by simp only [Op.operands,Call.operands,hc,Array.toList_append,List.mem_append]; exact .inl (by simp)))
   obtain ⟨d,h1,h2⟩:=aDg hcall hR h hf hargs';rcases h2 with ⟨g,as,h2,h3⟩ | ⟨v',w',h2,h3⟩
   ·refine .inr (.inr ⟨g,as,w,?_,h3⟩)
    simp only [execOp,hop,resolve,hc,Sem.run_bind,h1,Result.andThen_ok];exact h2
   ·refine .inl ⟨v',w',?_,h3⟩
    simp only [execOp,hop,resolve,hc,Sem.run_bind,h1,Result.andThen_ok];exact h2
  ·rename_i hc
   have app_case:∀ (s x:Operand) (e:Nat) (d2:TypeDesc) (t t2:Nat),c.args[0]? = some s->c.args[1]? = some x->c.argTypes[0]? = some t->P.underlying t=some (.slice e)->c.argTypes[1]? = some t2->P.underlying t2=some d2 ->
     (d2 = .string\/∃ q,d2 = .slice q)->(match cT P e,mI P e,eN P e with
      | some z,some b,some zv=>match zv.cells.size == z with
       | true=>eK (app z b (ev T s) (ev T x) H) K
       | false=>False
      | _,_,_=>False)->rM P (execOp a.eval o) w (mO P ρ w0 H.next K):=by
    intro s x e d2 t t2 hs hx ht1 ht2 ht3 ht4 hd h
    split at h
    ·rename_i z b zv hz hb hzv
     split at h
     ·rename_i hzz
      obtain ⟨v,H',hap,hk'⟩:=iP h;obtain ⟨ρ',v',w',r1,r2,r3,r4,r5,r6⟩:=aHG (ty:=o.type) hR ht1 ht3 (hat 0 s hs).2 (hat 1 x hx).2 ht2 ht4 hd hz hb hzv (eq_of_beq hzz) hap (hat 0 s hs).1 (hat 1 x hx).1;exact .inl ⟨v',w',by simp [execOp,hop,resolve,hc,invoke,builtin,r6],ρ',v,H',r1,r2,r3,r4,r5,hk'⟩
     ·exact h.elim
    ·exact h.elim
   split at h
   ·rename_i s x e q hs hx hu1 hu2
    simp only [Option.bind_eq_some_iff] at hu1 hu2;obtain ⟨t,h1,h2⟩:=hu1;obtain ⟨t2,h3,h4⟩:=hu2;exact app_case s x e _ t t2 hs hx h1 h2 h3 h4 (.inr ⟨_,rfl⟩) h
   ·rename_i s x e hs hx hu1 hu2
    simp only [Option.bind_eq_some_iff] at hu1 hu2;obtain ⟨t,h1,h2⟩:=hu1;obtain ⟨t2,h3,h4⟩:=hu2;exact app_case s x e _ t t2 hs hx h1 h2 h3 h4 (.inl rfl) h
   ·exact h.elim
  ·rename_i hc
   split at h
   ·rename_i d x e hd hx hu1
    simp only [Option.bind_eq_some_iff] at hu1;obtain ⟨t,h1,h2⟩:=hu1
    split at h
    ·rename_i z hz
     obtain ⟨v,H',hcp,hk'⟩:=iP h;obtain ⟨w',r0,r1,r2,r3⟩:=aEg (ty:=o.type) hR h1 (hat 0 d hd).2 (hat 1 x hx).2 h2 hz hcp (hat 0 d hd).1 (hat 1 x hx).1;exact .inl ⟨v,w',by simp [execOp,hop,resolve,hc,invoke,builtin,r3],eL (by rw [r0]; exact Nat.le_refl _) r1 r2 hk'⟩
    ·exact h.elim
   ·exact h.elim
  ·rename_i hc
   split at h
   ·rename_i m k kt e hm hk hu1
    simp only [Option.bind_eq_some_iff] at hu1;obtain ⟨t,h1,h2⟩:=hu1
    split at h
    ·rename_i kd hkd
     obtain ⟨H',hdl,hk'⟩:=eQ h;obtain ⟨w',r1,r2⟩:=aBS (ty:=o.type) hR h1 (hat 0 m hm).2 (hat 1 k hk).2 h2 hkd hdl (hat 0 m hm).1 (hat 1 k hk).1;exact .inl ⟨.tuple #[],w',by simp [execOp,hop,resolve,hc,invoke,builtin,r2],eL (by rw [aC2 hdl]; exact Nat.le_refl _) r1 (.any _) hk'⟩
    ·exact h.elim
   ·exact h.elim
  ·rename_i hc
   split at h
   ·rename_i x e hx hu1
    simp only [Option.bind_eq_some_iff] at hu1;obtain ⟨t,h1,h2⟩:=hu1
    split at h
    ·rename_i z hz
     obtain ⟨H',hcl,hk'⟩:=eQ h;obtain ⟨w',r1,r2⟩:=aCJ (ty:=o.type) hR h1 (hat 0 x hx).2 h2 hz hcl (hat 0 x hx).1;exact .inl ⟨.tuple #[],w',by simp [execOp,hop,resolve,hc,invoke,builtin,r2],eL (by rw [aDG hcl]; exact Nat.le_refl _) r1 (.any _) hk'⟩
    ·exact h.elim
   ·exact h.elim
  ·exact h.elim
 | _=>rw [hop] at h; simp [evM] at h
end
end Go.AM
end
section
namespace Go.AM
open Go.RowKit (Below)
section
variable {P:Program} {ρ:Inj} {T:Env} {a:Act} {w0 w:World} {H:AH} {call:bB}
def mR (P:Program) (N:Nat) (o:Oper):Bool :=
 o.op.operands.toList.all (rS P)&&jI P o.op&&(match o.dst with | some d=>decide (d<N) | none=>true)
theorem oH {N:Nat} {o:Oper} (h:mR P N o=true):(∀ x∈o.op.operands.toList,rS P x=true)/\jI P o.op=true/\∀ d,o.dst=some d->d<N:=by
 simp only [mR,Bool.and_eq_true,List.all_eq_true] at h;exact ⟨h.1.1,h.1.2,fun d hd=>by have:=h.2; rw [hd] at this; simpa using this⟩
theorem jN.put (hT:jN ρ T a) {d:Option Nat} {v v':Value} (hd:∀ x,d=some x->x<a.tmps.size) (hv:aO ρ v v'):jN ρ (qM T d v) (a.put d v'):=by
 cases d with
 | none=>exact hT
 | some d =>
  intro t;have hlt:=hd d rfl;simp only [qM,upd,Act.put]
  by_cases e:t=d
  ·subst e
   simp [hlt]; exact hv
  ·simp only [e,if_false]
   have:=hT t
   simpa [Array.getElem?_setIfInBounds_ne (Ne.symm e)] using this
theorem yY (d:Option Nat) (v:Value):(a.put d v).defers=a.defers:=by cases d <;> rfl
theorem aCE (d:Option Nat) (v:Value):(a.put d v).tmps.size=a.tmps.size:=by cases d <;> simp [Act.put]
theorem aB6 (hT:jN ρ T a) {ops:Array Oper} {j:Nat} {b:Bool} (h:mP ops.toList T j = .bool b):yielded ops a.tmps j=some b:=by
 unfold mP at h;unfold yielded;rw [Array.getElem?_toList] at h;cases ho:ops[j]? with
 | none=>rw [ho] at h; simp [undef] at h
 | some o =>
  rw [ho] at h;simp only at h;cases hd:o.dst with
  | none=>rw [hd] at h; simp [undef] at h
  | some d =>
   rw [hd] at h;simp only at h;have:=hT d;rw [h] at this;have hv:=this.flat rfl;simp only [Array.getD_eq_getD_getElem?] at hv;simp only [Option.bind_some,hd];cases ht:a.tmps[d]? with
   | none=>rw [ht] at hv; simp [undef] at hv
   | some u=>rw [ht] at hv; simp at hv; subst hv; rfl
theorem tM (hT:jN ρ T a) {ops:Array Oper} {j:Nat} (h:gS (mP ops.toList T j)=true):yielded ops a.tmps j=none:=by
 unfold mP at h;unfold yielded;rw [Array.getElem?_toList] at h;cases ho:ops[j]? with
 | none=>rfl
 | some o =>
  rw [ho] at h;simp only at h;cases hd:o.dst with
  | none=>simp [hd]
  | some d =>
   rw [hd] at h;simp only at h;obtain ⟨x,hx⟩:=aEu (hT d) h;simp only [Array.getD_eq_getD_getElem?] at hx;simp only [Option.bind_some,hd];cases ht:a.tmps[d]? with
   | none=>rfl
   | some u=>rw [ht] at hx; simp at hx; subst hx; rfl
theorem sW {v:Value} {A B:Prop} (h:ifB v A B):(v = .bool true/\A)\/(v = .bool false/\B):=by
 unfold ifB at h
 split at h
 ·exact .inl ⟨rfl,h⟩
 ·exact .inr ⟨rfl,h⟩
 ·exact h.elim
theorem vZ (hT:jN ρ T a) {ops:Array Oper} {o:Oper} {j:Nat} {want:Bool} (hg:o.guard=some (j,want)) {m:(Value->AH->Prop)->Prop} {K:Value->AH->Prop}
  (h:gd (mP ops.toList T j) want m H K):(Region.wanted o (yielded ops a.tmps)=true/\m K)\/(Region.wanted o (yielded ops a.tmps)=false/\K jF H):=by
 unfold gd at h
 split at h
 ·rename_i hs
  refine .inr ⟨?_,h⟩;simp only [Region.wanted,hg,tM hT hs]
  rfl
 have hw:∀ b,mP ops.toList T j = .bool b->Region.wanted o (yielded ops a.tmps)=(b == want):=by
  intro b hb;simp only [Region.wanted,hg,aB6 hT hb];cases b <;> cases want <;> rfl
 cases want with
 | true =>
  rcases sW h with ⟨e,hm⟩ | ⟨e,hk⟩
  ·exact .inl ⟨by rw [hw _ e]; rfl,hm⟩
  ·exact .inr ⟨by rw [hw _ e]; rfl,hk⟩
 | false =>
  rcases sW h with ⟨e,hk⟩ | ⟨e,hm⟩
  ·exact .inr ⟨by rw [hw _ e]; rfl,hk⟩
  ·exact .inl ⟨by rw [hw _ e]; rfl,hm⟩
theorem aIu (hR:R P ρ w0 H w) (hT:jN ρ T a) {o:Oper} (hok:∀ x∈o.op.operands.toList,rS P x=true) (hty:jI P o.op=true) {K:Value->AH->Prop}
  (h:AM.mk (evA P T o.op) H K):rM P (execOp a.eval o) w (mO P ρ w0 H.next K):=by
 obtain ⟨obj,m,hm,hk⟩:=aAd h
 have hnone:ρ.loc H.next=none:=by
  cases hq:ρ.loc H.next with
  | none=>rfl
  | some q=>have:=(hR.own _ _ hq).2.1; omega
 obtain ⟨ρ',v',w',r1,r2,r3,r4,r5⟩:=aAQ (hR.new obj) hT hok hty hm hR.nxt (Nat.lt_succ_self _) hnone (AH.get_new_self _ _);exact .inl ⟨v',w',r5,ρ',_,_,r1,fun b hb=>r2 b (by omega),Nat.le_succ _,r3,r4,hk⟩
theorem wH (hcall:gP P call) (hR:R P ρ w0 H w) (hT:jN ρ T a) {o:Oper} (hok:∀ x∈o.op.operands.toList,rS P x=true) (hty:jI P o.op=true) {K:Value->AH->Prop}
  (h:fS P call T o.op H K):rM P (execOp a.eval o) w (mO P ρ w0 H.next K):=by
 unfold fS at h
 split at h
 ·rename_i v hv
  have:∃ x,(o.op = .move x\/o.op = .assign x)/\v=ev T x:=by
   unfold moved at hv
   split at hv
   ·rename_i x; simp at hv; exact ⟨_,.inl (by assumption),hv.symm⟩
   ·rename_i x; simp at hv; exact ⟨_,.inr (by assumption),hv.symm⟩
   ·simp at hv
  obtain ⟨x,hx,rfl⟩:=this;have hr:=bY hR.glob hT (hok x (by rcases hx with e | e <;> rw [e] <;> simp [Op.operands]))
  refine .inl ⟨a.eval x,w,?_,eL (Nat.le_refl _) hR hr h⟩;rcases hx with e | e <;> simp [execOp,e]
 ·split at h
  ·obtain ⟨v,hv,hk⟩:=eQ h
   obtain ⟨v',hr,hrun⟩:=aAR hR.glob hT hok hty hv;exact .inl ⟨v',w,hrun w,eL (Nat.le_refl _) hR hr hk⟩
  ·obtain ⟨v,hv,hk⟩:=eQ h
   obtain ⟨v',hr,hrun⟩:=aAW hR hT hok hty hv;exact .inl ⟨v',w,hrun,eL (Nat.le_refl _) hR hr hk⟩
  ·exact aIu hR hT hok hty h
  ·exact aG4 hcall hR hT hok hty h
structure St (P:Program) (w0:World) (ρ0:Inj) (n0 N:Nat) (ρ:Inj) (T:Env) (H:AH) (a:Act) (w:World):Prop where
 le:ρ0.le ρ
 hole:∀ b,b<n0->ρ.loc b=ρ0.loc b
 nn:n0<=H.next
 r:R P ρ w0 H w
 t:jN ρ T a
 d:a.defers=[]
 s:a.tmps.size=N
def Nx (P:Program) (w0:World) (ρ0:Inj) (n0 N:Nat) (K:Env->AH->Prop) (a:Act) (w:World):Prop :=
 ∃ ρ T H,St P w0 ρ0 n0 N ρ T H a w/\K T H
theorem rC {ops:Array Oper} {o:Oper} {next:Act->World->Prop} {Q:Exit->Act->World->Prop} {QV:Value->World->Prop} (h:rM P (execOp a.eval o) w QV)
  (hn:∀ v' w',QV v' w'->next (a.put o.dst v') w'):o.wp P a w next Q:=by
 unfold Oper.wp;rcases h with ⟨v',w',h1,h2⟩ | ⟨w',h1,h2⟩ | ⟨f,args,w1,h1,h2⟩
 ·rw [h1]; exact hn _ _ h2
 ·rw [h1]; exact hn _ _ h2
 ·rw [h1]
  simp only [Oper.upon];refine Calls.mono h2 fun e w' he =>?_;obtain ⟨v',rfl,hq⟩:=he;exact hn _ _ hq
variable {ρ0:Inj} {n0 N:Nat}
theorem St.put (h:St P w0 ρ0 n0 N ρ T H a w) {d:Option Nat} (hd:∀ x,d=some x->x<N) {ρ':Inj} {v v':Value} {H':AH} {w':World} (hle:ρ.le ρ') (hh:∀ b,b<H.next->ρ'.loc b=ρ.loc b)
  (hn:H.next<=H'.next) (hR:R P ρ' w0 H' w') (hv:aO ρ' v v'):St P w0 ρ0 n0 N ρ' (qM T d v) H' (a.put d v') w' where
 le:=Inj.le_trans h.le hle
 hole b hb:=by rw [hh b (Nat.lt_of_lt_of_le hb h.nn)]; exact h.hole b hb
 nn:=Nat.le_trans h.nn hn
 r:=hR
 t:=(h.t.mono hle).put (by rw [h.s]; exact hd) hv
 d:=by rw [yY]; exact h.d
 s:=by rw [aCE]; exact h.s
theorem aDv (hcall:gP P call) (h:St P w0 ρ0 n0 N ρ T H a w) {ops:Array Oper} {i:Nat} {o:Oper} (hi:ops[i]? = some o) (ho:mR P N o=true) {Q:Exit->Act->World->Prop}
  {K:Env->AH->Prop} (hk:nH P call ops.toList o T H K) {next:Act->World->Prop} (hn:∀ a w,Nx P w0 ρ0 n0 N K a w->next a w):wpOp P ops Q i next a w:=by
 obtain ⟨hok,hty,hd⟩:=oH ho;unfold wpOp;rw [hi];simp only
 have run:fS P call T o.op H (fun v H'=>K (qM T o.dst v) H')->o.wp P a w next Q:=fun hr =>
  rC (ops:=ops) (wH hcall h.r h.t hok hty hr) (by
   rintro v' w' ⟨ρ',v,H',r1,r2,r3,r4,r5,r6⟩;exact hn _ _ ⟨ρ',_,H',h.put hd r1 r2 r3 r4 r5,r6⟩)
 unfold nH at hk
 split at hk
 ·rename_i hg
  have:Region.wanted o (yielded ops a.tmps)=true:=by simp [Region.wanted,hg]
  rw [this,if_pos rfl];exact .inl (run hk)
 ·rename_i j want hg
  rcases vZ h.t hg hk with ⟨e,hm⟩ | ⟨e,hm⟩
  ·rw [e,if_pos rfl]
   exact .inl (run hm)
  ·rw [e]
   simp only [Bool.false_eq_true,if_false];exact hn _ _ ⟨ρ,_,H,h.put hd ρ.le_refl (fun _ _=>rfl) (Nat.le_refl _) h.r .skip,hm⟩
theorem aDM (hcall:gP P call) {ops:Array Oper} (hall:∀ o∈ops.toList,mR P N o=true) {Q:Exit->Act->World->Prop} {K:Env->AH->Prop}
  (hq:∀ a w,Nx P w0 ρ0 n0 N K a w->Q .normal a w):∀ (l:List Oper) (i:Nat),ops.toList.drop i=l->∀ (ρ:Inj) (T:Env) (H:AH) (a:Act) (w:World),St P w0 ρ0 n0 N ρ T H a w->vU P call ops.toList l T H K ->
   wpOps P ops Q (List.range' i (ops.size - i)) a w:=by
 intro l
 induction l with
 | nil =>
  intro i hl ρ T H a w h hk
  have:ops.size - i=0:=by
   have:=congrArg List.length hl
   simpa using this
  rw [this];exact hq _ _ ⟨ρ,T,H,h,hk⟩
 | cons o l ih =>
  intro i hl ρ T H a w h hk
  have hlt:i<ops.size:=by
   have:=congrArg List.length hl;simp at this; omega
  have hi:ops[i]? = some o:=by
   have:=congrArg (·[0]?) hl
   simpa using this
  have hl':ops.toList.drop (i+1)=l:=by
   rw [<- List.drop_drop,hl]; rfl
  obtain ⟨n,hn⟩:∃ n,ops.size - i=n+1:=⟨ops.size - i - 1,by omega⟩
  rw [hn,List.range'_succ,wpOps_cons];have hom:o∈ops.toList:=List.mem_of_getElem? (i:=i) (by simpa using hi)
  refine aDv hcall h hi (hall o hom) hk ?_;rintro a' w' ⟨ρ',T',H',h',hk'⟩;have:=ih (i+1) hl' ρ' T' H' a' w' h' hk'
  rwa [show ops.size - (i+1)=n by omega] at this
end
end Go.AM
end
section
namespace Go.AM
section
variable {P:Program} {T T':Env} {call:bB}
theorem nO {l:List Operand} (h:∀ x∈l,ev T x=ev T' x):l.map (ev T)=l.map (ev T'):=List.map_congr_left h
theorem uP {c:Call} (h:∀ x∈c.operands,ev T x=ev T' x):(∀ x∈c.args.toList,ev T x=ev T' x)/\(∀ f,c.callee = .value f->ev T f=ev T' f):=by
 constructor
 ·intro x hx
  exact h x (by simp only [Call.operands]; exact Array.mem_append.2 (.inr (by simpa using hx)))
 ·intro f hf
  exact h f (by simp [Call.operands,hf])
theorem aAp (c:Call) (h:∀ x∈c.operands,ev T x=ev T' x):nU P T c=nU P T' c:=by
 obtain ⟨ha,_⟩:=uP h;have hx:∀ (i:Nat) x,c.args[i]? = some x->ev T x=ev T' x:=fun i x hx=>ha x (by simpa using Array.mem_of_getElem? hx)
 unfold nU;rw [nO ha];cases c.callee with
 | builtin b =>
  cases b <;> try rfl
  simp only;cases (c.argTypes[0]?).bind P.underlying with
  | none=>rfl
  | some d =>
   cases h0:c.args[0]? with
   | none=>cases d <;> rfl
   | some x=>have:=hx 0 x h0; cases d <;> first | rfl | simp only [this]
 | _=>rfl
theorem vK {ps:Array (Nat×Operand)} (hp:∀ x∈(ps.toList.map fun p=>p.2).toArray,ev T x=ev T' x):(ps.toList.map fun p=>(p.1,ev T p.2))=(ps.toList.map fun p=>(p.1,ev T' p.2)) :=
 List.map_congr_left fun p hm=>by rw [hp p.2 (by simp; exact ⟨p.1,by simpa using hm⟩)]
theorem iE {o:Option Operand} (h:∀ x,o=some x->ev T x=ev T' x):o.map (ev T)=o.map (ev T'):=by
 cases o with
 | none=>rfl
 | some x=>simp [h x rfl]
theorem wD {op:Op} (h:∀ x∈op.operands,ev T x=ev T' x):moved T op=moved T' op:=by
 unfold moved
 split <;> first | rfl | (rw [h _ (by simp [Op.operands])])
theorem aAM {op:Op} (h:∀ x∈op.operands,ev T x=ev T' x):evP P T op=evP P T' op:=by
 cases op <;> simp only [Op.operands] at h <;> simp only [evP]
 case pick c x y=>rw [h c (by simp),h x (by simp),h y (by simp)]
 case build t ps=>rw [vK h]
 case makeFunc fn first captured =>
  have h1:=nO (l:=first.toList) (T:=T) (T':=T') fun x hx=>h x (by simp at hx; simp [hx])
  have h2:=nO (l:=captured.toList) (T:=T) (T':=T') fun x hx=>h x (by simp at hx; simp [hx])
  cases fn <;> simp only [evP,h1,h2]
 case call c=>exact aAp c h
 case slice t x lo hi mx =>
  have h0:=h x (by simp)
  rw [h0,iE (o:=lo) (T:=T) (T':=T') (fun y hy=>h y (by subst hy; simp)),iE (o:=hi) (T:=T) (T':=T') (fun y hy=>h y (by subst hy; simp)),
   iE (o:=mx) (T:=T) (T':=T') (fun y hy=>h y (by subst hy; simp))]
 all_goals (first | rfl | (simp_all; done))
theorem aAK {op:Op} (h:∀ x∈op.operands,ev T x=ev T' x) (H:AH):evR P T op H=evR P T' op H:=by
 cases op <;> simp only [Op.operands] at h <;> simp only [evR]
 case call c =>
  obtain ⟨ha,_⟩:=uP h;have hx:∀ (i:Nat) x,c.args[i]? = some x->ev T x=ev T' x:=fun i x hx=>ha x (by simpa using Array.mem_of_getElem? hx)
  cases c.callee with
  | builtin b =>
   cases b <;> try rfl
   cases (c.argTypes[0]?).bind P.underlying with
   | none=>rfl
   | some d =>
    cases h0:c.args[0]? with
    | none=>cases d <;> rfl
    | some x=>have:=hx 0 x h0; cases d <;> first | rfl | simp only [this]
  | _=>rfl
 case slice t x lo hi mx =>
  have h0:=h x (by simp)
  rw [h0,iE (o:=lo) (T:=T) (T':=T') (fun y hy=>h y (by subst hy; simp)),iE (o:=hi) (T:=T) (T':=T') (fun y hy=>h y (by subst hy; simp)),
   iE (o:=mx) (T:=T) (T':=T') (fun y hy=>h y (by subst hy; simp))]
 all_goals (first | rfl | (simp_all; done))
theorem aBj {op:Op} (h:∀ x∈op.operands,ev T x=ev T' x):evA P T op=evA P T' op:=by
 cases op <;> simp only [Op.operands] at h
 case buildSlice t n ps=>simp only [evA]; rw [vK h]
 case makeMap t r =>
  cases r with
  | none=>rfl
  | some x=>simp only [evA]; rw [h x (by simp)]
 all_goals simp only [evA]
 all_goals (first | rfl | (simp_all; done))
theorem aGn {op:Op} (h:∀ x∈op.operands,ev T x=ev T' x) (H:AH) (K:Value->AH->Prop):evM P call T op H K=evM P call T' op H K:=by
 cases op <;> simp only [Op.operands] at h
 case call c =>
  simp only [evM];obtain ⟨ha,hf⟩:=uP h;have hx:∀ (i:Nat) x,c.args[i]? = some x->ev T x=ev T' x:=fun i x hx=>ha x (by simpa using Array.mem_of_getElem? hx)
  unfold iR;rw [nO ha];cases hc:c.callee with
  | value f=>have e:=hf f hc; cases f <;> simp only [e]
  | invoke r m=>rfl
  | builtin b =>
   cases h0:c.args[0]? with
   | none=>cases b <;> rfl
   | some x =>
    have e0:=hx 0 x h0;cases h1:c.args[1]? with
    | none =>
     cases (c.argTypes[0]?).bind P.underlying with
     | none=>cases b <;> rfl
     | some d=>cases b <;> first | rfl | (cases d <;> first | rfl | simp only [e0])
    | some y =>
     have e1:=hx 1 y h1;cases (c.argTypes[0]?).bind P.underlying with
     | none=>cases b <;> rfl
     | some d =>
      cases (c.argTypes[1]?).bind P.underlying with
      | none=>cases b <;> first | rfl | (cases d <;> first | rfl | simp only [e0,e1])
      | some d2=>cases b <;> first | rfl | (cases d <;> first | rfl | (simp only [e0,e1]; done) | (cases d2 <;> first | rfl | (simp only [e0,e1]; done)))
 case next it b=>cases b <;> simp only [evM] <;> rw [h it (by simp)]
 all_goals simp only [evM]
 all_goals (first | rfl | (simp_all; done))
theorem wG {op:Op} (h:∀ x∈op.operands,ev T x=ev T' x) (H:AH) (K:Value->AH->Prop):fS P call T op H K=fS P call T' op H K:=by
 unfold fS;rw [wD h,aAM h,aAK h,aBj h,aGn h]
theorem aL6 {op:Op} {H:AH} {v:Value} (o:cH) (h:evR P T op H=some v):evR P T op (H.new o)=some v:=by
 have g:∀ b,H.get b ≠ .dead->(H.new o).get b=H.get b:=fun b hb=>AH.get_new_ne _ _ (by have:=AH.lt_of_get hb; omega)
 have row:∀ b i n l,(H.get b).row i n=some l->(H.new o).get b=H.get b:=fun b i n l hl=>g b (by intro e; rw [e] at hl; simp [cH.row] at hl)
 have cell:∀ b i l,(H.get b).cell i=some l->(H.new o).get b=H.get b:=fun b i l hl=>g b (by intro e; rw [e] at hl; simp [cH.cell] at hl)
 have ent:∀ m es,lJ m H=some es->lJ m (H.new o)=some es:=by
  intro m es hm;unfold lJ at hm ⊢
  split at hm
  ·exact hm
  ·rename_i r
   split at hm
   ·rename_i es' c b hg
    rw [g r (by rw [hg]; simp),hg]; exact hm
   ·simp at hm
  ·simp at hm
 unfold evR at h ⊢
 split at h
 ·split at h
  ·simp only [aE] at h ⊢
   split at h
   ·split at h
    ·simp at h
    ·rename_i hs
     rw [if_neg hs];rw [Option.map_eq_some_iff] at h;obtain ⟨l,hl,e⟩:=h;rw [row _ _ _ _ hl,hl,<- e]; rfl
   ·simp at h
  ·simp only [aC] at h ⊢
   split at h
   ·split at h
    ·simp at h
    ·rename_i hs
     rw [if_neg hs,cell _ _ _ h]; exact h
   ·simp at h
  ·simp at h
 ·split at h
  ·split at h
   ·unfold look at h ⊢
    rw [Option.bind_eq_some_iff] at h;obtain ⟨es,he,h⟩:=h;rw [ent _ _ he]; exact h
   ·simp at h
  ·simp at h
 ·split at h
  ·split at h
   ·unfold xJ at h ⊢
    split at h
    ·exact h
    ·split at h
     ·rename_i hz
      rw [if_pos hz]; exact h
     rename_i hz;rw [if_neg hz]
     split at h
     ·simp at h
     ·rename_i hs
      rw [if_neg hs];rw [Option.bind_eq_some_iff] at h;obtain ⟨l,hl,h⟩:=h;rw [row _ _ _ _ hl,hl]; exact h
    ·simp at h
   ·simp at h
  ·simp at h
 ·split at h
  ·split at h
   ·unfold iN at h ⊢
    split at h
    ·exact h
    ·rename_i a n c _
     by_cases hc:c=0
     ·subst hc
      simp only [beq_self_eq_true,Bool.true_or] at h ⊢;exact h
     have:(H.new o).get a.block=H.get a.block:=g _ (by intro e; rw [e] at h; simp [wV,hc] at h)
     rw [this]; exact h
    ·simp at h
   ·simp at h
  ·simp at h
 ·split at h
  ·unfold rJ at h ⊢
   split at h
   ·exact h
   ·rename_i r _
    split at h
    ·rename_i es' c b hg
     rw [g r (by rw [hg]; simp),hg]; exact h
    ·simp at h
   ·simp at h
  ·simp at h
 ·unfold oW at h ⊢
  split at h
  ·rename_i r _
   split at h
   ·rename_i m since eS last hg
    rw [g r (by rw [hg]; simp),hg]
    simp only
    split at h
    ·rename_i stamp hst
     try simp only [hst]
     split at h
     ·rename_i es cl rw_ hgm
      rw [g m (by rw [hgm]; simp),hgm]; exact h
     ·simp at h
    ·simp at h
   ·simp at h
  ·simp at h
 ·simp at h
end
end Go.AM
end
