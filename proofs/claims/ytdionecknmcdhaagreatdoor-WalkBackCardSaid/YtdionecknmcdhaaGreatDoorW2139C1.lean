/- CONTRACTS ON THE PRINTED FUNCTIONS. -/
import Derived.Test.YtdionecknmcdhaaGreatDoorW2139C0
set_option linter.all false
section
namespace Go.AM
def Tr.Each (P:Nd->Prop) (T:Tr):Prop:=∀ n,P (T.node n)
structure Keeps (P:Nd->Prop):Prop where
 none:P Nd.none
 addE:∀ s k x,P x->P (Nd.addE s k x)
 delE:∀ s x,P x->P (Nd.delE s x)
 addL:∀ k x,P x->P (Nd.addL k x)
 addH:∀ k x,P x->P (Nd.addH k x)
 par:∀ (q:BitVec 16) (x:Nd),P x->P { x with parent:=q }
 made:∀ inn k text,¬ (k=0#8\/3#8<k\/(k=3#8/\(text.length<1\/120<text.length)))->P (Nd.made inn k text)
 data:∀ (x:Nd) (d:List (BitVec 8)),x.kind=1#8->P x->P { x with data:=d }
section
variable {T:Tr} {P:Nd->Prop} (K:Keeps P)
theorem Tr.Each.upd (h:T.Each P) {n:BitVec 16} {f:Nd->Nd} (hf:∀ x:Nd,P x->P (f x)):(T.upd n f).Each P:=by
 intro k
 rcases T.upd_or n k f with e | e
 ·rw [e]; exact h k
 ·rw [e]; exact hf _ (h k)
theorem Tr.Each.updAt (h:T.Each P) {n:BitVec 16} {f:Nd->Nd} (hf:P (f (T.node n))):(T.upd n f).Each P:=by
 intro k
 unfold Tr.upd Tr.node
 simp only [List.getD_eq_getElem?_getD,List.getElem?_modify]
 have hk:=h k
 unfold Tr.node at hk hf
 simp only [List.getD_eq_getElem?_getD] at hk hf
 by_cases e:n.toNat=k.toNat
 ·rw [e] at hf
  cases hh:T.N[k.toNat]? with
  | none=>rw [hh] at hk; exact hk
  | some x=>rw [hh] at hf; simpa [e] using hf
 ·simp only [e,if_false]
  cases hh:T.N[k.toNat]? with
  | none=>rw [hh] at hk; exact hk
  | some x=>rw [hh] at hk; exact hk
theorem Tr.Each.bump (h:T.Each P):T.bump.Each P:=h
include K
theorem Tr.Each.tidy (h:T.Each P) (n:BitVec 16):(T.tidy n).Each P:=by
 unfold Tr.tidy
 split
 ·exact h.upd fun _ _=>K.none
 ·exact h
theorem Tr.Each.put (h:T.Each P) (a:Nat) (x:Nd) (hx:P x):(T.put a x).Each P:=by
 intro k
 unfold Tr.put Tr.node
 simp only [List.getD_eq_getElem?_getD]
 have hk:=h k
 unfold Tr.node at hk
 simp only [List.getD_eq_getElem?_getD] at hk
 split
 ·rw [List.getElem?_set]
  split
  ·exact hx
  ·exact hk
 ·rw [List.getElem?_append]
  split
  ·exact hk
  ·cases hz:([x][k.toNat - T.N.length]? : Option Nd) with
   | none=>exact K.none
   | some z =>
    have:=List.mem_of_getElem? hz
    simp at this
    subst this
    exact hx
theorem Tr.Each.make (h:T.Each P) (inn:BitVec 16) (s:NameL) (kd:BitVec 8) (text:List UInt8):(T.make inn s kd text).1.Each P:=by
 unfold Tr.make
 split
 ·exact h
 split
 ·exact h
 rename_i hc
 split
 ·exact h
 exact ((h.put K T.free (Nd.made inn kd text) (K.made inn kd text hc)).upd (f:=Nd.addE s (BitVec.ofNat 16 T.free)) fun x hx=>K.addE _ _ _ hx).bump
theorem Tr.Each.add (h:T.Each P) (inn:BitVec 16) (s:NameL) (v:BitVec 16):(T.add inn s v).1.Each P:=by
 unfold Tr.add
 repeat' split
 all_goals try exact h
 exact ((h.upd (f:=Nd.addE s v) fun x hx=>K.addE _ _ _ hx).upd (f:=Nd.addL 1) fun x hx=>K.addL _ _ hx).bump
theorem Tr.Each.drop (h:T.Each P) (inn:BitVec 16) (s:NameL) (d:Bool):(T.drop inn s d).1.Each P:=by
 unfold Tr.drop
 repeat' split
 all_goals try exact h
 exact Tr.Each.tidy K ((h.upd (f:=Nd.delE s) fun x hx=>K.delE _ _ hx).upd (f:=Nd.addL (-1)) fun x hx=>K.addL _ _ hx).bump _
theorem Tr.Each.hold (h:T.Each P) (n:BitVec 16) (more:Bool):(T.hold n more).1.Each P:=by
 unfold Tr.hold
 repeat' split
 all_goals try exact h
 ·exact h.upd fun x hx=>K.addH _ _ hx
 ·exact Tr.Each.tidy K (h.upd fun x hx=>K.addH _ _ hx) _
theorem Tr.Each.move (h:T.Each P) (fr:BitVec 16) (s:NameL) (to:BitVec 16) (other:NameL):(T.move fr s to other).1.Each P:=by
 have key:∀ (U:Tr) (n:BitVec 16),U.Each P->(Tr.moved U fr s to other n).Each P:=by
  intro U n hU
  have h2:((U.upd fr (Nd.delE s)).upd to (Nd.addE other n)).Each P:=(hU.upd (f:=Nd.delE s) fun x hx=>K.delE _ _ hx).upd (f:=Nd.addE other n) fun x hx=>K.addE _ _ _ hx
  unfold Tr.moved
  simp only
  split
  ·exact (h2.upd (f:=fun x=>{ x with parent:=to }) fun x hx=>K.par _ _ hx).bump
  ·exact h2.bump
 unfold Tr.move
 split
 ·exact h
 split
 ·exact h
 split
 ·exact h
 split
 ·exact h
 split
 ·exact h
 refine key _ _ ?_
 split
 ·exact h.drop K _ _ _
 ·exact h
theorem Tr.Each.write (h:T.Each P) (n:BitVec 16) (at_:Int) (b:List (BitVec 8)):(T.write n at_ b).1.Each P:=by
 unfold Tr.write
 split
 ·exact h
 split
 ·exact h
 split
 ·exact h
 rename_i hc
 split
 ·exact h
 refine Tr.Each.bump (Tr.Each.updAt h ?_)
 exact K.data _ _ (by simp only [not_or,Decidable.not_not] at hc; exact hc.1) (h n)
theorem Tr.Each.cut (h:T.Each P) (n:BitVec 16) (size:Int):(T.cut n size).1.Each P:=by
 unfold Tr.cut
 split
 ·exact h
 split
 ·exact h
 split
 ·exact h
 rename_i hc
 split
 ·exact h
 refine Tr.Each.bump (Tr.Each.updAt h ?_)
 exact K.data _ _ (by simp only [not_or,Decidable.not_not] at hc; exact hc.1) (h n)
omit K in
theorem Tr.Each.new (limit:Int) (h0:P Nd.none) (h1:P { Nd.none with kind:=2#8,parent:=1#16,links:=1 }):(Tr.new limit).Each P:=by
 intro n
 unfold Tr.new Tr.node
 simp only [List.getD_eq_getElem?_getD]
 by_cases e0:n.toNat=0
 ·rw [e0]; exact h0
 ·by_cases e1:n.toNat=1
  ·rw [e1]; exact h1
  ·rw [List.getElem?_eq_none (by simp; omega)]; exact h0
end
structure Nd.KD (x:Nd):Prop where
 kind:x.kind=0#8\/x.kind=1#8\/x.kind=2#8\/x.kind=3#8
 text:x.kind=3#8->x.text≠[]/\x.text.length<=120
 notext:x.kind≠3#8->x.text=[]
 nodata:x.kind≠1#8->x.data=[]
theorem keeps_KD:Keeps Nd.KD where
 none:=⟨.inl rfl,by simp [Nd.none],by simp [Nd.none],by simp [Nd.none]⟩
 addE:=fun _ _ _ h=>⟨h.kind,h.text,h.notext,h.nodata⟩
 delE:=fun _ _ h=>⟨h.kind,h.text,h.notext,h.nodata⟩
 addL:=fun _ _ h=>⟨h.kind,h.text,h.notext,h.nodata⟩
 addH:=fun _ _ h=>⟨h.kind,h.text,h.notext,h.nodata⟩
 par:=fun _ _ h=>⟨h.kind,h.text,h.notext,h.nodata⟩
 made:=fun inn k text h=>by
  simp only [not_or,not_and] at h
  obtain ⟨h1,h2,h3⟩:=h
  have hk:k=1#8\/k=2#8\/k=3#8:=by
   have h2:¬ (3<k.toNat):=h2
   have h1:k.toNat≠0:=fun e=>h1 (BitVec.eq_of_toNat_eq e)
   have:k.toNat=1\/k.toNat=2\/k.toNat=3:=by omega
   rcases this with e | e | e
   ·exact .inl (BitVec.eq_of_toNat_eq e)
   ·exact .inr (.inl (BitVec.eq_of_toNat_eq e))
   ·exact .inr (.inr (BitVec.eq_of_toNat_eq e))
  refine ⟨.inr hk,fun e =>?_,fun e =>?_,fun _=>rfl⟩
  ·have e:k=3#8:=e
   obtain ⟨a,b⟩:=h3 e
   have ht:(Nd.made inn k text).text=text:=by simp [Nd.made,e]
   rw [ht]
   refine ⟨fun e0=>a (by rw [e0]; decide),by omega⟩
  ·have e:k≠3#8:=e
   simp [Nd.made,e]
 data:=fun x d hk h=>⟨h.kind,h.text,h.notext,fun e=>(e hk).elim⟩
abbrev Tr.KD (T:Tr):Prop:=T.Each Nd.KD
theorem Tr.KD.new (limit:Int):(Tr.new limit).KD:=Tr.Each.new limit keeps_KD.none ⟨.inr (.inr (.inl rfl)),by simp,by simp [Nd.none],by simp [Nd.none]⟩
end Go.AM
end
section
namespace Go.AM
structure InoX (H0 H:AH) (p m:Nat) (L:LyL) (T:Tr):Prop where
 ext:Ext H0 H
 ino:Ino H p m L T
 own:∀ b∈(inoR p m L T).fp,H0.next<=b
section
variable {E:Sy} {H0 H H' H'':AH} {Q:Value->AH->Prop} {p m:Nat} {L L' L'':LyL} {T T' T'':Tr}
theorem S.f4' (hE:Fold E) (limit:Int) (hQ:∀ p m L H',InoX H H' p m L (Tr.new limit)->Q (ptr p 0) H'):E.call (E.fid i.f4) [vi limit] H Q :=
 S.f4 hE limit fun p m L H' e h hf=>hQ p m L H' ⟨e,h,hf⟩
end
end Go.AM
end
section
namespace Go.AM
structure PlaceI where
 mount:Int
 inode:Int
 deriving DecidableEq
def PlaceI.cells (x:PlaceI):List Value:=[vi x.mount,vi x.inode]
abbrev PlaceI.v (x:PlaceI):Value := .agg x.cells.toArray
def PlaceI.zero:PlaceI:=⟨0,0⟩
@[simp high] theorem PlaceI.cells_length (x:PlaceI):x.cells.length=2:=nrf rfl
@[simp high] theorem PlaceI.splice (a0 a1:Value) (x:PlaceI):AM.splice [a0,a1] 0 x.cells=x.cells:=nrf rfl
@[simp high] theorem PlaceI.splice_cells (y x:PlaceI):AM.splice y.cells 0 x.cells=x.cells:=nrf rfl
@[simp high] theorem PlaceI.take (x:PlaceI):x.cells.take 2=x.cells:=nrf rfl
@[simp high] theorem PlaceI.plain (x:PlaceI):x.cells.all plain1=true:=nrf rfl
@[simp high] theorem PlaceI.at0 (x:PlaceI):x.cells[0]? = some (vi x.mount):=nrf rfl
@[simp high] theorem PlaceI.build (p0:Int) (p1:Int)  : buildV [(0,1),(1,1)] [vi 0,vi 0].toArray [(0,vi p0),(1,vi p1)]=some (PlaceI.v ⟨p0,p1⟩):=by
 simp [PlaceI.cells,AM.splice]
theorem PlaceI.ext_iff (x y:PlaceI):x=y↔x.mount=y.mount/\x.inode=y.inode:=by
 cases x; cases y; simp
theorem PlaceI.same (x y:PlaceI):sameCells [0,0] x.cells y.cells=some (decide (x=y)):=by
 simp only [PlaceI.ext_iff,Bool.decide_and,PlaceI.cells,List.cons_append,List.nil_append,sameCells_cons,sameCells_nil,same_i64,same_str,same_bool,same_u8,same_u16,same_u32,same_u64,Option.bind_some,Option.map_some,Bool.and_true,Bool.and_assoc]
@[simp high] theorem PlaceI.eql (x y:PlaceI):binAgg [0,0] .eql (.agg x.cells.toArray) (.agg y.cells.toArray)=some (vb (decide (x=y))):=by rw [binAgg_eql,PlaceI.same]; rfl
@[simp high] theorem PlaceI.neq (x y:PlaceI):binAgg [0,0] .neq (.agg x.cells.toArray) (.agg y.cells.toArray)=some (vb (decide (x≠y))):=by rw [binAgg_neq,PlaceI.same]; simp
structure MntI where
 id:Int
 root:Int
 at_:PlaceI
 held:Int
 deriving DecidableEq
def MntI.cells (x:MntI):List Value:=[vi x.id,vi x.root]++x.at_.cells++[vi x.held]
abbrev MntI.v (x:MntI):Value := .agg x.cells.toArray
def MntI.zero:MntI:=⟨0,0,PlaceI.zero,0⟩
@[simp high] theorem MntI.at0 (x:MntI):x.cells[0]? = some (vi x.id):=nrf rfl
@[simp high] theorem MntI.at1 (x:MntI):x.cells[1]? = some (vi x.root):=nrf rfl
@[simp high] theorem MntI.at2 (x:MntI):x.cells[2]? = some (vi x.at_.mount):=nrf rfl
@[simp high] theorem MntI.at3 (x:MntI):x.cells[3]? = some (vi x.at_.inode):=nrf rfl
@[simp high] theorem MntI.at4 (x:MntI):x.cells[4]? = some (vi x.held):=nrf rfl
@[simp high] theorem MntI.part2 (x:MntI):(x.cells.drop 2).take 2=x.at_.cells:=nrf rfl
theorem MntI.elem {H:AH} {v:Value} {l:List MntI} (h:Rows H 5 v (l.map MntI.cells)) {i:Nat} (hi:i<l.length):∃ b o,ixSlc 5 v (vi i)=some (ptr b o)/\(H.get b).row o 5=some l[i].cells/\(H.get b).cell o=some (vi l[i].id)/\(H.get b).cell (o+1)=some (vi l[i].root)/\(H.get b).cell (o+2)=some (vi l[i].at_.mount)/\(H.get b).cell (o+3)=some (vi l[i].at_.inode)/\(H.get b).cell (o+4)=some (vi l[i].held)/\(H.get b).row (o+2) 2=some l[i].at_.cells:=by
 obtain ⟨b,o,f1,f2⟩:=h.ix (i:=i) (by simpa using hi)
 simp only [List.getElem_map] at f2
 exact ⟨b,o,f1,f2,by have:=row_at f2 (j:=0) (by omega); simpa using this,by have:=row_at f2 (j:=1) (by omega); simpa using this,by have:=row_at f2 (j:=2) (by omega); simpa using this,by have:=row_at f2 (j:=3) (by omega); simpa using this,by have:=row_at f2 (j:=4) (by omega); simpa using this,by have:=row_part f2 (j:=2) (m:=2) (by omega); simpa using this⟩
@[simp high] theorem MntI.build_0_1_2 (p0:Int) (p1:Int) (p2:PlaceI)  : buildV [(0,1),(1,1),(2,2),(4,1)] [vi 0,vi 0,vi 0,vi 0,vi 0].toArray [(0,vi p0),(1,vi p1),(2,.agg (p2).cells.toArray)]=some (MntI.v ⟨p0,p1,p2,0⟩):=by
 simp [MntI.cells,MntI.zero,AM.splice,PlaceI.cells,PlaceI.zero]
@[simp high] theorem MntI.build1 (x:MntI):buildS 1 5 [vi 0,vi 0,vi 0,vi 0,vi 0].toArray [(0,.agg x.cells.toArray)]=some (.cells x.cells none,mkSlc 1 1):=buildS_one 5 [vi 0,vi 0,vi 0,vi 0,vi 0] x.cells rfl rfl
structure EntryI where
 name_:List UInt8
 inode:Int
 deriving DecidableEq
def EntryI.cells (x:EntryI):List Value:=[str x.name_,vi x.inode]
abbrev EntryI.v (x:EntryI):Value := .agg x.cells.toArray
@[simp high] theorem EntryI.at0 (x:EntryI):x.cells[0]? = some (str x.name_):=nrf rfl
@[simp high] theorem EntryI.build (p0:List UInt8) (p1:Int)  : buildV [(0,1),(1,1)] [str [],vi 0].toArray [(0,str p0),(1,vi p1)]=some (EntryI.v ⟨p0,p1⟩):=by
 simp [EntryI.cells,AM.splice]
@[simp high] theorem EntryI.build1 (x:EntryI):buildS 1 2 [str [],vi 0].toArray [(0,.agg x.cells.toArray)]=some (.cells x.cells none,mkSlc 1 1):=buildS_one 2 [str [],vi 0] x.cells rfl rfl
structure NodeI where
 kind:Int
 data_:Value
 l:Value
 parent:Int
 text:List UInt8
 links:Int
 held:Int
def NodeI.cells (x:NodeI):List Value:=[vi x.kind,x.data_,x.l,vi x.parent,str x.text,vi x.links,vi x.held]
abbrev NodeI.v (x:NodeI):Value := .agg x.cells.toArray
def NodeI.zero:NodeI:=⟨0,nilS,nilS,0,[],0,0⟩
@[simp high] theorem NodeI.cells_length (x:NodeI):x.cells.length=7:=nrf rfl
@[simp high] theorem NodeI.splice_cells (y x:NodeI):AM.splice y.cells 0 x.cells=x.cells:=nrf rfl
@[simp high] theorem NodeI.at0 (x:NodeI):x.cells[0]? = some (vi x.kind):=nrf rfl
@[simp high] theorem NodeI.at1 (x:NodeI):x.cells[1]? = some (x.data_):=nrf rfl
@[simp high] theorem NodeI.at2 (x:NodeI):x.cells[2]? = some (x.l):=nrf rfl
@[simp high] theorem NodeI.at3 (x:NodeI):x.cells[3]? = some (vi x.parent):=nrf rfl
@[simp high] theorem NodeI.at4 (x:NodeI):x.cells[4]? = some (str x.text):=nrf rfl
@[simp high] theorem NodeI.at5 (x:NodeI):x.cells[5]? = some (vi x.links):=nrf rfl
@[simp high] theorem NodeI.at6 (x:NodeI):x.cells[6]? = some (vi x.held):=nrf rfl
@[simp high] theorem NodeI.set3 (x:NodeI) (p:Int):x.cells.set 3 (vi p)=({ x with parent:=p }:NodeI).cells:=nrf rfl
@[simp high] theorem NodeI.set4 (x:NodeI) (p:List UInt8):x.cells.set 4 (str p)=({ x with text:=p }:NodeI).cells:=nrf rfl
@[simp high] theorem NodeI.build0:buildV [(0,1),(1,1),(2,1),(3,1),(4,1),(5,1),(6,1)] [vi 0,nilS,nilS,vi 0,str [],vi 0,vi 0].toArray []=some (NodeI.v NodeI.zero):=by
 simp [NodeI.zero,NodeI.cells]
@[simp high] theorem NodeI.build1 (x:NodeI):buildS 1 7 [vi 0,nilS,nilS,vi 0,str [],vi 0,vi 0].toArray [(0,.agg x.cells.toArray)]=some (.cells x.cells none,mkSlc 1 1):=buildS_one 7 [vi 0,nilS,nilS,vi 0,str [],vi 0,vi 0] x.cells rfl rfl
theorem NodeI.buildS (xs:List NodeI):AM.buildS xs.length 7 [vi 0,nilS,nilS,vi 0,str [],vi 0,vi 0].toArray ((List.range' 0 xs.length).zip (xs.map NodeI.v))=some (.cells (xs.map NodeI.cells).flatten none,mkSlc xs.length xs.length):=by
 have:=buildS_full xs.length 7 [vi 0,nilS,nilS,vi 0,str [],vi 0,vi 0] ((List.range' 0 xs.length).zip (xs.map NodeI.v)) (xs.map NodeI.v) rfl (by simp) (by simp) (by rw [List.all_eq_true]; intro v hv; obtain ⟨x,_,rfl⟩:=List.mem_map.1 hv; rfl) (by intro v hv; obtain ⟨x,_,rfl⟩:=List.mem_map.1 hv; rfl)
 rw [this,List.flatMap_map]; rfl
structure TreeI where
 n:Value
 limit:Int
 m:Value
 next:Int
 change:Int
def TreeI.cells (x:TreeI):List Value:=[x.n,vi x.limit,x.m,vi x.next,vi x.change]
abbrev TreeI.v (x:TreeI):Value := .agg x.cells.toArray
@[simp high] theorem TreeI.cells_length (x:TreeI):x.cells.length=5:=nrf rfl
@[simp high] theorem TreeI.at0 (x:TreeI):x.cells[0]? = some (x.n):=nrf rfl
@[simp high] theorem TreeI.at1 (x:TreeI):x.cells[1]? = some (vi x.limit):=nrf rfl
@[simp high] theorem TreeI.at2 (x:TreeI):x.cells[2]? = some (x.m):=nrf rfl
@[simp high] theorem TreeI.at3 (x:TreeI):x.cells[3]? = some (vi x.next):=nrf rfl
@[simp high] theorem TreeI.at4 (x:TreeI):x.cells[4]? = some (vi x.change):=nrf rfl
@[simp high] theorem TreeI.set0 (x:TreeI) (p:Value):x.cells.set 0 (p)=({ x with n:=p }:TreeI).cells:=nrf rfl
@[simp high] theorem TreeI.set2 (x:TreeI) (p:Value):x.cells.set 2 (p)=({ x with m:=p }:TreeI).cells:=nrf rfl
@[simp high] theorem TreeI.set3 (x:TreeI) (p:Int):x.cells.set 3 (vi p)=({ x with next:=p }:TreeI).cells:=nrf rfl
@[simp high] theorem TreeI.set4 (x:TreeI) (p:Int):x.cells.set 4 (vi p)=({ x with change:=p }:TreeI).cells:=nrf rfl
end Go.AM
end
section
namespace Go.AM
structure RLy where
 data:Value
 l:Value
def refI (x:Nd) (y:RLy):NodeI:=⟨(x.kind.toNat:Int),y.data,y.l,(x.parent.toNat:Int),x.text,x.links,x.held⟩
def entR (l:List (NameL×BitVec 16)):List (List Value):=l.map fun e=>[str e.1,vi (e.2.toNat:Int)]
theorem entR_length (l:List (NameL×BitVec 16)):(entR l).length=l.length:=by simp [entR]
def nodeRR (x:Nd) (y:RLy):Res:=joinR [growR 1 y.data (byteR x.data),growR 2 y.l (entR x.ents)]
def nodeRows (T:Tr) (Y:List RLy):List (List Value):=(T.N.zip Y).map fun p=>(refI p.1 p.2).cells
def refRs (t:Nat) (nv mv:Value) (nx:Int) (mr:List (List Value)) (Y:List RLy) (T:Tr):List Res :=
 boxR t (TreeI.cells ⟨nv,T.limit,mv,nx,T.change⟩) :: growR 7 nv (nodeRows T Y) :: growR 5 mv mr :: (T.N.zip Y).map fun p=>nodeRR p.1 p.2
def refR (t:Nat) (nv mv:Value) (nx:Int) (mr:List (List Value)) (Y:List RLy) (T:Tr):Res:=joinR (refRs t nv mv nx mr Y T)
structure RefT (H:AH) (t:Nat) (nv mv:Value) (nx:Int) (mr:List (List Value)) (Y:List RLy) (T:Tr):Prop where
 ow:Ow (refR t nv mv nx mr Y T) H
 len:Y.length=T.N.length
 fit:T.N.length<=60000
structure UpdR (t:Nat) (nv mv:Value) (nx:Int) (mr:List (List Value)) (Y:List RLy) (T:Tr) (nv':Value) (Y':List RLy) (T':Tr) (H H':AH):Prop where
 upd:Upd (refR t nv mv nx mr Y T) (refR t nv' mv nx mr Y' T') H H'
 len:Y'.length=T'.N.length
 fit:T'.N.length<=60000
def NdAt (H:AH) (b o:Nat) (x:Nd) (y:RLy):Prop:=(H.get b).row o 7=some (refI x y).cells/\Rows H 1 y.data (byteR x.data)/\Rows H 2 y.l (entR x.ents)
section
variable {E:Sy} {H H' H'':AH} {Q:Value->AH->Prop} {t:Nat} {nv nv' nv'' mv:Value} {nx:Int} {mr:List (List Value)} {Y Y' Y'':List RLy} {T T' T'':Tr}
theorem UpdR.ref (u:UpdR t nv mv nx mr Y T nv' Y' T' H H') (h:RefT H t nv mv nx mr Y T):RefT H' t nv' mv nx mr Y' T':=⟨h.ow.upd u.upd,u.len,u.fit⟩
theorem UpdR.trans (u:UpdR t nv mv nx mr Y T nv' Y' T' H H') (u':UpdR t nv' mv nx mr Y' T' nv'' Y'' T'' H' H''):UpdR t nv mv nx mr Y T nv'' Y'' T'' H H'':=⟨u.upd.trans u'.upd,u'.len,u'.fit⟩
theorem UpdR.after (e:Ext H H') (u:UpdR t nv mv nx mr Y T nv' Y' T' H' H''):UpdR t nv mv nx mr Y T nv' Y' T' H H'':=⟨u.upd.after e,u.len,u.fit⟩
theorem RefT.same (h:RefT H t nv mv nx mr Y T) (e:Ext H H'):UpdR t nv mv nx mr Y T nv Y T H H':=⟨h.ow.ext e,h.len,h.fit⟩
theorem RefT.mono (h:RefT H t nv mv nx mr Y T) (e:Ext H H'):RefT H' t nv mv nx mr Y T:=(h.same e).ref h
theorem RefT.head (h:RefT H t nv mv nx mr Y T):H.get t = .cells (TreeI.cells ⟨nv,T.limit,mv,nx,T.change⟩) none:=h.ow.holds (boxR t (TreeI.cells ⟨nv,T.limit,mv,nx,T.change⟩)) (by simp [refRs])
theorem RefT.rows (h:RefT H t nv mv nx mr Y T):Grow zH H 7 nv (nodeRows T Y):=h.ow.holds (growR 7 nv (nodeRows T Y)) (by simp [refRs])
theorem RefT.rows_len (h:RefT H t nv mv nx mr Y T):(nodeRows T Y).length=T.N.length:=by simp [nodeRows,h.len]
theorem RefT.lenSlc (h:RefT H t nv mv nx mr Y T):AM.lenSlc nv=some (vi T.N.length):=by
 have:=h.rows.toRows.lenSlc
 rwa [h.rows_len] at this
theorem RefT.part (h:RefT H t nv mv nx mr Y T) {k:Nat} {x:Nd} {y:RLy} (hx:T.N[k]? = some x) (hy:Y[k]? = some y):Ow (nodeRR x y) H :=
 h.ow.part (rs:=refRs t nv mv nx mr Y T) (k:=k+3) (by simp [refRs,List.zip,List.getElem?_zipWith,hx,hy])
theorem nodeRR.data {x:Nd} {y:RLy} (h:Ow (nodeRR x y) H):Grow zH H 1 y.data (byteR x.data):=h.holds (growR 1 y.data (byteR x.data)) (by simp)
theorem nodeRR.l {x:Nd} {y:RLy} (h:Ow (nodeRR x y) H):Grow zH H 2 y.l (entR x.ents):=h.holds (growR 2 y.l (entR x.ents)) (by simp)
theorem Tr.node_get {n:BitVec 16} (h:n.toNat<T.N.length):T.N[n.toNat]? = some (T.node n):=by
 simp [Tr.node,List.getD_eq_getElem?_getD,h]
theorem Tr.node_ge {n:BitVec 16} (h:T.N.length<=n.toNat):T.node n=Nd.none:=by
 simp [Tr.node,List.getD_eq_getElem?_getD,h]
theorem RefT.at_ (h:RefT H t nv mv nx mr Y T) {n:BitVec 16} (hn:n.toNat<T.N.length):∃ y b o,Y[n.toNat]? = some y/\ixSlc 7 nv (vi (n.toNat:Int))=some (ptr b o)/\NdAt H b o (T.node n) y:=by
 have hx:=Tr.node_get hn
 have hy:Y[n.toNat]? = some (Y[n.toNat]'(by rw [h.len]; exact hn)):=List.getElem?_eq_getElem _
 have hp:=h.part hx hy
 obtain ⟨b,o,f1,f2⟩:=h.rows.toRows.ix (i:=n.toNat) (by rw [h.rows_len]; exact hn)
 refine ⟨_,b,o,hy,f1,?_,(nodeRR.data hp).toRows,(nodeRR.l hp).toRows⟩
 rw [f2]
 have:(nodeRows T Y)[n.toNat]? = some (refI (T.node n) (Y[n.toNat]'(by rw [h.len]; exact hn))).cells:=by
  simp only [nodeRows,List.getElem?_map,List.zip,List.getElem?_zipWith,hx,hy]
  rfl
 rw [List.getElem?_eq_getElem] at this
 exact this
theorem NdAt.mono {b o:Nat} {x:Nd} {y:RLy} (h:NdAt H b o x y) (e:Ext H H'):NdAt H' b o x y :=
 ⟨by rw [e.get (AH.lt_of_get (row_notdead h.1))]; exact h.1,h.2.1.mono e,h.2.2.mono e⟩
theorem NdAt.cell {b o:Nat} {x:Nd} {y:RLy} (h:NdAt H b o x y):(H.get b).cell o=some (vi (x.kind.toNat:Int))/\(H.get b).cell (o+1)=some y.data/\(H.get b).cell (o+2)=some y.l/\(H.get b).cell (o+3)=some (vi (x.parent.toNat:Int)) /\
  (H.get b).cell (o+4)=some (str x.text)/\(H.get b).cell (o+5)=some (vi x.links)/\(H.get b).cell (o+6)=some (vi x.held):=by
 have f:=h.1
 refine ⟨?_,?_,?_,?_,?_,?_,?_⟩
 ·have:=row_at f (j:=0) (by omega); simpa [refI] using this
 ·have:=row_at f (j:=1) (by omega); simpa [refI] using this
 ·have:=row_at f (j:=2) (by omega); simpa [refI] using this
 ·have:=row_at f (j:=3) (by omega); simpa [refI] using this
 ·have:=row_at f (j:=4) (by omega); simpa [refI] using this
 ·have:=row_at f (j:=5) (by omega); simpa [refI] using this
 ·have:=row_at f (j:=6) (by omega); simpa [refI] using this
theorem NdAt.lenL {b o:Nat} {x:Nd} {y:RLy} (h:NdAt H b o x y):AM.lenSlc y.l=some (vi x.ents.length):=by
 have:=h.2.2.lenSlc
 rwa [entR_length] at this
theorem S.f63 (hE:Fold E) (h:RefT H t nv mv nx mr Y T) (n:BitVec 16)
  (hQ:∀ b o y H',Ext H H'->NdAt H' b o (T.node n) y->(n.toNat<T.N.length->H'=H/\Y[n.toNat]? = some y/\ixSlc 7 nv (vi (n.toNat:Int))=some (ptr b o))->Q (ptr b o) H'):E.call (E.fid i.f63) [ptr t 0,vi (n.toNat:Int)] H Q:=by
 apply hE.f63
 have hh:=h.head
 have hl:=h.lenSlc
 have h0:¬ ((n.toNat:Int)<0):=by omega
 by_cases hn:n.toNat<T.N.length
 ·obtain ⟨y,b,o,h1,h2,h3⟩:=h.at_ hn
  have hn':¬ (T.N.length:Int)<=n.toNat:=by omega
  simp [F.f63,h0,hh,hl,hn',h2]
  exact hQ b o y H (Ext.refl H) h3 fun _=>⟨rfl,h1,h2⟩
 ·have hn':(T.N.length:Int)<=n.toNat:=by omega
  simp [F.f63,h0,hh,hl,hn']
  refine hQ H.next 0 ⟨nilS,nilS⟩ _ ((Ext.refl H).new _) ?_ fun h=>(hn h).elim
  rw [Tr.node_ge (by omega)]
  refine ⟨?_,Rows.nil _ _ none,Rows.nil _ _ none⟩
  rw [AH.get_new_self]
  rfl
theorem toNat_kind (k:BitVec 8) (j:Nat) (hj:j<256):((k.toNat:Int)=(j:Int))↔k=BitVec.ofNat 8 j:=by
 constructor
 ·intro h
  apply BitVec.eq_of_toNat_eq
  rw [BitVec.toNat_ofNat,Nat.mod_eq_of_lt hj]
  omega
 ·rintro rfl
  rw [BitVec.toNat_ofNat,Nat.mod_eq_of_lt hj]
theorem kind0 (k:BitVec 8):((k.toNat:Int)=0)=(k=0#8):=propext (toNat_kind k 0 (by omega))
theorem kind1 (k:BitVec 8):((k.toNat:Int)=1)=(k=1#8):=propext (toNat_kind k 1 (by omega))
theorem kind2 (k:BitVec 8):((k.toNat:Int)=2)=(k=2#8):=propext (toNat_kind k 2 (by omega))
theorem kind3 (k:BitVec 8):((k.toNat:Int)=3)=(k=3#8):=propext (toNat_kind k 3 (by omega))
theorem num_eq (a b:BitVec 16):((a.toNat:Int)=(b.toNat:Int))=(a=b):=by
 rw [eq_iff_iff]
 constructor
 ·intro h; exact BitVec.eq_of_toNat_eq (by omega)
 ·rintro rfl; rfl
theorem num_1 (a:BitVec 16):((a.toNat:Int)=1)=(a=1#16):=num_eq a 1#16
theorem S.f68 (hE:Fold E) (h:RefT H t nv mv nx mr Y T) (n:BitVec 16) (hQ:∀ H',Ext H H'->Q (vi (T.dir n)) H'):E.call (E.fid i.f68) [ptr t 0,vi (n.toNat:Int)] H Q:=by
 apply hE.f68
 simp only [F.f68]
 refine S.f63 hE h n fun b o y H' e hn _ =>?_
 obtain ⟨c0,_⟩:=hn.cell
 unfold Tr.dir at hQ
 by_cases h0:(T.node n).kind=0#8
 ·simp [h0] at hQ c0
  simp [c0]
  exact hQ _ e
 ·have h0':¬ (T.node n).kind.toNat=0:=fun k=>h0 (BitVec.eq_of_toNat_eq (by simpa using k))
  by_cases h2:(T.node n).kind=2#8
  ·simp [h2] at hQ c0
   simp [c0]
   exact hQ _ e
  ·have h2':¬ ((T.node n).kind.toNat:Int)=2:=by rw [kind2]; exact h2
   simp [h0,h2] at hQ
   simp [c0,h0',h2']
   exact hQ _ e
def nameIx (s:NameL) (l:List (NameL×BitVec 16)):Int:=ixOf (fun e:NameL×BitVec 16=>decide (e.1=s)) l
theorem nameIx_none (s:NameL) (l:List (NameL×BitVec 16)) (h:alook s l=none):nameIx s l = -1:=by
 have:l.findIdx? (fun e:NameL×BitVec 16=>decide (e.1=s))=none:=by
  rw [List.findIdx?_eq_none_iff]
  intro x hx
  have:=lookup_none.1 h
  simp only [decide_eq_false_iff_not]
  rintro rfl
  exact this (List.mem_map.2 ⟨x,hx,rfl⟩)
 simp [nameIx,ixOf,this]
theorem nameIx_some (s:NameL):∀ (l:List (NameL×BitVec 16)) (k:BitVec 16),alook s l=some k->∃ (j:Nat) (hj:j<l.length),nameIx s l=j/\l[j]=(s,k)/\adel s l=l.eraseIdx j
 | [],k,h=>by simp [alook] at h
 | e :: l,k,h=>by
  rw [alook_cons] at h
  by_cases he:e.1=s
  ·rw [if_pos he.symm] at h
   simp only [Option.some.injEq] at h
   refine ⟨0,by simp,?_,?_,?_⟩
   ·simp [nameIx,ixOf,List.findIdx?_cons,he]
   ·rw [List.getElem_cons_zero,<- he,<- h]
   ·simp [adel,he]
  ·rw [if_neg fun k=>he k.symm] at h
   obtain ⟨j,hj,h1,h2,h3⟩:=nameIx_some s l k h
   refine ⟨j+1,by simpa using hj,?_,by simpa using h2,by simp [adel,he,h3]⟩
   unfold nameIx ixOf at h1 ⊢
   simp only [List.findIdx?_cons,he,decide_false,Bool.false_eq_true,if_false]
   cases hf:l.findIdx? (fun e:NameL×BitVec 16=>decide (e.1=s)) with
   | none=>rw [hf] at h1; simp at h1
   | some i =>
    rw [hf] at h1
    simp at h1 ⊢
    exact h1
theorem S.f73 (hE:Fold E) {b o:Nat} {x:Nd} {y:RLy} (h:NdAt H b o x y) (s:NameL) (hlen:x.ents.length<2 ^ 40) (hQ:Q (vi (nameIx s x.ents)) H):E.call (E.fid i.f73) [ptr b o,str s] H Q:=by
 apply hE.f73
 obtain ⟨_,_,c2,_⟩:=h.cell
 have hl:=h.lenL
 simp [F.f73]
 refine LoopL.count x.ents.length (fun j l H'=>l=[ptr b o,str s,vi j]/\H=H'/\∀ i (hi:i<x.ents.length),i<j->¬ x.ents[i].1=s) ?_ ⟨rfl,rfl,fun i _ h=>by omega⟩
 rintro j _ _ X hj hX ⟨rfl,rfl,hn⟩
 by_cases hjl:j<x.ents.length
 ·have hjl':(j:Int)<x.ents.length:=by omega
  obtain ⟨b',o',f1,f2⟩:=h.2.2.ix (i:=j) (by rw [entR_length]; exact hjl)
  have hrow:(entR x.ents)[j]'(by rw [entR_length]; exact hjl)=[str x.ents[j].1,vi (x.ents[j].2.toNat:Int)]:=by simp [entR]
  rw [hrow] at f2
  have f3:(H.get b').cell o'=some (str x.ents[j].1):=by have:=row_at f2 (j:=0) (by omega); simpa using this
  by_cases hs:x.ents[j].1=s
  ·simp [F.f73_l1,c2,hl,hjl',f1,f3,hs]
   have:nameIx s x.ents=(j:Int):=by
    have:x.ents.findIdx? (fun e:NameL×BitVec 16=>decide (e.1=s))=some j:=List.findIdx?_eq_some_iff_getElem.2 ⟨hjl,by simpa using hs,fun i hi=>by simpa using hn i (by omega) hi⟩
    simp [nameIx,ixOf,this]
   rw [<- this]
   exact hQ
  ·simp [F.f73_l1,c2,hl,hjl',f1,f3,hs]
   rw [i64_inc (by omega),opt_some]
   refine hX hjl _ _ ⟨rfl,rfl,fun i hi hij =>?_⟩
   by_cases e:i=j
   ·subst e; exact hs
   ·exact hn i hi (by omega)
 ·have hjl':¬ (j:Int)<x.ents.length:=by omega
  simp [F.f73_l1,c2,hl,hjl']
  have:nameIx s x.ents = -1:=by
   have:x.ents.findIdx? (fun e:NameL×BitVec 16=>decide (e.1=s))=none:=by
    rw [List.findIdx?_eq_none_iff]
    intro e he
    obtain ⟨i,hi,rfl⟩:=List.getElem_of_mem he
    simpa using hn i hi (by omega)
   simp [nameIx,ixOf,this]
  rw [<- this]
  exact hQ
def Tr.small (T:Tr):Prop:=∀ n,(T.node n).ents.length<2 ^ 40
theorem S.f60 (hE:Fold E) (h:RefT H t nv mv nx mr Y T) (hs:T.small) (n:BitVec 16) (s:NameL) (hQ:∀ H',Ext H H'->Q (.tuple #[vi ((T.look n s).1.toNat:Int),vi (T.look n s).2]) H'):E.call (E.fid i.f60) [ptr t 0,vi (n.toNat:Int),str s] H Q:=by
 apply hE.f60
 simp only [F.f60]
 refine S.f68 hE h n fun H1 e1 =>?_
 unfold Tr.look at hQ
 by_cases hd:T.dir n=0
 ·simp [hd]
  refine S.f63 hE (h.mono e1) n fun b o y H2 e2 hn _ =>?_
  refine S.f73 hE hn s (hs n) ?_
  cases hl:alook s (T.node n).ents with
  | none =>
   simp [hd,hl] at hQ
   simp [nameIx_none s _ hl]
   exact hQ _ (e1.trans e2)
  | some k =>
   simp [hd,hl] at hQ
   obtain ⟨j,hj,g1,g2,_⟩:=nameIx_some s _ k hl
   obtain ⟨_,_,c2,_⟩:=hn.cell
   obtain ⟨b',o',f1,f2⟩:=hn.2.2.ix (i:=j) (by rw [entR_length]; exact hj)
   have hrow:(entR (T.node n).ents)[j]'(by rw [entR_length]; exact hj)=[str s,vi (k.toNat:Int)]:=by simp [entR,g2]
   rw [hrow] at f2
   have f3:(H2.get b').cell (o'+1)=some (vi (k.toNat:Int)):=by have:=row_at f2 (j:=1) (by omega); simpa using this
   have hj0:¬ ((j:Int)<0):=by omega
   simp [g1,hj0,c2,f1,f3]
   exact hQ _ (e1.trans e2)
 ·simp [hd] at hQ
  simp [hd]
  exact hQ _ e1
end
end Go.AM
end
section
namespace Go.AM
section
variable {E:Sy} {H H' H'':AH} {Q:Value->AH->Prop} {t:Nat} {nv nv' nv'' mv:Value} {nx:Int} {mr:List (List Value)} {Y Y' Y'':List RLy} {T T' T'':Tr}
theorem u8_of (n:Nat) (c:UInt8) (hn:n<256):(c.toBitVec.toNat<n↔c<UInt8.ofNat n)/\(n<c.toBitVec.toNat↔UInt8.ofNat n<c)/\(c.toBitVec=BitVec.ofNat 8 n↔c=UInt8.ofNat n):=by
 refine ⟨?_,?_,?_⟩
 ·rw [UInt8.lt_iff_toNat_lt,UInt8.toNat_ofNat_of_lt' hn]; rfl
 ·rw [UInt8.lt_iff_toNat_lt,UInt8.toNat_ofNat_of_lt' hn]; rfl
 ·rw [<- UInt8.toBitVec_inj]; rfl
theorem S.f52 (hE:Fold E) (s:NameL) (hs:s.length<2 ^ 63) (hQ:Q (vb (okName s)) H):E.call (E.fid i.f52) [str s] H Q:=by
 apply hE.f52
 simp only [F.f52]
 refine LoopL.count s.length (fun j l H'=>l=[str s,vi j]/\H=H'/\∀ i (hi:i<s.length),i<j->badByte s[i]=false) ?_ ⟨rfl,rfl,fun i _ h=>by omega⟩
 rintro j _ _ X hj hX ⟨rfl,rfl,hn⟩
 by_cases hjl:j<s.length
 ·have hjl':(j:Int)<s.length:=by omega
  have hix:=ixStr_s s j hjl
  obtain ⟨g1,_,_⟩:=u8_of 33 s[j] (by omega)
  obtain ⟨_,g2,_⟩:=u8_of 126 s[j] (by omega)
  obtain ⟨_,_,g3⟩:=u8_of 47 s[j] (by omega)
  obtain ⟨_,_,g4⟩:=u8_of 35 s[j] (by omega)
  have bad:badByte s[j]=true->Q (vb false) H:=by
   intro hb
   have:okName s=false:=by
    have:(s.all fun c => !badByte c)=false:=by
     rw [List.all_eq_false]
     exact ⟨s[j],List.getElem_mem hjl,by simp [hb]⟩
    simp [okName,this]
   rw [<- this]; exact hQ
  have good:badByte s[j]=false->X [str s,vi ((j+1:Nat):Int)] H:=fun hb=>hX hjl _ _ ⟨rfl,rfl,fun i hi hij=>by
   by_cases e:i=j
   ·subst e; exact hb
   ·exact hn i hi (by omega)⟩
  have hjj:=i64_inc (i:=j) (by omega)
  have b33:(.int .u8 33:Value)=u8 33#8:=rfl
  have b126:(.int .u8 126:Value)=u8 126#8:=rfl
  have b47:(.int .u8 47:Value)=u8 47#8:=rfl
  have b35:(.int .u8 35:Value)=u8 35#8:=rfl
  unfold badByte at bad good
  generalize s[j]=c at *
  generalize hk:j+1=k at *
  by_cases c1:c.toBitVec.toNat<33
  ·have c1':=g1.1 c1
   have c1n:c.toNat<33:=c1
   simp [F.f52_l1,hjl',hix,b33,c1,c1n]
   exact bad (by simp only [Bool.or_eq_true,decide_eq_true_eq]; exact .inl (.inl (.inl c1')))
  have c1n:¬ c.toNat<33:=c1
  by_cases c2:126<c.toBitVec.toNat
  ·have c2':=g2.1 c2
   have c2n:126<c.toNat:=c2
   simp [F.f52_l1,hjl',hix,b33,b126,c1,c2,c1n,c2n]
   exact bad (by simp only [Bool.or_eq_true,decide_eq_true_eq]; exact .inl (.inl (.inr c2')))
  have c2n:¬ 126<c.toNat:=c2
  by_cases c3:c.toBitVec=47#8
  ·have c3':=g3.1 c3
   simp [F.f52_l1,hjl',hix,b33,b126,b47,c1,c2,c3,c1n,c2n]
   exact bad (by simp only [Bool.or_eq_true,decide_eq_true_eq]; exact .inl (.inr c3'))
  by_cases c4:c.toBitVec=35#8
  ·have c4':=g4.1 c4
   simp [F.f52_l1,hjl',hix,b33,b126,b47,b35,c1,c2,c3,c4,c1n,c2n]
   exact bad (by simp only [Bool.or_eq_true,decide_eq_true_eq]; exact .inr c4')
  ·simp [F.f52_l1,hjl',hix,b33,b126,b47,b35,c1,c2,c3,c4,hjj,c1n,c2n]
   refine good ?_
   simp only [Bool.or_eq_false_iff,decide_eq_false_iff_not]
   exact ⟨⟨⟨fun h=>c1 (g1.2 h),fun h=>c2 (g2.2 h)⟩,fun h=>c3 (g3.2 h)⟩,fun h=>c4 (g4.2 h)⟩
 ·have hjl':¬ (j:Int)<s.length:=by omega
  have hall:(s.all fun c => !badByte c)=true:=by
   rw [List.all_eq_true]
   intro c hc
   obtain ⟨i,hi,rfl⟩:=List.getElem_of_mem hc
   simpa using hn i hi (by omega)
  have l1:(.string ⟨#[46]⟩:Value)=str [46]:=rfl
  have l2:(.string ⟨#[46,46]⟩:Value)=str [46,46]:=rfl
  unfold okName at hQ
  rw [hall] at hQ
  by_cases c1:1<=s.length
  ·have c1':(1:Int)<=s.length:=by omega
   by_cases c2:s.length<=14
   ·have c2':(s.length:Int)<=14:=by omega
    by_cases c3:s=[46]
    ·subst c3
     have hj1:j=1:=by simp at hjl hj; omega
     subst hj1
     simp [F.f52_l1,l1,l2]
     simpa using hQ
    ·by_cases c4:s=[46,46]
     ·subst c4
      have hj2:j=2:=by simp at hjl hj; omega
      subst hj2
      simp [F.f52_l1,l1,l2]
      simpa using hQ
     ·simp only [c1,c2,c3,c4,ne_eq,not_false_eq_true,decide_true,Bool.and_self] at hQ
      simp [F.f52_l1,hjl',c1',c2',l1,l2,c3,c4]
      exact hQ
   ·have c2':¬ (s.length:Int)<=14:=by omega
    simp only [c1,c2,decide_true,decide_false,Bool.and_false,Bool.false_and] at hQ
    simp [F.f52_l1,hjl',c1',c2']
    exact hQ
  ·have c1':¬ (1:Int)<=s.length:=by omega
   simp only [c1,decide_false,Bool.and_false,Bool.false_and] at hQ
   simp [F.f52_l1,hjl',c1']
   exact hQ
theorem S.f70 (hE:Fold E) (h:RefT H t nv mv nx mr Y T) (hs:T.small) (n:BitVec 16) (s:NameL) (hsl:s.length<2 ^ 63) (hQ:∀ H',Ext H H'->Q (vi (T.room n s)) H'):E.call (E.fid i.f70) [ptr t 0,vi (n.toNat:Int),str s] H Q:=by
 apply hE.f70
 simp only [F.f70]
 refine S.f68 hE h n fun H1 e1 =>?_
 unfold Tr.room at hQ
 by_cases hd:T.dir n=0
 ·simp [hd]
  refine S.f63 hE (h.mono e1) n fun b o y H2 e2 hn _ =>?_
  refine S.f52 hE s hsl ?_
  have e12:=e1.trans e2
  obtain ⟨_,_,c2,_,_,c5,_⟩:=hn.cell
  have hl:=hn.lenL
  by_cases c1:okName s=true
  ·simp only [hd,c1,ne_eq,not_true,if_false,Bool.true_eq_false] at hQ
   simp [c1]
   refine S.f73 hE hn s (hs n) ?_
   cases hlk:alook s (T.node n).ents with
   | some k =>
    obtain ⟨j,hj,g1,_,_⟩:=nameIx_some s _ k hlk
    have hj0:(0:Int)<=j:=by omega
    simp only [hlk,Option.isSome_some,if_true] at hQ
    simp [g1,hj0]
    exact hQ _ e12
   | none =>
    simp only [hlk,Option.isSome_none,Bool.false_eq_true,if_false] at hQ
    simp [nameIx_none s _ hlk,c5]
    by_cases c3:(T.node n).links=0
    ·simp only [c3,if_true] at hQ
     simp [c3]
     exact hQ _ e12
    ·simp only [c3,if_false] at hQ
     simp [c3,c2,hl]
     by_cases c4:32<=(T.node n).ents.length
     ·have c4':(32:Int)<=(T.node n).ents.length:=by omega
      simp only [c4,if_true] at hQ
      simp [c4']
      exact hQ _ e12
     ·have c4':¬ (32:Int)<=(T.node n).ents.length:=by omega
      simp only [c4,if_false] at hQ
      simp [c4']
      exact hQ _ e12
  ·have c1:okName s=false:=by simpa using c1
   simp [hd,c1] at hQ
   simp [c1]
   exact hQ _ e12
 ·simp [hd] at hQ
  simp [hd]
  exact hQ _ e1
theorem S.f59 (hE:Fold E) (h:RefT H t nv mv nx mr Y T) (hQ:Q (vi T.len) H):E.call (E.fid i.f59) [ptr t 0] H Q:=by
 apply hE.f59
 simp only [F.f59]
 have hh:=h.head
 have hl:=h.lenSlc
 have hf:=h.fit
 refine LoopL.count T.N.length (fun j l H'=>l=[ptr t 0,vi (((T.N.take j).countP fun x=>decide (x.kind≠0#8):Nat):Int),vi j]/\H=H') ?_ ⟨rfl,rfl⟩
 rintro j _ _ X hj hX ⟨rfl,rfl⟩
 have hcl:(T.N.take j).countP (fun x=>decide (x.kind≠0#8))<=j:=Nat.le_trans List.countP_le_length (by simp; omega)
 by_cases hjl:j<T.N.length
 ·have hjl':(j:Int)<T.N.length:=by omega
  have hnj:(BitVec.ofNat 16 j).toNat=j:=by rw [BitVec.toNat_ofNat,Nat.mod_eq_of_lt (by omega)]
  obtain ⟨y,b,o,h1,h2,h3⟩:=h.at_ (n:=BitVec.ofNat 16 j) (by rw [hnj]; exact hjl)
  rw [hnj] at h2
  obtain ⟨c0,_⟩:=h3.cell
  have hx:T.node (BitVec.ofNat 16 j)=T.N[j]:=by
   unfold Tr.node; rw [hnj]; simp [List.getD_eq_getElem?_getD,hjl]
  rw [hx] at c0
  have hstep:(T.N.take (j+1)).countP (fun x=>decide (x.kind≠0#8))=(T.N.take j).countP (fun x=>decide (x.kind≠0#8))+if T.N[j].kind=0#8 then 0 else 1:=by
   rw [List.take_succ_eq_append_getElem hjl,List.countP_append]
   by_cases hk:T.N[j].kind=0#8 <;> simp [hk]
  have hjj:=i64_succ j (by omega)
  have hX:=hX hjl [ptr t 0,vi (((T.N.take (j+1)).countP fun x=>decide (x.kind≠0#8):Nat):Int),vi ((j+1:Nat):Int)] H ⟨rfl,rfl⟩
  rw [hstep] at hX
  generalize (T.N.take j).countP (fun x=>decide (x.kind≠0#8))=c at *
  have hcc:=i64_succ c (by omega)
  by_cases hk:T.N[j].kind=0#8
  ·rw [if_pos hk,Nat.add_zero] at hX
   have hk':¬ (0:Int)<(T.N[j].kind.toNat:Int):=by rw [hk]; simp
   generalize hj1:j+1=j1 at *
   simp [F.f59_l1,hh,hl,hjl',h2,c0,hjj,hk]
   exact hX
  ·rw [if_neg hk] at hX
   have hk':0<T.N[j].kind.toNat:=by
    apply Nat.pos_of_ne_zero
    intro e
    exact hk (BitVec.eq_of_toNat_eq (by simpa using e))
   generalize hj1:j+1=j1 at *
   generalize hc1:c+1=c1 at *
   simp [F.f59_l1,hh,hl,hjl',h2,c0,hjj,hk',hcc]
   exact hX
 ·have hjl':¬ (j:Int)<T.N.length:=by omega
  have:j=T.N.length:=by omega
  subst this
  have e:(T.N.take T.N.length).countP (fun x=>decide (x.kind≠0#8))=T.len:=by rw [List.take_length]; rfl
  rw [e]
  simp [F.f59_l1,hh,hl]
  exact hQ
theorem S.f67 (hE:Fold E) (h:RefT H t nv mv nx mr Y T) (n:BitVec 16) (hQ:∀ H',Ext H H'->Q (vi (T.deepF 20 n)) H'):E.call (E.fid i.f67) [ptr t 0,vi (n.toNat:Int)] H Q:=by
 apply hE.f67
 simp only [F.f67]
 obtain ⟨D,hD⟩:∃ D,D=T.deepF 20 n:=⟨_,rfl⟩
 rw [<- hD] at hQ
 refine LoopL.count 20 (fun j l H'=>Ext H H'/\∃ k:BitVec 16,l=[ptr t 0,vi (k.toNat:Int),vi j]/\D=j+T.deepF (20 - j) k) ?_ ⟨Ext.refl H,n,rfl,by rw [hD]; exact (Nat.zero_add _).symm⟩
 clear hD
 rintro j _ H1 X hj hX ⟨e1,k,rfl,h1⟩
 have hk1:=num_1 k
 by_cases hj':j=20
 ·subst hj'
  have:D=20:=by rw [h1]; rfl
  rw [this] at hQ
  by_cases hk:k=1#16
  ·simp [F.f67_l1,hk]
   exact hQ _ e1
  ·rw [eq_false hk] at hk1
   simp [F.f67_l1,hk1]
   exact hQ _ e1
 ·obtain ⟨f,hf⟩:∃ f,20 - j=f+1:=⟨19 - j,by omega⟩
  have hf':20 - (j+1)=f:=by omega
  rw [hf] at h1
  simp only [Tr.deepF] at h1
  have hji:(j:Int)<20:=by omega
  by_cases hk:k=1#16
  ·rw [if_pos hk] at h1
   simp [F.f67_l1,hk]
   rw [h1] at hQ
   exact hQ _ e1
  ·rw [if_neg hk] at h1
   rw [eq_false hk] at hk1
   simp [F.f67_l1,hk1,hji]
   refine S.f63 hE (h.mono e1) k fun b o y H2 e2 hn _ =>?_
   obtain ⟨_,_,_,c3,_⟩:=hn.cell
   have hjj:=i64_succ j (by omega)
   simp [c3,hjj]
   exact hX (by omega) _ _ ⟨e1.trans e2,_,rfl,by rw [hf']; omega⟩
theorem S.f65 (hE:Fold E) (h:RefT H t nv mv nx mr Y T) (n out:BitVec 16) (hQ:∀ H',Ext H H'->Q (vb (T.withinF out 20 n)) H'):E.call (E.fid i.f65) [ptr t 0,vi (n.toNat:Int),vi (out.toNat:Int)] H Q:=by
 apply hE.f65
 simp only [F.f65]
 obtain ⟨D,hD⟩:∃ D,D=T.withinF out 20 n:=⟨_,rfl⟩
 rw [<- hD] at hQ
 refine LoopL.count 20 (fun j l H'=>Ext H H'/\∃ k:BitVec 16,l=[ptr t 0,vi (k.toNat:Int),vi (out.toNat:Int),vi j]/\D=T.withinF out (20 - j) k) ?_ ⟨Ext.refl H,n,rfl,hD⟩
 clear hD
 rintro j _ H1 X hj hX ⟨e1,k,rfl,h1⟩
 by_cases hj':j=20
 ·subst hj'
  rw [h1] at hQ
  simp [F.f65_l1]
  exact hQ _ e1
 ·obtain ⟨f,hf⟩:∃ f,20 - j=f+1:=⟨19 - j,by omega⟩
  have hf':20 - (j+1)=f:=by omega
  rw [hf] at h1
  simp only [Tr.withinF] at h1
  have hji:(j:Int)<20:=by omega
  have hko:=num_eq k out
  have hkp:=num_eq k (T.node k).parent
  have hk2:=kind2 (T.node k).kind
  simp [F.f65_l1,hji]
  refine S.f63 hE (h.mono e1) k fun b o y H2 e2 hn _ =>?_
  obtain ⟨c0,_,_,c3,_⟩:=hn.cell
  by_cases g1:(T.node k).kind=2#8
  ·rw [if_neg (by simpa using g1)] at h1
   by_cases g2:k=out
   ·rw [if_pos g2] at h1
    rw [h1] at hQ
    rw [eq_true g1] at hk2
    rw [eq_true g2] at hko
    simp only [nilCk_p,tk_eq,opt_some,addOff_ptr,load1_ptr,c0,Nat.add_zero,i64_neq,i64_eql,hk2,hko,ne_eq,not_true,decide_true,decide_false,ifB_true,ifB_false,nth_0,nth_1,nth_2,nth_3]
    exact hQ _ (e1.trans e2)
   ·rw [if_neg g2] at h1
    rw [eq_false g2] at hko
    rw [eq_true g1] at hk2
    simp [c0,hk2,hko]
    refine S.f63 hE (h.mono (e1.trans e2)) k fun b' o' y' H3 e3 hn' _ =>?_
    obtain ⟨c0',_,_,c3',_⟩:=hn'.cell
    have e13:=(e1.trans e2).trans e3
    by_cases g3:k=(T.node k).parent
    ·rw [if_pos g3] at h1
     rw [h1] at hQ
     rw [eq_true g3] at hkp
     simp only [nilCk_p,tk_eq,opt_some,addOff_ptr,load1_ptr,c3',i64_eql,hkp,decide_true,ifB_true,nth_0,nth_1,nth_2,nth_3]
     exact hQ _ e13
    ·rw [if_neg g3] at h1
     rw [eq_false g3] at hkp
     simp only [nilCk_p,tk_eq,opt_some,addOff_ptr,load1_ptr,c3',i64_eql,hkp,decide_false,ifB_false,nth_0,nth_1,nth_2,nth_3]
     refine S.f63 hE (h.mono e13) k fun b'' o'' y'' H4 e4 hn'' _ =>?_
     obtain ⟨_,_,_,c3'',_⟩:=hn''.cell
     have hjj:=i64_succ j (by omega)
     simp only [nilCk_p,tk_eq,opt_some,addOff_ptr,load1_ptr,c3'',hjj,nth_0,nth_1,nth_2,nth_3]
     exact hX (by omega) _ _ ⟨e13.trans e4,_,rfl,by rw [hf']; exact h1⟩
  ·rw [if_pos g1] at h1
   rw [h1] at hQ
   rw [eq_false g1] at hk2
   simp [c0,hk2]
   exact hQ _ (e1.trans e2)
end
end Go.AM
end
section
namespace Go.AM
theorem insertE_split (x:NameL×BitVec 16):∀ (l:List (NameL×BitVec 16)) (p:Nat),p<=l.length->(∀ i (h:i<l.length),i<p->Op.bytesLess l[i].1 x.1=true)->(∀ h:p<l.length,Op.bytesLess l[p].1 x.1=false)->insertE x l=l.take p++[x]++l.drop p
 | [],p,hp,_,_=>by simp [insertE]
 | y :: l,0,hp,_,h2=>by
  have:=h2 (by simp)
  simp only [List.getElem_cons_zero] at this
  simp [insertE,this]
 | y :: l,p+1,hp,h1,h2=>by
  have h0:=h1 0 (by simp) (by omega)
  simp only [List.getElem_cons_zero] at h0
  have ih:=insertE_split x l p (by simpa using hp) (fun i h hi=>by have:=h1 (i+1) (by simpa using h) (by omega); rwa [List.getElem_cons_succ] at this) (fun h=>by have:=h2 (by simpa using h); rwa [List.getElem_cons_succ] at this)
  simp [insertE,h0,ih]
theorem entR_take (l:List (NameL×BitVec 16)) (k:Nat):(entR l).take k=entR (l.take k):=by simp [entR,List.map_take]
theorem entR_drop (l:List (NameL×BitVec 16)) (k:Nat):(entR l).drop k=entR (l.drop k):=by simp [entR,List.map_drop]
theorem entR_append (a b:List (NameL×BitVec 16)):entR (a++b)=entR a++entR b:=by simp [entR]
theorem entR_plain (l:List (NameL×BitVec 16)):∀ r∈entR l,r.all plain1=true:=by
 intro r hr
 obtain ⟨b,_,rfl⟩:=List.mem_map.1 hr
 rfl
section
variable {E:Sy} {H H' H'':AH} {Q:Value->AH->Prop} {t:Nat} {nv nv' nv'' mv:Value} {nx:Int} {mr:List (List Value)} {Y Y' Y'':List RLy} {T T' T'':Tr}
theorem buildS0 (sz:Nat) (z:List Value) (hz:z.length=sz):buildS 0 sz z.toArray []=some (.cells [] none,mkSlc 0 0):=by
 rw [buildS_eq _ _ _ _ hz]; simp; rfl
theorem S.f74 (hE:Fold E) (v:Value) (l:List (NameL×BitVec 16)) (hv:Rows H 2 v (entR l)) (hl:l.length<2 ^ 36) (s:NameL) (k:BitVec 16)
    (hQ:∀ v' H',Ext H H'->Grow zH H' 2 v' (entR (insertE (s,k) l))->FreshV H.next v'->Q v' H'):E.call (E.fid i.f74) [v,.agg (EntryI.cells ⟨s,(k.toNat:Int)⟩).toArray] H Q:=by
  apply hE.f74
  have x1:Ext H (H.new (.cells (EntryI.cells ⟨s,(k.toNat:Int)⟩) none)):=(Ext.refl H).new _
  have hx:=AH.get_new_self H (.cells (EntryI.cells ⟨s,(k.toNat:Int)⟩) none)
  simp [F.f74]
  refine LoopL.count l.length (fun j ls H'=>ls=[v,ptr H.next 0,vi j]/\H.new (.cells (EntryI.cells ⟨s,(k.toNat:Int)⟩) none)=H'/\∀ i (h:i<l.length),i<j->Op.bytesLess l[i].1 s=true) ?_ ⟨rfl,rfl,fun i _ h=>by omega⟩
  rintro j _ _ X hj hX ⟨rfl,rfl,hn⟩
  generalize hH1:H.new (.cells (EntryI.cells ⟨s,(k.toNat:Int)⟩) none)=H1 at *
  have hv1:=hv.mono x1
  have hlv:=hv1.lenSlc
  rw [entR_length] at hlv
  have hjj:=i64_succ j (by omega)
  have hj0:(EntryI.cells ⟨s,(k.toNat:Int)⟩)[0]? = some (str s):=EntryI.at0 _
  have fin:(∀ h:j<l.length,Op.bytesLess l[j].1 s=false) ->
     (AM.mk (buildS 0 2 #[(.string ⟨#[]⟩),(.int .i64 0)] []) H1 fun v13 H9 =>
       opt (slSlc 2 v none (some (vi j)) none H9) fun v14 =>
       opt (loadN 2 (ptr H.next 0) H9) fun v15 =>
       AM.mk (buildS 1 2 #[(.string ⟨#[]⟩),(.int .i64 0)] [(0,v15)]) H9 fun v16 H10 =>
       opt (slSlc 2 v (some (vi j)) none none H10) fun v17 =>
       opt2 (app 2 24 v13 v14 H10) fun v18 H11 =>
       slSlc 2 v (some (vi j)) none none H11=slSlc 2 v (some (vi j)) none none H10 /\
       H11.get H9.next=H10.get H9.next /\
       loadN 2 (ptr H.next 0) H11=loadN 2 (ptr H.next 0) H9 /\
       opt2 (app 2 24 v18 v16 H11) fun v19 H12 =>
       slSlc 2 v (some (vi j)) none none H12=slSlc 2 v (some (vi j)) none none H10 /\
       opt2 (app 2 24 v19 v17 H12) fun v20 H13 =>
       Q v20 H13):=by
    intro hlast
    have hb0:buildS 0 2 #[(.string ⟨#[]⟩),(.int .i64 0)] []=some (.cells [] none,mkSlc 0 0):=buildS0 2 [str [],vi 0] rfl
    have hb1:buildS 1 2 #[(.string ⟨#[]⟩),(.int .i64 0)] [(0,.agg (EntryI.cells ⟨s,(k.toNat:Int)⟩).toArray)]=some (.cells (EntryI.cells ⟨s,(k.toNat:Int)⟩) none,mkSlc 1 1):=EntryI.build1 ⟨s,(k.toNat:Int)⟩
    have e9:Ext H1 (H1.new (.cells [] none)):=(Ext.refl H1).new _
    have e10:Ext H1 ((H1.new (.cells [] none)).new (.cells (EntryI.cells ⟨s,(k.toNat:Int)⟩) none)):=e9.new _
    have g9:Grow zH (H1.new (.cells [] none)) 2 (slc H1.next 0 0 0) []:=Grow.room (zH_get _) (AH.get_new_self _ _) rfl
    have g10:=g9.ext ((Ext.refl _).new (.cells (EntryI.cells ⟨s,(k.toNat:Int)⟩) none))
    have lo:∀ {Hx},Ext H1 Hx->loadN 2 (ptr H.next 0) Hx=some (.agg (EntryI.cells ⟨s,(k.toNat:Int)⟩).toArray):=fun e=>by
      rw [loadN_ptr,e.cells hx,row_all _ _ 2 rfl]; rfl
    have hlo:∀ {Hx},Ext H1 Hx->∃ v14,slSlc 2 v none (some (vi j)) none Hx=some v14/\Rows Hx 2 v14 (entR (l.take j)):=fun e=>by
      obtain ⟨w,w1,w2⟩:=(hv1.mono e).slice (lo:=none) (hi:=some (vi j)) (i:=0) (j:=j) (.inr ⟨rfl,rfl⟩) (.inl rfl) (Nat.zero_le _) (by rw [entR_length]; exact hj)
      refine ⟨w,w1,?_⟩
      rwa [List.drop_zero,entR_take] at w2
    have hhi:∀ {Hx},Ext H1 Hx->slSlc 2 v (some (vi j)) none none Hx=some (sliceV 2 v j l.length)/\Rows Hx 2 (sliceV 2 v j l.length) (entR (l.drop j)):=fun {Hx} e=>by
      have w:=(hv1.mono e).slice' (lo:=some (vi j)) (hi:=none) (i:=j) (j:=l.length) (.inl rfl) (.inr ⟨rfl,by rw [entR_length]⟩) hj (by rw [entR_length]; exact Nat.le_refl _)
      refine ⟨w.1,?_⟩
      have w2:=w.2
      rwa [<- entR_length l,List.take_length,entR_drop,entR_length] at w2
    obtain ⟨v14,q1,q2⟩:=hlo e9
    simp only [hb0,AM.mk_some,mkSlc_eq,tk_eq,q1,lo e9,opt_some,hb1,(hhi e10).1]
    obtain ⟨v18,H11,a1,a2,a3⟩:=g10.app (bytes:=24) (Nat.zero_le _) (q2.mono ((Ext.refl _).new (.cells (EntryI.cells ⟨s,(k.toNat:Int)⟩) none))) (entR_plain _) (by decide) (by decide) (by simp [entR_length]; omega) (by simp [entR_length]; omega)
    obtain ⟨e11,f11⟩:=grew_ext a3 e10 (fun b hb=>by simp [blk] at hb; omega)
    have hk11:H11.get (H1.next+1) = .cells (EntryI.cells ⟨s,(k.toNat:Int)⟩) none:=by
      rw [a3.1.get (by simp) (by simp [blkL,blk])]
      exact AH.get_new_self _ _
    have hxr:Rows H11 2 (slc (H1.next+1) 0 1 1) [EntryI.cells ⟨s,(k.toNat:Int)⟩]:=Rows.made (f:=none) (by rw [hk11]; simp) (.inl rfl) rfl (by intro r hr; simp at hr; subst hr; rfl)
    have a1':app 2 24 (slc H1.next 0 0 0) v14 ((H1.new (.cells [] none)).new (.cells (EntryI.cells ⟨s,(k.toNat:Int)⟩) none))=some (v18,H11):=a1
    simp only [a1',opt2_some,tk_eq]
    refine ⟨by rw [(hhi e11).1],?_,by rw [lo e11],?_⟩
    · show H11.get (H1.next+1)=_
      rw [hk11]
      exact (AH.get_new_self _ _).symm
    obtain ⟨v19,H12,b1,b2,b3⟩:=a2.app (bytes:=24) (Nat.zero_le _) hxr (by intro r hr; simp at hr; subst hr; rfl) (by decide) (by decide) (by simp [entR_length]; omega) (by simp [entR_length]; omega)
    obtain ⟨e12,f12⟩:=grew_ext b3 e11 f11
    have b1':app 2 24 v18 (slc (H1.new (.cells [] none)).next 0 1 1) H11=some (v19,H12):=b1
    simp only [b1',opt2_some,tk_eq]
    refine ⟨by rw [(hhi e12).1],?_⟩
    obtain ⟨v20,H13,c1,c2,c3⟩:=b2.app (bytes:=24) (Nat.zero_le _) (hhi e12).2 (entR_plain _) (by decide) (by decide) (by simp [entR_length]; omega) (by simp [entR_length]; omega)
    obtain ⟨e13,f13⟩:=grew_ext c3 e12 f12
    simp only [c1,opt2_some,tk_eq]
    refine hQ v20 H13 (x1.trans e13) ?_ fun b hb=>Nat.le_trans x1.1 (f13 b hb)
    rw [insertE_split (s,k) l j hj hn hlast,entR_append,entR_append]
    have he1:entR [(s,k)]=[EntryI.cells ⟨s,(k.toNat:Int)⟩]:=rfl
    rw [he1]
    simpa using c2
  by_cases hjl:j<l.length
  · have hjl':(j:Int)<l.length:=by omega
    obtain ⟨b',o',f1,f2⟩:=hv1.ix (i:=j) (by rw [entR_length]; exact hjl)
    have hrow:(entR l)[j]'(by rw [entR_length]; exact hjl)=[str l[j].1,vi (l[j].2.toNat:Int)]:=by simp [entR]
    rw [hrow] at f2
    have f3:(H1.get b').cell o'=some (str l[j].1):=by have:=row_at f2 (j:=0) (by omega); simpa using this
    by_cases hlt:Op.bytesLess l[j].1 s=true
    · have hX:=hX hjl [v,ptr H.next 0,vi ((j+1:Nat):Int)] H1 ⟨rfl,rfl,fun i hi hij=>by
        by_cases e:i=j
        · subst e; exact hlt
        · exact hn i hi (by omega)⟩
      generalize hj1:j+1=j1 at *
      simp [F.f74_l1,hlv,hjl',f1,f3,hx,hj0,hlt,hjj]
      exact hX
    · have hlt:Op.bytesLess l[j].1 s=false:=by simpa using hlt
      simp only [F.f74_l1,nth_0,nth_1,nth_2,hlv,i64_lss,hjl',decide_true,gd_tt,f1,addOff_ptr,load1_ptr,Nat.add_zero,f3,hx,cell_cells_z,hj0,binStr_lss,hlt,pick_true_z,tk_eq,opt_some,ifB_false]
      exact fin fun _=>hlt
  · have hjl':¬ (j:Int)<l.length:=by omega
    simp only [F.f74_l1,nth_0,nth_1,nth_2,hlv,i64_lss,hjl',decide_false,gd_ft,pick_false_z,tk_eq,opt_some,ifB_false]
    exact fin fun h=>(hjl h).elim
theorem S.f75 (hE:Fold E) (v:Value) (l:List (NameL×BitVec 16)) (hv:Rows H 2 v (entR l)) (hl:l.length<2 ^ 36) (j:Nat) (hj:j<l.length)
  (hQ:∀ v' H',Ext H H'->Grow zH H' 2 v' (entR (l.eraseIdx j))->FreshV H.next v'->Q v' H'):E.call (E.fid i.f75) [v,vi j] H Q:=by
 apply hE.f75
 have hb0:buildS 0 2 #[(.string ⟨#[]⟩),(.int .i64 0)] []=some (.cells [] none,mkSlc 0 0):=buildS0 2 [str [],vi 0] rfl
 have e9:Ext H (H.new (.cells [] none)):=(Ext.refl H).new _
 have g9:Grow zH (H.new (.cells [] none)) 2 (slc H.next 0 0 0) []:=Grow.room (zH_get _) (AH.get_new_self _ _) rfl
 have hjj:=i64_succ j (by omega)
 have hlo:∃ v14,slSlc 2 v none (some (vi j)) none (H.new (.cells [] none))=some v14/\Rows (H.new (.cells [] none)) 2 v14 (entR (l.take j)):=by
  obtain ⟨w,w1,w2⟩:=(hv.mono e9).slice (lo:=none) (hi:=some (vi j)) (i:=0) (j:=j) (.inr ⟨rfl,rfl⟩) (.inl rfl) (Nat.zero_le _) (by rw [entR_length]; omega)
  refine ⟨w,w1,?_⟩
  rwa [List.drop_zero,entR_take] at w2
 have hhi:∀ {Hx},Ext H Hx->slSlc 2 v (some (vi ((j+1:Nat):Int))) none none Hx=some (sliceV 2 v (j+1) l.length)/\Rows Hx 2 (sliceV 2 v (j+1) l.length) (entR (l.drop (j+1))):=fun {Hx} e=>by
  have w:=(hv.mono e).slice' (lo:=some (vi ((j+1:Nat):Int))) (hi:=none) (i:=j+1) (j:=l.length) (.inl rfl) (.inr ⟨rfl,by rw [entR_length]⟩) hj (by rw [entR_length]; exact Nat.le_refl _)
  refine ⟨w.1,?_⟩
  have w2:=w.2
  rwa [<- entR_length l,List.take_length,entR_drop,entR_length] at w2
 obtain ⟨v14,q1,q2⟩:=hlo
 simp only [F.f75,hb0,AM.mk_some,mkSlc_eq,tk_eq,q1,opt_some,hjj,(hhi e9).1]
 obtain ⟨v18,H11,a1,a2,a3⟩:=g9.app (bytes:=24) (Nat.zero_le _) q2 (entR_plain _) (by decide) (by decide) (by simp [entR_length]; omega) (by simp [entR_length]; omega)
 obtain ⟨e11,f11⟩:=grew_ext a3 e9 (fun b hb=>by simp [blk] at hb; omega)
 have a1':app 2 24 (slc H.next 0 0 0) v14 (H.new (.cells [] none))=some (v18,H11):=a1
 simp only [a1',opt2_some,tk_eq]
 refine ⟨by rw [(hhi e11).1],?_⟩
 obtain ⟨v20,H13,c1,c2,c3⟩:=a2.app (bytes:=24) (Nat.zero_le _) (hhi e11).2 (entR_plain _) (by decide) (by decide) (by simp [entR_length]; omega) (by simp [entR_length]; omega)
 obtain ⟨e13,f13⟩:=grew_ext c3 e11 f11
 simp only [c1,opt2_some,tk_eq]
 refine hQ v20 H13 e13 ?_ f13
 rw [List.eraseIdx_eq_take_drop_succ,entR_append]
 simpa using c2
theorem S.f71 (hE:Fold E) (hs:T.small):∀ (f:Nat) {H:AH} {Q:Value->AH->Prop} (_:RefT H t nv mv nx mr Y T) (n:BitVec 16) (_:T.fitsF f n) (_:f<=20) (_:∀ H',Ext H H'->Q (vi (T.tall n)) H'),E.call (E.fid i.f71) [ptr t 0,vi (n.toNat:Int)] H Q
 | 0,_,_,_,_,hf,_,_=>hf.elim
 | f+1,H,Q,h,n,hf0,hle,hQ=>by
  apply hE.f71
  obtain ⟨hd,hf⟩:=hf0
  simp only [F.f71]
  refine S.f63 hE h n fun b o y H1 e1 hn _ =>?_
  obtain ⟨_,_,c2,_⟩:=hn.cell
  have hl:=hn.lenL
  have hsn:=hs n
  let g:Nat->NameL×BitVec 16->Nat:=fun b e=>if (T.node e.2).kind=2#8 then max b (T.tallF 20 e.2) else b
  have hg:∀ b e,b<=20->g b e<=20:=by
   intro b e hb
   simp only [g]
   split
   ·have:=Tr.tallF_le T 20 e.2
    omega
   ·exact hb
  refine LoopL.count (T.node n).ents.length (fun j ls H'=>∃ w:Nat,ls=[ptr t 0,vi w,ptr b o,vi j]/\Ext H1 H'/\w=((T.node n).ents.take j).foldl g 0/\w<=20) ?_ ⟨0,rfl,Ext.refl _,rfl,by omega⟩
  rintro j _ H2 X hj hX ⟨w,rfl,e2,hw,hw20⟩
  have hn2:=hn.mono e2
  obtain ⟨_,_,c2',_⟩:=hn2.cell
  by_cases hjl:j<(T.node n).ents.length
  ·have hjl':(j:Int)<(T.node n).ents.length:=by omega
   obtain ⟨b',o',f1,f2⟩:=hn2.2.2.ix (i:=j) (by rw [entR_length]; exact hjl)
   have hrow:(entR (T.node n).ents)[j]'(by rw [entR_length]; exact hjl)=[str (T.node n).ents[j].1,vi ((T.node n).ents[j].2.toNat:Int)]:=by simp [entR]
   rw [hrow] at f2
   have f3:(H2.get b').cell (o'+1)=some (vi ((T.node n).ents[j].2.toNat:Int)):=by have:=row_at f2 (j:=1) (by omega); simpa using this
   have hfj:=hf (T.node n).ents[j] (List.getElem_mem hjl)
   have hstep:((T.node n).ents.take (j+1)).foldl g 0=g w (T.node n).ents[j]:=by
    rw [List.take_succ_eq_append_getElem hjl,List.foldl_append,<- hw]; rfl
   have hgw:=hg w (T.node n).ents[j] hw20
   generalize (T.node n).ents[j]=en at *
   have hjj:=i64_succ j (by omega)
   simp only [F.f71_l1,nth_0,nth_1,nth_2,nth_3,nilCk_p,addOff_ptr,load1_ptr,c2',hl,i64_lss,hjl',decide_true,f1,f3,tk_eq,opt_some,ifB_true]
   refine S.f63 hE (h.mono (e1.trans e2)) en.2 fun b2 o2 y2 H3 e3 hn3 _ =>?_
   obtain ⟨c0,_⟩:=hn3.cell
   have hk2:=kind2 (T.node en.2).kind
   have e13:=e2.trans e3
   by_cases c:(T.node en.2).kind=2#8
   ·rw [eq_true c] at hk2
    simp only [nilCk_p,addOff_ptr,load1_ptr,Nat.add_zero,c0,i64_eql,hk2,decide_true,tk_eq,opt_some,ifB_true]
    refine S.f71 hE hs f (h.mono (e1.trans e13)) en.2 (hfj.2 c) (by omega) fun H4 e4 =>?_
    unfold Tr.tall
    have hmx:(if (T.tallF 20 en.2:Int) > (w:Int) then (T.tallF 20 en.2:Int) else (w:Int))=((max w (T.tallF 20 en.2):Nat):Int):=by
     split <;> omega
    simp only [i64_max_z,hmx,nth_0,nth_1,nth_2,nth_3,hjj,tk_eq,opt_some]
    refine hX hjl _ _ ⟨_,rfl,e13.trans e4,?_,?_⟩
    ·rw [hstep]; simp [g,c]
    ·simpa [g,c] using hgw
   ·rw [eq_false c] at hk2
    simp only [nilCk_p,addOff_ptr,load1_ptr,Nat.add_zero,c0,i64_eql,hk2,decide_false,nth_0,nth_1,nth_2,nth_3,hjj,tk_eq,opt_some,ifB_false]
    refine hX hjl _ _ ⟨w,rfl,e13,?_,hw20⟩
    rw [hstep]; simp [g,c]
  ·have hjl':¬ (j:Int)<(T.node n).ents.length:=by omega
   have hje:j=(T.node n).ents.length:=by omega
   have:T.tall n=w+1:=by
    unfold Tr.tall
    rw [Tr.tallF_eq T (f+1) n ⟨hd,hf⟩ 20 hle]
    simp only [Tr.tallF,Nat.add_right_cancel_iff]
    rw [hw,hje,List.take_length]
    have:∀ (l:List (NameL×BitVec 16)) (b:Nat),(∀ e∈l,e∈(T.node n).ents)->l.foldl (fun b e=>if (T.node e.2).kind=2#8 then max b (T.tallF f e.2) else b) b=l.foldl g b:=by
     intro l
     induction l with
     | nil=>intro b _; rfl
     | cons e l ih =>
      intro b hbb
      simp only [List.foldl_cons]
      rw [ih _ fun x hx=>hbb x (by simp [hx])]
      congr 1
      simp only [g]
      split
      ·rename_i hk
       rw [Tr.tallF_eq T f e.2 ((hf e (hbb e (by simp))).2 hk) 20 (by omega)]
      ·rfl
    exact this _ _ fun _ h=>h
   have hww:=i64_succ w (by omega)
   rw [this] at hQ
   simp only [F.f71_l1,nth_0,nth_1,nth_2,nth_3,nilCk_p,addOff_ptr,load1_ptr,c2',hl,i64_lss,hjl',decide_false,hww,tk_eq,opt_some,ifB_false]
   exact hQ _ (e1.trans e2)
end
end Go.AM
end
section
namespace Go.AM
theorem zip_modify (f:Nd->Nd):∀ {N:List Nd} {Y:List RLy} {k:Nat} {x:Nd} (y':RLy),N[k]? = some x->k<Y.length->(N.modify k f).zip (Y.set k y')=(N.zip Y).set k (f x,y')
 | [],_,k,_,_,h,_=>by simp at h
 | _ :: _,[],k,_,_,_,h=>by simp at h
 | x0 :: N,y0 :: Y,0,x,y',h,_=>by
  simp at h; subst h; simp
 | x0 :: N,y0 :: Y,k+1,x,y',h,hk=>by
  have:=zip_modify f (N:=N) (Y:=Y) (k:=k) (x:=x) y' (by simpa using h) (by simpa using hk)
  simp [this]
section
variable {E:Sy} {H0 H H' H'' H1:AH} {Q:Value->AH->Prop} {t:Nat} {nv nv' nv'' mv:Value} {nx:Int} {mr:List (List Value)} {Y Y' Y'':List RLy} {T T' T'':Tr}
theorem Upd.fresh {sz:Nat} {v v':Value} {rows rows':List (List Value)} (e:Ext H H') (g:Grow zH H' sz v' rows') (f:FreshV H.next v'):Upd (growR sz v rows) (growR sz v' rows') H H' :=
 Grow.upd ⟨e.only,fun b hb => .inr (f b hb)⟩ g
theorem nodeRR.setL {x x':Nd} {y:RLy} {v':Value} (h:Ow (nodeRR x y) H) (hd:x'.data=x.data) (e:Ext H H') (g:Grow zH H' 2 v' (entR x'.ents)) (f:FreshV H.next v'):Upd (nodeRR x y) (nodeRR x' { y with l:=v' }) H H':=by
 have u:=Ow.set (rs:=[growR 1 y.data (byteR x.data),growR 2 y.l (entR x.ents)]) h (k:=1) rfl (Upd.fresh (rows:=entR x.ents) (v:=y.l) e g f)
 unfold nodeRR
 rw [hd]
 exact u
theorem nodeRR.setD {x x':Nd} {y:RLy} {v':Value} (h:Ow (nodeRR x y) H) (hd:x'.ents=x.ents) (e:Ext H H') (g:Grow zH H' 1 v' (byteR x'.data)) (f:FreshV H.next v'):Upd (nodeRR x y) (nodeRR x' { y with data:=v' }) H H':=by
 have u:=Ow.set (rs:=[growR 1 y.data (byteR x.data),growR 2 y.l (entR x.ents)]) h (k:=0) rfl (Upd.fresh (rows:=byteR x.data) (v:=y.data) e g f)
 unfold nodeRR
 rw [hd]
 exact u
theorem nodeRR.same {x x':Nd} {y:RLy} (hd:x'.data=x.data) (he:x'.ents=x.ents):nodeRR x' y=nodeRR x y:=by
 unfold nodeRR; rw [hd,he]
theorem RefT.node_y (h:RefT H t nv mv nx mr Y T) {n:BitVec 16} (hn:n.toNat<T.N.length) {y:RLy} (hy:Y[n.toNat]? = some y):Ow (nodeRR (T.node n) y) H:=h.part (Tr.node_get hn) hy
theorem RefT.cell (h:RefT H t nv mv nx mr Y T) {n:BitVec 16} (hn:n.toNat<T.N.length) {y:RLy} (hy:Y[n.toNat]? = some y) {b o:Nat} (hp:ixSlc 7 nv (vi (n.toNat:Int))=some (ptr b o)) (f:Nd->Nd) (y':RLy)
  (u:Upd (nodeRR (T.node n) y) (nodeRR (f (T.node n)) y') H H1) {k:Nat} (hk:k<7) {v:Value} (hv:plain1 v=true) (hc:(refI (f (T.node n)) y').cells=(refI (T.node n) y).cells.set k v) :
  ∃ H',store1 (ptr b (o+k)) v H1=some H'/\UpdR t nv mv nx mr Y T nv (Y.set n.toNat y') (T.upd n f) H H':=by
 have hx:=Tr.node_get hn
 have hylt:n.toNat<Y.length:=by rw [h.len]; exact hn
 have hz:(T.N.zip Y)[n.toNat]? = some (T.node n,y):=by simp [List.zip,List.getElem?_zipWith,hx,hy]
 have hk3:(refRs t nv mv nx mr Y T)[n.toNat+3]? = some (nodeRR (T.node n) y):=by simp [refRs,hz]
 have u1:=h.ow.set (rs:=refRs t nv mv nx mr Y T) hk3 u
 have o1:=h.ow.upd u1
 have g1:Grow zH H1 7 nv (nodeRows T Y):=o1.holds (growR 7 nv (nodeRows T Y)) (by simp [refRs])
 have hi:n.toNat<(nodeRows T Y).length:=by rw [h.rows_len]; exact hn
 obtain ⟨b',o',H',q1,q2,q3,q4,q5⟩:=g1.store (i:=n.toNat) (k:=k) hi hk v hv
 rw [hp] at q1
 simp only [Option.some.injEq,Value.pointer.injEq,Addr.mk.injEq,and_true] at q1
 obtain ⟨rfl,rfl⟩:=q1
 have hrow:(nodeRows T Y)[n.toNat]=(refI (T.node n) y).cells:=by
  have:(nodeRows T Y)[n.toNat]? = some (refI (T.node n) y).cells:=by simp only [nodeRows,List.getElem?_map,hz]; rfl
  rw [List.getElem?_eq_getElem hi] at this
  exact Option.some.inj this
 rw [hrow,<- hc] at q4
 have u2:=o1.set (rs:=(refRs t nv mv nx mr Y T).set (n.toNat+3) (nodeRR (f (T.node n)) y')) (k:=1) (r:=growR 7 nv (nodeRows T Y)) (by simp [refRs]) (Grow.upd (v:=nv) (rows:=nodeRows T Y) ⟨q5,fun b hb => .inl hb⟩ q4)
 have hzz:=zip_modify f y' hx hylt
 have he:((refRs t nv mv nx mr Y T).set (n.toNat+3) (nodeRR (f (T.node n)) y')).set 1 (growR 7 nv ((nodeRows T Y).set n.toNat (refI (f (T.node n)) y').cells))=refRs t nv mv nx mr (Y.set n.toNat y') (T.upd n f):=by
  simp only [refRs,nodeRows,Tr.upd,hzz,List.map_set,List.set_cons_succ,List.set_cons_zero]
 refine ⟨H',q3,?_,by simp [Tr.upd,h.len],by simpa [Tr.upd] using h.fit⟩
 have:=u1.trans u2
 rw [he] at this
 exact this
theorem RefT.num (h:RefT H t nv mv nx mr Y T) {n:BitVec 16} (hn:n.toNat<T.N.length) {y:RLy} (hy:Y[n.toNat]? = some y) {b o:Nat} (hp:ixSlc 7 nv (vi (n.toNat:Int))=some (ptr b o)) (f:Nd->Nd)
  (hf:∀ x:Nd,(f x).data=x.data/\(f x).ents=x.ents) {k:Nat} (hk:k<7) {v:Int} (hc:(refI (f (T.node n)) y).cells=(refI (T.node n) y).cells.set k (vi v)) :
  ∃ H',store1 (ptr b (o+k)) (vi v) H=some H'/\UpdR t nv mv nx mr Y T nv Y (T.upd n f) H H':=by
 obtain ⟨H',q1,q2⟩:=h.cell hn hy hp f y (by rw [nodeRR.same (hf _).1 (hf _).2]; exact (h.node_y hn hy).refl) hk (v:=vi v) rfl hc
 refine ⟨H',q1,?_⟩
 have:Y.set n.toNat y=Y:=by
  apply List.ext_getElem?
  intro i
  by_cases e:n.toNat=i
  ·subst e
   rw [List.getElem?_set_self (by rw [h.len]; exact hn),hy]
  ·rw [List.getElem?_set_ne e]
 rwa [this] at q2
theorem RefT.tick (h:RefT H t nv mv nx mr Y T):∃ H',store1 (ptr t 4) (vi (T.change+1)) H=some H'/\UpdR t nv mv nx mr Y T nv Y T.bump H H':=by
 have hh:=h.head
 refine ⟨H.put t (.cells (TreeI.cells ⟨nv,T.limit,mv,nx,T.change+1⟩) none),?_,?_,h.len,h.fit⟩
 ·rw [store1_ptr]
  simp [hh,plain1]
 ·exact h.ow.set (rs:=refRs t nv mv nx mr Y T) (k:=0) rfl (boxR.put hh _)
theorem noneV:buildV [(0,1),(1,1),(2,1),(3,1),(4,1),(5,1),(6,1)] #[(.int .i64 0),(.slice none 0 0),(.slice none 0 0),(.int .i64 0),(.string ⟨#[]⟩),(.int .i64 0),(.int .i64 0)] []=some (.agg (refI Nd.none ⟨nilS,nilS⟩).cells.toArray):=rfl
theorem node_kind_lt {n:BitVec 16} (h:(T.node n).kind≠0#8):n.toNat<T.N.length:=by
 by_cases hn:n.toNat<T.N.length
 ·exact hn
 ·exact (h (by rw [Tr.node_ge (by omega)]; rfl)).elim
theorem S.f72 (hE:Fold E) (h:RefT H t nv mv nx mr Y T) (n:BitVec 16) (hn:n.toNat<T.N.length) (hQ:∀ Y' H',UpdR t nv mv nx mr Y T nv Y' (T.tidy n) H H'->Q (.tuple #[]) H'):E.call (E.fid i.f72) [ptr t 0,vi (n.toNat:Int)] H Q:=by
 apply hE.f72
 have hh:=h.head
 obtain ⟨y,b,o,h1,h2,h3⟩:=h.at_ hn
 obtain ⟨_,_,_,_,_,c5,c6⟩:=h3.cell
 unfold Tr.tidy at hQ
 by_cases e1:(T.node n).links=0
 ·by_cases e2:(T.node n).held=0
  ·rw [if_pos ⟨e1,e2⟩] at hQ
   have hx:=Tr.node_get hn
   have hylt:n.toNat<Y.length:=by rw [h.len]; exact hn
   have hz:(T.N.zip Y)[n.toNat]? = some (T.node n,y):=by simp [List.zip,List.getElem?_zipWith,hx,h1]
   have hi:n.toNat<(nodeRows T Y).length:=by rw [h.rows_len]; exact hn
   obtain ⟨b',o',H',q1,q2,q3,q4⟩:=h.rows.storeN (i:=n.toNat) hi (refI Nd.none ⟨nilS,nilS⟩).cells rfl rfl
   rw [h2] at q1
   simp only [Option.some.injEq,Value.pointer.injEq,Addr.mk.injEq,and_true] at q1
   obtain ⟨rfl,rfl⟩:=q1
   have u1:=h.ow.set (rs:=refRs t nv mv nx mr Y T) (k:=1) (r:=growR 7 nv (nodeRows T Y)) (by simp [refRs]) (Grow.upd (v:=nv) (rows:=nodeRows T Y) ⟨q4,fun b hb => .inl hb⟩ q3)
   have o1:=h.ow.upd u1
   have hk3:((refRs t nv mv nx mr Y T).set 1 (growR 7 nv ((nodeRows T Y).set n.toNat (refI Nd.none ⟨nilS,nilS⟩).cells)))[n.toNat+3]? = some (nodeRR (T.node n) y):=by simp [refRs,hz]
   have ho:=o1.part hk3
   have ue:Upd (nodeRR (T.node n) y) (nodeRR Nd.none ⟨nilS,nilS⟩) H' H':=by
    refine ⟨Only.refl _ _,?_,?_,?_⟩
    ·intro r hr
     simp only [List.mem_cons,List.not_mem_nil,or_false] at hr
     rcases hr with rfl | rfl
     ·exact Grow.nil _ _ _
     ·exact Grow.nil _ _ _
    ·intro b hb
     simp [nodeRR,joinR,growR,blkL,blk] at hb
    ·simp [nodeRR,joinR,growR,blkL,blk]
   have u2:=o1.set hk3 ue
   have hzz:=zip_modify (fun _=>Nd.none) (⟨nilS,nilS⟩:RLy) hx hylt
   have he:((refRs t nv mv nx mr Y T).set 1 (growR 7 nv ((nodeRows T Y).set n.toNat (refI Nd.none ⟨nilS,nilS⟩).cells))).set (n.toNat+3) (nodeRR Nd.none ⟨nilS,nilS⟩)=refRs t nv mv nx mr (Y.set n.toNat ⟨nilS,nilS⟩) (T.upd n fun _=>Nd.none):=by
    simp only [refRs,nodeRows,Tr.upd,hzz,List.map_set,List.set_cons_succ,List.set_cons_zero]
   have u3:=u1.trans u2
   rw [he] at u3
   simp only [F.f72,nilCk_p,addOff_ptr,load1_ptr,Nat.add_zero,Nat.zero_add,hh,cell_cells_z,TreeI.at0,h2,c5,e1,i64_eql,decide_true,gd_tt,c6,e2,pick_true_z,noneV,q2,tk_eq,opt_some,ifB_true]
   exact hQ _ H' ⟨u3,by simp [Tr.upd,h.len],by simpa [Tr.upd] using h.fit⟩
  ·rw [if_neg fun k=>e2 k.2] at hQ
   simp only [F.f72,nilCk_p,addOff_ptr,load1_ptr,Nat.add_zero,Nat.zero_add,hh,cell_cells_z,TreeI.at0,h2,c5,e1,i64_eql,decide_true,gd_tt,c6,e2,decide_false,pick_true_z,tk_eq,opt_some,ifB_false]
   exact hQ Y H (h.same (Ext.refl _))
 ·rw [if_neg fun k=>e1 k.1] at hQ
  simp only [F.f72,nilCk_p,addOff_ptr,load1_ptr,Nat.add_zero,Nat.zero_add,hh,cell_cells_z,TreeI.at0,h2,c5,e1,i64_eql,decide_false,gd_ft,pick_false_z,tk_eq,opt_some,ifB_false]
  exact hQ Y H (h.same (Ext.refl _))
theorem S.f58 (hE:Fold E) (h:RefT H t nv mv nx mr Y T) (n:BitVec 16) (more:Bool) (hb:0<=(T.node n).held/\(T.node n).held<9223372036854775807)
  (hQ:∀ Y' H',UpdR t nv mv nx mr Y T nv Y' (T.hold n more).1 H H'->Q (vi (T.hold n more).2) H'):E.call (E.fid i.f58) [ptr t 0,vi (n.toNat:Int),vb more] H Q:=by
 apply hE.f58
 simp only [F.f58]
 refine S.f63 hE h n fun b o y H1 e1 hn hat =>?_
 obtain ⟨c0,_,_,_,_,_,c6⟩:=hn.cell
 unfold Tr.hold at hQ
 by_cases k0:(T.node n).kind=0#8
 ·simp [k0] at hQ
  have:((T.node n).kind.toNat:Int)=0:=by rw [k0]; rfl
  simp only [nilCk_p,addOff_ptr,load1_ptr,Nat.add_zero,c0,this,i64_eql,decide_true,tk_eq,opt_some,ifB_true]
  exact hQ _ _ (h.same e1)
 ·have hk:¬ ((T.node n).kind.toNat:Int)=0:=by rw [kind0]; exact k0
  have hlt:=node_kind_lt k0
  obtain ⟨rfl,hy,hp⟩:=hat hlt
  simp only [nilCk_p,addOff_ptr,load1_ptr,Nat.add_zero,c0,hk,i64_eql,decide_false,tk_eq,opt_some,ifB_false]
  cases more with
  | true =>
   simp [k0] at hQ
   obtain ⟨H2,q1,q2⟩:=h.num hlt hy hp (Nd.addH 1) (fun _=>⟨rfl,rfl⟩) (k:=6) (by omega) (v:=(T.node n).held+1) rfl
   simp only [ifB_true,nilCk_p,addOff_ptr,load1_ptr,c6,i64_add (a:=(T.node n).held) (b:=1) (by omega) (by omega),q1,tk_eq,opt_some]
   exact hQ _ _ q2
  | false =>
   by_cases k1:(T.node n).held=0
   ·simp [k0,k1] at hQ
    simp only [ifB_false,nilCk_p,addOff_ptr,load1_ptr,i64_eql,c6,k1,decide_true,ifB_true,tk_eq,opt_some]
    exact hQ _ _ (h.same e1)
   ·simp [k0,k1] at hQ
    obtain ⟨H2,q1,q2⟩:=h.num hlt hy hp (Nd.addH (-1)) (fun _=>⟨rfl,rfl⟩) (k:=6) (by omega) (v:=(T.node n).held - 1) rfl
    simp only [ifB_false,nilCk_p,addOff_ptr,load1_ptr,i64_eql,c6,k1,decide_false,i64_sub (a:=(T.node n).held) (b:=1) (by omega) (by omega),q1,tk_eq,opt_some]
    refine S.f72 hE (q2.ref h) n (by simpa [Tr.upd] using hlt) fun Y' H3 u =>?_
    exact hQ _ _ (q2.trans u)
end
end Go.AM
end
section
namespace Go.AM
section
variable {E:Sy} {H0 H H' H'' H1:AH} {Q:Value->AH->Prop} {t:Nat} {nv nv' nv'' mv:Value} {nx:Int} {mr:List (List Value)} {Y Y' Y'':List RLy} {T T' T'':Tr}
theorem RefT.newL (h:RefT H t nv mv nx mr Y T) {n:BitVec 16} (hn:n.toNat<T.N.length) {y:RLy} (hy:Y[n.toNat]? = some y) {b o:Nat} (hp:ixSlc 7 nv (vi (n.toNat:Int))=some (ptr b o)) (f:Nd->Nd)
  (hf:∀ x:Nd,(f x).data=x.data) {v':Value} (e:Ext H H1) (g:Grow zH H1 2 v' (entR (f (T.node n)).ents)) (fr:FreshV H.next v') (hc:(refI (f (T.node n)) { y with l:=v' }).cells=(refI (T.node n) y).cells.set 2 v') :
  ∃ H',store1 (ptr b (o+2)) v' H1=some H'/\UpdR t nv mv nx mr Y T nv (Y.set n.toNat { y with l:=v' }) (T.upd n f) H H' :=
 h.cell hn hy hp f _ (nodeRR.setL (h.node_y hn hy) (hf _) e g fr) (by omega) g.plain hc
theorem entryV (s:NameL) (k:BitVec 16):buildV [(0,1),(1,1)] #[(.string ⟨#[]⟩),(.int .i64 0)] [(0,str s),(1,vi (k.toNat:Int))]=some (.agg (EntryI.cells ⟨s,(k.toNat:Int)⟩).toArray):=EntryI.build s (k.toNat:Int)
theorem Tr.room_zero {n:BitVec 16} {s:NameL} (h:T.room n s=0):(T.node n).kind=2#8/\alook s (T.node n).ents=none/\(T.node n).links≠0/\okName s=true/\(T.node n).ents.length<32:=by
 unfold Tr.room at h
 by_cases d1:T.dir n=0
 ·have hk:(T.node n).kind=2#8:=by
   unfold Tr.dir at d1
   split at d1
   ·simp at d1
   ·split at d1
    ·assumption
    ·simp at d1
  simp only [d1,ne_eq,not_true,if_false] at h
  by_cases ok:okName s=false
  ·simp [ok] at h
  ·simp only [ok,Bool.false_eq_true,if_false] at h
   cases hl:alook s (T.node n).ents with
   | some x=>rw [hl] at h; simp at h
   | none =>
    rw [hl] at h
    simp only [Option.isSome_none,Bool.false_eq_true,if_false] at h
    split at h
    ·simp at h
    ·split at h
     ·simp at h
     ·exact ⟨hk,rfl,by assumption,by simpa using ok,by omega⟩
 ·simp [d1] at h
theorem S.f54 (hE:Fold E) (h:RefT H t nv mv nx mr Y T) (hs:T.small) (n:BitVec 16) (s:NameL) (hsl:s.length<2 ^ 63) (v:BitVec 16) (hc : -9223372036854775808<=T.change/\T.change<9223372036854775807)
  (hl:0<=(T.node v).links) (hQ:∀ Y' H',UpdR t nv mv nx mr Y T nv Y' (T.add n s v).1 H H'->Q (vi (T.add n s v).2) H'):E.call (E.fid i.f54) [ptr t 0,vi (n.toNat:Int),str s,vi (v.toNat:Int)] H Q:=by
 apply hE.f54
 simp only [F.f54]
 refine S.f63 hE h v fun b o y H1 e1 hn hat =>?_
 obtain ⟨c0,_,_,_,_,c5,_⟩:=hn.cell
 unfold Tr.add at hQ
 by_cases k0:(T.node v).kind=0#8
 ·simp [k0] at hQ
  have:((T.node v).kind.toNat:Int)=0:=by rw [k0]; rfl
  simp only [nilCk_p,addOff_ptr,load1_ptr,Nat.add_zero,c0,this,i64_eql,decide_true,tk_eq,opt_some,ifB_true]
  exact hQ _ _ (h.same e1)
 have hk:¬ ((T.node v).kind.toNat:Int)=0:=by rw [kind0]; exact k0
 have hlt:=node_kind_lt k0
 obtain ⟨rfl,hy,hp⟩:=hat hlt
 by_cases k2:(T.node v).kind=2#8
 ·simp [k0,k2] at hQ
  have:((T.node v).kind.toNat:Int)=2:=by rw [k2]; rfl
  simp only [nilCk_p,addOff_ptr,load1_ptr,Nat.add_zero,c0,this,show decide ((2:Int)=0)=false from rfl,i64_eql,decide_true,decide_false,tk_eq,opt_some,ifB_true,ifB_false]
  exact hQ _ _ (h.same e1)
 have hk2:¬ ((T.node v).kind.toNat:Int)=2:=by rw [kind2]; exact k2
 simp only [nilCk_p,addOff_ptr,load1_ptr,Nat.add_zero,c0,hk,hk2,i64_eql,decide_false,tk_eq,opt_some,ifB_false]
 refine S.f70 hE h hs n s hsl fun H2 e2 =>?_
 have hn2:=hn.mono e2
 obtain ⟨_,_,_,_,_,c5,_⟩:=hn2.cell
 by_cases r0:T.room n s=0
 ·by_cases l0:(T.node v).links=0
  ·simp [k0,k2,r0,l0] at hQ
   simp only [i64_neq,r0,ne_eq,not_true,decide_false,decide_true,nilCk_p,addOff_ptr,load1_ptr,c5,l0,i64_eql,tk_eq,opt_some,ifB_true,ifB_false]
   exact hQ _ _ (h.same e2)
  by_cases l1:256<=(T.node v).links
  ·simp [k0,k2,r0,l0,l1] at hQ
   simp only [i64_neq,r0,ne_eq,not_true,decide_false,decide_true,nilCk_p,addOff_ptr,load1_ptr,c5,l0,l1,i64_eql,i64_geq,tk_eq,opt_some,ifB_true,ifB_false]
   exact hQ _ _ (h.same e2)
  simp [k0,k2,r0,l0,l1] at hQ
  obtain ⟨hd,hno,_⟩:=Tr.room_zero r0
  have hdlt:n.toNat<T.N.length:=node_kind_lt (by rw [hd]; decide)
  have h2:=h.mono e2
  obtain ⟨yn,bn,on,y1,p1,nd1⟩:=h2.at_ hdlt
  obtain ⟨_,_,c2,_⟩:=nd1.cell
  have hh:=h2.head
  simp only [i64_neq,r0,ne_eq,not_true,decide_false,nilCk_p,addOff_ptr,load1_ptr,Nat.add_zero,Nat.zero_add,c5,l0,l1,i64_eql,i64_geq,hh,cell_cells_z,TreeI.at0,p1,c2,entryV,tk_eq,opt_some,ifB_false]
  refine S.f74 hE yn.l (T.node n).ents nd1.2.2 (by have:=(Tr.room_zero r0).2.2.2.2; omega) s v fun v' H3 e3 g3 f3 =>?_
  have hh3:=(h2.mono e3).head
  obtain ⟨H4,s4,u4⟩:=h2.newL hdlt y1 p1 (Nd.addE s v) (fun _=>rfl) e3 g3 f3 rfl
  have h4:=u4.ref h2
  have hvn:v≠n:=by rintro rfl; exact k2 hd
  have hnode:(T.upd n (Nd.addE s v)).node v=T.node v:=by rw [Tr.node_upd (by rw [hd]; decide),if_neg hvn]
  have hlt4:v.toNat<(T.upd n (Nd.addE s v)).N.length:=by simpa [Tr.upd] using hlt
  obtain ⟨y4,b4,o4,q1,q2,q3⟩:=h4.at_ hlt4
  rw [hp] at q2
  simp only [Option.some.injEq,Value.pointer.injEq,Addr.mk.injEq,and_true] at q2
  obtain ⟨rfl,rfl⟩:=q2
  obtain ⟨_,_,_,_,_,d5,_⟩:=q3.cell
  rw [hnode] at d5
  obtain ⟨H5,s5,u5⟩:=h4.num hlt4 q1 hp (Nd.addL 1) (fun _=>⟨rfl,rfl⟩) (k:=5) (by omega) (v:=(T.node v).links+1) (by rw [hnode]; rfl)
  have h5:=u5.ref h4
  obtain ⟨H6,s6,u6⟩:=h5.tick
  have hh5:=h5.head
  refine ⟨by simp only [load1_ptr,hh3,hh],?_⟩
  have hcc:((T.upd n (Nd.addE s v)).upd v (Nd.addL 1)).change=T.change:=rfl
  rw [hcc] at s6 hh5
  simp only [p1,addOff_ptr,s4,nilCk_p,load1_ptr,d5,i64_add (a:=(T.node v).links) (b:=1) (by omega) (by omega),s5,hh5,cell_cells_z,Nat.zero_add,TreeI.at4,i64_add (a:=T.change) (b:=1) (by omega) (by omega),s6,tk_eq,opt_some]
  exact hQ _ _ ((UpdR.after e2 u4).trans (u5.trans u6))
 ·simp [k0,k2,r0] at hQ
  simp only [i64_neq,r0,ne_eq,not_false_iff,decide_true,tk_eq,opt_some,ifB_true]
  exact hQ _ _ (h.same e2)
theorem S.f57 (hE:Fold E) (h:RefT H t nv mv nx mr Y T) (hs:T.small) (n:BitVec 16) (s:NameL) (dir:Bool) (hc : -9223372036854775808<=T.change/\T.change<9223372036854775807)
    (hk:(T.look n s).2=0->(T.node (T.look n s).1).kind≠0#8 /\ -9223372036854775807<=(T.node (T.look n s).1).links/\(T.node (T.look n s).1).links<9223372036854775807) (hel:(T.node n).ents.length<2 ^ 36)
    (hQ:∀ Y' H',UpdR t nv mv nx mr Y T nv Y' (T.drop n s dir).1 H H'->Q (vi (T.drop n s dir).2) H'):E.call (E.fid i.f57) [ptr t 0,vi (n.toNat:Int),str s,vb dir] H Q:=by
  apply hE.f57
  simp only [F.f57]
  refine S.f60 hE h hs n s fun H1 e1 =>?_
  unfold Tr.drop at hQ
  by_cases l0:(T.look n s).2=0
  · obtain ⟨hd,hlk⟩:=Tr.look_ok l0
    obtain ⟨k0,k1,k2⟩:=hk l0
    simp only [l0,ne_eq,not_true,if_false] at hQ
    generalize hv:(T.look n s).1=v at *
    simp only [tk_eq,ext_tuple,List.getElem?_cons_zero,List.getElem?_cons_succ,l0,i64_neq,ne_eq,not_true,decide_false,opt_some,ifB_false]
    refine S.f63 hE (h.mono e1) v fun b o y H2 e2 hn hat =>?_
    obtain ⟨rfl,hy,hp⟩:=hat (node_kind_lt k0)
    obtain ⟨c0,_,c2,_,_,c5,_⟩:=hn.cell
    have hl:=hn.lenL
    have hvlt:=node_kind_lt k0
    have hnlt:n.toNat<T.N.length:=node_kind_lt (by rw [hd]; decide)
    have fin:¬ (dir=true/\(T.node v).kind≠2#8)->¬ (dir=false/\(T.node v).kind=2#8)->¬ (dir=true/\0<(T.node v).ents.length) ->
       (opt (nilCk (ptr t 0)) fun v26=>opt (addOff v26 0) fun v27=>opt (load1 v27 H2) fun v28=>opt (nilCk (ptr t 0)) fun v29=>opt (addOff v29 0) fun v30=>opt (load1 v30 H2) fun v31 =>
         opt (ixSlc 7 v31 (vi (n.toNat:Int))) fun v32=>opt (addOff v32 2) fun v33=>opt (load1 v33 H2) fun v34 =>
         E.call (E.fid i.f63) [ptr t 0,vi (n.toNat:Int)] H2 fun v35 H19 =>
         load1 v33 H19=load1 v33 H2/\load1 v30 H19=load1 v30 H2/\load1 v27 H19=load1 v27 H2 /\
         E.call (E.fid i.f73) [v35,str s] H19 fun v36 H20 =>
         load1 v33 H20=load1 v33 H2/\load1 v30 H20=load1 v30 H2/\load1 v27 H20=load1 v27 H2 /\
         E.call (E.fid i.f75) [v34,v36] H20 fun v37 H21 =>
         load1 v27 H21=load1 v27 H2 /\
         opt (ixSlc 7 v28 (vi (n.toNat:Int))) fun v38=>opt (addOff v38 2) fun v39=>opt (store1 v39 v37 H21) fun H22 =>
         opt (nilCk (ptr b o)) fun v40=>opt (addOff v40 5) fun v41=>opt (load1 v41 H22) fun v42=>opt (binInt .sub v42 (.int .i64 1)) fun v43 =>
         opt (nilCk (ptr b o)) fun v44=>opt (addOff v44 5) fun v45=>opt (store1 v45 v43 H22) fun H23 =>
         opt (nilCk (ptr t 0)) fun v46=>opt (addOff v46 4) fun v47=>opt (load1 v47 H23) fun v48=>opt (binInt .add v48 (.int .i64 1)) fun v49 =>
         opt (nilCk (ptr t 0)) fun v50=>opt (addOff v50 4) fun v51=>opt (store1 v51 v49 H23) fun H24 =>
         E.call (E.fid i.f72) [ptr t 0,vi (v.toNat:Int)] H24 fun v52 H25=>Q (.int .i64 0) H25):=by
      intro n1 n2 n3
      rw [if_neg n1,if_neg n2,if_neg n3] at hQ
      have h2:=h.mono e1
      obtain ⟨yn,bn,on,y1,p1,nd1⟩:=h2.at_ hnlt
      obtain ⟨_,_,c2n,_⟩:=nd1.cell
      have hh:=h2.head
      simp only [nilCk_p,addOff_ptr,load1_ptr,Nat.add_zero,Nat.zero_add,hh,cell_cells_z,TreeI.at0,p1,c2n,tk_eq,opt_some]
      refine S.f63 hE h2 n fun bz oz yz H3 e3 hnz hatz =>?_
      obtain ⟨rfl,hyz,hpz⟩:=hatz hnlt
      refine ⟨rfl,rfl,rfl,?_⟩
      refine S.f73 hE hnz s (hs n) ?_
      refine ⟨rfl,rfl,rfl,?_⟩
      obtain ⟨j,hj,j1,j2,j3⟩:=nameIx_some s _ v hlk
      rw [j1]
      refine S.f75 hE yn.l (T.node n).ents nd1.2.2 hel j hj fun v' H4 e4 g4 f4 =>?_
      rw [<- j3] at g4
      have hh4:=(h2.mono e4).head
      obtain ⟨H5,s5,u5⟩:=h2.newL hnlt y1 p1 (Nd.delE s) (fun _=>rfl) e4 g4 f4 rfl
      have h5:=u5.ref h2
      have hnode:((T.upd n (Nd.delE s)).node v).links=(T.node v).links:=by
        rw [Tr.node_upd (by rw [hd]; decide)]
        split
        · rename_i e; rw [e]; rfl
        · rfl
      have hlt5:v.toNat<(T.upd n (Nd.delE s)).N.length:=by simpa [Tr.upd] using hvlt
      obtain ⟨y5,b5,o5,q1,q2,q3⟩:=h5.at_ hlt5
      rw [hp] at q2
      simp only [Option.some.injEq,Value.pointer.injEq,Addr.mk.injEq,and_true] at q2
      obtain ⟨rfl,rfl⟩:=q2
      obtain ⟨_,_,_,_,_,d5,_⟩:=q3.cell
      rw [hnode] at d5
      obtain ⟨H6,s6,u6⟩:=h5.num hlt5 q1 hp (Nd.addL (-1)) (fun _=>⟨rfl,rfl⟩) (k:=5) (by omega) (v:=(T.node v).links - 1) (by rw [<- hnode]; rfl)
      have h6:=u6.ref h5
      obtain ⟨H7,s7,u7⟩:=h6.tick
      have hh6:=h6.head
      have hcc:((T.upd n (Nd.delE s)).upd v (Nd.addL (-1))).change=T.change:=rfl
      rw [hcc] at s7 hh6
      refine ⟨by simp only [load1_ptr,hh4,hh],?_⟩
      simp only [p1,addOff_ptr,s5,nilCk_p,load1_ptr,d5,i64_sub (a:=(T.node v).links) (b:=1) (by omega) (by omega),s6,hh6,cell_cells_z,Nat.zero_add,TreeI.at4,i64_add (a:=T.change) (b:=1) (by omega) (by omega),s7,tk_eq,opt_some]
      refine S.f72 hE (u7.ref h6) v (by simpa [Tr.upd,Tr.bump] using hvlt) fun Y' H8 u8 =>?_
      exact hQ _ _ ((UpdR.after e1 u5).trans ((u6.trans u7).trans u8))
    cases dir with
    | true =>
      by_cases k3:(T.node v).kind=2#8
      · have hk3:((T.node v).kind.toNat:Int)=2:=by rw [k3]; rfl
        by_cases z0:0<(T.node v).ents.length
        · have z0':(0:Int)<(T.node v).ents.length:=by omega
          simp [k3,z0] at hQ
          simp only [gd_tt,gd_ft,un_not_z,nilCk_p,addOff_ptr,load1_ptr,Nat.add_zero,c0,hk3,i64_neq,i64_gtr,gt_iff_lt,ne_eq,not_true,decide_false,decide_true,Bool.not_true,c2,hl,z0',pick_true_z,pick_false_z,tk_eq,opt_some,ifB_true,ifB_false]
          exact hQ _ _ (h.same e1)
        · have z0':¬ (0:Int)<(T.node v).ents.length:=by omega
          simp only [gd_tt,gd_ft,un_not_z,nilCk_p,addOff_ptr,load1_ptr,Nat.add_zero,c0,hk3,i64_neq,i64_gtr,gt_iff_lt,ne_eq,not_true,decide_false,decide_true,Bool.not_true,c2,hl,z0',pick_true_z,pick_false_z,tk_eq,opt_some,ifB_true,ifB_false]
          exact fin (by simp [k3]) (by simp) (by simp [z0])
      · have hk3:¬ ((T.node v).kind.toNat:Int)=2:=by rw [kind2]; exact k3
        simp [k3] at hQ
        simp only [gd_tt,gd_ft,un_not_z,nilCk_p,addOff_ptr,load1_ptr,Nat.add_zero,c0,hk3,i64_neq,ne_eq,not_false_iff,decide_true,pick_true_z,tk_eq,opt_some,ifB_true]
        exact hQ _ _ (h.same e1)
    | false =>
      by_cases k3:(T.node v).kind=2#8
      · have hk3:((T.node v).kind.toNat:Int)=2:=by rw [k3]; rfl
        simp [k3] at hQ
        simp only [gd_tt,gd_ft,un_not_z,nilCk_p,addOff_ptr,load1_ptr,Nat.add_zero,c0,hk3,i64_eql,decide_false,decide_true,Bool.not_false,pick_true_z,pick_false_z,tk_eq,opt_some,ifB_true,ifB_false]
        exact hQ _ _ (h.same e1)
      · have hk3:¬ ((T.node v).kind.toNat:Int)=2:=by rw [kind2]; exact k3
        simp only [gd_tt,gd_ft,un_not_z,nilCk_p,addOff_ptr,load1_ptr,Nat.add_zero,c0,hk3,i64_eql,decide_false,decide_true,Bool.not_false,pick_true_z,pick_false_z,tk_eq,opt_some,ifB_true,ifB_false]
        exact fin (by simp) (by simp [k3]) (by simp)
  · simp [l0] at hQ
    simp only [tk_eq,ext_tuple,List.getElem?_cons_zero,List.getElem?_cons_succ,l0,i64_neq,ne_eq,not_false_iff,decide_true,opt_some,ifB_true]
    exact hQ _ _ (h.same e1)
end
end Go.AM
end
section
namespace Go.AM
section
variable {E:Sy} {H0 H H' H'' H1:AH} {Q:Value->AH->Prop} {t:Nat} {nv nv' nv'' mv:Value} {nx:Int} {mr:List (List Value)} {Y Y' Y'':List RLy} {T T' T'':Tr}
theorem RefT.setRow (h:RefT H t nv mv nx mr Y T) {n:BitVec 16} (hn:n.toNat<T.N.length) (x':Nd) (hd:x'.data=[]) (he:x'.ents=[]) :
  ∃ b o H',ixSlc 7 nv (vi (n.toNat:Int))=some (ptr b o)/\storeN 7 (ptr b o) (.agg (refI x' ⟨nilS,nilS⟩).cells.toArray) H=some H'/\UpdR t nv mv nx mr Y T nv (Y.set n.toNat ⟨nilS,nilS⟩) (T.upd n fun _=>x') H H':=by
 obtain ⟨y,b,o,h1,h2,h3⟩:=h.at_ hn
 have hx:=Tr.node_get hn
 have hylt:n.toNat<Y.length:=by rw [h.len]; exact hn
 have hz:(T.N.zip Y)[n.toNat]? = some (T.node n,y):=by simp [List.zip,List.getElem?_zipWith,hx,h1]
 have hi:n.toNat<(nodeRows T Y).length:=by rw [h.rows_len]; exact hn
 obtain ⟨b',o',H',q1,q2,q3,q4⟩:=h.rows.storeN (i:=n.toNat) hi (refI x' ⟨nilS,nilS⟩).cells rfl rfl
 have u1:=h.ow.set (rs:=refRs t nv mv nx mr Y T) (k:=1) (r:=growR 7 nv (nodeRows T Y)) (by simp [refRs]) (Grow.upd (v:=nv) (rows:=nodeRows T Y) ⟨q4,fun b hb => .inl hb⟩ q3)
 have o1:=h.ow.upd u1
 have hk3:((refRs t nv mv nx mr Y T).set 1 (growR 7 nv ((nodeRows T Y).set n.toNat (refI x' ⟨nilS,nilS⟩).cells)))[n.toNat+3]? = some (nodeRR (T.node n) y):=by simp [refRs,hz]
 have ue:Upd (nodeRR (T.node n) y) (nodeRR x' ⟨nilS,nilS⟩) H' H':=by
  refine ⟨Only.refl _ _,?_,?_,?_⟩
  ·intro r hr
   simp only [List.mem_cons,List.not_mem_nil,or_false] at hr
   rcases hr with rfl | rfl
   ·rw [hd]; exact Grow.nil _ _ _
   ·rw [he]; exact Grow.nil _ _ _
  ·intro b hb
   simp [nodeRR,joinR,growR,blkL,blk] at hb
  ·simp [nodeRR,joinR,growR,blkL,blk]
 have u2:=o1.set hk3 ue
 have hzz:=zip_modify (fun _=>x') (⟨nilS,nilS⟩:RLy) hx hylt
 have he:((refRs t nv mv nx mr Y T).set 1 (growR 7 nv ((nodeRows T Y).set n.toNat (refI x' ⟨nilS,nilS⟩).cells))).set (n.toNat+3) (nodeRR x' ⟨nilS,nilS⟩)=refRs t nv mv nx mr (Y.set n.toNat ⟨nilS,nilS⟩) (T.upd n fun _=>x'):=by
  simp only [refRs,nodeRows,Tr.upd,hzz,List.map_set,List.set_cons_succ,List.set_cons_zero]
 have u3:=u1.trans u2
 rw [he] at u3
 exact ⟨b',o',H',q1,q2,u3,by simp [Tr.upd,h.len],by simpa [Tr.upd] using h.fit⟩
theorem RefT.push (h:RefT H t nv mv nx mr Y T) (hfit:T.N.length<60000) :
  ∃ v' H2 H3,AM.app 7 96 nv (slc H.next 0 1 1) (H.new (.cells (refI Nd.none ⟨nilS,nilS⟩).cells none))=some (v',H2)/\store1 (ptr t 0) v' H2=some H3/\UpdR t nv mv nx mr Y T v' (Y++[⟨nilS,nilS⟩]) { T with N:=T.N++[Nd.none] } H H3:=by
 obtain ⟨v',H2,a1,a2,a3⟩:=h.rows.app1 (Nat.zero_le _) (bytes:=96) (refI Nd.none ⟨nilS,nilS⟩).cells rfl rfl (by decide) (by decide) (by rw [h.rows_len]; omega)
 have u1:=h.ow.set (rs:=refRs t nv mv nx mr Y T) (k:=1) (r:=growR 7 nv (nodeRows T Y)) (by simp [refRs]) (Grow.upd (v:=nv) (rows:=nodeRows T Y) a3 a2)
 have o1:=h.ow.upd u1
 have hh:H2.get t = .cells (TreeI.cells ⟨nv,T.limit,mv,nx,T.change⟩) none:=o1.holds (boxR t (TreeI.cells ⟨nv,T.limit,mv,nx,T.change⟩)) (by simp [refRs])
 have u2:=o1.set (rs:=(refRs t nv mv nx mr Y T).set 1 (growR 7 v' (nodeRows T Y++[(refI Nd.none ⟨nilS,nilS⟩).cells]))) (k:=0) (by simp [refRs]) (boxR.put hh (TreeI.cells ⟨v',T.limit,mv,nx,T.change⟩))
 have o2:=o1.upd u2
 have u3:=o2.add (nodeRR Nd.none ⟨nilS,nilS⟩) (Ext.refl _) (by
  intro r hr
  simp only [List.mem_cons,List.not_mem_nil,or_false] at hr
  rcases hr with rfl | rfl
  ·exact Grow.nil _ _ _
  ·exact Grow.nil _ _ _) (by intro b hb; simp [nodeRR,joinR,growR,blkL,blk] at hb) (by simp [nodeRR,joinR,growR,blkL,blk])
 have he:(((refRs t nv mv nx mr Y T).set 1 (growR 7 v' (nodeRows T Y++[(refI Nd.none ⟨nilS,nilS⟩).cells]))).set 0 (boxR t (TreeI.cells ⟨v',T.limit,mv,nx,T.change⟩)))++[nodeRR Nd.none ⟨nilS,nilS⟩]=refRs t v' mv nx mr (Y++[⟨nilS,nilS⟩]) { T with N:=T.N++[Nd.none] }:=by
  have hz:(T.N++[Nd.none]).zip (Y++[(⟨nilS,nilS⟩:RLy)])=T.N.zip Y++[(Nd.none,⟨nilS,nilS⟩)]:=by
   rw [List.zip_append h.len.symm]; rfl
  simp [refRs,nodeRows,hz]
 have u4:=u1.trans (u2.trans u3)
 rw [he] at u4
 refine ⟨v',H2,_,a1,?_,u4,by simp [h.len],by simp; omega⟩
 rw [store1_ptr,if_pos a2.plain,hh]
 simp
theorem madeV (k:Int):buildV [(0,1),(1,1),(2,1),(3,1),(4,1),(5,1),(6,1)] #[(.int .i64 0),(.slice none 0 0),(.slice none 0 0),(.int .i64 0),(.string ⟨#[]⟩),(.int .i64 0),(.int .i64 0)] [(0,vi k),(5,vi 1)]=some (.agg (NodeI.cells ⟨k,nilS,nilS,0,[],1,0⟩).toArray):=rfl
theorem Tr.put_same {a:Nat} (x:Nd) (h:a<T.N.length) (hlt:a<65536):T.upd (BitVec.ofNat 16 a) (fun _=>x)=T.put a x:=by
 have e:(BitVec.ofNat 16 a).toNat=a:=by rw [BitVec.toNat_ofNat,Nat.mod_eq_of_lt (by omega)]
 unfold Tr.upd Tr.put
 rw [if_pos h,e]
 congr 1
 apply List.ext_getElem?
 intro i
 rw [List.getElem?_modify,List.getElem?_set]
 by_cases hi:a=i
 ·subst hi
  simp [h]
 ·simp [hi]
theorem Tr.put_push (x:Nd) (hlt:T.N.length<65536):Tr.upd { T with N:=T.N++[Nd.none] } (BitVec.ofNat 16 T.N.length) (fun _=>x)=T.put T.N.length x:=by
 rw [Tr.put_same x (by simp) hlt]
 unfold Tr.put
 simp
theorem zeroN:([(.int .i64 0),(.slice none 0 0),(.slice none 0 0),(.int .i64 0),(.string ⟨#[]⟩),(.int .i64 0),(.int .i64 0)]:List Value)=NodeI.zero.cells:=rfl
theorem S.f61 (hE:Fold E) (h:RefT H t nv mv nx mr Y T) (hs:T.small) (n:BitVec 16) (s:NameL) (hsl:s.length<2 ^ 63) (k:BitVec 8) (text:List UInt8) (hc : -9223372036854775808<=T.change/\T.change<9223372036854775807)
    (hN:1<=T.N.length/\T.N.length<60000) (hdp:k=2#8->T.room n s=0->T.deepF 20 n=T.deep n)
    (hQ:∀ nv' Y' H',UpdR t nv mv nx mr Y T nv' Y' (T.make n s k text).1 H H'->Q (.tuple #[vi ((T.make n s k text).2.1.toNat:Int),vi (T.make n s k text).2.2]) H'):E.call (E.fid i.f61) [ptr t 0,vi (n.toNat:Int),str s,vi (k.toNat:Int),str text] H Q:=by
  apply hE.f61
  simp only [F.f61]
  refine S.f70 hE h hs n s hsl fun H1 e1 =>?_
  unfold Tr.make at hQ
  by_cases r0:T.room n s=0
  rotate_left
  · simp [r0] at hQ
    simp only [i64_neq,r0,ne_eq,not_false_iff,decide_true,tk_eq,opt_some,ifB_true]
    exact hQ _ _ _ (h.same e1)
  have h1:=h.mono e1
  obtain ⟨hd,hno,_,_,hel⟩:=Tr.room_zero r0
  have hnlt:n.toNat<T.N.length:=node_kind_lt (by rw [hd]; decide)
  simp only [r0,ne_eq,not_true,if_false] at hQ
  simp only [i64_neq,r0,ne_eq,not_true,decide_false,tk_eq,opt_some,ifB_false]
  have hfree:=Tr.free_ok hN.1 (by omega:T.N.length<=60000)
  have hft:(BitVec.ofNat 16 T.free).toNat=T.free:=by rw [BitVec.toNat_ofNat,Nat.mod_eq_of_lt (by have:=hfree.lt; omega)]
  have last:(¬ (k=0#8\/3#8<k\/(k=3#8/\(text.length<1\/120<text.length))))->¬ (T.limit<=T.len\/(k=2#8/\16<=T.deep n))->∀ H2,Ext H1 H2 ->
      LoopL (fun l H X0=>F.f61_l1 E Q (nth l 0) (nth l 1) (nth l 2) (nth l 3) (nth l 4) (nth l 5) H X0) [ptr t 0,vi (n.toNat:Int),str s,vi (k.toNat:Int),str text,(.int .i64 1)] H2:=by
    intro g1 g2 H2 e2
    rw [if_neg g1,if_neg g2] at hQ
    have h2:=h1.mono e2
    have hh2:=h2.head
    have fin:∀ nv2 Y2 T2 H3,UpdR t nv mv nx mr Y T nv2 Y2 T2 H2 H3->T.free<T2.N.length->(∀ x,T2.upd (BitVec.ofNat 16 T.free) (fun _=>x)=T.put T.free x)->F.f61_j1 E Q (ptr t 0) (vi (n.toNat:Int)) (str s) (vi (k.toNat:Int)) (str text) (vi ((BitVec.ofNat 16 T.free).toNat:Int)) H3:=by
      intro nv2 Y2 T2 H3 u3 hlt3 hput
      have h3:=u3.ref h2
      have last2:∀ H4,H4=H3.new (.cells (refI (Nd.made n k text) ⟨nilS,nilS⟩).cells none)->F.f61_j3 E Q (ptr t 0) (vi (n.toNat:Int)) (str s) (vi ((BitVec.ofNat 16 T.free).toNat:Int)) (ptr H3.next 0) H4:=by
        rintro H4 rfl
        have h4:=h3.mono ((Ext.refl H3).new (.cells (refI (Nd.made n k text) ⟨nilS,nilS⟩).cells none))
        have hh4:=h4.head
        have lo:loadN 7 (ptr H3.next 0) (H3.new (.cells (refI (Nd.made n k text) ⟨nilS,nilS⟩).cells none))=some (.agg (refI (Nd.made n k text) ⟨nilS,nilS⟩).cells.toArray):=by
          rw [loadN_ptr,AH.get_new_self,row_all _ _ 7 rfl]; rfl
        have hlt4:(BitVec.ofNat 16 T.free).toNat<T2.N.length:=by rw [hft]; exact hlt3
        obtain ⟨b,o,H5,q1,q2,u5⟩:=h4.setRow hlt4 (Nd.made n k text) rfl rfl
        rw [hput] at u5
        have h5:=u5.ref h4
        have hh5:=h5.head
        have hnf:n≠BitVec.ofNat 16 T.free:=by rintro e; have:=hfree.zero; rw [<- e,hd] at this; simp at this
        have hnode:(T.put T.free (Nd.made n k text)).node n=T.node n:=by rw [Tr.node_put hfree.le hfree.lt,if_neg hnf]
        have hnlt5:n.toNat<(T.put T.free (Nd.made n k text)).N.length:=node_kind_lt (by rw [hnode,hd]; decide)
        obtain ⟨yn,bn,on,y1,p1,nd1⟩:=h5.at_ hnlt5
        rw [hnode] at nd1
        obtain ⟨_,_,c2,_⟩:=nd1.cell
        have hen:=entryV s (BitVec.ofNat 16 T.free)
        simp only [F.f61_j3,nilCk_p,addOff_ptr,load1_ptr,Nat.add_zero,Nat.zero_add,hh4,cell_cells_z,TreeI.at0,lo,q1,q2,hh5,p1,c2,hen,tk_eq,opt_some]
        refine S.f74 hE yn.l (T.node n).ents nd1.2.2 (by omega) s (BitVec.ofNat 16 T.free) fun v' H6 e6 g6 f6 =>?_
        have hh6:=(h5.mono e6).head
        obtain ⟨H7,s7,u7⟩:=h5.newL hnlt5 y1 p1 (Nd.addE s (BitVec.ofNat 16 T.free)) (fun _=>rfl) e6 (by rw [hnode]; exact g6) f6 (by rw [hnode]; rfl)
        have h7:=u7.ref h5
        obtain ⟨H8,s8,u8⟩:=h7.tick
        have hh7:=h7.head
        have hcc:((T.put T.free (Nd.made n k text)).upd n (Nd.addE s (BitVec.ofNat 16 T.free))).change=T.change:=rfl
        rw [hcc] at s8 hh7
        refine ⟨by simp only [load1_ptr,hh6,hh5],?_⟩
        simp only [p1,addOff_ptr,s7,nilCk_p,load1_ptr,hh7,cell_cells_z,Nat.zero_add,TreeI.at4,i64_add (a:=T.change) (b:=1) (by omega) (by omega),s8,tk_eq,opt_some]
        have hfin:=hQ _ _ _ (UpdR.after (e1.trans e2) (u3.trans (UpdR.after ((Ext.refl H3).new _) (u5.trans (u7.trans u8)))))
        exact hfin
      have k2:=kind2 k
      have k3:=kind3 k
      simp only [F.f61_j1,madeV (k.toNat:Int),tk_eq,opt_some]
      simp only [allocW_eq,zeroN,storeN_ptr,AH.get_new_self,NodeI.cells_length,NodeI.splice_cells,AH.new_put,List.size_toArray,Nat.zero_add,Nat.le_refl,show (NodeI.cells ⟨(k.toNat:Int),nilS,nilS,0,[],1,0⟩).all plain1=true from rfl,and_self,if_true,tk_eq,opt_some,i64_eql,k2,addOff_ptr,store1_ptr,plain1_int_z,F.f61_j2,k3]
      by_cases c2:k=2#8
      · have c3:¬ k=3#8:=by rw [c2]; decide
        simp only [ifB_true,ifB_false,F.f61_j2,i64_eql,k3,eq_true c2,eq_false c3,decide_true,decide_false,ifB_true,ifB_false,addOff_ptr,Nat.zero_add,store1_ptr,plain1_int_z,if_true,AH.get_new_self,NodeI.cells_length,show (3<7)=True from by simp,AH.new_put,NodeI.set3,tk_eq,opt_some]
        refine last2 _ ?_
        congr 2
        subst c2
        rfl
      · by_cases c3:k=3#8
        · simp only [F.f61_j2,i64_eql,k3,eq_false c2,eq_true c3,decide_true,decide_false,ifB_true,ifB_false,addOff_ptr,Nat.zero_add,store1_ptr,plain1_str_z,if_true,AH.get_new_self,NodeI.cells_length,show (4<7)=True from by simp,AH.new_put,NodeI.set4,tk_eq,opt_some]
          refine last2 _ ?_
          congr 2
          subst c3
          rfl
        · simp only [F.f61_j2,i64_eql,k3,eq_false c2,eq_false c3,decide_false,ifB_false,tk_eq,opt_some]
          refine last2 _ ?_
          congr 2
          simp [refI,Nd.made,c2,c3]
    refine LoopL.ind (fun i l H'=>H2=H'/\∃ a:Nat,l=[ptr t 0,vi (n.toNat:Int),str s,vi (k.toNat:Int),str text,vi a]/\1<=a/\i+a=T.free) ?_ (T.free - 1) ⟨rfl,1,rfl,by omega,by have:=hfree.pos; omega⟩
    rintro i _ _ X hX ⟨rfl,a,rfl,ha,hia⟩
    have hls:=h2.lenSlc
    have hflt:=hfree.lt
    have hfle:=hfree.le
    have hat:(BitVec.ofNat 16 a).toNat=a:=by rw [BitVec.toNat_ofNat,Nat.mod_eq_of_lt (by omega)]
    by_cases hlt:a<T.free
    · have hu:=hfree.used a ha hlt
      have hal:(a:Int)<T.N.length:=by omega
      obtain ⟨y,b,o,q1,q2,q3⟩:=h2.at_ (n:=BitVec.ofNat 16 a) (by rw [hat]; omega)
      rw [hat] at q2
      obtain ⟨c0,_⟩:=q3.cell
      have hk:(0:Int)<((T.node (BitVec.ofNat 16 a)).kind.toNat:Int):=by
        have:¬ ((T.node (BitVec.ofNat 16 a)).kind.toNat:Int)=0:=by rw [kind0]; exact hu
        omega
      simp only [F.f61_l1,nth_0,nth_1,nth_2,nth_3,nth_4,nth_5,nilCk_p,addOff_ptr,load1_ptr,Nat.add_zero,Nat.zero_add,hh2,cell_cells_z,TreeI.at0,hls,i64_lss,hal,decide_true,gd_tt,q2,c0,i64_gtr,gt_iff_lt,hk,pick_true_z,i64_succ a (by omega),tk_eq,opt_some,ifB_true]
      exact hX (i - 1) (by omega) _ _ ⟨rfl,a+1,rfl,by omega,by omega⟩
    · have:a=T.free:=by omega
      subst this
      by_cases hlen:T.free<T.N.length
      · have hal:(T.free:Int)<T.N.length:=by omega
        have hne:¬ (T.free:Int)=T.N.length:=by omega
        obtain ⟨y,b,o,q1,q2,q3⟩:=h2.at_ (n:=BitVec.ofNat 16 T.free) (by rw [hat]; omega)
        rw [hat] at q2
        obtain ⟨c0,_⟩:=q3.cell
        have hk:¬ (0:Int)<((T.node (BitVec.ofNat 16 T.free)).kind.toNat:Int):=by rw [hfree.zero]; decide
        have hf:=fin _ _ _ _ (h2.same (Ext.refl _)) hlen fun x=>Tr.put_same x hlen hflt
        rw [hft] at hf
        simp only [F.f61_l1,nth_0,nth_1,nth_2,nth_3,nth_4,nth_5,nilCk_p,addOff_ptr,load1_ptr,Nat.add_zero,Nat.zero_add,hh2,cell_cells_z,TreeI.at0,hls,i64_lss,hal,decide_true,gd_tt,q2,c0,i64_gtr,gt_iff_lt,hk,decide_false,pick_true_z,i64_eql,hne,tk_eq,opt_some,ifB_false]
        exact hf
      · have hal:¬ (T.free:Int)<T.N.length:=by omega
        have heq:T.free=T.N.length:=by omega
        have hne:(T.free:Int)=T.N.length:=by omega
        obtain ⟨v',H4,H5,a1,a2,u5⟩:=h2.push hN.2
        have hf:=fin _ _ _ _ u5 (by simp; omega) fun x=>by rw [heq]; exact Tr.put_push x (by omega)
        rw [hft] at hf
        have hb1:buildS 1 7 #[(.int .i64 0),(.slice none 0 0),(.slice none 0 0),(.int .i64 0),(.string ⟨#[]⟩),(.int .i64 0),(.int .i64 0)] [(0,.agg (refI Nd.none ⟨nilS,nilS⟩).cells.toArray)]=some (.cells (refI Nd.none ⟨nilS,nilS⟩).cells none,mkSlc 1 1):=NodeI.build1 _
        simp only [F.f61_l1,nth_0,nth_1,nth_2,nth_3,nth_4,nth_5,nilCk_p,addOff_ptr,load1_ptr,Nat.add_zero,Nat.zero_add,hh2,cell_cells_z,TreeI.at0,hls,i64_lss,hal,Int.lt_irrefl,decide_false,gd_ft,pick_false_z,i64_eql,hne,decide_true,noneV,hb1,AM.mk_some,mkSlc_eq,a1,opt2_some,a2,tk_eq,opt_some,ifB_false,ifB_true]
        rw [hne] at hf
        exact hf
  have hkn:∀ j:Nat,j<256->(((k.toNat:Int)=(j:Int))=(k=BitVec.ofNat 8 j)):=fun j hj=>propext (toNat_kind k j hj)
  have hk0:((k.toNat:Int)<1)=(k=0#8):=by
    rw [<- kind0,eq_iff_iff]; omega
  have hk3l:((3:Int)<k.toNat)=(3#8<k):=by
    rw [eq_iff_iff,BitVec.lt_def]
    show (3:Int)<k.toNat↔3<k.toNat
    omega
  have k3:=kind3 k
  have k2:=kind2 k
  have rest:(¬ (k=0#8\/3#8<k\/(k=3#8/\(text.length<1\/120<text.length)))) ->
      (opt (nilCk (ptr t 0)) fun v20=>opt (addOff v20 1) fun v21=>opt (load1 v21 H1) fun v22=>E.call (E.fid i.f59) [ptr t 0] H1 fun v23 H16=>load1 v21 H16=load1 v21 H1 /\
       opt (binInt .geq v23 v22) fun v24 =>
       gd v24 false (fun k'=>k' (vi (k.toNat:Int)) H16) H16 fun v25 H17 =>
       gd v24 false (fun k=>opt (binInt .eql v25 (.int .i64 2)) fun v=>k v H17) H17 fun v26 H18 =>
       gd v24 false (fun k=>k v26 H18) H18 fun v27 H19 =>
       gd v27 true (fun k=>k (ptr t 0) H19) H19 fun v28 H20 =>
       gd v27 true (fun k=>k (vi (n.toNat:Int)) H20) H20 fun v29 H21 =>
       gd v27 true (fun k=>E.call (E.fid i.f67) [v28,v29] H21 fun v h=>k v h) H21 fun v30 H22 =>
       gd v27 true (fun k=>opt (binInt .geq v30 (.int .i64 16)) fun v=>k v H22) H22 fun v31 H23 =>
       gd v24 false (fun k=>opt (pick v27 v31 (.bool false)) fun v=>k v H23) H23 fun v32 H24 =>
       opt (pick v24 (.bool true) v32) fun v33 =>
       ifB v33 (Q (.tuple #[(.int .i64 0),(.int .i64 28)]) H24) (
       LoopL (fun l H X0=>F.f61_l1 E Q (nth l 0) (nth l 1) (nth l 2) (nth l 3) (nth l 4) (nth l 5) H X0) [ptr t 0,vi (n.toNat:Int),str s,vi (k.toNat:Int),str text,(.int .i64 1)] H24)):=by
    intro g1
    have last:=last g1
    simp only [g1,if_false] at hQ
    have hh:=h1.head
    simp only [nilCk_p,addOff_ptr,load1_ptr,Nat.zero_add,hh,cell_cells_z,TreeI.at1,tk_eq,opt_some]
    refine S.f59 hE h1 ?_
    refine ⟨rfl,?_⟩
    by_cases t4:T.limit<=T.len
    · simp [t4] at hQ
      simp only [i64_geq,ge_iff_le,t4,decide_true,gd_tf,pick_true_z,tk_eq,opt_some,ifB_true]
      exact hQ _ _ _ (h.same e1)
    by_cases t5:k=2#8
    · simp only [i64_geq,ge_iff_le,t4,decide_false,gd_ff,i64_eql,k2,eq_true t5,decide_true,gd_tt,tk_eq,opt_some]
      refine S.f67 hE h1 n fun H2 e2 =>?_
      rw [hdp t5 r0]
      by_cases t6:16<=T.deep n
      · have t6':(16:Int)<=T.deep n:=by omega
        simp [t4,t5,t6] at hQ
        simp only [gd_tt,gd_ff,i64_geq,ge_iff_le,t6',decide_true,pick_true_z,pick_false_z,tk_eq,opt_some,ifB_true]
        exact hQ _ _ _ (h.same (e1.trans e2))
      · have t6':¬ (16:Int)<=T.deep n:=by omega
        simp only [gd_tt,gd_ff,i64_geq,ge_iff_le,t6',decide_false,pick_true_z,pick_false_z,tk_eq,opt_some,ifB_false]
        exact last (by simp only [t4,t6,and_false,or_self,not_false_eq_true]) _ e2
    · simp only [i64_geq,ge_iff_le,t4,decide_false,gd_ff,gd_ft,i64_eql,k2,eq_false t5,pick_true_z,pick_false_z,tk_eq,opt_some,ifB_false]
      exact last (by simp [t4,t5]) _ (Ext.refl _)
  by_cases t1:k=0#8
  · simp [t1] at hQ
    simp only [i64_lss,hk0,eq_true t1,decide_true,gd_tf,pick_true_z,tk_eq,opt_some,ifB_true]
    exact hQ _ _ _ (h.same e1)
  by_cases t2:3#8<k
  · simp [t2] at hQ
    simp only [i64_lss,hk0,eq_false t1,decide_false,gd_ff,i64_gtr,gt_iff_lt,hk3l,eq_true t2,decide_true,gd_tf,pick_true_z,pick_false_z,tk_eq,opt_some,ifB_true]
    exact hQ _ _ _ (h.same e1)
  by_cases t3:k=3#8
  · by_cases t7:text.length<1
    · have:(text.length:Int)<1:=by omega
      simp [t3,t7] at hQ
      simp only [i64_lss,hk0,eq_false t1,decide_false,gd_ff,i64_gtr,gt_iff_lt,hk3l,eq_false t2,i64_eql,k3,eq_true t3,decide_true,gd_tt,gd_tf,lenStr_s,this,pick_true_z,pick_false_z,tk_eq,opt_some,ifB_true]
      exact hQ _ _ _ (h.same e1)
    have t7':¬ (text.length:Int)<1:=by omega
    by_cases t8:120<text.length
    · have:(120:Int)<text.length:=by omega
      simp [t3,t8] at hQ
      simp only [i64_lss,hk0,eq_false t1,decide_false,gd_ff,i64_gtr,gt_iff_lt,hk3l,eq_false t2,i64_eql,k3,eq_true t3,decide_true,gd_tt,gd_tf,lenStr_s,t7',this,pick_true_z,pick_false_z,tk_eq,opt_some,ifB_true]
      exact hQ _ _ _ (h.same e1)
    have t8':¬ (120:Int)<text.length:=by omega
    have:=rest (by simp [t1,t2,t7,t8])
    simp only [i64_lss,hk0,eq_false t1,decide_false,gd_ff,i64_gtr,gt_iff_lt,hk3l,eq_false t2,i64_eql,k3,eq_true t3,decide_true,gd_tt,gd_tf,lenStr_s,t7',t8',pick_true_z,pick_false_z,tk_eq,opt_some,ifB_false]
    exact this
  · have:=rest (by simp [t1,t2,t3])
    simp only [i64_lss,hk0,eq_false t1,decide_false,gd_ff,gd_ft,i64_gtr,gt_iff_lt,hk3l,eq_false t2,i64_eql,k3,eq_false t3,pick_true_z,pick_false_z,tk_eq,opt_some,ifB_false]
    exact this
end
end Go.AM
end
section
namespace Go.AM
section
variable {E:Sy} {H0 H H' H'' H1:AH} {Q:Value->AH->Prop} {t:Nat} {nv nv' nv'' mv:Value} {nx:Int} {mr:List (List Value)} {Y Y' Y'':List RLy} {T T' T'':Tr}
theorem Tr.deepF_le (T:Tr):∀ (f:Nat) (n:BitVec 16),T.deepF f n<=f
 | 0,_=>Nat.le_refl _
 | f+1,n=>by
  have:=Tr.deepF_le T f (T.node n).parent
  simp only [Tr.deepF]
  split <;> omega
theorem refT_move_fin (hE:Fold E) (h:RefT H t nv mv nx mr Y T) (fr to n:BitVec 16) (s other:NameL) (hn:(T.node n).kind≠0#8) (T1:Tr) (Y1:List RLy) (H1:AH) (u1:UpdR t nv mv nx mr Y T nv Y1 T1 H H1) (hc1 : -9223372036854775808<=T1.change/\T1.change<9223372036854775807) (a1:(T1.node fr).kind=2#8) (a2:(T1.node to).kind=2#8) (a3:(T1.node n).kind=(T.node n).kind)
  (a4:alook s (T1.node fr).ents=some n) (a5:(T1.node fr).ents.length<2 ^ 35) (a6:(T1.node to).ents.length<2 ^ 35) (hQ:∀ Y' H',UpdR t nv mv nx mr Y T nv Y' (Tr.moved T1 fr s to other n) H H'->Q (vi 0) H') :
  F.f62_j1 E Q (ptr t 0) (vi (fr.toNat:Int)) (str s) (vi (to.toNat:Int)) (str other) (vi (n.toNat:Int)) (vb (decide ((T.node n).kind=2#8))) H1:=by
 have h1:=u1.ref h
 have frlt1:fr.toNat<T1.N.length:=node_kind_lt (by rw [a1]; decide)
 have tolt1:to.toNat<T1.N.length:=node_kind_lt (by rw [a2]; decide)
 have nlt1:n.toNat<T1.N.length:=node_kind_lt (by rw [a3]; exact hn)
 have b1:(T1.node fr).kind≠0#8:=by rw [a1]; decide
 have hh:=h1.head
 obtain ⟨yn,bn,on,y1,p1,nd1⟩:=h1.at_ frlt1
 obtain ⟨_,_,c2n,_⟩:=nd1.cell
 obtain ⟨j,hj,j1,j2,j3⟩:=nameIx_some s _ n a4
 simp only [F.f62_j1,nilCk_p,addOff_ptr,load1_ptr,Nat.add_zero,Nat.zero_add,hh,cell_cells_z,TreeI.at0,p1,c2n,tk_eq,opt_some]
 refine S.f63 hE h1 fr fun bz oz yz H3 e3 hnz hatz =>?_
 obtain ⟨rfl,hyz,hpz⟩:=hatz frlt1
 refine ⟨rfl,rfl,rfl,?_⟩
 refine S.f73 hE hnz s (by omega) ?_
 refine ⟨rfl,rfl,rfl,?_⟩
 rw [j1]
 refine S.f75 hE yn.l (T1.node fr).ents nd1.2.2 (by omega) j hj fun v' H4 e4 g4 f4 =>?_
 rw [<- j3] at g4
 have hh4:=(h1.mono e4).head
 obtain ⟨H5,s5,u5⟩:=h1.newL frlt1 y1 p1 (Nd.delE s) (fun _=>rfl) e4 g4 f4 rfl
 have h5:=u5.ref h1
 have hh5:=h5.head
 have hc5:(T1.upd fr (Nd.delE s)).change=T1.change:=rfl
 have hnode5:=fun w=>Tr.node_upd b1 (Nd.delE s) w
 have tolt5:to.toNat<(T1.upd fr (Nd.delE s)).N.length:=by simpa [Tr.upd] using tolt1
 have hlen5:((T1.upd fr (Nd.delE s)).node to).ents.length<2 ^ 35:=by
  rw [hnode5]
  split
  ·show (adel s (T1.node fr).ents).length<_
   exact Nat.lt_of_le_of_lt (adel_sub _ _).length_le a5
  ·exact a6
 have hkind5:∀ w,((T1.upd fr (Nd.delE s)).node w).kind=(T1.node w).kind:=by
  intro w
  rw [hnode5]
  split
  ·rename_i e; rw [e]; rfl
  ·rfl
 obtain ⟨yt,bt,ot,y5,p5,nd5⟩:=h5.at_ tolt5
 obtain ⟨_,_,c5,_⟩:=nd5.cell
 refine ⟨by simp only [load1_ptr,hh4,hh],?_⟩
 simp only [p1,addOff_ptr,s5,nilCk_p,load1_ptr,hh5,cell_cells_z,Nat.zero_add,TreeI.at0,p5,c5,entryV,tk_eq,opt_some]
 refine S.f74 hE yt.l _ nd5.2.2 (by omega) other n fun v6 H6 e6 g6 f6 =>?_
 have hh6:=(h5.mono e6).head
 obtain ⟨H7,s7,u7⟩:=h5.newL tolt5 y5 p5 (Nd.addE other n) (fun _=>rfl) e6 g6 f6 rfl
 have h7:=u7.ref h5
 have hh7:=h7.head
 have b5:((T1.upd fr (Nd.delE s)).node to).kind≠0#8:=by rw [hkind5,a2]; decide
 have nlt7:n.toNat<((T1.upd fr (Nd.delE s)).upd to (Nd.addE other n)).N.length:=by simpa [Tr.upd] using nlt1
 refine ⟨by simp only [load1_ptr,hh6,hh5],?_⟩
 simp only [p5,addOff_ptr,s7,tk_eq,opt_some]
 have hcc:((T1.upd fr (Nd.delE s)).upd to (Nd.addE other n)).change=T1.change:=rfl
 unfold Tr.moved at hQ
 by_cases d1:(T.node n).kind=2#8
 ·simp only [a3,d1,if_true] at hQ
  obtain ⟨y8,b8,o8,q8,p8,nd8⟩:=h7.at_ nlt7
  obtain ⟨H8,s8,u8⟩:=h7.num nlt7 q8 p8 (fun x=>{ x with parent:=to }) (fun _=>⟨rfl,rfl⟩) (k:=3) (by omega) (v:=(to.toNat:Int)) rfl
  have h8:=u8.ref h7
  have hh8:=h8.head
  obtain ⟨H9,s9,u9⟩:=h8.tick
  have hc8:(((T1.upd fr (Nd.delE s)).upd to (Nd.addE other n)).upd n (fun x=>{ x with parent:=to })).change=T1.change:=rfl
  rw [hc8] at s9 hh8
  simp only [eq_true d1,decide_true,ifB_true,nilCk_p,addOff_ptr,load1_ptr,hh7,cell_cells_z,Nat.zero_add,TreeI.at0,p8,s8,F.f62_j2,hh8,TreeI.at4,i64_add (a:=T1.change) (b:=1) (by omega) (by omega),s9,tk_eq,opt_some]
  exact hQ _ _ (u1.trans (u5.trans (u7.trans (u8.trans u9))))
 ·simp only [a3,d1,if_false] at hQ
  obtain ⟨H9,s9,u9⟩:=h7.tick
  rw [hcc] at s9 hh7
  simp only [eq_false d1,decide_false,ifB_false,F.f62_j2,nilCk_p,addOff_ptr,load1_ptr,hh7,cell_cells_z,Nat.zero_add,TreeI.at4,i64_add (a:=T1.change) (b:=1) (by omega) (by omega),s9,tk_eq,opt_some]
  exact hQ _ _ (u1.trans (u5.trans (u7.trans u9)))
theorem refT_move_drop (hE:Fold E) (h:RefT H t nv mv nx mr Y T) (hs:T.small) (fr to n:BitVec 16) (s other:NameL) (hc : -9223372036854775808<=T.change/\T.change<9223372036854775806)
  (hn:(T.node n).kind≠0#8) (k1:(T.node fr).kind=2#8) (k2:alook s (T.node fr).ents=some n) (c2:T.dir to=0) (k3:(T.node to).kind=2#8)
  (hold:∀ y,(T.node to).kind=2#8->alook other (T.node to).ents=some y->(T.node y).kind≠0#8/\0<=(T.node y).links/\(T.node y).links<9223372036854775807)
  (hnd:(T.node to).kind=2#8->((T.node to).ents.map Prod.fst).Nodup) (hel:(T.node fr).ents.length<2 ^ 35/\(T.node to).ents.length<2 ^ 35)
  (o:BitVec 16) (ho:alook other (T.node to).ents=some o) (hon:o≠n) (hpos0:0<(T.node to).ents.length) (H4:AH) (ex4:Ext H H4) (dm:T.mayOld n (some o)=0)
  (hQ:∀ Y' H',UpdR t nv mv nx mr Y T nv Y' (Tr.moved (T.drop to other (decide ((T.node n).kind=2#8))).1 fr s to other n) H H'->Q (vi 0) H') :
  (E.call (E.fid i.f57) [(ptr t 0),(vi (to.toNat:Int)),(str other),(vb (decide ((T.node n).kind=2#8)))] H4 fun v92 H61 =>
    F.f62_j1 E Q (ptr t 0) (vi (fr.toNat:Int)) (str s) (vi (to.toNat:Int)) (str other) (vi (n.toNat:Int)) (vb (decide ((T.node n).kind=2#8))) H61):=by
 obtain ⟨o1,o2,o3⟩:=hold o k3 ho
 have hlk:T.look to other=(o,0):=by
  unfold Tr.look
  simp [c2,ho]
 obtain ⟨g1,g2⟩:=Tr.drop_ok k3 ho dm o1
 refine S.f57 hE (h.mono ex4) hs to other _ ⟨hc.1,by omega⟩ (fun _=>by rw [hlk]; exact ⟨o1,by show -9223372036854775807<=(T.node o).links; omega,o3⟩) (by omega) fun Y5 H5 u5 =>?_
 have hm:=dm
 unfold Tr.mayOld at hm
 have of:fr≠o:=by
  rintro rfl
  have hpos:0<(T.node fr).ents.length:=by
   cases he:(T.node fr).ents with
   | nil=>rw [he] at k2; simp [alook] at k2
   | cons a b=>simp
  simp only [k1] at hm
  by_cases d1:(T.node n).kind=2#8
  ·simp [d1,hpos] at hm
  ·simp [d1] at hm
 have ot:to≠o:=by
  rintro rfl
  have hpos:0<(T.node to).ents.length:=by omega
  simp only [k3] at hm
  by_cases d1:(T.node n).kind=2#8
  ·simp [d1,hpos] at hm
  ·simp [d1] at hm
 have hchg:=Tr.drop_change (T:=T) to other (decide ((T.node n).kind=2#8))
 have hkk:∀ w,w≠o->((T.drop to other (decide ((T.node n).kind=2#8))).1.node w).kind=(T.node w).kind:=by
  intro w hw
  rw [g2 w hw]
  split
  ·rename_i e; rw [e]; rfl
  ·rfl
 have hso:other≠s\/fr≠to:=by
  by_cases e:fr=to
  ·refine .inl ?_
   rintro rfl
   rw [e,ho] at k2
   exact hon (Option.some.inj k2)
  ·exact .inr e
 refine refT_move_fin hE h fr to n s other hn _ Y5 H5 (UpdR.after ex4 u5) ⟨by omega,by omega⟩ (by rw [hkk fr of]; exact k1) (by rw [hkk to ot]; exact k3) (hkk n (fun e=>hon e.symm)) ?_ ?_ ?_ hQ
 ·rw [g2 fr of]
  split
  ·rename_i e
   show alook s (adel other (T.node to).ents)=some n
   rw [alook_adel _ _ (hnd k3),if_neg,<- e,k2]
   rcases hso with g | g
   ·exact fun e=>g e.symm
   ·exact (g e).elim
  ·exact k2
 ·rw [g2 fr of]
  split
  ·exact Nat.lt_of_le_of_lt (adel_sub _ _).length_le hel.2
  ·exact hel.1
 ·rw [g2 to ot,if_pos rfl]
  exact Nat.lt_of_le_of_lt (adel_sub _ _).length_le hel.2
theorem refT_move_tail (hE:Fold E) (h:RefT H t nv mv nx mr Y T) (hs:T.small) (fr to n:BitVec 16) (s other:NameL) (hc : -9223372036854775808<=T.change/\T.change<9223372036854775806)
    (hn:(T.node n).kind≠0#8) (k1:(T.node fr).kind=2#8) (k2:alook s (T.node fr).ents=some n) (c2:T.dir to=0) (k3:(T.node to).kind=2#8)
    (hold:∀ y,(T.node to).kind=2#8->alook other (T.node to).ents=some y->(T.node y).kind≠0#8/\0<=(T.node y).links/\(T.node y).links<9223372036854775807)
    (hnd:(T.node to).kind=2#8->((T.node to).ents.map Prod.fst).Nodup) (hel:(T.node fr).ents.length<2 ^ 35/\(T.node to).ents.length<2 ^ 35)
    (i8:Int) (old:Option (BitVec 16)) (d:Bool) (Hx:AH) (ex:Ext H Hx) (hd:d=decide ((T.node n).kind=2#8)) (ho:alook other (T.node to).ents=old) (hcase:((i8 = -1/\old=none)\/∃ (j:Nat) (hj:j<(T.node to).ents.length) (o:BitVec 16),i8=j/\old=some o/\(T.node to).ents[j]=(other,o)/\o≠n))
    (hQ:∀ Y' H',UpdR t nv mv nx mr Y T nv Y' (if T.mayOld n old≠0 then (T,T.mayOld n old) else (Tr.moved (if old.isSome then (T.drop to other (decide ((T.node n).kind=2#8))).1 else T) fr s to other n,0)).1 H H'->Q (vi (if T.mayOld n old≠0 then (T,T.mayOld n old) else (Tr.moved (if old.isSome then (T.drop to other (decide ((T.node n).kind=2#8))).1 else T) fr s to other n,0)).2) H') :
      (
       opt (binInt .geq (vi i8) (.int .i64 0)) fun v63 =>
       ifB v63 (
       E.call (E.fid i.f63) [(ptr t 0),(vi (to.toNat:Int))] Hx fun v64 H43 =>
       opt (nilCk v64) fun v65 =>
       opt (addOff v65 2) fun v66 =>
       opt (load1 v66 H43) fun v67 =>
       opt (ixSlc 2 v67 (vi i8)) fun v68 =>
       opt (addOff v68 1) fun v69 =>
       opt (load1 v69 H43) fun v70 =>
       E.call (E.fid i.f63) [(ptr t 0),v70] H43 fun v71 H44 =>
       gd (vb d) true (fun k=>k v71 H44) H44 fun v72 H45 =>
       gd (vb d) true (fun k=>opt (nilCk v72) fun v=>k v H45) H45 fun v73 H46 =>
       gd (vb d) true (fun k=>opt (addOff v73 0) fun v=>k v H46) H46 fun v74 H47 =>
       gd (vb d) true (fun k=>opt (load1 v74 H47) fun v=>k v H47) H47 fun v75 H48 =>
       gd (vb d) true (fun k=>opt (binInt .neq v75 (.int .i64 2)) fun v=>k v H48) H48 fun v76 H49 =>
       opt (pick (vb d) v76 (.bool false)) fun v77 =>
       ifB v77 (
       Q (.int .i64 20) H49) (
       opt (un .not (vb d)) fun v78 =>
       gd v78 true (fun k=>k v71 H49) H49 fun v79 H50 =>
       gd v78 true (fun k=>opt (nilCk v79) fun v=>k v H50) H50 fun v80 H51 =>
       gd v78 true (fun k=>opt (addOff v80 0) fun v=>k v H51) H51 fun v81 H52 =>
       gd v78 true (fun k=>opt (load1 v81 H52) fun v=>k v H52) H52 fun v82 H53 =>
       gd v78 true (fun k=>opt (binInt .eql v82 (.int .i64 2)) fun v=>k v H53) H53 fun v83 H54 =>
       opt (pick v78 v83 (.bool false)) fun v84 =>
       ifB v84 (
       Q (.int .i64 21) H54) (
       gd (vb d) true (fun k=>k v71 H54) H54 fun v85 H55 =>
       gd (vb d) true (fun k=>opt (nilCk v85) fun v=>k v H55) H55 fun v86 H56 =>
       gd (vb d) true (fun k=>opt (addOff v86 2) fun v=>k v H56) H56 fun v87 H57 =>
       gd (vb d) true (fun k=>opt (load1 v87 H57) fun v=>k v H57) H57 fun v88 H58 =>
       gd (vb d) true (fun k=>opt (lenSlc v88) fun v=>k v H58) H58 fun v89 H59 =>
       gd (vb d) true (fun k=>opt (binInt .gtr v89 (.int .i64 0)) fun v=>k v H59) H59 fun v90 H60 =>
       opt (pick (vb d) v90 (.bool false)) fun v91 =>
       ifB v91 (
       Q (.int .i64 39) H60) (
       E.call (E.fid i.f57) [(ptr t 0),(vi (to.toNat:Int)),(str other),(vb d)] H60 fun v92 H61 =>
       F.f62_j1 E Q (ptr t 0) (vi (fr.toNat:Int)) (str s) (vi (to.toNat:Int)) (str other) (vi (n.toNat:Int)) (vb d) H61)))) (
       F.f62_j1 E Q (ptr t 0) (vi (fr.toNat:Int)) (str s) (vi (to.toNat:Int)) (str other) (vi (n.toNat:Int)) (vb d) Hx)):=by
  subst hd
  rcases hcase with ⟨rfl,rfl⟩ | ⟨j,hj,o,rfl,rfl,hjo,hon⟩
  · simp [Tr.mayOld] at hQ
    simp only [i64_geq,ge_iff_le,show ¬ (0:Int) <= -1 from by omega,decide_false,tk_eq,opt_some,ifB_false]
    exact refT_move_fin hE h fr to n s other hn T Y Hx (h.same ex) ⟨hc.1,by omega⟩ k1 k3 rfl k2 hel.1 hel.2 hQ
  · have hj0:(0:Int)<=j:=by omega
    obtain ⟨o1,o2,o3⟩:=hold o k3 ho
    have olt:=node_kind_lt o1
    simp only [i64_geq,ge_iff_le,hj0,decide_true,tk_eq,opt_some,ifB_true]
    refine S.f63 hE (h.mono ex) to fun b1 q1 y1 H3 e3 n3 hat3 =>?_
    obtain ⟨_,_,c3,_⟩:=n3.cell
    obtain ⟨b',o',f1,f2⟩:=n3.2.2.ix (i:=j) (by rw [entR_length]; exact hj)
    have hrow:(entR (T.node to).ents)[j]'(by rw [entR_length]; exact hj)=[str other,vi (o.toNat:Int)]:=by simp [entR,hjo]
    rw [hrow] at f2
    have f3:(H3.get b').cell (o'+1)=some (vi (o.toNat:Int)):=by have:=row_at f2 (j:=1) (by omega); simpa using this
    simp only [nilCk_p,addOff_ptr,load1_ptr,c3,f1,f3,tk_eq,opt_some]
    refine S.f63 hE (h.mono (ex.trans e3)) o fun b2 q2 y2 H4 e4 n4 hat4 =>?_
    obtain ⟨d0,_,d2,_⟩:=n4.cell
    have dl:=n4.lenL
    have ex4:=ex.trans (e3.trans e4)
    have hko:=kind2 (T.node o).kind
    have drop:=fun dm=>refT_move_drop (Q:=Q) hE h hs fr to n s other hc hn k1 k2 c2 k3 hold hnd hel o ho hon (by omega) H4 ex4 dm
    by_cases d1:(T.node n).kind=2#8
    · by_cases d2':(T.node o).kind=2#8
      · by_cases d3:0<(T.node o).ents.length
        · have d3':(0:Int)<(T.node o).ents.length:=by omega
          have hm:T.mayOld n (some o)=39:=by simp [Tr.mayOld,d1,d2',d3]
          simp [hm] at hQ
          simp only [eq_true d1,decide_true,Bool.not_true,un_not_z,gd_tt,gd_ft,nilCk_p,addOff_ptr,load1_ptr,Nat.add_zero,d0,i64_neq,i64_gtr,gt_iff_lt,ne_eq,hko,eq_true d2',not_true,decide_false,d2,dl,d3',pick_true_z,pick_false_z,tk_eq,opt_some,ifB_true,ifB_false]
          exact hQ _ _ (h.same ex4)
        · have d3':¬ (0:Int)<(T.node o).ents.length:=by omega
          have hm:T.mayOld n (some o)=0:=by simp [Tr.mayOld,d1,d2',d3]
          have:=drop hm (by simpa [hm] using hQ)
          rw [show decide ((T.node n).kind=2#8)=true by simp [d1]] at this
          simp only [eq_true d1,decide_true,Bool.not_true,un_not_z,gd_tt,gd_ft,nilCk_p,addOff_ptr,load1_ptr,Nat.add_zero,d0,i64_neq,i64_gtr,gt_iff_lt,ne_eq,hko,eq_true d2',not_true,decide_false,d2,dl,d3',pick_true_z,pick_false_z,tk_eq,opt_some,ifB_true,ifB_false]
          rw [show decide ((T.node n).kind=2#8)=true by simp [d1]]
          exact this
      · have hm:T.mayOld n (some o)=20:=by simp [Tr.mayOld,d1,d2']
        simp [hm] at hQ
        simp only [eq_true d1,decide_true,Bool.not_true,un_not_z,gd_tt,gd_ft,nilCk_p,addOff_ptr,load1_ptr,Nat.add_zero,d0,i64_neq,i64_gtr,gt_iff_lt,ne_eq,hko,eq_false d2',not_false_iff,decide_false,pick_true_z,pick_false_z,tk_eq,opt_some,ifB_true,ifB_false]
        exact hQ _ _ (h.same ex4)
    · by_cases d2':(T.node o).kind=2#8
      · have hm:T.mayOld n (some o)=21:=by simp [Tr.mayOld,d1,d2']
        simp [hm] at hQ
        simp only [eq_false d1,decide_false,Bool.not_false,un_not_z,gd_tt,gd_ft,nilCk_p,addOff_ptr,load1_ptr,Nat.add_zero,d0,i64_eql,hko,eq_true d2',decide_true,pick_true_z,pick_false_z,tk_eq,opt_some,ifB_true,ifB_false]
        exact hQ _ _ (h.same ex4)
      · have hm:T.mayOld n (some o)=0:=by simp [Tr.mayOld,d1,d2']
        have:=drop hm (by simpa [hm] using hQ)
        rw [show decide ((T.node n).kind=2#8)=false by simp [d1]] at this
        simp only [eq_false d1,decide_false,Bool.not_false,un_not_z,gd_tt,gd_ft,nilCk_p,addOff_ptr,load1_ptr,Nat.add_zero,d0,i64_eql,hko,eq_false d2',pick_true_z,pick_false_z,tk_eq,opt_some,ifB_true,ifB_false]
        rw [show decide ((T.node n).kind=2#8)=false by simp [d1]]
        exact this
theorem refT_move_key (hE:Fold E) (h:RefT H t nv mv nx mr Y T) (hs:T.small) (fr to n:BitVec 16) (s other:NameL) (hc : -9223372036854775808<=T.change/\T.change<9223372036854775806)
    (hn:(T.node n).kind≠0#8) (k1:(T.node fr).kind=2#8) (k2:alook s (T.node fr).ents=some n) (c2:T.dir to=0) (k3:(T.node to).kind=2#8)
    (hold:∀ y,(T.node to).kind=2#8->alook other (T.node to).ents=some y->(T.node y).kind≠0#8/\0<=(T.node y).links/\(T.node y).links<9223372036854775807)
    (hnd:(T.node to).kind=2#8->((T.node to).ents.map Prod.fst).Nodup) (hel:(T.node fr).ents.length<2 ^ 35/\(T.node to).ents.length<2 ^ 35)
    (hsl:other.length<2 ^ 63) (hdp:(T.node n).kind=2#8->(T.node to).links≠0->(T.node to).kind=2#8->T.deepF 20 to=T.deep to/\T.withinF n 20 to=T.within n to) {f:Nat} (hf:(T.node n).kind=2#8->T.fitsF f n) (hf20:f<=20)
    (i8:Int) (old:Option (BitVec 16)) (Hx:AH) (ex:Ext H Hx) (ho:alook other (T.node to).ents=old) (hcase:((i8 = -1/\old=none)\/∃ (j:Nat) (hj:j<(T.node to).ents.length) (o:BitVec 16),i8=j/\old=some o/\(T.node to).ents[j]=(other,o)/\o≠n))
    (hQ:∀ Y' H',UpdR t nv mv nx mr Y T nv Y' (if T.may n to other old≠0 then (T,T.may n to other old) else (Tr.moved (if old.isSome then (T.drop to other (decide ((T.node n).kind=2#8))).1 else T) fr s to other n,0)).1 H H'->Q (vi (if T.may n to other old≠0 then (T,T.may n to other old) else (Tr.moved (if old.isSome then (T.drop to other (decide ((T.node n).kind=2#8))).1 else T) fr s to other n,0)).2) H') :
      (
       E.call (E.fid i.f52) [(str other)] Hx fun v37 H28 =>
       opt (un .not v37) fun v38 =>
       ifB v38 (
       Q (.int .i64 22) H28) (
       E.call (E.fid i.f63) [(ptr t 0),(vi (to.toNat:Int))] H28 fun v39 H29 =>
       opt (nilCk v39) fun v40 =>
       opt (addOff v40 5) fun v41 =>
       opt (load1 v41 H29) fun v42 =>
       opt (binInt .eql v42 (.int .i64 0)) fun v43 =>
       ifB v43 (
       Q (.int .i64 2) H29) (
       E.call (E.fid i.f63) [(ptr t 0),(vi (n.toNat:Int))] H29 fun v44 H30 =>
       opt (nilCk v44) fun v45 =>
       opt (addOff v45 0) fun v46 =>
       opt (load1 v46 H30) fun v47 =>
       opt (binInt .eql v47 (.int .i64 2)) fun v48 =>
       gd v48 true (fun k=>k (ptr t 0) H30) H30 fun v49 H31 =>
       gd v48 true (fun k=>k (vi (to.toNat:Int)) H31) H31 fun v50 H32 =>
       gd v48 true (fun k=>k (vi (n.toNat:Int)) H32) H32 fun v51 H33 =>
       gd v48 true (fun k=>E.call (E.fid i.f65) [v49,v50,v51] H33 fun v h=>k v h) H33 fun v52 H34 =>
       opt (pick v48 v52 (.bool false)) fun v53 =>
       ifB v53 (
       Q (.int .i64 22) H34) (
       gd v48 true (fun k=>k (ptr t 0) H34) H34 fun v54 H35 =>
       gd v48 true (fun k=>k (vi (to.toNat:Int)) H35) H35 fun v55 H36 =>
       gd v48 true (fun k=>E.call (E.fid i.f67) [v54,v55] H36 fun v h=>k v h) H36 fun v56 H37 =>
       gd v48 true (fun k=>k (ptr t 0) H37) H37 fun v57 H38 =>
       gd v48 true (fun k=>k (vi (n.toNat:Int)) H38) H38 fun v58 H39 =>
       gd v48 true (fun k=>E.call (E.fid i.f71) [v57,v58] H39 fun v h=>k v h) H39 fun v59 H40 =>
       gd v48 true (fun k=>opt (binInt .add v56 v59) fun v=>k v H40) H40 fun v60 H41 =>
       gd v48 true (fun k=>opt (binInt .gtr v60 (.int .i64 16)) fun v=>k v H41) H41 fun v61 H42 =>
       opt (pick v48 v61 (.bool false)) fun v62 =>
       ifB v62 (
       Q (.int .i64 28) H42) (
       opt (binInt .geq (vi i8) (.int .i64 0)) fun v63 =>
       ifB v63 (
       E.call (E.fid i.f63) [(ptr t 0),(vi (to.toNat:Int))] H42 fun v64 H43 =>
       opt (nilCk v64) fun v65 =>
       opt (addOff v65 2) fun v66 =>
       opt (load1 v66 H43) fun v67 =>
       opt (ixSlc 2 v67 (vi i8)) fun v68 =>
       opt (addOff v68 1) fun v69 =>
       opt (load1 v69 H43) fun v70 =>
       E.call (E.fid i.f63) [(ptr t 0),v70] H43 fun v71 H44 =>
       gd v48 true (fun k=>k v71 H44) H44 fun v72 H45 =>
       gd v48 true (fun k=>opt (nilCk v72) fun v=>k v H45) H45 fun v73 H46 =>
       gd v48 true (fun k=>opt (addOff v73 0) fun v=>k v H46) H46 fun v74 H47 =>
       gd v48 true (fun k=>opt (load1 v74 H47) fun v=>k v H47) H47 fun v75 H48 =>
       gd v48 true (fun k=>opt (binInt .neq v75 (.int .i64 2)) fun v=>k v H48) H48 fun v76 H49 =>
       opt (pick v48 v76 (.bool false)) fun v77 =>
       ifB v77 (
       Q (.int .i64 20) H49) (
       opt (un .not v48) fun v78 =>
       gd v78 true (fun k=>k v71 H49) H49 fun v79 H50 =>
       gd v78 true (fun k=>opt (nilCk v79) fun v=>k v H50) H50 fun v80 H51 =>
       gd v78 true (fun k=>opt (addOff v80 0) fun v=>k v H51) H51 fun v81 H52 =>
       gd v78 true (fun k=>opt (load1 v81 H52) fun v=>k v H52) H52 fun v82 H53 =>
       gd v78 true (fun k=>opt (binInt .eql v82 (.int .i64 2)) fun v=>k v H53) H53 fun v83 H54 =>
       opt (pick v78 v83 (.bool false)) fun v84 =>
       ifB v84 (
       Q (.int .i64 21) H54) (
       gd v48 true (fun k=>k v71 H54) H54 fun v85 H55 =>
       gd v48 true (fun k=>opt (nilCk v85) fun v=>k v H55) H55 fun v86 H56 =>
       gd v48 true (fun k=>opt (addOff v86 2) fun v=>k v H56) H56 fun v87 H57 =>
       gd v48 true (fun k=>opt (load1 v87 H57) fun v=>k v H57) H57 fun v88 H58 =>
       gd v48 true (fun k=>opt (lenSlc v88) fun v=>k v H58) H58 fun v89 H59 =>
       gd v48 true (fun k=>opt (binInt .gtr v89 (.int .i64 0)) fun v=>k v H59) H59 fun v90 H60 =>
       opt (pick v48 v90 (.bool false)) fun v91 =>
       ifB v91 (
       Q (.int .i64 39) H60) (
       E.call (E.fid i.f57) [(ptr t 0),(vi (to.toNat:Int)),(str other),v48] H60 fun v92 H61 =>
       F.f62_j1 E Q (ptr t 0) (vi (fr.toNat:Int)) (str s) (vi (to.toNat:Int)) (str other) (vi (n.toNat:Int)) v48 H61)))) (
       F.f62_j1 E Q (ptr t 0) (vi (fr.toNat:Int)) (str s) (vi (to.toNat:Int)) (str other) (vi (n.toNat:Int)) v48 H42)))))):=by
  have tail:=fun Hx ex=>refT_move_tail (Q:=Q) hE h hs fr to n s other hc hn k1 k2 c2 k3 hold hnd hel i8 old (decide ((T.node n).kind=2#8)) Hx ex
  unfold Tr.may at hQ
  refine S.f52 hE other hsl ?_
  by_cases p1:okName other=false
  · simp [p1] at hQ
    simp only [p1,un_not_z,Bool.not_false,tk_eq,opt_some,ifB_true]
    exact hQ _ _ (h.same ex)
  have p1:okName other=true:=by simpa using p1
  simp only [p1,un_not_z,Bool.not_true,tk_eq,opt_some,ifB_false]
  refine S.f63 hE (h.mono ex) to fun b1 q1 y1 H3 e3 n3 _ =>?_
  obtain ⟨_,_,_,_,_,c5,_⟩:=n3.cell
  have ex3:=ex.trans e3
  by_cases p2:(T.node to).links=0
  · simp [p1,p2] at hQ
    simp only [nilCk_p,addOff_ptr,load1_ptr,c5,p2,i64_eql,decide_true,tk_eq,opt_some,ifB_true]
    exact hQ _ _ (h.same ex3)
  simp only [nilCk_p,addOff_ptr,load1_ptr,c5,p2,i64_eql,decide_false,tk_eq,opt_some,ifB_false]
  refine S.f63 hE (h.mono ex3) n fun b2 q2 y2 H4 e4 n4 _ =>?_
  obtain ⟨d0,_⟩:=n4.cell
  have ex4:=ex3.trans e4
  have hkn:=kind2 (T.node n).kind
  simp only [p1,p2,Bool.true_eq_false,if_false] at hQ
  by_cases d1:(T.node n).kind=2#8
  · obtain ⟨hdp1,hdp2⟩:=hdp d1 p2 k3
    simp only [nilCk_p,addOff_ptr,load1_ptr,Nat.add_zero,d0,i64_eql,hkn,eq_true d1,decide_true,gd_tt,tk_eq,opt_some]
    refine S.f65 hE (h.mono ex4) to n fun H5 e5 =>?_
    have ex5:=ex4.trans e5
    rw [hdp2]
    by_cases p3:T.within n to=true
    · simp only [d1,p3,and_self,if_true] at hQ
      simp only [p3,pick_true_z,tk_eq,opt_some,ifB_true]
      exact hQ _ _ (h.same ex5)
    have p3:T.within n to=false:=by simpa using p3
    simp only [p3,pick_true_z,tk_eq,opt_some,ifB_false,gd_tt]
    refine S.f67 hE (h.mono ex5) to fun H6 e6 =>?_
    have ex6:=ex5.trans e6
    rw [hdp1]
    simp only [gd_tt,tk_eq]
    refine S.f71 hE hs f (h.mono ex6) n (hf d1) hf20 fun H7 e7 =>?_
    have ex7:=ex6.trans e7
    have hdle:T.deep to<=17:=Tr.deepF_le T 17 to
    have htle:T.tall n<=20:=Tr.tallF_le T 20 n
    by_cases p4:16<T.deep to+T.tall n
    · have p4':(16:Int)<(T.deep to:Int)+(T.tall n:Int):=by omega
      simp only [d1,p3,p4,Bool.false_eq_true,and_false,and_self,if_true,if_false] at hQ
      simp only [gd_tt,i64_add (a:=(T.deep to:Int)) (b:=(T.tall n:Int)) (by omega) (by omega),i64_gtr,gt_iff_lt,p4',decide_true,pick_true_z,tk_eq,opt_some,ifB_true]
      exact hQ _ _ (h.same ex7)
    · have p4':¬ (16:Int)<(T.deep to:Int)+(T.tall n:Int):=by omega
      simp only [d1,p3,p4,Bool.false_eq_true,and_false,if_false] at hQ
      simp only [gd_tt,i64_add (a:=(T.deep to:Int)) (b:=(T.tall n:Int)) (by omega) (by omega),i64_gtr,gt_iff_lt,p4',decide_false,pick_true_z,tk_eq,opt_some,ifB_false]
      have:=tail H7 ex7 rfl ho hcase (by simpa only [d1] using hQ)
      simp only [eq_true d1,decide_true] at this
      exact this
  · simp only [d1,false_and,if_false] at hQ
    simp only [nilCk_p,addOff_ptr,load1_ptr,Nat.add_zero,d0,i64_eql,hkn,eq_false d1,decide_false,gd_ft,pick_false_z,tk_eq,opt_some,ifB_false]
    have:=tail H4 ex4 rfl ho hcase (by simpa only [d1] using hQ)
    simp only [eq_false d1,decide_false] at this
    exact this
theorem S.f62 (hE:Fold E) (h:RefT H t nv mv nx mr Y T) (hs:T.small) (fr to:BitVec 16) (s other:NameL) (hsl:other.length<2 ^ 63)
  (hc : -9223372036854775808<=T.change/\T.change<9223372036854775806)
  (hn:(T.look fr s).2=0->(T.node (T.look fr s).1).kind≠0#8)
  (hdp:(T.node (T.look fr s).1).kind=2#8->(T.node to).links≠0->(T.node to).kind=2#8->T.deepF 20 to=T.deep to/\T.withinF (T.look fr s).1 20 to=T.within (T.look fr s).1 to)
  {f:Nat} (hf:(T.look fr s).2=0->(T.node (T.look fr s).1).kind=2#8->T.fitsF f (T.look fr s).1) (hf20:f<=20)
  (hold:∀ y,(T.node to).kind=2#8->alook other (T.node to).ents=some y->(T.node y).kind≠0#8/\0<=(T.node y).links/\(T.node y).links<9223372036854775807)
  (hnd:(T.node to).kind=2#8->((T.node to).ents.map Prod.fst).Nodup) (hel:(T.node fr).ents.length<2 ^ 35/\(T.node to).ents.length<2 ^ 35)
  (hQ:∀ Y' H',UpdR t nv mv nx mr Y T nv Y' (T.move fr s to other).1 H H'->Q (vi (T.move fr s to other).2) H') :
  E.call (E.fid i.f62) [ptr t 0,vi (fr.toNat:Int),str s,vi (to.toNat:Int),str other] H Q:=by
 apply hE.f62
 simp only [F.f62]
 refine S.f60 hE h hs fr s fun H1 e1 =>?_
 unfold Tr.move at hQ
 by_cases c1:(T.look fr s).2=0
 rotate_left
 ·simp [c1] at hQ
  simp only [tk_eq,ext_tuple,List.getElem?_cons_zero,List.getElem?_cons_succ,c1,i64_neq,ne_eq,not_false_iff,decide_true,opt_some,ifB_true]
  exact hQ _ _ (h.same e1)
 obtain ⟨k1,k2⟩:=Tr.look_ok c1
 have hn:=hn c1
 have hf:=hf c1
 simp only [c1,ne_eq,not_true,if_false] at hQ
 simp only [tk_eq,ext_tuple,List.getElem?_cons_zero,List.getElem?_cons_succ,c1,i64_neq,ne_eq,not_true,decide_false,opt_some,ifB_false]
 generalize hnn:(T.look fr s).1=n at *
 refine S.f68 hE (h.mono e1) to fun H2 e2 =>?_
 have x2:=e1.trans e2
 by_cases c2:T.dir to=0
 rotate_left
 ·simp only [c2,ne_eq,not_false_eq_true,if_true] at hQ
  simp only [c2,i64_neq,ne_eq,not_false_iff,decide_true,tk_eq,opt_some,ifB_true]
  exact hQ _ _ (h.same x2)
 have k3:=Tr.dir_zero.1 c2
 have tolt:to.toNat<T.N.length:=node_kind_lt (by rw [k3]; decide)
 have frlt:fr.toNat<T.N.length:=node_kind_lt (by rw [k1]; decide)
 simp only [c2,ne_eq,not_true,if_false] at hQ
 simp only [c2,i64_neq,ne_eq,not_true,decide_false,tk_eq,opt_some,ifB_false]
 refine S.f63 hE (h.mono x2) to fun bt ot yt H3 e3 n3 hat3 =>?_
 have x3:=x2.trans e3
 obtain ⟨_,_,t2,_⟩:=n3.cell
 have tl:=n3.lenL
 refine S.f73 hE n3 other (by omega) ?_
 cases c3:alook other (T.node to).ents with
 | none =>
  rw [nameIx_none _ _ c3]
  have key:=fun Hx ex=>refT_move_key (Q:=Q) hE h hs fr to n s other hc hn k1 k2 c2 k3 hold hnd hel hsl hdp hf hf20 (-1) none Hx ex
  simp only [c3] at hQ
  simp only [i64_geq,ge_iff_le,show ¬ (0:Int) <= -1 from by omega,decide_false,gd_ft,pick_false_z,tk_eq,opt_some,ifB_false,i64_lss,show ((-1:Int)<0)=True from by simp,decide_true,gd_tt,i64_neq,ne_eq,num_eq,pick_true_z]
  by_cases c4:fr=to
  ·subst c4
   simp [c3] at hQ
   simp only [not_true,decide_false,gd_ft,pick_false_z,tk_eq,opt_some,ifB_false]
   exact key H3 x3 c3 (.inl ⟨rfl,rfl⟩) (by simpa using hQ)
  ·simp only [c4,not_false_iff,decide_true,gd_tt,tk_eq]
   refine S.f63 hE (h.mono x3) to fun b4 o4 y4 H4 e4 n4 _ =>?_
   obtain ⟨_,_,u2,_⟩:=n4.cell
   have ul:=n4.lenL
   have x4:=x3.trans e4
   by_cases c5:32<=(T.node to).ents.length
   ·have c5':(32:Int)<=(T.node to).ents.length:=by omega
    simp [c4,c5] at hQ
    simp only [c4,not_false_iff,not_false_eq_true,decide_true,gd_tt,nilCk_p,addOff_ptr,load1_ptr,u2,ul,i64_geq,ge_iff_le,c5',decide_true,pick_true_z,tk_eq,opt_some,ifB_true]
    exact hQ _ _ (h.same x4)
   ·have c5':¬ (32:Int)<=(T.node to).ents.length:=by omega
    simp [c4,c5] at hQ
    simp only [c4,not_false_iff,not_false_eq_true,decide_true,gd_tt,nilCk_p,addOff_ptr,load1_ptr,u2,ul,i64_geq,ge_iff_le,c5',decide_false,pick_true_z,tk_eq,opt_some,ifB_false]
    exact key H4 x4 c3 (.inl ⟨rfl,rfl⟩) (by simpa using hQ)
 | some o =>
  obtain ⟨j,hj,j1,j2,_⟩:=nameIx_some other _ o c3
  rw [j1]
  have hj0:(0:Int)<=j:=by omega
  have hj1:¬ (j:Int)<0:=by omega
  simp only [i64_geq,ge_iff_le,hj0,decide_true,gd_tt,tk_eq,opt_some]
  refine S.f63 hE (h.mono x3) to fun b4 o4 y4 H4 e4 n4 _ =>?_
  have x4:=x3.trans e4
  obtain ⟨_,_,u2,_⟩:=n4.cell
  obtain ⟨b',o',f1,f2⟩:=n4.2.2.ix (i:=j) (by rw [entR_length]; exact hj)
  have hrow:(entR (T.node to).ents)[j]'(by rw [entR_length]; exact hj)=[str other,vi (o.toNat:Int)]:=by simp [entR,j2]
  rw [hrow] at f2
  have f3:(H4.get b').cell (o'+1)=some (vi (o.toNat:Int)):=by have:=row_at f2 (j:=1) (by omega); simpa using this
  by_cases c4:o=n
  ·simp [c3,c4] at hQ
   simp only [gd_tt,nilCk_p,addOff_ptr,load1_ptr,u2,f1,f3,i64_eql,num_eq,eq_true c4,decide_true,pick_true_z,tk_eq,opt_some,ifB_true]
   exact hQ _ _ (h.same x4)
  ·simp [c3,c4] at hQ
   simp only [gd_tt,gd_ft,nilCk_p,addOff_ptr,load1_ptr,u2,f1,f3,i64_eql,i64_lss,hj1,num_eq,eq_false c4,decide_false,pick_true_z,pick_false_z,tk_eq,opt_some,ifB_false]
   exact refT_move_key (Q:=Q) hE h hs fr to n s other hc hn k1 k2 c2 k3 hold hnd hel hsl hdp hf hf20 j (some o) H4 x4 c3 (.inr ⟨j,hj,o,rfl,rfl,j2,c4⟩) (by simpa using hQ)
end
end Go.AM
end
section
namespace Go.AM
section
variable {E:Sy} {H0 H H' H'' H1:AH} {Q:Value->AH->Prop} {t:Nat} {nv nv' nv'' mv:Value} {nx:Int} {mr:List (List Value)} {Y Y' Y'':List RLy} {T T' T'':Tr}
def mntTop:List (List Value):=[MntI.cells ⟨0,1,PlaceI.zero,0⟩]
theorem S.f53 (hE:Fold E) (limit:Int) (hQ:∀ t nv mv Y H',Ext H H'->RefT H' t nv mv 1 mntTop Y (Tr.new limit)->(∀ b∈(refR t nv mv 1 mntTop Y (Tr.new limit)).fp,H.next<=b)->Q (ptr t 0) H'):E.call (E.fid i.f53) [vi limit] H Q:=by
 apply hE.f53
 have e1:(if (1:Int) > limit then 1 else limit)=max limit 1:=by omega
 have e2:∀ x:Int,(if (256:Int)<x then 256 else x)=min x 256:=fun x=>by omega
 have hb1:buildV [(0,1),(1,1),(2,1),(3,1),(4,1),(5,1),(6,1)] #[(.int .i64 0),(.slice none 0 0),(.slice none 0 0),(.int .i64 0),(.string ⟨#[]⟩),(.int .i64 0),(.int .i64 0)] []=some (NodeI.v NodeI.zero):=rfl
 have hb2:buildV [(0,1),(1,1),(2,1),(3,1),(4,1),(5,1),(6,1)] #[(.int .i64 0),(.slice none 0 0),(.slice none 0 0),(.int .i64 0),(.string ⟨#[]⟩),(.int .i64 0),(.int .i64 0)] [(0,(.int .i64 2)),(3,(.int .i64 1)),(5,(.int .i64 1))]=some (NodeI.v ⟨2,nilS,nilS,1,[],1,0⟩):=rfl
 have hb3:buildS 2 7 #[(.int .i64 0),(.slice none 0 0),(.slice none 0 0),(.int .i64 0),(.string ⟨#[]⟩),(.int .i64 0),(.int .i64 0)] [(0,NodeI.v NodeI.zero),(1,NodeI.v ⟨2,nilS,nilS,1,[],1,0⟩)]=some (.cells (NodeI.zero.cells++(⟨2,nilS,nilS,1,[],1,0⟩:NodeI).cells) none,mkSlc 2 2):=NodeI.buildS [NodeI.zero,⟨2,nilS,nilS,1,[],1,0⟩]
 have hb4:buildV [(0,1),(1,1),(2,2),(4,1)] #[(.int .i64 0),(.int .i64 0),(.int .i64 0),(.int .i64 0),(.int .i64 0)] [(1,(.int .i64 1))]=some (MntI.v ⟨0,1,PlaceI.zero,0⟩):=rfl
 have hb5:buildS 1 5 #[(.int .i64 0),(.int .i64 0),(.int .i64 0),(.int .i64 0),(.int .i64 0)] [(0,MntI.v ⟨0,1,PlaceI.zero,0⟩)]=some (.cells (MntI.cells ⟨0,1,PlaceI.zero,0⟩) none,mkSlc 1 1):=MntI.build1 _
 generalize hlim:min (max limit 1) 256=lim
 have hb6:∀ a b,buildV [(0,1),(1,1),(2,1),(3,1),(4,1)] #[(.slice none 0 0),(.int .i64 0),(.slice none 0 0),(.int .i64 0),(.int .i64 0)] [(0,slc a 0 2 2),(1,vi lim),(2,slc b 0 1 1),(3,(.int .i64 1))]=some (TreeI.v ⟨slc a 0 2 2,lim,slc b 0 1 1,1,0⟩):=fun _ _=>rfl
 have hmm:(fold2 max2 [vi limit,(.int .i64 1)])=some (vi (max limit 1)):=by simp [e1]
 have hmn:(fold2 min2 [vi (max limit 1),(.int .i64 256)])=some (vi lim):=by simp [e2,hlim]
 have hbx:∀ x:TreeI,boxO (TreeI.v x)=some (.cells x.cells none,fun b=>ptr b 0):=fun x=>rfl
 simp only [F.f53,hb1,hb2,hb3,hb4,hb5,hmm,hmn,AM.mk_some,mkSlc_eq,hb6,hbx,tk_eq,opt_some]
 have hT:Tr.new limit=⟨[Nd.none,{ Nd.none with kind:=2#8,parent:=1#16,links:=1 }],lim,0⟩:=by unfold Tr.new; rw [hlim]
 rw [hT] at hQ
 refine hQ (H.next+2) (slc H.next 0 2 2) (slc (H.next+1) 0 1 1) [⟨nilS,nilS⟩,⟨nilS,nilS⟩] _ ((((Ext.refl H).new _).new _).new _) ⟨⟨?_,?_,?_⟩,rfl,by simp⟩ ?_
 ·intro r hr
  simp only [refRs,List.zip,List.zipWith,List.map_cons,List.map_nil,List.mem_cons,List.not_mem_nil,or_false] at hr
  have g0:((((H.new (.cells (NodeI.zero.cells++(⟨2,nilS,nilS,1,[],1,0⟩:NodeI).cells) none)).new (.cells (MntI.cells ⟨0,1,PlaceI.zero,0⟩) none)).new (.cells (TreeI.cells ⟨slc H.next 0 2 2,lim,slc (H.next+1) 0 1 1,1,0⟩) none))).get H.next = .cells (NodeI.zero.cells++(⟨2,nilS,nilS,1,[],1,0⟩:NodeI).cells) none:=by
   rw [AH.get_new_ne _ _ (by simp; omega),AH.get_new_ne _ _ (by simp),AH.get_new_self]
  have g1:((((H.new (.cells (NodeI.zero.cells++(⟨2,nilS,nilS,1,[],1,0⟩:NodeI).cells) none)).new (.cells (MntI.cells ⟨0,1,PlaceI.zero,0⟩) none)).new (.cells (TreeI.cells ⟨slc H.next 0 2 2,lim,slc (H.next+1) 0 1 1,1,0⟩) none))).get (H.next+1) = .cells (MntI.cells ⟨0,1,PlaceI.zero,0⟩) none:=by
   rw [AH.get_new_ne _ _ (by simp)]
   exact AH.get_new_self _ _
  have g2:((((H.new (.cells (NodeI.zero.cells++(⟨2,nilS,nilS,1,[],1,0⟩:NodeI).cells) none)).new (.cells (MntI.cells ⟨0,1,PlaceI.zero,0⟩) none)).new (.cells (TreeI.cells ⟨slc H.next 0 2 2,lim,slc (H.next+1) 0 1 1,1,0⟩) none))).get (H.next+2) = .cells (TreeI.cells ⟨slc H.next 0 2 2,lim,slc (H.next+1) 0 1 1,1,0⟩) none:=AH.get_new_self _ _
  rcases hr with rfl | rfl | rfl | rfl | rfl
  ·exact g2
  ·exact Grow.made (f:=none) (zH_get _) (g0.trans rfl) (.inl rfl) rfl (by
    intro r hr
    simp only [nodeRows,List.zip,List.zipWith,List.map_cons,List.map_nil,List.mem_cons,List.not_mem_nil,or_false] at hr
    rcases hr with rfl | rfl <;> exact ⟨rfl,rfl⟩)
  ·exact Grow.made (f:=none) (zH_get _) (g1.trans rfl) (.inl rfl) rfl (by
    intro r hr
    simp only [mntTop,List.mem_cons,List.not_mem_nil,or_false] at hr
    subst hr
    exact ⟨rfl,rfl⟩)
  ·intro r hr
   simp only [List.mem_cons,List.not_mem_nil,or_false] at hr
   rcases hr with rfl | rfl
   ·exact Grow.nil _ _ _
   ·exact Grow.nil _ _ _
  ·intro r hr
   simp only [List.mem_cons,List.not_mem_nil,or_false] at hr
   rcases hr with rfl | rfl
   ·exact Grow.nil _ _ _
   ·exact Grow.nil _ _ _
 ·intro b hb
  simp [refR,joinR,refRs,boxR,growR,nodeRR,blkL,blk] at hb ⊢
  omega
 ·simp [refR,joinR,refRs,boxR,growR,nodeRR,blkL,blk]
 ·intro b hb
  simp [refR,joinR,refRs,boxR,growR,nodeRR,blkL,blk] at hb
  omega
end
end Go.AM
end
section
namespace Go.AM
theorem Grow.cut {Z H:AH} {sz:Nat} {v:Value} {rows:List (List Value)} (h:Grow Z H sz v rows) {k:Nat} (hk:k<=rows.length) :
  ∃ v',slSlc sz v none (some (vi k)) none H=some v'/\Grow Z H sz v' (rows.take k)/\blk v'=blk v:=by
 have hs:=(h.toRows.slice' (lo:=none) (hi:=some (vi k)) (i:=0) (j:=k) (.inr ⟨rfl,rfl⟩) (.inl rfl) (Nat.zero_le _) hk).1
 refine ⟨_,hs,?_⟩
 rcases h.2 with ⟨rfl,rfl⟩ | ⟨b,f,c,cs,g1,rfl,g3,g4,g5,g6,g7⟩
 ·have:k=0:=by simpa using hk
  subst this
  exact ⟨⟨by simp,.inl ⟨by simp,rfl⟩⟩,rfl⟩
 ·have e:sliceV sz (slc b 0 rows.length c) 0 k=slc b 0 k c:=by
   simp [sliceV,Addr.add]
  rw [e]
  refine ⟨⟨fun r hr=>h.1 r (List.mem_of_mem_take hr),.inr ⟨b,f,c,cs,g1,by rw [List.length_take,Nat.min_eq_left hk],g3,by rw [List.length_take]; omega,g5,?_,g7⟩⟩,rfl⟩
  rw [List.length_take,Nat.min_eq_left hk,<- flatten_take rows (fun r hr=>(h.1 r hr).1),<- g6,List.take_take,Nat.min_eq_left (Nat.mul_le_mul_right _ hk)]
theorem byteR_set (l:List (BitVec 8)) (i:Nat) (x:BitVec 8):byteR (l.set i x)=(byteR l).set i [u8 x]:=by simp [byteR,List.map_set]
theorem byteR_append (a b:List (BitVec 8)):byteR (a++b)=byteR a++byteR b:=by simp [byteR]
theorem byteR_take (a:List (BitVec 8)) (k:Nat):byteR (a.take k)=(byteR a).take k:=by simp [byteR,List.map_take]
section
variable {E:Sy} {H0 H H' H'' H1:AH} {Q:Value->AH->Prop} {t:Nat} {nv nv' nv'' mv:Value} {nx:Int} {mr:List (List Value)} {Y Y' Y'':List RLy} {T T' T'':Tr}
theorem RefT.newD (h:RefT H t nv mv nx mr Y T) {n:BitVec 16} (hn:n.toNat<T.N.length) {y:RLy} (hy:Y[n.toNat]? = some y) {b o:Nat} (hp:ixSlc 7 nv (vi (n.toNat:Int))=some (ptr b o)) (f:Nd->Nd)
  (hf:∀ x:Nd,(f x).ents=x.ents) {v':Value} (e:Ext H H1) (g:Grow zH H1 1 v' (byteR (f (T.node n)).data)) (fr:FreshV H.next v') (hc:(refI (f (T.node n)) { y with data:=v' }).cells=(refI (T.node n) y).cells.set 1 v') :
  ∃ H',store1 (ptr b (o+1)) v' H1=some H'/\UpdR t nv mv nx mr Y T nv (Y.set n.toNat { y with data:=v' }) (T.upd n f) H H' :=
 h.cell hn hy hp f _ (nodeRR.setD (h.node_y hn hy) (hf _) e g fr) (by omega) g.plain hc
theorem zero_more {H0 H:AH} {v:Value} {l:List (BitVec 8)} (g:Grow zH H 1 v (byteR l)) (e:Ext H0 H) (f:FreshV H0.next v) (hl:l.length<2 ^ 40) :
  ∃ v' H',AM.app 1 1 v (slc H.next 0 1 1) (H.new (.cells [u8 0#8] none))=some (v',H')/\Grow zH H' 1 v' (byteR (l++[0#8]))/\Ext H0 H'/\FreshV H0.next v':=by
 obtain ⟨v',H',a1,a2,a3⟩:=g.app1 (Nat.zero_le _) (bytes:=1) [u8 0#8] rfl rfl (by decide) (by decide) (by rw [byteR_length]; omega)
 obtain ⟨q1,q2⟩:=grew_ext a3 e f
 refine ⟨v',H',a1,?_,q1,q2⟩
 rw [byteR_append]; exact a2
theorem S.f56 (hE:Fold E) (h:RefT H t nv mv nx mr Y T) (n:BitVec 16) (size:Int) (hc : -9223372036854775808<=T.change/\T.change<9223372036854775807) (hdl:(T.node n).data.length<2 ^ 39)
  (hQ:∀ Y' H',UpdR t nv mv nx mr Y T nv Y' (T.cut n size).1 H H'->Q (vi (T.cut n size).2) H'):E.call (E.fid i.f56) [ptr t 0,vi (n.toNat:Int),vi size] H Q:=by
 apply hE.f56
 simp only [F.f56]
 refine S.f63 hE h n fun b o y H1 e1 hn hat =>?_
 obtain ⟨c0,c1,_⟩:=hn.cell
 have k1:=kind1 (T.node n).kind
 have k2:=kind2 (T.node n).kind
 have k0:=kind0 (T.node n).kind
 unfold Tr.cut at hQ
 by_cases g0:(T.node n).kind=0#8
 ·simp [g0] at hQ
  simp only [nilCk_p,addOff_ptr,load1_ptr,Nat.add_zero,c0,i64_eql,k0,eq_true g0,decide_true,tk_eq,opt_some,ifB_true]
  exact hQ _ _ (h.same e1)
 have hlt:=node_kind_lt g0
 obtain ⟨rfl,hy,hp⟩:=hat hlt
 by_cases g2:(T.node n).kind=2#8
 ·simp [g2] at hQ
  simp only [nilCk_p,addOff_ptr,load1_ptr,Nat.add_zero,c0,i64_eql,k0,k2,eq_false g0,eq_true g2,decide_true,decide_false,tk_eq,opt_some,ifB_true,ifB_false]
  exact hQ _ _ (h.same e1)
 by_cases g1:(T.node n).kind=1#8
 rotate_left
 ·simp [g0,g2,g1] at hQ
  simp only [nilCk_p,addOff_ptr,load1_ptr,Nat.add_zero,c0,i64_eql,i64_neq,ne_eq,k0,k1,k2,eq_false g0,eq_false g2,eq_false g1,not_false_eq_true,decide_true,decide_false,gd_tf,pick_true_z,tk_eq,opt_some,ifB_true,ifB_false]
  exact hQ _ _ (h.same e1)
 by_cases g3:size<0
 ·simp [g0,g2,g1,g3] at hQ
  simp only [nilCk_p,addOff_ptr,load1_ptr,Nat.add_zero,c0,i64_eql,i64_neq,ne_eq,k0,k1,k2,eq_false g0,eq_false g2,eq_true g1,not_true,i64_lss,g3,decide_true,decide_false,gd_ff,pick_true_z,pick_false_z,tk_eq,opt_some,ifB_true,ifB_false]
  exact hQ _ _ (h.same e1)
 by_cases g4:1024<size
 ·simp [g0,g2,g1,g3,g4] at hQ
  simp only [nilCk_p,addOff_ptr,load1_ptr,Nat.add_zero,c0,i64_eql,i64_neq,i64_gtr,gt_iff_lt,ne_eq,k0,k1,k2,eq_false g0,eq_false g2,eq_true g1,not_true,i64_lss,g3,g4,decide_true,decide_false,gd_ff,pick_true_z,pick_false_z,tk_eq,opt_some,ifB_true,ifB_false]
  exact hQ _ _ (h.same e1)
 simp [g0,g2,g1,g3,g4] at hQ
 have hb0:buildS 0 1 #[(.int .u8 0)] []=some (.cells [] none,mkSlc 0 0):=buildS0 1 [u8 0#8] rfl
 have e9:Ext H1 (H1.new (.cells [] none)):=(Ext.refl H1).new _
 have gr9:Grow zH (H1.new (.cells [] none)) 1 (slc H1.next 0 0 0) []:=Grow.room (zH_get _) (AH.get_new_self _ _) rfl
 have c1':((H1.new (.cells [] none)).get b).cell (o+1)=some y.data:=by
  rw [AH.get_new_lt _ _ (AH.lt_of_get (row_notdead hn.1))]
  exact c1
 simp only [nilCk_p,addOff_ptr,load1_ptr,Nat.add_zero,c0,i64_eql,i64_neq,i64_gtr,gt_iff_lt,ne_eq,k0,k1,k2,eq_false g0,eq_false g2,eq_true g1,not_true,i64_lss,g3,g4,decide_false,gd_ff,pick_true_z,pick_false_z,hb0,AM.mk_some,mkSlc_eq,c1',tk_eq,opt_some,ifB_false]
 obtain ⟨v18,H11,a1,a2,a3⟩:=gr9.app (bytes:=1) (Nat.zero_le _) (hn.2.1.mono e9) (byteR_plain _) (by decide) (by decide) (by simp [byteR_length]; omega) (by simp [byteR_length]; omega)
 obtain ⟨e11,f11⟩:=grew_ext a3 e9 (fun b hb=>by simp [blk] at hb; omega)
 have a1':app 1 1 (slc H1.next 0 0 0) y.data (H1.new (.cells [] none))=some (v18,H11):=a1
 simp only [a1',opt2_some,tk_eq]
 obtain ⟨sz,rfl⟩:∃ sz:Nat,size=sz:=⟨size.toNat,by omega⟩
 rw [List.nil_append] at a2
 have hb1:buildS 1 1 #[(.int .u8 0)] [(0,(.int .u8 0))]=some (.cells [u8 0#8] none,mkSlc 1 1):=buildS_one 1 [u8 0#8] [u8 0#8] rfl rfl
 generalize hD:(T.node n).data=D at *
 refine LoopL.ind (fun j ls H'=>∃ v,∃ k:Nat,ls=[ptr t 0,vi sz,ptr b o,v]/\Ext H1 H'/\FreshV H1.next v/\Grow zH H' 1 v (byteR (D++List.replicate k 0#8))/\(k=0\/D.length+k<=sz)/\j=sz - (D.length+k)) ?_ (sz - D.length) ⟨v18,0,rfl,e11,f11,by simpa using a2,.inl rfl,by omega⟩
 rintro j _ H3 X hX ⟨v,k,rfl,e3,f3,g5,hk,rfl⟩
 have hlv:=g5.toRows.lenSlc
 rw [byteR_length,List.length_append,List.length_replicate] at hlv
 by_cases hlt2:D.length+k<sz
 ·have hlt2':((D.length+k:Nat):Int)<(sz:Int):=by omega
  obtain ⟨v',H4,b1,b2,b3,b4⟩:=zero_more g5 e3 f3 (by simp; omega)
  simp only [F.f56_l1,nth_0,nth_1,nth_2,nth_3,hlv,i64_lss,hlt2',decide_true,hb1,AM.mk_some,mkSlc_eq,b1,opt2_some,tk_eq,opt_some,ifB_true]
  refine hX (sz - (D.length+(k+1))) (by omega) _ _ ⟨v',k+1,rfl,b3,b4,?_,.inr (by omega),rfl⟩
  rw [List.replicate_succ',<- List.append_assoc]
  exact b2
 ·have hlt2':¬ ((D.length+k:Nat):Int)<(sz:Int):=by omega
  obtain ⟨v',s1,s2,s3⟩:=g5.cut (k:=sz) (by rw [byteR_length,List.length_append,List.length_replicate]; omega)
  have hcut:byteR ((fun x:Nd=>{ x with data:=cutL x.data sz }) (T.node n)).data=(byteR (D++List.replicate k 0#8)).take sz:=by
   rw [<- byteR_take]
   show byteR (cutL (T.node n).data sz)=_
   rw [hD]
   congr 1
   unfold cutL
   rw [List.take_append]
   congr 1
   rw [List.take_replicate]
   congr 1
   rcases hk with rfl | hk <;> omega
  obtain ⟨H4,s4,u4⟩:=h.newD (v':=v') hlt hy hp (fun x=>{ x with data:=cutL x.data sz }) (fun _=>rfl) e3 (by rw [hcut]; exact s2) (fun b hb=>f3 b (by rw [<- s3]; exact hb)) rfl
  have h4:=u4.ref h
  have hh4:=h4.head
  obtain ⟨H5,s5,u5⟩:=h4.tick
  have hcc:(T.upd n (fun x=>{ x with data:=cutL x.data sz })).change=T.change:=rfl
  rw [hcc] at s5 hh4
  simp only [F.f56_l1,nth_0,nth_1,nth_2,nth_3,hlv,i64_lss,hlt2',decide_false,s1,nilCk_p,addOff_ptr,s4,load1_ptr,hh4,cell_cells_z,Nat.zero_add,TreeI.at4,i64_add (a:=T.change) (b:=1) (by omega) (by omega),s5,tk_eq,opt_some,ifB_false]
  exact hQ _ _ (u4.trans u5)
end
end Go.AM
end
section
namespace Go.AM
theorem spliceB_step (e b:List (BitVec 8)) (i j:Nat) (hj:j<b.length) (hi:i+j<e.length):(spliceB e i (b.take j)).set (i+j) b[j]=spliceB e i (b.take (j+1)):=by
 unfold spliceB
 have h1:(e.take i).length=i:=by rw [List.length_take]; omega
 have h2:(b.take j).length=j:=by rw [List.length_take]; omega
 have h3:(b.take (j+1)).length=j+1:=by rw [List.length_take]; omega
 rw [h2,h3,List.set_append_right _ _ (by rw [List.length_append,h1,h2]; omega),List.length_append,h1,h2,Nat.sub_self]
 rw [List.drop_eq_getElem_cons hi,List.set_cons_zero]
 simp [Nat.add_assoc]
 rw [List.take_succ_eq_append_getElem hj]
 simp only [List.append_assoc,List.singleton_append]
theorem spliceB_length (e b:List (BitVec 8)) (i:Nat) (h:i+b.length<=e.length):(spliceB e i b).length=e.length:=by
 simp [spliceB]; omega
section
variable {E:Sy} {H0 H H' H'' H1:AH} {Q:Value->AH->Prop} {t:Nat} {nv nv' nv'' mv:Value} {nx:Int} {mr:List (List Value)} {Y Y' Y'':List RLy} {T T' T'':Tr}
theorem refT_write2 (h:RefT H1 t nv mv nx mr Y T) (n:BitVec 16) (hlt:n.toNat<T.N.length) {y:RLy} {b o:Nat} (hy:Y[n.toNat]? = some y) (hp:ixSlc 7 nv (vi (n.toNat:Int))=some (ptr b o)) (at_:Nat) (xv:Value) (x:List (BitVec 8)) (hx:Rows H1 1 xv (byteR x)) (hc : -9223372036854775808<=T.change/\T.change<9223372036854775807)
  (hat:at_<=1024/\at_+x.length<=1024) (e:List (BitVec 8)) (he:at_+x.length<=e.length) (hw:writeL (T.node n).data at_ x=spliceB e at_ x) (v:Value) (H3:AH) (e3:Ext H1 H3) (f3:FreshV H1.next v) (g3:Grow zH H3 1 v (byteR e))
  (hQ:∀ Y' H',UpdR t nv mv nx mr Y T nv Y' ((T.upd n (fun z=>{ z with data:=writeL z.data at_ x })).bump) H1 H'->Q (vi 0) H') :
  LoopL (fun l H X0=>F.f66_l2 E Q (nth l 0) (nth l 1) (nth l 2) (nth l 3) (nth l 4) (nth l 5) H X0) [ptr t 0,vi at_,xv,ptr b o,v,(.int .i64 0)] H3:=by
 refine LoopL.count x.length (fun j ls H'=>ls=[ptr t 0,vi at_,xv,ptr b o,v,vi j]/\Ext H1 H'/\Grow zH H' 1 v (byteR (spliceB e at_ (x.take j)))) ?_ ⟨rfl,e3,by simpa [spliceB] using g3⟩
 rintro j _ H4 X hj hX ⟨rfl,e4,g4⟩
 have hxl:=(hx.mono e4).lenSlc
 rw [byteR_length] at hxl
 by_cases hjl:j<x.length
 ·have hjl':(j:Int)<x.length:=by omega
  obtain ⟨b1,o1,p1,p2⟩:=(hx.mono e4).ix (i:=j) (by rw [byteR_length]; exact hjl)
  have hrow:(byteR x)[j]'(by rw [byteR_length]; exact hjl)=[u8 x[j]]:=by simp [byteR]
  rw [hrow] at p2
  have p3:(H4.get b1).cell o1=some (u8 x[j]):=by have:=row_at p2 (j:=0) (by omega); simpa using this
  have hls:(spliceB e at_ (x.take j)).length=e.length:=spliceB_length _ _ _ (by rw [List.length_take]; omega)
  have hi:at_+j<(byteR (spliceB e at_ (x.take j))).length:=by rw [byteR_length,hls]; omega
  obtain ⟨b2,o2,H5,q1,q2,q3,q4,q5⟩:=g4.store (i:=at_+j) (k:=0) hi (by omega) (u8 x[j]) rfl
  have hadd:binInt .add (vi at_) (vi j)=some (vi ((at_+j:Nat):Int)):=by rw [i64_add (by omega) (by omega)]; simp
  have hjj:=i64_succ j (by omega)
  have hset:(byteR (spliceB e at_ (x.take j))).set (at_+j) ((byteR (spliceB e at_ (x.take j)))[at_+j].set 0 (u8 x[j]))=byteR (spliceB e at_ (x.take (j+1))):=by
   rw [<- spliceB_step e x at_ j hjl (by omega),byteR_set]
   congr 1
   simp [byteR]
  rw [hset] at q4
  rw [Nat.add_zero] at q3
  have q3':store1 (ptr b2 o2) (u8 x[j]) H4=some H5:=q3
  generalize hj1:j+1=j1 at *
  simp only [F.f66_l2,nth_0,nth_1,nth_2,nth_3,nth_4,nth_5,hxl,i64_lss,hjl',decide_true,hadd,p1,load1_ptr,p3,q1,q3',hjj,tk_eq,opt_some,ifB_true]
  refine hX hjl _ _ ⟨rfl,q5.ext e4 fun b hb=>f3 b (mem_blkL.1 hb),q4⟩
 ·have hjl':¬ (j:Int)<x.length:=by omega
  have hje:j=x.length:=by omega
  have hD:byteR ((fun z:Nd=>{ z with data:=writeL z.data at_ x }) (T.node n)).data=byteR (spliceB e at_ (x.take j)):=by
   show byteR (writeL (T.node n).data at_ x)=_
   rw [hw,hje,List.take_length]
  obtain ⟨H5,s5,u5⟩:=h.newD (v':=v) hlt hy hp (fun z=>{ z with data:=writeL z.data at_ x }) (fun _=>rfl) e4 (by rw [hD]; exact g4) f3 rfl
  have h5:=u5.ref h
  have hh5:=h5.head
  obtain ⟨H6,s6,u6⟩:=h5.tick
  have hcc:(T.upd n (fun z=>{ z with data:=writeL z.data at_ x })).change=T.change:=rfl
  rw [hcc] at s6 hh5
  simp only [F.f66_l2,nth_0,nth_1,nth_2,nth_3,nth_4,nth_5,hxl,i64_lss,hjl',decide_false,nilCk_p,addOff_ptr,s5,load1_ptr,hh5,cell_cells_z,Nat.zero_add,TreeI.at4,i64_add (a:=T.change) (b:=1) (by omega) (by omega),s6,tk_eq,opt_some,ifB_false]
  exact hQ _ _ (u5.trans u6)
theorem S.f66 (hE:Fold E) (h:RefT H t nv mv nx mr Y T) (n:BitVec 16) (at_:Int) (xv:Value) (x:List (BitVec 8)) (hx:Rows H 1 xv (byteR x)) (hxl:x.length<2 ^ 62) (hc : -9223372036854775808<=T.change/\T.change<9223372036854775807) (hdl:(T.node n).data.length<2 ^ 39)
  (hQ:∀ Y' H',UpdR t nv mv nx mr Y T nv Y' (T.write n at_ x).1 H H'->Q (vi (T.write n at_ x).2) H'):E.call (E.fid i.f66) [ptr t 0,vi (n.toNat:Int),vi at_,xv] H Q:=by
 apply hE.f66
 simp only [F.f66]
 refine S.f63 hE h n fun b o y H1 e1 hn hat =>?_
 obtain ⟨c0,c1,_⟩:=hn.cell
 have k1:=kind1 (T.node n).kind
 have k2:=kind2 (T.node n).kind
 have k0:=kind0 (T.node n).kind
 unfold Tr.write at hQ
 by_cases g0:(T.node n).kind=0#8
 ·simp [g0] at hQ
  simp only [nilCk_p,addOff_ptr,load1_ptr,Nat.add_zero,c0,i64_eql,k0,eq_true g0,decide_true,tk_eq,opt_some,ifB_true]
  exact hQ _ _ (h.same e1)
 have hlt:=node_kind_lt g0
 obtain ⟨rfl,hy,hp⟩:=hat hlt
 by_cases g2:(T.node n).kind=2#8
 ·simp [g2] at hQ
  simp only [nilCk_p,addOff_ptr,load1_ptr,Nat.add_zero,c0,i64_eql,k0,k2,eq_false g0,eq_true g2,decide_true,decide_false,tk_eq,opt_some,ifB_true,ifB_false]
  exact hQ _ _ (h.same e1)
 by_cases g1:(T.node n).kind=1#8
 rotate_left
 ·simp [g0,g2,g1] at hQ
  simp only [nilCk_p,addOff_ptr,load1_ptr,Nat.add_zero,c0,i64_eql,i64_neq,ne_eq,k0,k1,k2,eq_false g0,eq_false g2,eq_false g1,not_false_eq_true,decide_true,decide_false,gd_tf,pick_true_z,tk_eq,opt_some,ifB_true,ifB_false]
  exact hQ _ _ (h.same e1)
 by_cases g3:at_<0
 ·simp [g0,g2,g1,g3] at hQ
  simp only [nilCk_p,addOff_ptr,load1_ptr,Nat.add_zero,c0,i64_eql,i64_neq,ne_eq,k0,k1,k2,eq_false g0,eq_false g2,eq_true g1,not_true,i64_lss,g3,decide_true,decide_false,gd_ff,pick_true_z,pick_false_z,tk_eq,opt_some,ifB_true,ifB_false]
  exact hQ _ _ (h.same e1)
 by_cases g4:1024<at_
 ·simp [g0,g2,g1,g3,g4] at hQ
  simp only [nilCk_p,addOff_ptr,load1_ptr,Nat.add_zero,c0,i64_eql,i64_neq,i64_gtr,gt_iff_lt,ne_eq,k0,k1,k2,eq_false g0,eq_false g2,eq_true g1,not_true,i64_lss,g3,g4,decide_true,decide_false,gd_tf,gd_ff,pick_true_z,pick_false_z,tk_eq,opt_some,ifB_true,ifB_false]
  exact hQ _ _ (h.same e1)
 have hxs:=hx.lenSlc
 rw [byteR_length] at hxs
 have hadd:binInt .add (vi at_) (vi x.length)=some (vi (at_+x.length)):=i64_add (by omega) (by omega)
 by_cases g5:1024<at_+(x.length:Int)
 ·simp [g0,g2,g1,g3,g4,g5] at hQ
  simp only [nilCk_p,addOff_ptr,load1_ptr,Nat.add_zero,c0,i64_eql,i64_neq,i64_gtr,gt_iff_lt,ne_eq,k0,k1,k2,eq_false g0,eq_false g2,eq_true g1,not_true,i64_lss,g3,g4,hxs,hadd,g5,decide_true,decide_false,gd_ff,pick_true_z,pick_false_z,tk_eq,opt_some,ifB_true,ifB_false]
  exact hQ _ _ (h.same e1)
 simp [g0,g2,g1,g3,g4,g5] at hQ
 have hb0:buildS 0 1 #[(.int .u8 0)] []=some (.cells [] none,mkSlc 0 0):=buildS0 1 [u8 0#8] rfl
 have e9:Ext H1 (H1.new (.cells [] none)):=(Ext.refl H1).new _
 have gr9:Grow zH (H1.new (.cells [] none)) 1 (slc H1.next 0 0 0) []:=Grow.room (zH_get _) (AH.get_new_self _ _) rfl
 have c1':((H1.new (.cells [] none)).get b).cell (o+1)=some y.data:=by
  rw [AH.get_new_lt _ _ (AH.lt_of_get (row_notdead hn.1))]
  exact c1
 simp only [nilCk_p,addOff_ptr,load1_ptr,Nat.add_zero,c0,i64_eql,i64_neq,i64_gtr,gt_iff_lt,ne_eq,k0,k1,k2,eq_false g0,eq_false g2,eq_true g1,not_true,i64_lss,g3,g4,hxs,hadd,g5,decide_false,gd_ff,pick_true_z,pick_false_z,hb0,AM.mk_some,mkSlc_eq,c1',tk_eq,opt_some,ifB_false]
 obtain ⟨v18,H11,a1,a2,a3⟩:=gr9.app (bytes:=1) (Nat.zero_le _) (hn.2.1.mono e9) (byteR_plain _) (by decide) (by decide) (by simp [byteR_length]; omega) (by simp [byteR_length]; omega)
 obtain ⟨e11,f11⟩:=grew_ext a3 e9 (fun b hb=>by simp [blk] at hb; omega)
 have a1':app 1 1 (slc H1.next 0 0 0) y.data (H1.new (.cells [] none))=some (v18,H11):=a1
 simp only [a1',opt2_some,tk_eq]
 obtain ⟨sz,rfl⟩:∃ sz:Nat,at_=sz:=⟨at_.toNat,by omega⟩
 rw [List.nil_append] at a2
 have hb1:buildS 1 1 #[(.int .u8 0)] [(0,(.int .u8 0))]=some (.cells [u8 0#8] none,mkSlc 1 1):=buildS_one 1 [u8 0#8] [u8 0#8] rfl rfl
 have hw:=@refT_write2 E H1 Q t nv mv nx mr Y T h n hlt y b o hy hp sz xv x hx hc (by omega)
 generalize hD:(T.node n).data=D at *
 refine LoopL.ind (fun j ls H'=>∃ v,∃ k:Nat,ls=[ptr t 0,vi sz,xv,ptr b o,v]/\Ext H1 H'/\FreshV H1.next v/\Grow zH H' 1 v (byteR (D++List.replicate k 0#8))/\(k=0\/D.length+k<=sz+x.length)/\j=sz+x.length - (D.length+k)) ?_ (sz+x.length - D.length) ⟨v18,0,rfl,e11,f11,by simpa using a2,.inl rfl,by omega⟩
 rintro j _ H3 X hX ⟨v,k,rfl,e3,f3,g6,hk,rfl⟩
 have hlv:=g6.toRows.lenSlc
 rw [byteR_length,List.length_append,List.length_replicate] at hlv
 have hxs3:=(hx.mono e3).lenSlc
 rw [byteR_length] at hxs3
 by_cases hlt2:D.length+k<sz+x.length
 ·have hlt2':((D.length+k:Nat):Int)<(sz:Int)+x.length:=by omega
  obtain ⟨v',H4,b1,b2,b3,b4⟩:=zero_more g6 e3 f3 (by simp; omega)
  simp only [F.f66_l1,nth_0,nth_1,nth_2,nth_3,nth_4,hlv,hxs,hadd,i64_lss,hlt2',decide_true,hb1,AM.mk_some,mkSlc_eq,b1,opt2_some,tk_eq,opt_some,ifB_true]
  refine hX (sz+x.length - (D.length+(k+1))) (by omega) _ _ ⟨v',k+1,rfl,b3,b4,?_,.inr (by omega),rfl⟩
  rw [List.replicate_succ',<- List.append_assoc]
  exact b2
 ·have hlt2':¬ ((D.length+k:Nat):Int)<(sz:Int)+x.length:=by omega
  have hk':k=sz+x.length - D.length:=by rcases hk with rfl | hk <;> omega
  have:=hw (D++List.replicate k 0#8) (by simp; omega) (by unfold writeL spliceB; rw [hk']) v H3 e3 f3 g6 hQ
  simp only [F.f66_l1,nth_0,nth_1,nth_2,nth_3,nth_4,hlv,hxs,hadd,i64_lss,hlt2',decide_false,tk_eq,opt_some,ifB_false]
  exact this
end
end Go.AM
end
section
namespace Go.AM
open Go.Sort
section
variable {E:Sy} {H H':AH} {Q:Value->AH->Prop}
theorem bitsLen_shift (x k:Nat) (h:2 ^ k<=x):bitsLen x=bitsLen (x / 2 ^ k)+k:=by
 have hp:=Nat.two_pow_pos k
 apply Nat.le_antisymm
 ·rw [bitsLen_le_iff,Nat.pow_add]
  have:=lt_two_pow_bitsLen (x / 2 ^ k)
  rw [Nat.div_lt_iff_lt_mul hp] at this
  exact this
 ·have h1:k<=bitsLen x:=by
   apply Classical.byContradiction
   intro hc
   have:bitsLen x<=k:=by omega
   rw [bitsLen_le_iff] at this
   omega
  have:bitsLen (x / 2 ^ k)<=bitsLen x - k:=by
   rw [bitsLen_le_iff,Nat.div_lt_iff_lt_mul hp,<- Nat.pow_add,Nat.sub_add_cancel h1]
   exact lt_two_pow_bitsLen x
  omega
def len8tab:List UInt8:=(List.range 256).map fun n=>UInt8.ofNat (bitsLen n)
theorem len8tab_at:∀ n<256,len8tab[n]? = some (UInt8.ofNat (bitsLen n)):=by decide +kernel
theorem bitsLen_le8:∀ n<256,bitsLen n<=8:=by decide +kernel
theorem len8_ix (x:BitVec 8):ixStr (str len8tab) (u8 x)=some (u8 (BitVec.ofNat 8 (bitsLen x.toNat))):=by
 rw [ixStr_u8]
 have hx:=x.isLt
 have hl:len8tab.length=256:=by decide +kernel
 have hlt:x.toNat<len8tab.length:=by omega
 rw [ixStr_s len8tab x.toNat hlt]
 have:=len8tab_at x.toNat (by omega)
 rw [List.getElem?_eq_getElem hlt] at this
 simp only [Option.some.injEq] at this
 rw [this]
 rfl
theorem len_tail (l:List UInt8) (hl:l=len8tab) (x:BitVec 64) (hx:x.toNat<256) (k:Nat) (hk:k<1000) (hQ:Q (vi ((bitsLen x.toNat+k:Nat):Int)) H) :
  (opt (convInt .u8 (u64 x)) fun v1=>opt (ixStr (.string ⟨l.toArray⟩) v1) fun v2=>opt (convInt .i64 v2) fun v3=>opt (binInt .add (vi k) v3) fun v4=>Q v4 H):=by
 subst hl
 have e1:(x.setWidth 8).toNat=x.toNat:=by rw [BitVec.toNat_setWidth,Nat.mod_eq_of_lt (by omega)]
 have e2:=bitsLen_le8 x.toNat hx
 simp only [u64_to_u8,tk_eq,opt_some]
 rw [show (Value.string ⟨len8tab.toArray⟩)=str len8tab from rfl,len8_ix,e1]
 simp only [opt_some,u8_to_i64,tk_eq,BitVec.toNat_ofNat]
 rw [Nat.mod_eq_of_lt (by omega),i64_add_nat _ _ (by omega),opt_some,Nat.add_comm]
 exact hQ
set_option maxRecDepth 100000
theorem S.f30 (hE:Fold E) (x:BitVec 64) (hx:x.toNat<2 ^ 32) (hQ:Q (vi (bitsLen x.toNat:Nat)) H):E.call (E.fid i.f30) [u64 x] H Q:=by
 apply hE.f30
 simp only [F.f30,ifB_false]
 apply hE.f32
 have c0:¬ 4294967296<=x.toNat:=by omega
 have t3:∀ (y:BitVec 64) (k:Nat),y.toNat<256->k<1000->bitsLen x.toNat=bitsLen y.toNat+k->F.f32_j3 E Q (u64 y) (vi k) H:=by
  intro y k hy hk e
  unfold F.f32_j3
  refine len_tail _ ?_ y hy k hk ?_
  ·decide +kernel
  ·rw [<- e]; exact hQ
 have t2:∀ (y:BitVec 64) (k:Nat),y.toNat<65536->k<900->bitsLen x.toNat=bitsLen y.toNat+k->F.f32_j2 E Q (u64 y) (vi k) H:=by
  intro y k hy hk e
  by_cases h:256<=y.toNat
  ·have h8:(y >>> 8).toNat=y.toNat / 256:=by rw [BitVec.toNat_ushiftRight,Nat.shiftRight_eq_div_pow]
   have hs:=bitsLen_shift y.toNat 8 (by omega)
   rw [show (2:Nat) ^ 8=256 from rfl] at hs
   have hk8:binInt .add (vi k) (.int .i64 8)=some (vi ((k+8:Nat):Int)):=i64_add_nat k 8 (by omega)
   simp only [F.f32_j2,u64_lit 256 (by decide),u64_geq,tk_eq,opt_some]
   simp [h,hk8]
   have:=t3 (y >>> 8) (k+8) (by omega) (by omega) (by rw [e,hs,h8]; omega)
   simpa using this
  ·simp only [F.f32_j2,u64_lit 256 (by decide),u64_geq,tk_eq,opt_some]
   simp [h]
   exact t3 y k (by omega) (by omega) e
 by_cases h:65536<=x.toNat
 ·have h8:(x >>> 16).toNat=x.toNat / 65536:=by rw [BitVec.toNat_ushiftRight,Nat.shiftRight_eq_div_pow]
  have hs:=bitsLen_shift x.toNat 16 (by omega)
  rw [show (2:Nat) ^ 16=65536 from rfl] at hs
  have hk8:binInt .add (.int .i64 0) (.int .i64 16)=some (vi ((16:Nat):Int)):=i64_add_nat 0 16 (by omega)
  simp [F.f32,F.f32_j1,c0,h,hk8]
  exact t2 (x >>> 16) 16 (by omega) (by omega) (by rw [hs,h8])
 ·simp [F.f32,F.f32_j1,c0,h]
  exact t2 x 0 (by omega) (by omega) rfl
theorem S.f84 (hE:Fold E) (x:Nat) (hx:x<2 ^ 32) (hQ:Q (u64 (BitVec.ofNat 64 (2 ^ bitsLen x))) H):E.call (E.fid i.f84) [vi x] H Q:=by
 apply hE.f84
 have e1:(BitVec.ofNat 64 x).toNat=x:=by rw [BitVec.toNat_ofNat,Nat.mod_eq_of_lt (by omega)]
 have hc:convInt .u64 (vi x)=some (u64 (BitVec.ofNat 64 x)):=by
  rw [i64_to_u64,BitVec.ofInt_natCast]
 simp only [F.f84,hc,tk_eq,opt_some]
 refine S.f30 hE _ (by rw [e1]; exact hx) ?_
 rw [e1]
 have:=u64_shl 1#64 .i64 (bitsLen x)
 have l1:(.int .u64 1:Value)=u64 1#64:=rfl
 have e2:(1#64 <<< bitsLen x)=BitVec.ofNat 64 (2 ^ bitsLen x):=by
  apply BitVec.eq_of_toNat_eq
  rw [BitVec.toNat_shiftLeft,Nat.shiftLeft_eq]
  simp
 rw [l1,this,opt_some,e2]
 exact hQ
theorem S.f92 (hE:Fold E) (r:Nat) (x:BitVec 64) (hr:H.get r = .cells [u64 x] none) (hQ:∀ y,Q (u64 y) (H.put r (.cells [u64 y] none))):E.call (E.fid i.f92) [ptr r 0] H Q:=by
 apply hE.f92
 have hlt:=AH.lt_cells hr
 have l1:(.int .u64 13:Value)=u64 13#64:=rfl
 have l2:(.int .u64 7:Value)=u64 7#64:=rfl
 have l3:(.int .u64 17:Value)=u64 17#64:=rfl
 simp [F.f92,hr,l1,l2,l3,AH.get_put,hlt]
 exact hQ _
end
end Go.AM
end
section
namespace Go.AM
open Go.Sort
section
variable {E:Sy} {H H':AH} {Q:Value->AH->Prop} {b c n:Nat} {d:Array (List UInt8)} {tail:List Value} {f:Option Nat}
theorem enc_string_plain:∀ x:List UInt8,plain1 (str x)=true:=fun _=>rfl
theorem S.f0 (hE:Fold E) (x y:List UInt8) (hQ:Q (vb (Op.bytesLess x y)) H):E.call (E.fid i.f0) [str x,str y] H Q:=by
 apply hE.f0
 simp only [F.f0]
 apply hE.f1
 simp [F.f1]
 exact hQ
theorem S.f81 (hE:Fold E) (hg:H.get b=arrO str d tail f) (hn:d.size=n) (hsz:n<2 ^ 60) (a e:Nat) (hae:a<=e) (he:e<=n)
  (hQ:∀ H',SortTo H b str tail f (insertionSort Op.bytesLess d a e) H'->Q (.tuple #[]) H'):E.call (E.fid i.f81) [slc b 0 n c,vi a,vi e] H Q:=by
 apply hE.f81
 simp only [F.f81,tk_eq]
 rw [i64_succ a (by omega),opt_some]
 unfold insertionSort at hQ
 obtain ⟨R,hR⟩:∃ R,R=insOuter Op.bytesLess a e (a+1) d:=⟨_,rfl⟩
 rw [<- hR] at hQ
 refine LoopL.ind (fun m l H'=>∃ (j:Nat) (d':Array (List UInt8)),l=[slc b 0 n c,vi a,vi e,vi j]/\SortTo H b str tail f d' H'/\d'.size=n/\R=insOuter Op.bytesLess a e j d'/\a<j/\m=e - j) ?_ (e - (a+1)) ⟨a+1,d,rfl,.refl hg,hn,hR,by omega,rfl⟩
 rintro m _ H1 X hX ⟨j,d1,rfl,s1,n1,r1,haj,rfl⟩
 unfold insOuter at r1
 by_cases hj:j<e
 ·rw [if_pos hj] at r1
  have hj':(j:Int)<e:=by omega
  simp [F.f81_l1,hj']
  refine LoopL.ind (fun m l H2=>∃ (k:Nat) (d2:Array (List UInt8)),l=[slc b 0 n c,vi a,vi e,vi j,vi k]/\SortTo H b str tail f d2 H2/\d2.size=n/\insInner Op.bytesLess a j d1=insInner Op.bytesLess a k d2/\k<=j/\m=k) ?_ j ⟨j,d1,rfl,s1,n1,rfl,Nat.le_refl _,rfl⟩
  rintro m _ H2 X1 hX1 ⟨k,d2,rfl,s2,n2,r2,hkj,rfl⟩
  have done:insInner Op.bytesLess a m d2=d2->∀ l,l=[slc b 0 n c,vi a,vi e,vi ((j+1:Nat):Int)]->X l H2:=by
   rintro e2 l rfl
   rw [e2] at r2
   rw [r2] at r1
   exact hX (e - (j+1)) (by omega) _ _ ⟨j+1,d2,rfl,s2,n2,r1,by omega,rfl⟩
  by_cases hka:a<m
  ·obtain ⟨k,rfl⟩:∃ k,m=k+1:=⟨m - 1,by omega⟩
   have hka':(a:Int)<((k+1:Nat):Int):=by omega
   have f1:=arr_ix (b:=b) (c:=c) (n:=n) (i:=k+1) (by omega)
   have f2:=arr_ix (b:=b) (c:=c) (n:=n) (i:=k) (by omega)
   have g1:=arr_load s2.get (i:=k+1) (by omega)
   have g2:=arr_load s2.get (i:=k) (by omega)
   have hd:binInt .sub (vi ((k+1:Nat):Int)) (.int .i64 1)=some (vi (k:Int)):=i64_dec (k+1) (by omega) (by omega)
   obtain ⟨w1,w2⟩:=arr_swap enc_string_plain s2.get (i:=k+1) (j:=k) (by omega) (by omega)
   have hjj:=i64_succ j (by omega)
   simp only [insInner,hka,decide_true,Bool.true_and] at r2 done
   generalize hk1:k+1=k1 at *
   simp [-store1_ptr,-load1_ptr,F.f81_l2,hka',f1,f2,g1,g2,hd]
   refine S.f0 hE _ _ ?_
   by_cases hl:Op.bytesLess d2[k1]! d2[k]! = true
   ·simp only [hl,if_true] at r2
    simp [-store1_ptr,-load1_ptr,hl,f1,f2,g1,g2,hd,w1,w2]
    exact hX1 k (by omega) _ _ ⟨k,_,rfl,s2.put _,by rw [size_swp]; exact n2,r2,by omega,rfl⟩
   ·simp only [hl,if_false] at done
    simp [-store1_ptr,-load1_ptr,hl,hjj]
    exact done rfl _ rfl
  ·have hka':¬ (a:Int)<(m:Int):=by omega
   have hjj:=i64_succ j (by omega)
   simp [-store1_ptr,-load1_ptr,F.f81_l2,hka',hjj]
   refine done ?_ _ rfl
   cases m with
   | zero=>rfl
   | succ k=>simp [insInner,hka]
 ·rw [if_neg hj] at r1
  subst r1
  have hj':¬ (j:Int)<e:=by omega
  simp [F.f81_l1,hj']
  exact hQ _ s1
theorem S.f91 (hE:Fold E) (hg:H.get b=arrO str d tail f) (hn:d.size=n) (hsz:n<2 ^ 60) (lo hi first:Nat) (hlo:lo<=n) (hf:first+hi<=n)
  (hQ:∀ H',SortTo H b str tail f (siftDown Op.bytesLess hi first lo d) H'->Q (.tuple #[]) H'):E.call (E.fid i.f91) [slc b 0 n c,vi lo,vi hi,vi first] H Q:=by
 apply hE.f91
 simp only [F.f91,tk_eq]
 obtain ⟨R,hR⟩:∃ R,R=siftDown Op.bytesLess hi first lo d:=⟨_,rfl⟩
 rw [<- hR] at hQ
 refine LoopL.ind (fun m l H'=>∃ (r:Nat) (d':Array (List UInt8)),l=[slc b 0 n c,vi hi,vi first,vi r]/\SortTo H b str tail f d' H'/\d'.size=n/\R=siftDown Op.bytesLess hi first r d'/\r<=n/\m=hi - r) ?_ (hi - lo) ⟨lo,d,rfl,.refl hg,hn,hR,hlo,rfl⟩
 rintro m _ H1 X hX ⟨r,d1,rfl,s1,n1,r1,hr,rfl⟩
 have a1:=i64_dbl r (by omega)
 have a2:=i64_succ (2*r) (by omega)
 have a3:=i64_succ (2*r+1) (by omega)
 have step:∀ ch:Nat,r<ch->ch<hi->R=(if !Op.bytesLess d1[first+r]! d1[first+ch]! then d1 else siftDown Op.bytesLess hi first ch (swp d1 (first+r) (first+ch)))->F.f91_j1 E Q X (slc b 0 n c) (vi hi) (vi first) (vi r) (vi ch) H1:=by
  intro ch h1 h2 hR'
  have b1:=i64_add_nat first r (by omega)
  have b2:=i64_add_nat first ch (by omega)
  have f1:=arr_ix (b:=b) (c:=c) (n:=n) (i:=first+r) (by omega)
  have f2:=arr_ix (b:=b) (c:=c) (n:=n) (i:=first+ch) (by omega)
  have g1:=arr_load s1.get (i:=first+r) (by omega)
  have g2:=arr_load s1.get (i:=first+ch) (by omega)
  obtain ⟨w1,w2⟩:=arr_swap enc_string_plain s1.get (i:=first+r) (j:=first+ch) (by omega) (by omega)
  generalize hp:first+r=p at *
  generalize hq:first+ch=q at *
  simp [-store1_ptr,-load1_ptr,F.f91_j1,b1,b2,f1,f2,g1,g2]
  refine S.f0 hE _ _ ?_
  by_cases hl:Op.bytesLess d1[p]! d1[q]! = true
  ·simp only [hl,Bool.not_true,Bool.false_eq_true,if_false] at hR'
   simp [-store1_ptr,-load1_ptr,hl,b1,b2,f1,f2,g1,g2,w1,w2]
   exact hX (hi - ch) (by omega) _ _ ⟨ch,_,rfl,s1.put _,by rw [size_swp]; exact n1,hR',by omega,rfl⟩
  ·have hl:Op.bytesLess d1[p]! d1[q]! = false:=by simpa using hl
   simp only [hl,Bool.not_false,if_true] at hR'
   subst hR'
   simp [-store1_ptr,-load1_ptr,hl]
   exact hQ _ s1
 rw [siftDown] at r1
 by_cases c1:2*r+1>=hi
 ·rw [dif_pos c1] at r1
  subst r1
  have c1':(hi:Int)<=((2*r+1:Nat):Int):=by omega
  generalize 2*r+1=ch at *
  generalize 2*r=rr at *
  simp [F.f91_l1,a1,a2,c1']
  exact hQ _ s1
 rw [dif_neg c1] at r1
 have c1':¬ (hi:Int)<=((2*r+1:Nat):Int):=by omega
 have b1:=i64_add_nat first (2*r+1) (by omega)
 have b2:=i64_succ (first+(2*r+1)) (by omega)
 by_cases c2:2*r+1+1<hi
 ·have c2':((2*r+1+1:Nat):Int)<hi:=by omega
  have f1:=arr_ix (b:=b) (c:=c) (n:=n) (i:=first+(2*r+1)) (by omega)
  have f2:=arr_ix (b:=b) (c:=c) (n:=n) (i:=first+(2*r+1)+1) (by omega)
  have g1:=arr_load s1.get (i:=first+(2*r+1)) (by omega)
  have g2:=arr_load s1.get (i:=first+(2*r+1)+1) (by omega)
  have st1:=step (2*r+1) (by omega) (by omega)
  have st2:=step (2*r+1+1) (by omega) c2
  rw [dif_pos (by omega:2*r+2<hi)] at r1
  simp only [c2,decide_true,Bool.true_and] at r1
  rw [show 2*r+2=2*r+1+1 by omega] at r1
  generalize hq2:first+(2*r+1)+1=q2 at *
  generalize hq:first+(2*r+1)=q at *
  generalize hc2:2*r+1+1=ch2 at *
  generalize hc1:2*r+1=ch at *
  generalize 2*r=rr at *
  simp [-store1_ptr,-load1_ptr,F.f91_l1,a1,a2,a3,c1',c2',b1,b2,f1,f2,g1,g2]
  refine S.f0 hE _ _ ?_
  by_cases hl:Op.bytesLess d1[q]! d1[q2]! = true
  ·simp only [hl,if_true] at r1
   simp [hl,a3]
   exact st2 r1
  ·simp only [hl,if_false] at r1
   simp [hl]
   exact st1 r1
 ·have c2':¬ ((2*r+1+1:Nat):Int)<hi:=by omega
  have st1:=step (2*r+1) (by omega) (by omega)
  simp only [c2,decide_false,Bool.false_and,Bool.false_eq_true,if_false] at r1
  generalize hc2:2*r+1+1=ch2 at *
  generalize hc1:2*r+1=ch at *
  generalize 2*r=rr at *
  simp [-store1_ptr,-load1_ptr,F.f91_l1,a1,a2,a3,c1',c2']
  exact st1 r1
theorem size_siftDown_string (hi first r:Nat) (d:Array (List UInt8)):(siftDown Op.bytesLess hi first r d).size=d.size:=by
 obtain ⟨m,hm⟩:∃ m,hi - r<=m:=⟨_,Nat.le_refl _⟩
 induction m generalizing r d with
 | zero =>
  rw [siftDown,dif_pos (by omega)]
 | succ m ih =>
  rw [siftDown]
  split
  ·rfl
  ·split
   ·split
    ·rfl
    ·split
     ·rw [ih _ _ (by omega),size_swp]
     ·rfl
   ·split
    ·rfl
    ·rw [ih _ _ (by omega),size_swp]
theorem S.f80 (hE:Fold E) (hg:H.get b=arrO str d tail f) (hn:d.size=n) (hsz:n<2 ^ 60) (a e:Nat) (hae:a<e) (he:e<=n)
  (hQ:∀ H',SortTo H b str tail f (heapSort Op.bytesLess d a e) H'->Q (.tuple #[]) H'):E.call (E.fid i.f80) [slc b 0 n c,vi a,vi e] H Q:=by
 apply hE.f80
 have a1:=i64_sub_nat e a (by omega) (by omega)
 have a2:=i64_dec (e - a) (by omega) (by omega)
 have a3:=i64_quo_num (e - a - 1) 2 (by decide) (by omega)
 unfold heapSort at hQ
 have a1':binInt .sub (vi e) (vi a)=some (vi ((e - a:Nat):Int)):=a1
 generalize hw:e - a=w at *
 have a3':binInt .quo (vi ((w - 1:Nat):Int)) (.int .i64 2)=some (vi (((w - 1) / 2:Nat):Int)):=a3
 generalize hw1:w - 1=w1 at *
 generalize hh:w1 / 2=h2 at *
 have hh2:h2<=w1:=by rw [<- hh]; exact Nat.div_le_self _ _
 simp only [F.f80,a1',a2,a3',tk_eq,opt_some]
 obtain ⟨R,hR⟩:∃ R,R=heapPop Op.bytesLess a w (heapBuild Op.bytesLess w a (h2+1) d):=⟨_,rfl⟩
 rw [<- hR] at hQ
 refine LoopL.ind (fun m l H'=>∃ (k:Nat) (d':Array (List UInt8)),l=[slc b 0 n c,vi a,vi 0,vi w,vi ((k:Int) - 1)]/\SortTo H b str tail f d' H'/\d'.size=n/\R=heapPop Op.bytesLess a w (heapBuild Op.bytesLess w a k d')/\k<=w/\m=k) ?_ (h2+1) ⟨h2+1,d,by simp,.refl hg,hn,hR,by omega,rfl⟩
 rintro m _ H1 X hX ⟨k,d1,rfl,s1,n1,r1,hk,rfl⟩
 cases m with
 | succ k =>
  have e1:((k+1:Nat):Int) - 1=(k:Int):=by omega
  have hd:binInt .sub (vi k) (.int .i64 1)=some (vi ((k:Int) - 1)):=i64_sub (by omega) (by omega)
  rw [e1]
  simp [F.f80_l1]
  refine S.f91 hE s1.get n1 hsz k w a (by omega) (by omega) fun H2 s2 =>?_
  simp only [hd,tk_eq,opt_some]
  exact hX k (by omega) _ _ ⟨k,_,rfl,s1.trans s2,by rw [size_siftDown_string]; exact n1,by rw [r1]; rfl,by omega,rfl⟩
 | zero =>
  have hd:binInt .sub (vi w) (.int .i64 1)=some (vi ((w:Int) - 1)):=i64_sub (by omega) (by omega)
  simp [F.f80_l1,hd]
  clear hX
  refine LoopL.ind (fun m l H'=>∃ (k:Nat) (d':Array (List UInt8)),l=[slc b 0 n c,vi a,vi 0,vi ((k:Int) - 1)]/\SortTo H b str tail f d' H'/\d'.size=n/\R=heapPop Op.bytesLess a k d'/\k<=w/\m=k) ?_ w ⟨w,d1,rfl,s1,n1,r1,Nat.le_refl _,rfl⟩
  rintro m _ H2 X hX ⟨k,d2,rfl,s2,n2,r2,hk,rfl⟩
  cases m with
  | succ k =>
   have e1:((k+1:Nat):Int) - 1=(k:Int):=by omega
   have hd:binInt .sub (vi k) (.int .i64 1)=some (vi ((k:Int) - 1)):=i64_sub (by omega) (by omega)
   have b1:=i64_add_nat a k (by omega)
   have f1:=arr_ix (b:=b) (c:=c) (n:=n) (i:=a) (by omega)
   have f2:=arr_ix (b:=b) (c:=c) (n:=n) (i:=a+k) (by omega)
   have g1:=arr_load s2.get (i:=a) (by omega)
   have g2:=arr_load s2.get (i:=a+k) (by omega)
   obtain ⟨w1,w2⟩:=arr_swap enc_string_plain s2.get (i:=a) (j:=a+k) (by omega) (by omega)
   rw [e1]
   rw [heapPop] at r2
   generalize hq:a+k=q at *
   simp [-store1_ptr,-load1_ptr,F.f80_l2,b1,f1,f2,g1,g2,w1,w2]
   have s3:=s2.put (swp d2 a q)
   refine S.f91 hE s3.get (by rw [size_swp]; exact n2) hsz 0 k a (by omega) (by omega) fun H3 s4 =>?_
   simp only [hd,tk_eq,opt_some]
   exact hX k (by omega) _ _ ⟨k,_,rfl,s3.trans s4,by rw [size_siftDown_string,size_swp]; exact n2,r2,by omega,rfl⟩
  | zero =>
   simp [F.f80_l2]
   rw [heapPop] at r2
   subst r2
   exact hQ _ s2
theorem S.f90 (hE:Fold E) (hg:H.get b=arrO str d tail f) (hn:d.size=n) (hsz:n<2 ^ 60) (a e:Nat) (hae:a<e) (he:e<=n)
  (hQ:∀ H',SortTo H b str tail f (reverseRange d a e) H'->Q (.tuple #[]) H'):E.call (E.fid i.f90) [slc b 0 n c,vi a,vi e] H Q:=by
 apply hE.f90
 have a1:=i64_dec e (by omega) (by omega)
 unfold reverseRange at hQ
 simp only [F.f90,a1,tk_eq,opt_some]
 obtain ⟨R,hR⟩:∃ R,R=reverseLoop a (e - 1) d:=⟨_,rfl⟩
 rw [<- hR] at hQ
 refine LoopL.ind (fun m l H'=>∃ (p q:Nat) (d':Array (List UInt8)),l=[slc b 0 n c,vi p,vi q]/\SortTo H b str tail f d' H'/\d'.size=n/\R=reverseLoop p q d'/\p<=n/\q<n/\m=q - p) ?_ (e - 1 - a) ⟨a,e - 1,d,rfl,.refl hg,hn,hR,by omega,by omega,rfl⟩
 rintro m _ H1 X hX ⟨p,q,d1,rfl,s1,n1,r1,hp,hq,rfl⟩
 rw [reverseLoop] at r1
 by_cases h:p<q
 ·rw [if_pos h] at r1
  have h':(p:Int)<q:=by omega
  have f1:=arr_ix (b:=b) (c:=c) (n:=n) (i:=p) (by omega)
  have f2:=arr_ix (b:=b) (c:=c) (n:=n) (i:=q) (by omega)
  have g1:=arr_load s1.get (i:=p) (by omega)
  have g2:=arr_load s1.get (i:=q) (by omega)
  obtain ⟨w1,w2⟩:=arr_swap enc_string_plain s1.get (i:=p) (j:=q) (by omega) (by omega)
  have b1:=i64_succ p (by omega)
  have b2:=i64_dec q (by omega) (by omega)
  simp [-store1_ptr,-load1_ptr,F.f90_l1,h',f1,f2,g1,g2,w1,w2,b1,b2]
  exact hX (q - 1 - (p+1)) (by omega) _ _ ⟨p+1,q - 1,_,rfl,s1.put _,by rw [size_swp]; exact n1,r1,by omega,by omega,rfl⟩
 ·rw [if_neg h] at r1
  subst r1
  have h':¬ (p:Int)<q:=by omega
  simp [F.f90_l1,h']
  exact hQ _ s1
theorem S.f88 (hE:Fold E) (hg:H.get b=arrO str d tail f) (hn:d.size=n) (hsz:n<2 ^ 60) (a e pivot:Nat) (h1:a<=pivot) (h2:pivot<e) (he:e<=n)
  (hQ:∀ H',SortTo H b str tail f (partition Op.bytesLess d a e pivot).2.2 H'->Q (.tuple #[vi (partition Op.bytesLess d a e pivot).1,vb (partition Op.bytesLess d a e pivot).2.1]) H'):E.call (E.fid i.f88) [slc b 0 n c,vi a,vi e,vi pivot] H Q:=by
 apply hE.f88
 have f1:=arr_ix (b:=b) (c:=c) (n:=n) (i:=a) (by omega)
 have f2:=arr_ix (b:=b) (c:=c) (n:=n) (i:=pivot) (by omega)
 have g1:=arr_load hg (i:=a) (by omega)
 have g2:=arr_load hg (i:=pivot) (by omega)
 obtain ⟨w1,w2⟩:=arr_swap enc_string_plain hg (i:=a) (j:=pivot) (by omega) (by omega)
 have b1:=i64_succ a (by omega)
 have b2:=i64_dec e (by omega) (by omega)
 simp only [F.f88,f1,f2,g1,g2,w1,w2,b1,b2,tk_eq,opt_some]
 have s0:=(SortTo.refl hg).put (swp d a pivot)
 have n0:(swp d a pivot).size=n:=by rw [size_swp]; exact hn
 unfold partition at hQ
 generalize hd0:swp d a pivot=d0 at *
 generalize hH0:H.put b (arrO str d0 tail f)=H0 at *
 simp only at hQ
 obtain ⟨I,hI⟩:∃ I,I=scanUp (fun x=>Op.bytesLess x d0[a]!) d0 (e - 1) (a+1):=⟨_,rfl⟩
 rw [<- hI] at hQ
 obtain ⟨J,hJ⟩:∃ J,J=scanDown (fun x => !Op.bytesLess x d0[a]!) d0 I (e - 1):=⟨_,rfl⟩
 rw [<- hJ] at hQ
 have hIl:=sUp_le (fun x=>Op.bytesLess x d0[a]!) d0 (e - 1) _ (a+1) (Nat.le_refl _)
 rw [<- hI] at hIl
 have hJl:=sDown_le (fun x => !Op.bytesLess x d0[a]!) d0 I (e - 1)
 rw [<- hJ] at hJl
 refine LoopL.ind (fun m l H'=>H0=H'/\∃ p:Nat,l=[slc b 0 n c,vi a,vi p,vi ((e - 1:Nat):Int)]/\I=scanUp (fun x=>Op.bytesLess x d0[a]!) d0 (e - 1) p/\a+1<=p/\p<=e/\m=e - p) ?_ (e - (a+1)) ⟨rfl,a+1,rfl,hI,Nat.le_refl _,by omega,rfl⟩
 rintro m _ _ X hX ⟨rfl,p,rfl,r1,hp1,hp2,rfl⟩
 rw [scanUp] at r1
 have exit1:I=p->LoopL (fun l H X0=>F.f88_l2 E Q (nth l 0) (nth l 1) (nth l 2) (nth l 3) H X0) [slc b 0 n c,vi a,vi p,vi ((e - 1:Nat):Int)] H0:=by
  rintro rfl
  clear hX r1
  refine LoopL.ind (fun m l H'=>H0=H'/\∃ q:Nat,l=[slc b 0 n c,vi a,vi I,vi q]/\J=scanDown (fun x => !Op.bytesLess x d0[a]!) d0 I q/\q<=e - 1/\I<=q+1/\m=q) ?_ (e - 1) ⟨rfl,e - 1,rfl,hJ,Nat.le_refl _,by omega,rfl⟩
  rintro m _ _ X hX ⟨rfl,q,rfl,r1,hq1,hq2,rfl⟩
  have exit2:J=m->F.f88_l2 E Q (slc b 0 n c) (vi a) (vi I) (vi m) H0 X:=by
   rintro rfl
   clear hX
   have f1:=arr_ix (b:=b) (c:=c) (n:=n) (i:=a) (by omega)
   have f2:=arr_ix (b:=b) (c:=c) (n:=n) (i:=J) (by omega)
   have g1:=arr_load s0.get (i:=a) (by omega)
   have g2:=arr_load s0.get (i:=J) (by omega)
   obtain ⟨w1,w2⟩:=arr_swap enc_string_plain s0.get (i:=J) (j:=a) (by omega) (by omega)
   by_cases hij:I<=J
   ·have hij':(I:Int)<=J:=by omega
    have hij'':¬ (J:Int)<I:=by omega
    have hnl:Op.bytesLess d0[J]! d0[a]! = true:=by
     cases J with
     | zero=>omega
     | succ q =>
      rw [scanDown] at r1
      split at r1
      ·have:=sDown_le (fun x => !Op.bytesLess x d0[a]!) d0 I q
       omega
      ·rename_i hc
       simp at hc
       exact hc (by omega)
    have f3:=arr_ix (b:=b) (c:=c) (n:=n) (i:=I) (by omega)
    have g3:=arr_load s0.get (i:=I) (by omega)
    obtain ⟨w3,w4⟩:=arr_swap enc_string_plain s0.get (i:=I) (j:=J) (by omega) (by omega)
    have b3:=i64_succ I (by omega)
    have b4:=i64_dec J (by omega) (by omega)
    simp [-store1_ptr,-load1_ptr,F.f88_l2,hij',f1,f2,g1,g2]
    refine S.f0 hE _ _ ?_
    simp [-store1_ptr,-load1_ptr,hnl,hij'',f1,f2,f3,g1,g2,g3,w3,w4,b3,b4]
    rw [if_neg (by omega)] at hQ
    have s1:=s0.put (swp d0 I J)
    have n1:(swp d0 I J).size=n:=by rw [size_swp]; exact n0
    generalize hd1:swp d0 I J=d1 at *
    simp only at hQ
    obtain ⟨R,hR⟩:∃ R,R=partLoop Op.bytesLess a (I+1) (J - 1) d1:=⟨_,rfl⟩
    rw [<- hR] at hQ
    refine LoopL.ind (fun m l H'=>∃ (p q:Nat) (d2:Array (List UInt8)),l=[slc b 0 n c,vi a,vi p,vi q]/\SortTo H b str tail f d2 H'/\d2.size=n/\R=partLoop Op.bytesLess a p q d2/\a+1<=p/\p<=q+1+1/\p<=e/\q<=e - 1/\a<=q/\m=q+1 - p) ?_ (J - 1+1 - (I+1)) ⟨I+1,J - 1,d1,rfl,s1,n1,hR,by omega,by omega,by omega,by omega,by omega,rfl⟩
    clear hR s1 n1 hd1 w1 w2 w3 w4
    rintro m _ H2 X3 hX3 ⟨p,q,d2,rfl,s2,n2,r2,hp1,hp2,hpe,hq1,hqa,rfl⟩
    rw [partLoop] at r2
    simp only [F.f88_l3,nth_0,nth_1,nth_2,nth_3]
    obtain ⟨I2,hI2⟩:∃ I,I=scanUp (fun x=>Op.bytesLess x d2[a]!) d2 q p:=⟨_,rfl⟩
    obtain ⟨J2,hJ2⟩:∃ J,J=scanDown (fun x => !Op.bytesLess x d2[a]!) d2 I2 q:=⟨_,rfl⟩
    rw [<- hI2] at r2
    try simp only at r2
    rw [<- hJ2] at r2
    have hIl2:=sUp_le (fun x=>Op.bytesLess x d2[a]!) d2 q _ p (Nat.le_refl _)
    rw [<- hI2] at hIl2
    have hJl2:=sDown_le (fun x => !Op.bytesLess x d2[a]!) d2 I2 q
    rw [<- hJ2] at hJl2
    have hI2e:I2<=q+1\/(I2=p/\q+1<p):=by
     by_cases h:p<=q+1
     ·exact .inl (hIl2.2 h)
     ·refine .inr ⟨?_,by omega⟩
      rw [hI2,scanUp,if_neg (by simp; omega)]
    have hJ2e:I2<=q+1\/J2=q:=by
     rcases hI2e with h | ⟨h,h'⟩
     ·exact .inl h
     ·right
      rw [hJ2]
      cases q with
      | zero=>rfl
      | succ q=>rw [scanDown,if_neg (by simp; omega)]
    refine LoopL.ind (fun m l H'=>H2=H'/\∃ p':Nat,l=[slc b 0 n c,vi a,vi p',vi q]/\I2=scanUp (fun x=>Op.bytesLess x d2[a]!) d2 q p'/\p<=p'/\p'<=e/\m=q+1 - p') ?_ (q+1 - p) ⟨rfl,p,rfl,hI2,Nat.le_refl _,by omega,rfl⟩
    rintro m _ _ X4 hX4 ⟨rfl,p',rfl,r4,hp3,hp4,rfl⟩
    rw [scanUp] at r4
    have exit4:I2=p'->LoopL (fun l H X1=>F.f88_l5 E Q X3 (nth l 0) (nth l 1) (nth l 2) (nth l 3) H X1) [slc b 0 n c,vi a,vi p',vi q] H2:=by
     rintro rfl
     clear hX4 r4
     refine LoopL.ind (fun m l H'=>H2=H'/\∃ q':Nat,l=[slc b 0 n c,vi a,vi I2,vi q']/\J2=scanDown (fun x => !Op.bytesLess x d2[a]!) d2 I2 q'/\q'<=q/\m=q') ?_ q ⟨rfl,q,rfl,hJ2,Nat.le_refl _,rfl⟩
     rintro m _ _ X5 hX5 ⟨rfl,q',rfl,r5,hq3,rfl⟩
     have exit5:J2=m->F.f88_l5 E Q X3 (slc b 0 n c) (vi a) (vi I2) (vi m) H2 X5:=by
      rintro rfl
      clear hX5
      have f2:=arr_ix (b:=b) (c:=c) (n:=n) (i:=J2) (by omega)
      have g1:=arr_load s2.get (i:=a) (by omega)
      have g2:=arr_load s2.get (i:=J2) (by omega)
      by_cases hij:I2<=J2
      ·have hij':(I2:Int)<=J2:=by omega
       have hij'':¬ (J2:Int)<I2:=by omega
       have hnl:Op.bytesLess d2[J2]! d2[a]! = true:=by
        cases J2 with
        | zero=>omega
        | succ q' =>
         rw [scanDown] at r5
         split at r5
         ·have:=sDown_le (fun x => !Op.bytesLess x d2[a]!) d2 I2 q'
          omega
         ·rename_i hc
          simp at hc
          exact hc (by omega)
       have f3:=arr_ix (b:=b) (c:=c) (n:=n) (i:=I2) (by omega)
       have g3:=arr_load s2.get (i:=I2) (by omega)
       obtain ⟨w3,w4⟩:=arr_swap enc_string_plain s2.get (i:=I2) (j:=J2) (by omega) (by omega)
       have b3:=i64_succ I2 (by omega)
       have b4:=i64_dec J2 (by omega) (by omega)
       simp [-store1_ptr,-load1_ptr,F.f88_l5,hij',f1,f2,g1,g2]
       refine S.f0 hE _ _ ?_
       simp [-store1_ptr,-load1_ptr,hnl,hij'',f1,f2,f3,g1,g2,g3,w3,w4,b3,b4]
       rw [if_neg (by omega),dif_pos (by omega)] at r2
       exact hX3 (J2 - 1+1 - (I2+1)) (by omega) _ _ ⟨I2+1,J2 - 1,_,rfl,s2.put _,by rw [size_swp]; exact n2,r2,by omega,by omega,by omega,by omega,by omega,rfl⟩
      ·have hij':¬ (I2:Int)<=J2:=by omega
       have hij'':(J2:Int)<I2:=by omega
       rw [if_pos (by omega)] at r2
       subst r2
       obtain ⟨w1,w2⟩:=arr_swap enc_string_plain s2.get (i:=J2) (j:=a) (by omega) (by omega)
       simp [-store1_ptr,-load1_ptr,F.f88_l5,hij',hij'',f1,f2,g1,g2,w1,w2]
       exact hQ _ (s2.put _)
     cases m with
     | zero=>exact exit5 r5
     | succ q' =>
      by_cases hc:I2<=q'+1/\Op.bytesLess d2[q'+1]! d2[a]! = false
      ·rw [scanDown,if_pos (by simp [hc.1,hc.2])] at r5
       have hc':(I2:Int)<=((q'+1:Nat):Int):=by omega
       have f2:=arr_ix (b:=b) (c:=c) (n:=n) (i:=q'+1) (by omega)
       have g1:=arr_load s2.get (i:=a) (by omega)
       have g2:=arr_load s2.get (i:=q'+1) (by omega)
       have b4:binInt .sub (vi ((q'+1:Nat):Int)) (.int .i64 1)=some (vi (q':Int)):=i64_dec (q'+1) (by omega) (by omega)
       have hlt:=hc.2
       generalize hqq:q'+1=qq at *
       simp [-store1_ptr,-load1_ptr,F.f88_l5,hc',f1,f2,g1,g2]
       refine S.f0 hE _ _ ?_
       simp [-store1_ptr,-load1_ptr,hlt,b4]
       exact hX5 q' (by omega) _ _ ⟨rfl,q',rfl,r5,by omega,rfl⟩
      ·rw [scanDown,if_neg (by simpa using hc)] at r5
       exact exit5 r5
    by_cases hc:p'<=q/\Op.bytesLess d2[p']! d2[a]! = true
    ·rw [if_pos (by simp [hc.1,hc.2])] at r4
     have hc':(p':Int)<=q:=by omega
     have f2:=arr_ix (b:=b) (c:=c) (n:=n) (i:=p') (by omega)
     have g1:=arr_load s2.get (i:=a) (by omega)
     have g2:=arr_load s2.get (i:=p') (by omega)
     have b3:=i64_succ p' (by omega)
     simp [-store1_ptr,-load1_ptr,F.f88_l4,hc',f1,f2,g1,g2]
     refine S.f0 hE _ _ ?_
     simp [-store1_ptr,-load1_ptr,hc.2,b3]
     exact hX4 (q+1 - (p'+1)) (by omega) _ _ ⟨rfl,p'+1,rfl,r4,by omega,by omega,rfl⟩
    ·rw [if_neg (by simpa using hc)] at r4
     by_cases hpq:p'<=q
     ·have hc':(p':Int)<=q:=by omega
      have hlt:Op.bytesLess d2[p']! d2[a]! = false:=by simpa using fun h=>hc ⟨hpq,h⟩
      have f2:=arr_ix (b:=b) (c:=c) (n:=n) (i:=p') (by omega)
      have g1:=arr_load s2.get (i:=a) (by omega)
      have g2:=arr_load s2.get (i:=p') (by omega)
      simp [-store1_ptr,-load1_ptr,F.f88_l4,hc',f1,f2,g1,g2]
      refine S.f0 hE _ _ ?_
      simp [-store1_ptr,-load1_ptr,hlt]
      exact exit4 r4
     ·have hc':¬ (p':Int)<=q:=by omega
      simp [-store1_ptr,-load1_ptr,F.f88_l4,hc']
      exact exit4 r4
   ·have hij':¬ (I:Int)<=J:=by omega
    have hij'':(J:Int)<I:=by omega
    simp [-store1_ptr,-load1_ptr,F.f88_l2,hij',hij'',f1,f2,g1,g2,w1,w2]
    rw [if_pos (by omega)] at hQ
    exact hQ _ (s0.put _)
  cases m with
  | zero=>exact exit2 r1
  | succ q =>
   by_cases hc:I<=q+1/\Op.bytesLess d0[q+1]! d0[a]! = false
   ·rw [scanDown,if_pos (by simp [hc.1,hc.2])] at r1
    have hc':(I:Int)<=((q+1:Nat):Int):=by omega
    have f2:=arr_ix (b:=b) (c:=c) (n:=n) (i:=q+1) (by omega)
    have g1:=arr_load s0.get (i:=a) (by omega)
    have g2:=arr_load s0.get (i:=q+1) (by omega)
    have b4:binInt .sub (vi ((q+1:Nat):Int)) (.int .i64 1)=some (vi (q:Int)):=i64_dec (q+1) (by omega) (by omega)
    have hlt:=hc.2
    generalize hqq:q+1=qq at *
    simp [-store1_ptr,-load1_ptr,F.f88_l2,hc',f1,f2,g1,g2]
    refine S.f0 hE _ _ ?_
    simp [-store1_ptr,-load1_ptr,hlt,b4]
    exact hX q (by omega) _ _ ⟨rfl,q,rfl,r1,by omega,by omega,rfl⟩
   ·rw [scanDown,if_neg (by simpa using hc)] at r1
    exact exit2 r1
 by_cases hc:p<=e - 1/\Op.bytesLess d0[p]! d0[a]! = true
 ·rw [if_pos (by simp [hc.1,hc.2])] at r1
  have hc':(p:Int)<=((e - 1:Nat):Int):=by omega
  have f2:=arr_ix (b:=b) (c:=c) (n:=n) (i:=p) (by omega)
  have g1:=arr_load s0.get (i:=a) (by omega)
  have g2:=arr_load s0.get (i:=p) (by omega)
  have b3:=i64_succ p (by omega)
  generalize he1:e - 1=e1 at *
  simp [-store1_ptr,-load1_ptr,F.f88_l1,hc',f1,f2,g1,g2]
  refine S.f0 hE _ _ ?_
  simp [-store1_ptr,-load1_ptr,hc.2,b3]
  exact hX (e - (p+1)) (by omega) _ _ ⟨rfl,p+1,rfl,r1,by omega,by omega,rfl⟩
 ·rw [if_neg (by simpa using hc)] at r1
  have exit1:=exit1 r1
  by_cases hpq:p<=e - 1
  ·have hc':(p:Int)<=((e - 1:Nat):Int):=by omega
   have hlt:Op.bytesLess d0[p]! d0[a]! = false:=by simpa using fun h=>hc ⟨hpq,h⟩
   have f2:=arr_ix (b:=b) (c:=c) (n:=n) (i:=p) (by omega)
   have g1:=arr_load s0.get (i:=a) (by omega)
   have g2:=arr_load s0.get (i:=p) (by omega)
   generalize he1:e - 1=e1 at *
   simp [-store1_ptr,-load1_ptr,F.f88_l1,hc',f1,f2,g1,g2]
   refine S.f0 hE _ _ ?_
   simp [-store1_ptr,-load1_ptr,hlt]
   exact exit1
  ·have hc':¬ (p:Int)<=((e - 1:Nat):Int):=by omega
   generalize he1:e - 1=e1 at *
   simp [-store1_ptr,-load1_ptr,F.f88_l1,hc']
   exact exit1
theorem S.f87 (hE:Fold E) (hg:H.get b=arrO str d tail f) (hn:d.size=n) (hsz:n<2 ^ 60) (a e pivot:Nat) (h1:a<=pivot) (h2:pivot<e) (he:e<=n)
  (hQ:∀ H',SortTo H b str tail f (partitionEqual Op.bytesLess d a e pivot).2 H'->Q (vi (partitionEqual Op.bytesLess d a e pivot).1) H'):E.call (E.fid i.f87) [slc b 0 n c,vi a,vi e,vi pivot] H Q:=by
 apply hE.f87
 have f1:=arr_ix (b:=b) (c:=c) (n:=n) (i:=a) (by omega)
 have f2:=arr_ix (b:=b) (c:=c) (n:=n) (i:=pivot) (by omega)
 have g1:=arr_load hg (i:=a) (by omega)
 have g2:=arr_load hg (i:=pivot) (by omega)
 obtain ⟨w1,w2⟩:=arr_swap enc_string_plain hg (i:=a) (j:=pivot) (by omega) (by omega)
 have b1:=i64_succ a (by omega)
 have b2:=i64_dec e (by omega) (by omega)
 simp only [F.f87,f1,f2,g1,g2,w1,w2,b1,b2,tk_eq,opt_some]
 have s0:=(SortTo.refl hg).put (swp d a pivot)
 have n0:(swp d a pivot).size=n:=by rw [size_swp]; exact hn
 unfold partitionEqual at hQ
 generalize hd0:swp d a pivot=d0 at *
 generalize hH0:H.put b (arrO str d0 tail f)=H0 at *
 clear w1 w2 f2 g1 g2
 obtain ⟨R,hR⟩:∃ R,R=partEqLoop Op.bytesLess a (a+1) (e - 1) d0:=⟨_,rfl⟩
 rw [<- hR] at hQ
 refine LoopL.ind (fun m l H'=>∃ (p q:Nat) (d2:Array (List UInt8)),l=[slc b 0 n c,vi a,vi p,vi q]/\SortTo H b str tail f d2 H'/\d2.size=n/\R=partEqLoop Op.bytesLess a p q d2/\a+1<=p/\p<=q+1+1/\p<=e/\q<=e - 1/\a<=q/\m=q+1 - p) ?_ (e - 1+1 - (a+1)) ⟨a+1,e - 1,d0,rfl,s0,n0,hR,by omega,by omega,by omega,by omega,by omega,rfl⟩
 clear hR s0 n0 hd0
 rintro m _ H2 X3 hX3 ⟨p,q,d2,rfl,s2,n2,r2,hp1,hp2,hpe,hq1,hqa,rfl⟩
 rw [partEqLoop] at r2
 simp only [F.f87_l1,nth_0,nth_1,nth_2,nth_3]
 obtain ⟨I2,hI2⟩:∃ I,I=scanUp (fun x => !Op.bytesLess d2[a]! x) d2 q p:=⟨_,rfl⟩
 obtain ⟨J2,hJ2⟩:∃ J,J=scanDown (fun x=>Op.bytesLess d2[a]! x) d2 I2 q:=⟨_,rfl⟩
 rw [<- hI2] at r2
 try simp only at r2
 rw [<- hJ2] at r2
 have hIl2:=sUp_le (fun x => !Op.bytesLess d2[a]! x) d2 q _ p (Nat.le_refl _)
 rw [<- hI2] at hIl2
 have hJl2:=sDown_le (fun x=>Op.bytesLess d2[a]! x) d2 I2 q
 rw [<- hJ2] at hJl2
 have hI2e:I2<=q+1\/(I2=p/\q+1<p):=by
  by_cases h:p<=q+1
  ·exact .inl (hIl2.2 h)
  ·refine .inr ⟨?_,by omega⟩
   rw [hI2,scanUp,if_neg (by simp; omega)]
 have hJ2e:I2<=q+1\/J2=q:=by
  rcases hI2e with h | ⟨h,h'⟩
  ·exact .inl h
  ·right
   rw [hJ2]
   cases q with
   | zero=>rfl
   | succ q=>rw [scanDown,if_neg (by simp; omega)]
 refine LoopL.ind (fun m l H'=>H2=H'/\∃ p':Nat,l=[slc b 0 n c,vi a,vi p',vi q]/\I2=scanUp (fun x => !Op.bytesLess d2[a]! x) d2 q p'/\p<=p'/\p'<=e/\m=q+1 - p') ?_ (q+1 - p) ⟨rfl,p,rfl,hI2,Nat.le_refl _,by omega,rfl⟩
 rintro m _ _ X4 hX4 ⟨rfl,p',rfl,r4,hp3,hp4,rfl⟩
 rw [scanUp] at r4
 have exit4:I2=p'->LoopL (fun l H X1=>F.f87_l3 E Q X3 (nth l 0) (nth l 1) (nth l 2) (nth l 3) H X1) [slc b 0 n c,vi a,vi p',vi q] H2:=by
  rintro rfl
  clear hX4 r4
  refine LoopL.ind (fun m l H'=>H2=H'/\∃ q':Nat,l=[slc b 0 n c,vi a,vi I2,vi q']/\J2=scanDown (fun x=>Op.bytesLess d2[a]! x) d2 I2 q'/\q'<=q/\m=q') ?_ q ⟨rfl,q,rfl,hJ2,Nat.le_refl _,rfl⟩
  rintro m _ _ X5 hX5 ⟨rfl,q',rfl,r5,hq3,rfl⟩
  have exit5:J2=m->F.f87_l3 E Q X3 (slc b 0 n c) (vi a) (vi I2) (vi m) H2 X5:=by
   rintro rfl
   clear hX5
   have f2:=arr_ix (b:=b) (c:=c) (n:=n) (i:=J2) (by omega)
   have g1:=arr_load s2.get (i:=a) (by omega)
   have g2:=arr_load s2.get (i:=J2) (by omega)
   by_cases hij:I2<=J2
   ·have hij':(I2:Int)<=J2:=by omega
    have hij'':¬ (J2:Int)<I2:=by omega
    have hnl:Op.bytesLess d2[a]! d2[J2]! = false:=by
     cases J2 with
     | zero=>omega
     | succ q' =>
      rw [scanDown] at r5
      split at r5
      ·have:=sDown_le (fun x=>Op.bytesLess d2[a]! x) d2 I2 q'
       omega
      ·rename_i hc
       simp at hc
       exact hc (by omega)
    have f3:=arr_ix (b:=b) (c:=c) (n:=n) (i:=I2) (by omega)
    have g3:=arr_load s2.get (i:=I2) (by omega)
    obtain ⟨w3,w4⟩:=arr_swap enc_string_plain s2.get (i:=I2) (j:=J2) (by omega) (by omega)
    have b3:=i64_succ I2 (by omega)
    have b4:=i64_dec J2 (by omega) (by omega)
    simp [-store1_ptr,-load1_ptr,F.f87_l3,hij',f1,f2,g1,g2]
    refine S.f0 hE _ _ ?_
    simp [-store1_ptr,-load1_ptr,hnl,hij'',f1,f2,f3,g1,g2,g3,w3,w4,b3,b4]
    rw [if_neg (by omega),dif_pos (by omega)] at r2
    exact hX3 (J2 - 1+1 - (I2+1)) (by omega) _ _ ⟨I2+1,J2 - 1,_,rfl,s2.put _,by rw [size_swp]; exact n2,r2,by omega,by omega,by omega,by omega,by omega,rfl⟩
   ·have hij':¬ (I2:Int)<=J2:=by omega
    have hij'':(J2:Int)<I2:=by omega
    rw [if_pos (by omega)] at r2
    subst r2
    simp [-store1_ptr,-load1_ptr,F.f87_l3,hij',hij'']
    exact hQ _ s2
  cases m with
  | zero=>exact exit5 r5
  | succ q' =>
   by_cases hc:I2<=q'+1/\Op.bytesLess d2[a]! d2[q'+1]! = true
   ·rw [scanDown,if_pos (by simp [hc.1,hc.2])] at r5
    have hc':(I2:Int)<=((q'+1:Nat):Int):=by omega
    have f2:=arr_ix (b:=b) (c:=c) (n:=n) (i:=q'+1) (by omega)
    have g1:=arr_load s2.get (i:=a) (by omega)
    have g2:=arr_load s2.get (i:=q'+1) (by omega)
    have b4:binInt .sub (vi ((q'+1:Nat):Int)) (.int .i64 1)=some (vi (q':Int)):=i64_dec (q'+1) (by omega) (by omega)
    have hlt:=hc.2
    generalize hqq:q'+1=qq at *
    simp [-store1_ptr,-load1_ptr,F.f87_l3,hc',f1,f2,g1,g2]
    refine S.f0 hE _ _ ?_
    simp [-store1_ptr,-load1_ptr,hlt,b4]
    exact hX5 q' (by omega) _ _ ⟨rfl,q',rfl,r5,by omega,rfl⟩
   ·rw [scanDown,if_neg (by simpa using hc)] at r5
    exact exit5 r5
 by_cases hc:p'<=q/\Op.bytesLess d2[a]! d2[p']! = false
 ·rw [if_pos (by simp [hc.1,hc.2])] at r4
  have hc':(p':Int)<=q:=by omega
  have f2:=arr_ix (b:=b) (c:=c) (n:=n) (i:=p') (by omega)
  have g1:=arr_load s2.get (i:=a) (by omega)
  have g2:=arr_load s2.get (i:=p') (by omega)
  have b3:=i64_succ p' (by omega)
  simp [-store1_ptr,-load1_ptr,F.f87_l2,hc',f1,f2,g1,g2]
  refine S.f0 hE _ _ ?_
  simp [-store1_ptr,-load1_ptr,hc.2,b3]
  exact hX4 (q+1 - (p'+1)) (by omega) _ _ ⟨rfl,p'+1,rfl,r4,by omega,by omega,rfl⟩
 ·rw [if_neg (by simpa using hc)] at r4
  by_cases hpq:p'<=q
  ·have hc':(p':Int)<=q:=by omega
   have hlt:Op.bytesLess d2[a]! d2[p']! = true:=by simpa using fun h=>hc ⟨hpq,h⟩
   have f2:=arr_ix (b:=b) (c:=c) (n:=n) (i:=p') (by omega)
   have g1:=arr_load s2.get (i:=a) (by omega)
   have g2:=arr_load s2.get (i:=p') (by omega)
   simp [-store1_ptr,-load1_ptr,F.f87_l2,hc',f1,f2,g1,g2]
   refine S.f0 hE _ _ ?_
   simp [-store1_ptr,-load1_ptr,hlt]
   exact exit4 r4
  ·have hc':¬ (p':Int)<=q:=by omega
   simp [-store1_ptr,-load1_ptr,F.f87_l2,hc']
   exact exit4 r4
theorem S.f86 (hE:Fold E) (hg:H.get b=arrO str d tail f) (hn:d.size=n) (hsz:n<2 ^ 60) (a e:Nat) (hae:a<e) (he:e<=n)
    (hQ:∀ H',SortTo H b str tail f (partialInsertionSort Op.bytesLess d a e).1 H'->Q (vb (partialInsertionSort Op.bytesLess d a e).2) H'):E.call (E.fid i.f86) [slc b 0 n c,vi a,vi e] H Q:=by
  apply hE.f86
  have b1:=i64_succ a (by omega)
  simp only [F.f86,b1,tk_eq,opt_some]
  unfold partialInsertionSort at hQ
  obtain ⟨R,hR⟩:∃ R,R=partialIns Op.bytesLess a e 5 (a+1) d:=⟨_,rfl⟩
  rw [<- hR] at hQ
  refine LoopL.ind (fun m l H'=>∃ (i:Nat) (d1:Array (List UInt8)),l=[slc b 0 n c,vi a,vi e,vi i,vi ((5 - m:Nat):Int)]/\SortTo H b str tail f d1 H'/\d1.size=n/\R=partialIns Op.bytesLess a e m i d1/\a+1<=i/\i<=e/\m<=5) ?_ 5 ⟨a+1,d,rfl,.refl hg,hn,hR,Nat.le_refl _,by omega,Nat.le_refl _⟩
  rintro m _ H1 X hX ⟨i0,d1,rfl,s1,n1,r1,hi1,hi2,hm⟩
  cases m with
  | zero =>
    simp [F.f86_l1]
    rw [partialIns] at r1
    subst r1
    exact hQ _ s1
  | succ m =>
    have hms:((5 - (m+1):Nat):Int)<5:=by omega
    have hmi:binInt .add (vi ((5 - (m+1):Nat):Int)) (.int .i64 1)=some (vi ((5 - m:Nat):Int)):=by
      rw [i64_succ _ (by omega)]; congr 3; omega
    have hX:∀ (i:Nat) (d2:Array (List UInt8)) H2,SortTo H b str tail f d2 H2->d2.size=n->R=partialIns Op.bytesLess a e m i d2->a+1<=i->i<=e->X [slc b 0 n c,vi a,vi e,vi i,vi ((5 - m:Nat):Int)] H2:=fun i d2 H2 q1 q2 q3 q4 q5=>hX m (by omega) _ _ ⟨i,d2,rfl,q1,q2,q3,q4,q5,by omega⟩
    generalize hk:5 - (m+1)=k at *
    generalize hk':5 - m=k' at *
    simp [F.f86_l1,hms]
    rw [partialIns_succ] at r1
    obtain ⟨I,hI⟩:∃ I,I=scanSorted Op.bytesLess d1 e i0:=⟨_,rfl⟩
    rw [<- hI] at r1
    refine LoopL.ind (fun m l H'=>H1=H'/\∃ i':Nat,l=[slc b 0 n c,vi a,vi e,vi i',vi k]/\I=scanSorted Op.bytesLess d1 e i'/\a+1<=i'/\i'<=e/\m=e - i') ?_ (e - i0) ⟨rfl,i0,rfl,hI,hi1,hi2,rfl⟩
    rintro mm _ _ X1 hX1 ⟨rfl,i',rfl,r2,hi3,hi4,rfl⟩
    rw [scanSorted] at r2
    have b2:=i64_sub_nat e a (by omega) (by omega)
    have b2':binInt .sub (vi e) (vi a)=some (vi ((e - a:Nat):Int)):=b2
    have exit:I=i' ->
        (opt (binInt .eql (vi i') (vi e)) fun v15 =>
         ifB v15 (Q (.bool true) H1) (
         opt (binInt .sub (vi e) (vi a)) fun v16 =>
         opt (binInt .lss v16 (.int .i64 50)) fun v17 =>
         ifB v17 (Q (.bool false) H1) (
         opt (binInt .sub (vi i') (.int .i64 1)) fun v18 =>
         opt (binInt .sub (vi i') (.int .i64 1)) fun v19 =>
         opt (ixSlc 1 (slc b 0 n c) v19) fun v20 =>
         opt (load1 v20 H1) fun v21 =>
         opt (ixSlc 1 (slc b 0 n c) (vi i')) fun v22 =>
         opt (load1 v22 H1) fun v23 =>
         opt (ixSlc 1 (slc b 0 n c) (vi i')) fun v24 =>
         opt (store1 v24 v21 H1) fun H12 =>
         opt (ixSlc 1 (slc b 0 n c) v18) fun v25 =>
         opt (store1 v25 v23 H12) fun H13 =>
         opt (binInt .sub (vi i') (vi a)) fun v26 =>
         opt (binInt .geq v26 (.int .i64 2)) fun v27 =>
         ifB v27 (
         opt (binInt .sub (vi i') (.int .i64 1)) fun v28 =>
         LoopL (fun l H X1=>F.f86_l4 E Q X (nth l 0) (nth l 1) (nth l 2) (nth l 3) (nth l 4) (nth l 5) H X1) [slc b 0 n c,vi a,vi e,vi i',vi k,v28] H13) (
         F.f86_j1 E Q X (slc b 0 n c) (vi a) (vi e) (vi i') (vi k) H13)))):=by
      rintro rfl
      clear hX1
      by_cases c1:I=e
      · rw [if_pos c1] at r1
        subst r1
        simp [c1]
        exact hQ _ s1
      rw [if_neg c1] at r1
      have c1':¬ (I:Int)=e:=by omega
      by_cases c2:e - a<50
      · rw [if_pos c2] at r1
        subst r1
        have c2':((e - a:Nat):Int)<50:=by omega
        generalize e - a=w at *
        simp [c1',b2',c2']
        exact hQ _ s1
      rw [if_neg c2] at r1
      have c2':¬ ((e - a:Nat):Int)<50:=by omega
      have b3:=i64_dec I (by omega) (by omega)
      have b4:=i64_sub_nat I a (by omega) (by omega)
      have b4':binInt .sub (vi I) (vi a)=some (vi ((I - a:Nat):Int)):=b4
      have f1:=arr_ix (b:=b) (c:=c) (n:=n) (i:=I) (by omega)
      have f2:=arr_ix (b:=b) (c:=c) (n:=n) (i:=I - 1) (by omega)
      have g1:=arr_load s1.get (i:=I) (by omega)
      have g2:=arr_load s1.get (i:=I - 1) (by omega)
      obtain ⟨w1,w2⟩:=arr_swap enc_string_plain s1.get (i:=I) (j:=I - 1) (by omega) (by omega)
      have s2:=s1.put (swp d1 I (I - 1))
      have n2:(swp d1 I (I - 1)).size=n:=by rw [size_swp]; exact n1
      have hkk:binInt .add (vi k) (.int .i64 1)=some (vi k'):=hmi
      have j1:∀ (d3:Array (List UInt8)) H3,SortTo H b str tail f d3 H3->d3.size=n->R=partialIns Op.bytesLess a e m I (fixUp Op.bytesLess e I d3)->F.f86_j1 E Q X (slc b 0 n c) (vi a) (vi e) (vi I) (vi k) H3:=by
        intro d3 H3 s3 n3 r3
        unfold fixUp at r3
        have b5:=i64_sub_nat e I (by omega) (by omega)
        have b5':binInt .sub (vi e) (vi I)=some (vi ((e - I:Nat):Int)):=b5
        by_cases c3:e - I>=2
        · rw [if_pos c3] at r3
          have c3':(2:Int)<=((e - I:Nat):Int):=by omega
          have b6:=i64_succ I (by omega)
          generalize hw:e - I=w at *
          simp [F.f86_j1,b5',c3',b6]
          obtain ⟨D,hD⟩:∃ D,D=shiftUp Op.bytesLess e (I+1) d3:=⟨_,rfl⟩
          rw [<- hD] at r3
          refine LoopL.ind (fun mm l H'=>∃ (q:Nat) (d4:Array (List UInt8)),l=[slc b 0 n c,vi a,vi e,vi I,vi k,vi q]/\SortTo H b str tail f d4 H'/\d4.size=n/\D=shiftUp Op.bytesLess e q d4/\1<=q/\q<=e/\mm=e - q) ?_ (e - (I+1)) ⟨I+1,d3,by simp,s3,n3,hD,by omega,by omega,rfl⟩
          rintro mm _ H4 X5 hX5 ⟨q,d4,rfl,s4,n4,r4,hq1,hq2,rfl⟩
          rw [shiftUp] at r4
          have done:D=d4->X [slc b 0 n c,vi a,vi e,vi I,vi k'] H4:=by
            rintro rfl
            exact hX I D H4 s4 n4 r3 hi3 (by omega)
          by_cases c4:q<e
          · have c4':(q:Int)<e:=by omega
            rw [if_pos c4] at r4
            have b7:=i64_dec q (by omega) (by omega)
            have b8:=i64_succ q (by omega)
            have f1:=arr_ix (b:=b) (c:=c) (n:=n) (i:=q) (by omega)
            have f2:=arr_ix (b:=b) (c:=c) (n:=n) (i:=q - 1) (by omega)
            have g1:=arr_load s4.get (i:=q) (by omega)
            have g2:=arr_load s4.get (i:=q - 1) (by omega)
            obtain ⟨w1,w2⟩:=arr_swap enc_string_plain s4.get (i:=q) (j:=q - 1) (by omega) (by omega)
            have hY:=fun (d5:Array (List UInt8)) H5 q1 q2 q3=>hX5 (e - (q+1)) (by omega) [slc b 0 n c,vi a,vi e,vi I,vi k,vi ((q+1:Nat):Int)] H5 ⟨q+1,d5,rfl,q1,q2,q3,by omega,by omega,rfl⟩
            generalize hq':q - 1=q' at *
            generalize hq'':q+1=q'' at *
            simp [-store1_ptr,-load1_ptr,F.f86_l3,c4',b7,f1,f2,g1,g2]
            refine S.f0 hE _ _ ?_
            by_cases hl:Op.bytesLess d4[q]! d4[q']! = true
            · simp only [hl,Bool.not_true,Bool.false_eq_true,if_false] at r4
              simp [-store1_ptr,-load1_ptr,hl,b7,b8,f1,f2,g1,g2,w1,w2]
              exact hY _ _ (s4.put _) (by rw [size_swp]; exact n4) r4
            · have hl:Op.bytesLess d4[q]! d4[q']! = false:=by simpa using hl
              simp only [hl,Bool.not_false,if_true] at r4
              simp [hl,hkk]
              exact done r4
          · have c4':¬ (q:Int)<e:=by omega
            rw [if_neg c4] at r4
            simp [F.f86_l3,c4',hkk]
            exact done r4
        · rw [if_neg c3] at r3
          have c3':¬ (2:Int)<=((e - I:Nat):Int):=by omega
          generalize hw:e - I=w at *
          simp [F.f86_j1,b5',c3',hkk]
          exact hX I d3 H3 s3 n3 r3 hi3 hi4
      unfold fixDown at r1
      by_cases c3:I - a>=2
      · rw [if_pos c3] at r1
        have c3':(2:Int)<=((I - a:Nat):Int):=by omega
        obtain ⟨D,hD⟩:∃ D,D=shiftDown Op.bytesLess (I - 1) (swp d1 I (I - 1)):=⟨_,rfl⟩
        rw [<- hD] at r1
        have goal4:LoopL (fun l H X1=>F.f86_l4 E Q X (nth l 0) (nth l 1) (nth l 2) (nth l 3) (nth l 4) (nth l 5) H X1) [slc b 0 n c,vi a,vi e,vi I,vi k,vi ((I - 1:Nat):Int)] (H1.put b (arrO str (swp d1 I (I - 1)) tail f)):=by
          refine LoopL.ind (fun mm l H'=>∃ (q:Nat) (d4:Array (List UInt8)),l=[slc b 0 n c,vi a,vi e,vi I,vi k,vi q]/\SortTo H b str tail f d4 H'/\d4.size=n/\D=shiftDown Op.bytesLess q d4/\q<n/\mm=q) ?_ (I - 1) ⟨I - 1,_,rfl,s2,n2,hD,by omega,rfl⟩
          rintro mm _ H4 X5 hX5 ⟨q,d4,rfl,s4,n4,r4,hq1,rfl⟩
          cases mm with
          | zero =>
            simp [F.f86_l4]
            rw [shiftDown] at r4
            subst r4
            exact j1 _ _ s4 n4 r1
          | succ q =>
            have c4':(1:Int)<=((q+1:Nat):Int):=by omega
            rw [shiftDown] at r4
            have b7:binInt .sub (vi ((q+1:Nat):Int)) (.int .i64 1)=some (vi (q:Int)):=i64_dec (q+1) (by omega) (by omega)
            have f1:=arr_ix (b:=b) (c:=c) (n:=n) (i:=q+1) (by omega)
            have f2:=arr_ix (b:=b) (c:=c) (n:=n) (i:=q) (by omega)
            have g1:=arr_load s4.get (i:=q+1) (by omega)
            have g2:=arr_load s4.get (i:=q) (by omega)
            obtain ⟨w1,w2⟩:=arr_swap enc_string_plain s4.get (i:=q+1) (j:=q) (by omega) (by omega)
            have hY:=fun (d5:Array (List UInt8)) H5 q1 q2 q3=>hX5 q (by omega) [slc b 0 n c,vi a,vi e,vi I,vi k,vi (q:Int)] H5 ⟨q,d5,rfl,q1,q2,q3,by omega,rfl⟩
            generalize hq':q+1=q' at *
            simp [-store1_ptr,-load1_ptr,F.f86_l4,c4',b7,f1,f2,g1,g2]
            refine S.f0 hE _ _ ?_
            by_cases hl:Op.bytesLess d4[q']! d4[q]! = true
            · simp only [hl,Bool.not_true,Bool.false_eq_true,if_false] at r4
              simp [-store1_ptr,-load1_ptr,hl,b7,f1,f2,g1,g2,w1,w2]
              exact hY _ _ (s4.put _) (by rw [size_swp]; exact n4) r4
            · have hl:Op.bytesLess d4[q']! d4[q]! = false:=by simpa using hl
              simp only [hl,Bool.not_false,if_true] at r4
              simp [hl]
              subst r4
              exact j1 _ _ s4 n4 r1
        generalize hI':I - 1=I' at *
        generalize hw:e - a=w at *
        generalize hw2:I - a=w2' at *
        simp [-store1_ptr,-load1_ptr,c1',b2',c2',b3,b4',f1,f2,g1,g2,w1,w2,c3']
        exact goal4
      · rw [if_neg c3] at r1
        have c3':¬ (2:Int)<=((I - a:Nat):Int):=by omega
        have:=j1 _ _ s2 n2 r1
        generalize hI':I - 1=I' at *
        generalize hw:e - a=w at *
        generalize hw2:I - a=w2' at *
        simp [-store1_ptr,-load1_ptr,c1',b2',c2',b3,b4',f1,f2,g1,g2,w1,w2,c3']
        exact this
    have b7:=i64_succ i' (by omega)
    by_cases c4:i'<e
    · have c4':(i':Int)<e:=by omega
      have b6:=i64_dec i' (by omega) (by omega)
      have f1:=arr_ix (b:=b) (c:=c) (n:=n) (i:=i') (by omega)
      have f2:=arr_ix (b:=b) (c:=c) (n:=n) (i:=i' - 1) (by omega)
      have g1:=arr_load s1.get (i:=i') (by omega)
      have g2:=arr_load s1.get (i:=i' - 1) (by omega)
      by_cases hl:Op.bytesLess d1[i']! d1[i' - 1]! = true
      · rw [if_neg (by simp [hl])] at r2
        have:=exit r2
        clear exit hX1
        generalize hI':i' - 1=I' at *
        simp [-store1_ptr,-load1_ptr,F.f86_l2,c4',b6,f1,f2,g1,g2]
        refine S.f0 hE _ _ ?_
        simp only [hl]
        simp only [un_not_z,Bool.not_true,tk_eq,opt_some,gd_tt,pick_true_z,ifB_false]
        exact this
      · have hl:Op.bytesLess d1[i']! d1[i' - 1]! = false:=by simpa using hl
        rw [if_pos (by simp [hl,c4])] at r2
        clear exit
        have hX1:=hX1 (e - (i'+1)) (by omega) [slc b 0 n c,vi a,vi e,vi ((i'+1:Nat):Int),vi k] H1 ⟨rfl,i'+1,rfl,r2,by omega,by omega,rfl⟩
        generalize hI':i' - 1=I' at *
        generalize hI'':i'+1=I'' at *
        simp [-store1_ptr,-load1_ptr,F.f86_l2,c4',b6,f1,f2,g1,g2]
        refine S.f0 hE _ _ ?_
        simp [hl,b7]
        exact hX1
    · have c4':¬ (i':Int)<e:=by omega
      rw [if_neg (by simp [c4])] at r2
      have:=exit r2
      clear exit hX1
      simp only [F.f86_l2,nth_0,nth_1,nth_2,nth_3,nth_4,i64_lss,c4',decide_false,tk_eq,opt_some,gd_ft,pick_false_z,ifB_false]
      exact this
theorem S.f85 (hE:Fold E) (hg:H.get b=arrO str d tail f) (hn:d.size=n) (p q:Nat) (hp:p<n) (hq:q<n) (s k:Nat) (hs:H.get s = .cells [vi k] none) (hk:k<1000) (hsb:s≠b)
  (hQ:∀ r1 r2 k' H',((r1=p/\r2=q)\/(r1=q/\r2=p))->Only [s] H H'->H'.get s = .cells [vi (k':Nat)] none->k'<=k+1->Q (.tuple #[vi (r1:Nat),vi (r2:Nat)]) H') :
  E.call (E.fid i.f85) [slc b 0 n c,vi p,vi q,ptr s 0] H Q:=by
 apply hE.f85
 have f1:=arr_ix (b:=b) (c:=c) (n:=n) (i:=p) hp
 have f2:=arr_ix (b:=b) (c:=c) (n:=n) (i:=q) hq
 have g1:=arr_load hg (i:=p) (by omega)
 have g2:=arr_load hg (i:=q) (by omega)
 have hlt:=AH.lt_cells hs
 have b1:=i64_succ k (by omega)
 simp [-load1_ptr,F.f85,f1,f2,g1,g2]
 refine S.f0 hE _ _ ?_
 by_cases hl:Op.bytesLess d[q]! d[p]! = true
 ·simp only [hl,ifB_true,nilCk_p,load1_ptr,hs,cell_cells_z,List.getElem?_cons_zero,tk_eq,opt_some,b1,store1_ptr,plain1_int,if_true,List.length_cons,List.length_nil,List.set_cons_zero]
  rw [if_pos (by omega),opt_some]
  exact hQ q p (k+1) _ (.inr ⟨rfl,rfl⟩) ((Only.refl _ _).put (.inl (by simp)) _) (AH.get_put_self _ _ hlt) (Nat.le_refl _)
 ·simp [hl]
  exact hQ p q k _ (.inl ⟨rfl,rfl⟩) (Only.refl _ _) hs (by omega)
theorem S.f83 (hE:Fold E) (hg:H.get b=arrO str d tail f) (hn:d.size=n) (p q r:Nat) (hp:p<n) (hq:q<n) (hr:r<n) (s k:Nat) (hs:H.get s = .cells [vi k] none) (hk:k<900) (hsb:s≠b)
  (hQ:∀ m k' H',(m=p\/m=q\/m=r)->Only [s] H H'->H'.get s = .cells [vi (k':Nat)] none->k'<=k+3->Q (vi (m:Nat)) H') :
  E.call (E.fid i.f83) [slc b 0 n c,vi p,vi q,vi r,ptr s 0] H Q:=by
 apply hE.f83
 have keep:∀ {H'},Only [s] H H'->H'.get b=arrO str d tail f:=fun o=>by rw [o.get (arr_lt hg) (by simpa using Ne.symm hsb)]; exact hg
 simp only [F.f83]
 refine S.f85 hE hg hn p q hp hq s k hs (by omega) hsb fun a1 a2 k1 H1 e1 o1 s1 l1 =>?_
 simp
 refine S.f85 hE (keep o1) hn a2 r (by omega) hr s k1 s1 (by omega) hsb fun a3 a4 k2 H2 e2 o2 s2 l2 =>?_
 have o12:=o1.trans' o2
 simp
 refine S.f85 hE (keep o12) hn a1 a3 (by omega) (by omega) s k2 s2 (by omega) hsb fun a5 a6 k3 H3 e3 o3 s3 l3 =>?_
 simp
 exact hQ a6 k3 H3 (by omega) (o12.trans' o3) s3 (by omega)
theorem S.f82 (hE:Fold E) (hg:H.get b=arrO str d tail f) (hn:d.size=n) (hsz:n<2 ^ 60) (p:Nat) (hp0:1<=p) (hp:p+1<n) (s k:Nat) (hs:H.get s = .cells [vi k] none) (hk:k<900) (hsb:s≠b)
  (hQ:∀ m k' H',(p - 1<=m/\m<=p+1)->Only [s] H H'->H'.get s = .cells [vi (k':Nat)] none->k'<=k+3->Q (vi (m:Nat)) H') :
  E.call (E.fid i.f82) [slc b 0 n c,vi p,ptr s 0] H Q:=by
 apply hE.f82
 have b1:=i64_dec p hp0 (by omega)
 have b2:=i64_succ p (by omega)
 simp only [F.f82,b1,b2,tk_eq,opt_some]
 refine S.f83 hE hg hn (p - 1) p (p+1) (by omega) (by omega) hp s k hs hk hsb fun m k' H' e1 o1 s1 l1=>hQ m k' H' (by omega) o1 s1 l1
theorem S.f79 (hE:Fold E) (hg:H.get b=arrO str d tail f) (hn:d.size=n) (hsz:n<2 ^ 60) (a e:Nat) (hae:a+8<=e) (he:e<=n)
  (hQ:∀ (m:Nat) (h:Int) H',a<=m->m<e->Ext H H'->Q (.tuple #[vi m,vi h]) H'):E.call (E.fid i.f79) [slc b 0 n c,vi a,vi e] H Q:=by
 apply hE.f79
 have a1:binInt .sub (vi e) (vi a)=some (vi ((e - a:Nat):Int)):=i64_sub_nat e a (by omega) (by omega)
 have hbl:=arr_lt hg
 generalize hw:e - a=w at *
 have a2:binInt .quo (vi (w:Int)) (.int .i64 4)=some (vi ((w / 4:Nat):Int)):=i64_quo_num w 4 (by decide) (by omega)
 have hq4:w / 4*4<=w:=Nat.div_mul_le_self _ _
 have hq4':1<=w / 4:=by omega
 have hq50:50<=w->12<=w / 4:=fun h=>by omega
 generalize hq:w / 4=q at *
 have m1:binInt .mul (vi (q:Int)) (.int .i64 1)=some (vi ((q*1:Nat):Int)):=by rw [i64_mul (by omega) (by omega)]; congr 2
 have m2:binInt .mul (vi (q:Int)) (.int .i64 2)=some (vi ((q*2:Nat):Int)):=by rw [i64_mul (by omega) (by omega)]; congr 2
 have m3:binInt .mul (vi (q:Int)) (.int .i64 3)=some (vi ((q*3:Nat):Int)):=by rw [i64_mul (by omega) (by omega)]; congr 2
 have p1:=i64_add_nat a (q*1) (by omega)
 have p2:=i64_add_nat a (q*2) (by omega)
 have p3:=i64_add_nat a (q*3) (by omega)
 have c8:(8:Int)<=w:=by omega
 have hg1:(H.new (.cells [vi 0] none)).get b=arrO str d tail f:=by rw [AH.get_new_lt _ _ hbl]; exact hg
 have hs1:(H.new (.cells [vi 0] none)).get H.next = .cells [vi ((0:Nat):Int)] none:=AH.get_new_self _ _
 have hsb:H.next≠b:=by omega
 have x1:Ext H (H.new (.cells [vi 0] none)):=(Ext.refl H).new _
 have ext_of:∀ {H'},Only [H.next] (H.new (.cells [vi 0] none)) H'->Ext H H':=fun o=>o.ext x1 (by simp)
 have keep:∀ {H'},Only [H.next] (H.new (.cells [vi 0] none)) H'->H'.get b=arrO str d tail f:=fun o=>by rw [o.get (arr_lt hg1) (by simpa using Ne.symm hsb)]; exact hg1
 have last:∀ (m k:Nat) H',a<=m->m<e->Ext H H'->H'.get H.next = .cells [vi (k:Nat)] none->F.f79_j1 E Q (ptr H.next 0) (vi m) H':=by
  intro m k H' h1 h2 e1 s1
  by_cases k0:(k:Int)=0
  ·simp [F.f79_j1,s1,k0]
   exact hQ m _ H' h1 h2 e1
  ·by_cases k12:(k:Int)=12
   ·simp [F.f79_j1,s1,k12]
    exact hQ m _ H' h1 h2 e1
   ·have k0':¬ k=0:=by omega
    simp [F.f79_j1,s1,k0',k12]
    exact hQ m _ H' h1 h2 e1
 have last2:∀ (x y z k:Nat) H',a<=x->x<e->a<=y->y<e->a<=z->z<e->Only [H.next] (H.new (.cells [vi 0] none)) H'->H'.get H.next = .cells [vi (k:Nat)] none->k<900->F.f79_j2 E Q (slc b 0 n c) (ptr H.next 0) (vi x) (vi y) (vi z) H':=by
  intro x y z k H' h1 h2 h3 h4 h5 h6 o1 s1 hk
  simp only [F.f79_j2]
  refine S.f83 hE (keep o1) hn x y z (by omega) (by omega) (by omega) H.next k s1 hk hsb fun m k' H2 hm o2 s2 _ =>?_
  exact last m k' H2 (by omega) (by omega) (ext_of (o1.trans' o2)) s2
 by_cases c50:50<=w
 ·have c50':(50:Int)<=w:=by omega
  have hq50:=hq50 c50
  have g1:a+1<=a+q*1/\a+q*1+1<e:=by omega
  have g2:a+1<=a+q*2/\a+q*2+1<e:=by omega
  have g3:a+1<=a+q*3/\a+q*3+1<e:=by omega
  generalize hx:a+q*1=x at *
  generalize hy:a+q*2=y at *
  generalize hz:a+q*3=z at *
  generalize q*1=q1 at *
  generalize q*2=q2 at *
  generalize q*3=q3 at *
  simp [F.f79,a1,a2,m1,m2,m3,p1,p2,p3,c8,c50']
  refine S.f82 hE hg1 hn hsz x (by omega) (by omega) H.next 0 hs1 (by omega) hsb fun r1 k1 H1 e1 o1 s1 l1 =>?_
  refine S.f82 hE (keep o1) hn hsz y (by omega) (by omega) H.next k1 s1 (by omega) hsb fun r2 k2 H2 e2 o2 s2 l2 =>?_
  refine S.f82 hE (keep (o1.trans' o2)) hn hsz z (by omega) (by omega) H.next k2 s2 (by omega) hsb fun r3 k3 H3 e3 o3 s3 l3 =>?_
  exact last2 r1 r2 r3 k3 H3 (by omega) (by omega) (by omega) (by omega) (by omega) (by omega) ((o1.trans' o2).trans' o3) s3 (by omega)
 ·have c50':¬ (50:Int)<=w:=by omega
  have g1:a+q*1<e:=by omega
  have g2:a+q*2<e:=by omega
  have g3:a+q*3<e:=by omega
  have g0:a<=a+q*1/\a<=a+q*2/\a<=a+q*3:=by omega
  generalize hx:a+q*1=x at *
  generalize hy:a+q*2=y at *
  generalize hz:a+q*3=z at *
  generalize q*1=q1 at *
  generalize q*2=q2 at *
  generalize q*3=q3 at *
  simp [F.f79,a1,a2,m1,m2,m3,p1,p2,p3,c8,c50']
  exact last2 x y z 0 _ g0.1 g1 g0.2.1 g2 g0.2.2 g3 (Only.refl _ _) hs1 (by omega)
theorem S.f78 (hE:Fold E) (hg:H.get b=arrO str d tail f) (hn:d.size=n) (hsz:n<2 ^ 31) (a e:Nat) (hae:a+8<=e) (he:e<=n)
  (hQ:∀ d' H',PermIn a e d d'->SortTo H b str tail f d' H'->Q (.tuple #[]) H'):E.call (E.fid i.f78) [slc b 0 n c,vi a,vi e] H Q:=by
 apply hE.f78
 have a1:binInt .sub (vi e) (vi a)=some (vi ((e - a:Nat):Int)):=i64_sub_nat e a (by omega) (by omega)
 have hbl:=arr_lt hg
 generalize hw:e - a=w at *
 have a2:binInt .quo (vi (w:Int)) (.int .i64 4)=some (vi ((w / 4:Nat):Int)):=i64_quo_num w 4 (by decide) (by omega)
 have hq4:w / 4*4<=w:=Nat.div_mul_le_self _ _
 have hq4':2<=w / 4:=by omega
 generalize hq:w / 4=q at *
 have m2:binInt .mul (vi (q:Int)) (.int .i64 2)=some (vi ((q*2:Nat):Int)):=by rw [i64_mul (by omega) (by omega)]; congr 2
 have p2:=i64_add_nat a (q*2) (by omega)
 have p3:=i64_dec (a+q*2) (by omega) (by omega)
 have p4:=i64_succ (a+q*2) (by omega)
 have c8:(8:Int)<=w:=by omega
 have hc:convInt .u64 (vi (w:Int))=some (u64 (BitVec.ofNat 64 w)):=by rw [i64_to_u64,BitVec.ofInt_natCast]
 have hm2:2 ^ bitsLen w<=2*w:=two_pow_bitsLen_le (by omega)
 have hm1:=Nat.two_pow_pos (bitsLen w)
 generalize hM:2 ^ bitsLen w=M at *
 have gx:a+1<=a+q*2/\a+q*2+1<e:=by omega
 generalize hx:a+q*2=x at *
 generalize q*2=q2 at *
 have x1:Ext H (H.new (.cells [u64 (BitVec.ofNat 64 w)] none)):=(Ext.refl H).new _
 simp [F.f78,a1,a2,m2,p2,p3,c8,hc]
 refine S.f84 hE w (by omega) ?_
 rw [hM]
 simp [a2,m2,p2,p3]
 refine LoopL.ind (fun m l H'=>∃ (j:Nat) (d1:Array (List UInt8)) (y:BitVec 64),l=[slc b 0 n c,vi a,vi w,ptr H.next 0,u64 (BitVec.ofNat 64 M),vi j]/\SortTo H b str tail f d1 H'/\d1.size=n/\PermIn a e d d1/\H'.get H.next = .cells [u64 y] none/\a<=j/\j<=x+2/\m=x+2 - j) ?_ (x+2 - (x - 1))
  ⟨x - 1,d,_,by simp,⟨x1.only,by rw [AH.get_new_lt _ _ hbl]; exact hg⟩,hn,permIn_refl _ _ _,AH.get_new_self _ _,by omega,by omega,rfl⟩
 rintro m _ H1 X hX ⟨j,d1,y,rfl,s1,n1,pp,hb1,hj1,hj2,rfl⟩
 by_cases cj:j<=x+1
 ·have cj':(j:Int)<=((x+1:Nat):Int):=by omega
  have pj:=i64_succ j (by omega)
  have fin:∀ (o:Nat) (y':BitVec 64),o<w->F.f78_j1 E Q X (slc b 0 n c) (vi a) (vi w) (ptr H.next 0) (u64 (BitVec.ofNat 64 M)) (vi j) (vi o) (H1.put H.next (.cells [u64 y'] none)):=by
   intro o y' ho
   have hnb:b≠H.next:=by omega
   have s2:SortTo H b str tail f d1 (H1.put H.next (.cells [u64 y'] none)):=⟨s1.only.put (.inr (Nat.le_refl _)) _,by rw [AH.get_put_ne _ _ hnb]; exact s1.get⟩
   have pa:=i64_add_nat a o (by omega)
   have f1:=arr_ix (b:=b) (c:=c) (n:=n) (i:=j) (by omega)
   have f2:=arr_ix (b:=b) (c:=c) (n:=n) (i:=a+o) (by omega)
   have g1:=arr_load s2.get (i:=j) (by omega)
   have g2:=arr_load s2.get (i:=a+o) (by omega)
   obtain ⟨w1,w2⟩:=arr_swap enc_string_plain s2.get (i:=j) (j:=a+o) (by omega) (by omega)
   have hpp:=swp_permIn d1 a e j (a+o) hj1 (by omega) (by omega) (by omega) (by omega)
   have hX:=hX (x+2 - (j+1)) (by omega) [slc b 0 n c,vi a,vi w,ptr H.next 0,u64 (BitVec.ofNat 64 M),vi ((j+1:Nat):Int)] _ ⟨j+1,_,y',rfl,s2.put (swp d1 j (a+o)),by rw [size_swp]; exact n1,permIn_trans _ _ _ _ _ pp hpp,by rw [AH.get_put_ne _ _ (Ne.symm hnb),AH.get_put_self _ _ (AH.lt_cells hb1)],by omega,by omega,rfl⟩
   generalize a+o=ao at *
   generalize hj'':j+1=j' at *
   simp [-store1_ptr,-load1_ptr,F.f78_j1,pa,f1,f2,g1,g2,w1,w2,pj]
   exact hX
  generalize hx1:x+1=x' at *
  simp [F.f78_l1,a2,m2,p2,p4,cj']
  refine S.f92 hE H.next y hb1 fun y' =>?_
  have l1:(.int .u64 1:Value)=u64 1#64:=rfl
  have hsub:BitVec.ofNat 64 M - 1#64=BitVec.ofNat 64 (M - 1):=by
   apply BitVec.eq_of_toNat_eq
   rw [BitVec.toNat_sub,BitVec.toNat_ofNat,BitVec.toNat_ofNat,BitVec.toNat_ofNat]
   omega
  have hand:(y'&&&BitVec.ofNat 64 (M - 1)).toNat<=M - 1:=by
   rw [BitVec.toNat_and]
   refine Nat.le_trans Nat.and_le_right ?_
   rw [BitVec.toNat_ofNat]
   exact Nat.mod_le _ _
  have hcv:∀ z:BitVec 64,z.toNat<2 ^ 62->convInt .i64 (u64 z)=some (vi (z.toNat:Int)):=by
   intro z hz
   rw [u64_def,convInt_int,wrap_i64 (by omega) (by omega)]
  have hcv':=hcv _ (by omega:(y'&&&BitVec.ofNat 64 (M - 1)).toNat<2 ^ 62)
  simp only [l1,u64_sub,hsub,u64_and,hcv',tk_eq,opt_some,i64_geq,nth_0,nth_1,nth_2,nth_3,nth_4,nth_5]
  generalize (y'&&&BitVec.ofNat 64 (M - 1)).toNat=o at *
  by_cases co:w<=o
  ·have co':(w:Int)<=o:=by omega
   have hs:binInt .sub (vi (o:Int)) (vi (w:Int))=some (vi ((o - w:Nat):Int)):=i64_sub_nat o w co (by omega)
   simp only [co',decide_true,ifB_true,hs,tk_eq,opt_some,nth_0,nth_1,nth_2,nth_3,nth_4,nth_5]
   exact fin (o - w) y' (by omega)
  ·have co':¬ (w:Int)<=o:=by omega
   simp only [co',decide_false,ifB_false,nth_0,nth_1,nth_2,nth_3,nth_4,nth_5]
   exact fin o y' (by omega)
 ·have cj':¬ (j:Int)<=((x+1:Nat):Int):=by omega
  generalize hx1:x+1=x' at *
  simp [F.f78_l1,a2,m2,p2,p4,cj']
  exact hQ d1 H1 pp s1
theorem S.f89 (hE:Fold E) (hS:SWO Op.bytesLess):∀ (w:Nat) {H:AH} {Q:Value->AH->Prop} {d:Array (List UInt8)} (_:H.get b=arrO str d tail f) (_:d.size=n) (_:n<2 ^ 31) (a e:Nat) (_:a<=e) (_:e<=n) (limit:Nat) (_:limit<2 ^ 60) (_:Go.Sort.Below Op.bytesLess a e d) (_:e - a<=w)
    (_:∀ d' H',PermIn a e d d'->SortedIn Op.bytesLess a e d'->SortTo H b str tail f d' H'->Q (.tuple #[]) H'),E.call (E.fid i.f89) [slc b 0 n c,vi a,vi e,vi limit] H Q:=by
  intro w
  induction w using Nat.strongRecOn with
  | _ w ih =>
  intro H Q d hg hn hsz a0 e0 hae0 he0 limit0 hlim0 hB0 hw hQ
  apply hE.f89
  simp only [F.f89]
  refine LoopL.ind (fun m l H'=>∃ (a e limit:Nat) (wb wp:Bool) (d1:Array (List UInt8)),l=[slc b 0 n c,vi a,vi e,vi limit,vb wb,vb wp]/\SortTo H b str tail f d1 H'/\d1.size=n/\a<=e/\e<=n/\limit<2 ^ 60/\e - a<=w/\Go.Sort.Below Op.bytesLess a e d1 /\
      (∀ R,PermIn a e d1 R->SortedIn Op.bytesLess a e R->PermIn a0 e0 d R/\SortedIn Op.bytesLess a0 e0 R)/\m=e - a) ?_ (e0 - a0) ⟨a0,e0,limit0,true,true,d,rfl,.refl hg,hn,hae0,he0,hlim0,hw,hB0,fun R h1 h2=>⟨h1,h2⟩,rfl⟩
  rintro m _ H1 X hX ⟨a,e,limit,wb,wp,d1,rfl,s1,n1,hae,hen,hlim,hwe,hB,fin,rfl⟩
  have a1:binInt .sub (vi e) (vi a)=some (vi ((e - a:Nat):Int)):=i64_sub_nat e a (by omega) (by omega)
  by_cases c12:e - a<=12
  · have c12':((e - a:Nat):Int)<=12:=by omega
    generalize hW:e - a=W at *
    simp [F.f89_l1,a1,c12']
    refine S.f81 hE s1.get n1 (by omega) a e hae hen fun H2 s2 =>?_
    obtain ⟨h1,h2⟩:=insertionSort_holds hS d1 a e hae (by omega)
    obtain ⟨h3,h4⟩:=fin _ h1 h2
    exact hQ _ _ h3 h4 (s1.trans s2)
  have c12':¬ ((e - a:Nat):Int)<=12:=by omega
  by_cases c0:limit=0
  · subst c0
    generalize hW:e - a=W at *
    simp [F.f89_l1,a1,c12']
    refine S.f80 hE s1.get n1 (by omega) a e (by omega) hen fun H2 s2 =>?_
    obtain ⟨h1,h2⟩:=heapSort_holds hS d1 a e hae (by omega)
    obtain ⟨h3,h4⟩:=fin _ h1 h2
    exact hQ _ _ h3 h4 (s1.trans s2)
  have c0':¬ (limit:Int)=0:=by omega
  have w8:binInt .quo (vi ((e - a:Nat):Int)) (.int .i64 8)=some (vi (((e - a) / 8:Nat):Int)):=i64_quo_num (e - a) 8 (by decide) (by omega)
  have j3:∀ (d3:Array (List UInt8)) H3 (lim:Nat) (wb wp:Bool) (pv:Nat),SortTo H b str tail f d3 H3->d3.size=n->PermIn a e d1 d3->lim<2 ^ 60->a<=pv->pv<e->F.f89_j3 E Q X (slc b 0 n c) (vi a) (vi e) (vi lim) (vb wb) (vb wp) (vi ((e - a:Nat):Int)) (vi pv) H3:=by
    intro d3 H3 lim wb wp pv s3 n3 p3 hlim hp1 hp2
    have B3:Go.Sort.Below Op.bytesLess a e d3:=hB.permA permIn_all (by omega) p3
    have fin3:∀ R,PermIn a e d3 R->SortedIn Op.bytesLess a e R->PermIn a0 e0 d R/\SortedIn Op.bytesLess a0 e0 R:=fun R h1 h2=>fin R (permIn_trans _ _ _ _ _ p3 h1) h2
    have part:∀ (K:Value->AH->Prop),(K=fun v15 H13 =>
         opt (ext v15 0) fun v16 =>
         opt (ext v15 1) fun v17 =>
         opt (binInt .sub v16 (vi a)) fun v18 =>
         opt (binInt .sub (vi e) v16) fun v19 =>
         opt (binInt .quo (vi ((e - a:Nat):Int)) (.int .i64 8)) fun v20 =>
         opt (binInt .lss v18 v19) fun v21 =>
         ifB v21 (
         opt (binInt .geq v18 v20) fun v22 =>
         E.call (E.fid i.f89) [slc b 0 n c,vi a,v16,vi lim] H13 fun v23 H14 =>
         opt (binInt .add v16 (.int .i64 1)) fun v24 =>
         X [slc b 0 n c,v24,vi e,vi lim,v22,v17] H14) (
         opt (binInt .geq v19 v20) fun v25 =>
         opt (binInt .add v16 (.int .i64 1)) fun v26 =>
         E.call (E.fid i.f89) [slc b 0 n c,v26,vi e,vi lim] H13 fun v27 H15 =>
         X [slc b 0 n c,vi a,v16,vi lim,v25,v17] H15))->E.call (E.fid i.f88) [slc b 0 n c,vi a,vi e,vi pv] H3 K:=by
      rintro K rfl
      refine S.f88 hE s3.get n3 (by omega) a e pv hp1 hp2 hen fun H4 s4 =>?_
      rcases hx:partition Op.bytesLess d3 a e pv with ⟨mid,ap,d4⟩
      rw [hx] at s4
      obtain ⟨g1,g2,hs4,hBa,hBr,hl,hr⟩:=round_part hS (partition_holds Op.bytesLess) hp1 hp2 (by omega) B3 hx
      have n4:d4.size=n:=by omega
      have s4':=s3.trans s4
      have b1:binInt .sub (vi mid) (vi a)=some (vi ((mid - a:Nat):Int)):=i64_sub_nat mid a g1 (by omega)
      have b2:binInt .sub (vi e) (vi mid)=some (vi ((e - mid:Nat):Int)):=i64_sub_nat e mid (by omega) (by omega)
      have b3:=i64_succ mid (by omega)
      simp only [tk_eq,ext_tuple,List.getElem?_cons_zero,List.getElem?_cons_succ,opt_some,b1,b2,b3,w8,i64_lss,i64_geq]
      by_cases cl:mid - a<e - mid
      · have cl':((mid - a:Nat):Int)<((e - mid:Nat):Int):=by omega
        simp only [cl',decide_true,tk_eq,ifB_true,i64_geq,opt_some]
        refine ih (mid - a) (by omega) s4'.get n4 hsz a mid g1 (by omega) lim hlim hBa (Nat.le_refl _) fun d5 H5 p5 q5 s5 =>?_
        obtain ⟨hBL,hfin⟩:=hl d5 p5 q5
        have n5:d5.size=n:=by rw [p5.1]; exact n4
        simp only [b3,tk_eq,opt_some]
        exact hX (e - (mid+1)) (by omega) _ _ ⟨mid+1,e,lim,_,ap,d5,rfl,s4'.trans s5,n5,by omega,hen,hlim,by omega,hBL,fun R h1 h2=>by
          obtain ⟨h3,h4⟩:=hfin R h1 h2
          exact fin3 R h3 h4,rfl⟩
      · have cl':¬ ((mid - a:Nat):Int)<((e - mid:Nat):Int):=by omega
        simp only [cl',decide_false,tk_eq,ifB_false,i64_geq,opt_some,b3]
        refine ih (e - (mid+1)) (by omega) s4'.get n4 hsz (mid+1) e (by omega) hen lim hlim hBr (Nat.le_refl _) fun d5 H5 p5 q5 s5 =>?_
        obtain ⟨hBL,hfin⟩:=hr d5 p5 q5
        have n5:d5.size=n:=by rw [p5.1]; exact n4
        exact hX (mid - a) (by omega) _ _ ⟨a,mid,lim,_,ap,d5,rfl,s4'.trans s5,n5,g1,by omega,hlim,by omega,hBL,fun R h1 h2=>by
          obtain ⟨h3,h4⟩:=hfin R h1 h2
          exact fin3 R h3 h4,rfl⟩
    by_cases ca:0<a
    · have ca':(0:Int)<a:=by omega
      have b1:=i64_dec a (by omega) (by omega)
      have f1:=arr_ix (b:=b) (c:=c) (n:=n) (i:=a - 1) (by omega)
      have f2:=arr_ix (b:=b) (c:=c) (n:=n) (i:=pv) (by omega)
      have g1:=arr_load s3.get (i:=a - 1) (by omega)
      have g2:=arr_load s3.get (i:=pv) (by omega)
      have part:=part _ rfl
      by_cases hl:Op.bytesLess d3[a - 1]! d3[pv]! = true
      · generalize hW:e - a=W at *
        generalize hA:a - 1=a1 at *
        simp [-store1_ptr,-load1_ptr,F.f89_j3,ca',ca,b1,f1,f2,g1,g2]
        refine S.f0 hE _ _ ?_
        simp only [hl]
        simp only [un_not_z,Bool.not_true,tk_eq,opt_some,gd_tt,pick_true_z,ifB_false]
        exact part
      · have hl:Op.bytesLess d3[a - 1]! d3[pv]! = false:=by simpa using hl
        clear part
        rcases hx:partitionEqual Op.bytesLess d3 a e pv with ⟨mid,d4⟩
        obtain ⟨g3,g4,hs4,hB4,hfin⟩:=round_eq hS (partitionEqual_holds Op.bytesLess) ca hp1 hp2 (by omega) B3 hl hx
        have hY:=fun H4 s4=>hX (e - mid) (by omega) [slc b 0 n c,vi mid,vi e,vi lim,vb wb,vb wp] H4 ⟨mid,e,lim,wb,wp,d4,rfl,s4,by omega,g4,hen,hlim,by omega,hB4,fun R h1 h2=>by
            obtain ⟨h3,h4⟩:=hfin R h1 h2
            exact fin3 R h3 h4,rfl⟩
        generalize hW:e - a=W at *
        generalize hA:a - 1=a1 at *
        simp [-store1_ptr,-load1_ptr,F.f89_j3,ca',ca,b1,f1,f2,g1,g2]
        refine S.f0 hE _ _ ?_
        simp [hl]
        refine S.f87 hE s3.get n3 (by omega) a e pv hp1 hp2 hen fun H4 s4 =>?_
        rw [hx] at s4 ⊢
        exact hY H4 (s3.trans s4)
    · have ca':¬ (0:Int)<a:=by omega
      have part:=part _ rfl
      generalize hW:e - a=W at *
      simp only [F.f89_j3,i64_gtr,ca',decide_false,tk_eq,opt_some,gd_ft,pick_false_z,ifB_false]
      exact part
  have j2:∀ (d3:Array (List UInt8)) H3 (lim:Nat) (wb wp:Bool) (pv:Nat) (hint:Int),SortTo H b str tail f d3 H3->d3.size=n->PermIn a e d1 d3->lim<2 ^ 60->a<=pv->pv<e->F.f89_j2 E Q X (slc b 0 n c) (vi a) (vi e) (vi lim) (vb wb) (vb wp) (vi ((e - a:Nat):Int)) (vi pv) (vi hint) H3:=by
    intro d3 H3 lim wb wp pv hint s3 n3 p3 hlim hp1 hp2
    have B3:Go.Sort.Below Op.bytesLess a e d3:=hB.permA permIn_all (by omega) p3
    have h3:=j3 d3 H3 lim wb wp pv s3 n3 p3 hlim hp1 hp2
    have try_:E.call (E.fid i.f86) [slc b 0 n c,vi a,vi e] H3 fun v6 H4=>ifB v6 (Q (.tuple #[]) H4) (F.f89_j3 E Q X (slc b 0 n c) (vi a) (vi e) (vi lim) (vb wb) (vb wp) (vi ((e - a:Nat):Int)) (vi pv) H4):=by
      refine S.f86 hE s3.get n3 (by omega) a e (by omega) hen fun H4 s4 =>?_
      obtain ⟨q1,q2⟩:=partialInsertionSort_holds hS d3 a e (by omega) (by omega) B3
      cases hb:(partialInsertionSort Op.bytesLess d3 a e).2 with
      | true =>
        obtain ⟨h5,h6⟩:=fin _ (permIn_trans _ _ _ _ _ p3 q1) (q2 hb)
        simp only [ifB_true]
        exact hQ _ _ h5 h6 (s3.trans s4)
      | false =>
        simp only [ifB_false]
        exact j3 _ H4 lim wb wp pv (s3.trans s4) (by rw [q1.1]; exact n3) (permIn_trans _ _ _ _ _ p3 q1) hlim hp1 hp2
    cases wb with
    | false =>
      simp only [F.f89_j2,gd_ft,pick_false_z,tk_eq,opt_some,ifB_false]
      exact h3
    | true =>
      cases wp with
      | false =>
        simp only [F.f89_j2,gd_tt,gd_ft,pick_true_z,pick_false_z,tk_eq,opt_some,ifB_false]
        exact h3
      | true =>
        by_cases ch:hint=1
        · simp only [F.f89_j2,gd_tt,pick_true_z,tk_eq,opt_some,i64_eql,ch,decide_true,ifB_true]
          exact try_
        · simp only [F.f89_j2,gd_tt,pick_true_z,tk_eq,opt_some,i64_eql,ch,decide_false,ifB_false]
          exact h3
  have j1:∀ (d3:Array (List UInt8)) H3 (lim:Nat) (wb wp:Bool),SortTo H b str tail f d3 H3->d3.size=n->PermIn a e d1 d3->lim<2 ^ 60->F.f89_j1 E Q X (slc b 0 n c) (vi a) (vi e) (vi lim) (vb wb) (vb wp) (vi ((e - a:Nat):Int)) H3:=by
    intro d3 H3 lim wb wp s3 n3 p3 hlim
    simp only [F.f89_j1]
    refine S.f79 hE s3.get n3 (by omega) a e (by omega) hen fun pv hint H4 hp1 hp2 e4 =>?_
    have s4:=s3.ext e4
    simp only [tk_eq,ext_tuple,List.getElem?_cons_zero,List.getElem?_cons_succ,opt_some,i64_eql]
    by_cases ch:hint=2
    · simp only [ch,decide_true,ifB_true]
      refine S.f90 hE s4.get n3 (by omega) a e (by omega) hen fun H5 s5 =>?_
      have q1:=reverseRange_holds d3 a e hae (by omega)
      have b1:=i64_dec e (by omega) (by omega)
      have b2:binInt .sub (vi pv) (vi a)=some (vi ((pv - a:Nat):Int)):=i64_sub_nat pv a hp1 (by omega)
      have b3:binInt .sub (vi ((e - 1:Nat):Int)) (vi ((pv - a:Nat):Int))=some (vi ((e - 1 - (pv - a):Nat):Int)):=i64_sub_nat (e - 1) (pv - a) (by omega) (by omega)
      simp only [b1,b2,b3,tk_eq,opt_some]
      exact j2 _ H5 lim wb wp _ 1 (s4.trans s5) (by rw [q1.1]; exact n3) (permIn_trans _ _ _ _ _ p3 q1) hlim (by omega) (by omega)
    · simp only [ch,decide_false,ifB_false]
      exact j2 d3 H4 lim wb wp pv hint s4 n3 p3 hlim hp1 hp2
  cases wb with
  | true =>
    have:=j1 d1 H1 limit true wp s1 n1 (permIn_refl _ _ _) hlim
    generalize hW:e - a=W at *
    simp only [F.f89_l1,nth_0,nth_1,nth_2,nth_3,nth_4,nth_5,a1,c12',c0',i64_leq,i64_eql,decide_false,un_not_z,Bool.not_true,tk_eq,opt_some,ifB_false]
    exact this
  | false =>
    have b1:=i64_dec limit (by omega) (by omega)
    have go:=fun d' H' p' s'=>j1 d' H' (limit - 1) false wp s' (by rw [(p':PermIn a e d1 d').1]; exact n1) p' (by omega)
    generalize hW:e - a=W at *
    simp only [F.f89_l1,nth_0,nth_1,nth_2,nth_3,nth_4,nth_5,a1,c12',c0',i64_leq,i64_eql,decide_false,un_not_z,Bool.not_false,tk_eq,opt_some,ifB_false,ifB_true]
    refine S.f78 hE s1.get n1 hsz a e (by omega) hen fun d' H' p' s' =>?_
    simp only [b1,tk_eq,opt_some]
    exact go d' H' p' (s1.trans s')
theorem S.f77 (hE:Fold E) (hS:SWO Op.bytesLess) (hg:H.get b=arrO str d tail f) (hn:d.size=n) (hsz:n<2 ^ 31)
  (hQ:∀ d' H',PermIn 0 n d d'->SortedIn Op.bytesLess 0 n d'->SortTo H b str tail f d' H'->Q (.tuple #[]) H'):E.call (E.fid i.f77) [slc b 0 n c] H Q:=by
 apply hE.f77
 have e1:(BitVec.ofNat 64 n).toNat=n:=by rw [BitVec.toNat_ofNat,Nat.mod_eq_of_lt (by omega)]
 have hc:convInt .u64 (vi (n:Int))=some (u64 (BitVec.ofNat 64 n)):=by rw [i64_to_u64,BitVec.ofInt_natCast]
 simp only [F.f77,lenSlc_slc_z,hc,tk_eq,opt_some]
 refine S.f30 hE _ (by rw [e1]; omega) ?_
 rw [e1]
 have hl:bitsLen n<=31:=by rw [bitsLen_le_iff]; exact hsz
 exact S.f89 hE hS n hg hn hsz 0 n (Nat.zero_le _) (Nat.le_refl _) _ (by omega) (.inl rfl) (by omega) hQ
theorem S.slices_Sort_string_nil (hE:Fold E) (a:Option Addr) (hQ:Q (.tuple #[]) H):E.call (E.fid i.f77) [.slice a 0 0] H Q:=by
 apply hE.f77
 have hc:convInt .u64 (vi 0)=some (u64 0#64):=by rw [i64_to_u64]; rfl
 have hd:binInt .sub (vi 0) (vi 0)=some (vi 0):=i64_sub (by decide) (by decide)
 simp [F.f77,hc]
 refine S.f30 hE _ (by decide) ?_
 apply hE.f89
 simp only [F.f89]
 refine LoopL.step fun X _ =>?_
 simp [F.f89_l1,hd]
 apply hE.f81
 have ha:binInt .add (vi 0) (vi 1)=some (vi 1):=i64_add (by decide) (by decide)
 simp [F.f81,ha]
 refine LoopL.step fun X _ =>?_
 simp [F.f81_l1]
 exact hQ
end
end Go.AM
end
section
namespace Go.AM
open Go.Sort (SWO PermIn SortedIn)
theorem sort_unique {α:Type} [Inhabited α] {lt:α->α->Bool} (hS:SWO lt) (htri:∀ a b,lt a b=false->lt b a=false->a=b) {n:Nat} {d d':Array α} (hn:d.size=n) (hp:PermIn 0 n d d') (hs:SortedIn lt 0 n d') {L:List α} (hL:d.toList.Perm L)
  (hR:L.Pairwise fun a b=>lt a b=true):d'.toList=L:=by
 have hsz:d'.size=n:=hp.1.trans hn
 have e1:(d'.extract 0 n).toList=d'.toList:=by rw [<- hsz]; simp
 have e2:(d.extract 0 n).toList=d.toList:=by rw [<- hn]; simp
 have hpp:=hp.2.2
 rw [e1,e2] at hpp
 refine List.Perm.eq_of_pairwise (le:=fun a b=>lt b a=false) (fun a b _ _ h1 h2=>htri a b h2 h1) ?_ ?_ (hpp.trans hL)
 ·rw [List.pairwise_iff_getElem]
  intro i j hi hj hij
  have:=hs i j (Nat.zero_le _) hij (by rw [<- hsz]; simpa using hj)
  have hi':i<d'.size:=by simpa using hi
  have hj':j<d'.size:=by simpa using hj
  simpa [hi',hj'] using this
 ·refine hR.imp fun {a b} hab =>?_
  cases hba:lt b a with
  | false=>rfl
  | true =>
   have:=hS.trans a b a hab hba
   rw [hS.irrefl] at this
   simp at this
theorem Grow.arr {α:Type} [Inhabited α] {enc:α->Value} (hp:∀ x,plain1 (enc x)=true) {H:AH} {v:Value} {xs:List α} (g:Grow zH H 1 v (xs.map fun x=>[enc x])) (hne:xs≠[]) :
  ∃ b f c tail,v=slc b 0 xs.length c/\H.get b=arrO enc xs.toArray tail f/\∀ (ys:List α) (H':AH),ys.length=xs.length->H'.get b=arrO enc ys.toArray tail f->Grow zH H' 1 v (ys.map fun x=>[enc x]):=by
 have fl:∀ l:List α,(l.map fun x=>[enc x]).flatten=l.map enc:=by
  intro l
  induction l with
  | nil=>rfl
  | cons a l ih=>simp [ih]
 rcases g.2 with ⟨h,_⟩ | ⟨b,f,c,cs,g1,rfl,g3,g4,g5,g6,g7⟩
 ·exact (hne (by simpa using h)).elim
 ·rw [fl,Nat.mul_one] at g6
  simp only [List.length_map] at g4 g6 ⊢
  have hcs:cs=xs.map enc++cs.drop xs.length:=by rw [<- g6,List.take_append_drop]
  refine ⟨b,f,c,cs.drop xs.length,rfl,?_,fun ys H' hl hg =>?_⟩
  ·rw [g3,arrO]; congr 1
  ·refine ⟨fun r hr =>?_,.inr ⟨b,f,c,ys.map enc++cs.drop xs.length,g1,by simp [hl],hg,by simpa [hl] using g4,?_,?_,g7⟩⟩
   ·obtain ⟨x,_,rfl⟩:=List.mem_map.1 hr
    exact ⟨rfl,by simp [hp]⟩
   ·have:cs.length=(xs.map enc++cs.drop xs.length).length:=congrArg List.length hcs
    simp at this
    simp [hl]; omega
   ·rw [fl]
    simp [hl]
theorem name_htri (a b:NameL) (h:Op.bytesLess a b=false) (h':Op.bytesLess b a=false):a=b:=by
 rw [bytesLess_dec] at h h'
 exact name_tri (by simpa using h) (by simpa using h')
def strR (l:List NameL):List (List Value):=l.map fun s=>[str s]
theorem strR_length (l:List NameL):(strR l).length=l.length:=by simp [strR]
def Tr.entries (T:Tr) (n:BitVec 16):List NameL:=if T.dir n=0 then (T.node n).ents.map Prod.fst else []
section
variable {E:Sy} {H H' H'':AH} {Q:Value->AH->Prop} {p m:Nat} {L L' L'':LyL} {T T' T'':Tr}
theorem S.f8 (hE:Fold E) (h:Ino H p m L T) (n:BitVec 16) (hr:Rising (T.node n).ents) (hsz:(T.node n).ents.length<2 ^ 30)
  (hQ:∀ v H',Ext H H'->Grow zH H' 1 v (strR (T.entries n))->FreshV H.next v->Q (.tuple #[v,vi (T.dir n)]) H'):E.call (E.fid i.f8) [ptr p 0,u16 n] H Q:=by
 apply hE.f8
 simp only [F.f8]
 refine S.f17 hE h n ?_
 by_cases hd:T.dir n=0
 rotate_left
 ·simp only [ext_tuple,List.getElem?_cons_zero,List.getElem?_cons_succ,i64_neq,hd,ne_eq,not_false_eq_true,decide_true,tk_eq,opt_some,ifB_true]
  refine hQ nilS H (Ext.refl H) ?_ fun b hb=>by simp [blk] at hb
  rw [Tr.entries,if_neg hd]
  exact Grow.nil _ _ _
 rcases h.get n with ⟨q1,_⟩ | ⟨k,y,q1,q2,q3,q4,q5⟩
 ·have:=Tr.dir_zero.1 hd
  rw [q1] at this; simp at this
 obtain ⟨r,hnm⟩:=q5.dir (Tr.dir_zero.1 hd)
 have hm:=nodeR.names (h.node q2) hnm
 obtain ⟨o,o1,o2⟩:=IterAt.start hm
 have x1:Ext H (H.new o):=(Ext.refl H).new o
 simp only [ext_tuple,List.getElem?_cons_zero,List.getElem?_cons_succ,i64_neq,hd,ne_eq,not_true,decide_false,if_true,nodeP_some h.cov.nd q2,nilCk_p,addOff_ptr,load1_ptr,q4,inC,cell_cells_z,Nat.zero_add,hnm,o1,mk_some,mkPtr_eq,tk_eq,opt_some,ifB_false]
 have hlen:y.ord.length=(T.node n).ents.length:=q5.perm.length_eq
 refine LoopL.ind (fun j l H'=>Ext H H'/\∃ done v,l=[v,ptr H.next 0]/\IterAt str u16 H' H.next r y.ord done/\Grow zH H' 1 v (strR (done.map Prod.fst))/\FreshV (H.next+1) v/\(done=[]->v=nilS)/\j+done.length=y.ord.length) ?_ y.ord.length ⟨x1,[],nilS,rfl,o2,Grow.nil _ _ _,fun b hb=>by simp [blk] at hb,fun _=>rfl,by simp⟩
 rintro j _ H' X hX ⟨e1,done,v,rfl,it,g,fv,hnil,hj⟩
 simp only [F.f8_l1,nth_0,nth_1]
 refine IterAt.next it (fun e ob he hnd it' hen =>?_) fun hp =>?_
 ·have hput:Ext H (H'.put H.next ob):=e1.put (Nat.le_refl _) ob
  have hd1:done.length+1<=y.ord.length:=by
   have:=nodup_le (done++[e]) y.ord it'.nodup.1 it'.nodup.2
   simpa using this
  have g':Grow zH (H'.put H.next ob) 1 v (strR (done.map Prod.fst)):=g.keep fun b hb _=>AH.get_put_ne _ _ (by have:=fv b hb; omega)
  have hb1:buildS 1 1 #[(.string ⟨#[]⟩)] [(0,str e.1)]=some (.cells [str e.1] none,mkSlc 1 1):=buildS_one 1 [str []] [str e.1] rfl rfl
  obtain ⟨v',H2,a1,a2,a3⟩:=g'.app1 (Nat.zero_le _) (bytes:=16) [str e.1] rfl rfl (by decide) (by decide) (by rw [strR_length,List.length_map]; omega)
  have hlt1:=it'.map.lt
  have hlt2:=it'.lt
  have hrb:H2.get r=(H'.put H.next ob).get r:=a3.1.get hlt1 fun hb=>by
   have:=fv r (mem_blkL.1 hb)
   have:=hm.lt
   omega
  have hib:H2.get H.next=(H'.put H.next ob).get H.next:=a3.1.get hlt2 fun hb=>by
   have:=fv H.next (mem_blkL.1 hb)
   omega
  simp only [ext_tuple,List.getElem?_cons_zero,List.getElem?_cons_succ,hen,hb1,mk_some,mkSlc_eq,a1,opt2_some,tk_eq,opt_some,ifB_true]
  refine hX (j - 1) (by omega) _ _ ⟨?_,done++[e],v',rfl,it'.keep hrb hib,?_,?_,fun h=>by simp at h,?_⟩
  ·refine a3.1.ext hput fun b hb =>?_
   have:=fv b (mem_blkL.1 hb)
   omega
  ·have:strR ((done++[e]).map Prod.fst)=strR (done.map Prod.fst)++[[str e.1]]:=by simp [strR]
   rw [this]; exact a2
  ·intro b hb
   have hp1:(H'.put H.next ob).next=H'.next:=rfl
   rcases a3.2 b hb with h1 | h1
   ·exact fv b h1
   ·have:=it.lt
    omega
  ·simp; omega
 ·have hperm:(done.map Prod.fst).Perm ((T.node n).ents.map Prod.fst):=(hp.trans q5.perm).map _
  have hents:T.entries n=(T.node n).ents.map Prod.fst:=by rw [Tr.entries,if_pos hd]
  have hrise:((T.node n).ents.map Prod.fst).Pairwise fun a b=>Op.bytesLess a b=true:=by
   rw [List.pairwise_map]
   exact hr.imp fun {a b} hab=>by rw [bytesLess_dec]; simpa using hab
  simp only [ext_tuple,List.getElem?_cons_zero,tk_eq,opt_some,ifB_false]
  by_cases hne:done.map Prod.fst=[]
  ·have hd0:done=[]:=by simpa using hne
   have he:(T.node n).ents=[]:=by
    have:=hperm.length_eq
    rw [hd0] at this
    exact List.eq_nil_of_length_eq_zero (by simpa using this.symm)
   rw [hnil hd0]
   refine S.slices_Sort_string_nil hE none ?_
   rw [hd] at hQ
   refine hQ nilS H' e1 ?_ fun b hb=>by simp [blk] at hb
   rw [hents,he]
   exact Grow.nil _ _ _
  ·obtain ⟨b,f,c,tail,rfl,ha,hb⟩:=Grow.arr (fun x=>rfl) g hne
   refine S.f77 hE swo_bytes ha (by simp) (by have:=hperm.length_eq; simp at this ⊢; omega) fun d' H2 hp2 hs2 st =>?_
   have hu:=sort_unique swo_bytes name_htri (n:=(done.map Prod.fst).length) (by simp) hp2 hs2 (L:=(T.node n).ents.map Prod.fst) hperm hrise
   rw [hd] at hQ
   refine hQ _ H2 ?_ ?_ fun x hx=>Nat.le_of_succ_le (fv x hx)
   ·exact st.only.ext e1 fun x hx=>by
     simp at hx; subst hx
     have:=fv x (by simp [blk])
     omega
   ·rw [hents,<- hu]
    refine hb d'.toList H2 ?_ st.get
    have:=hp2.1
    simpa using this
end
end Go.AM
end
section
namespace Go.AM
structure TwoX (X:List Res) (H0 H:AH) (p m:Nat) (L:LyL) (T:Tr) (t:Nat) (nv mv:Value) (nx:Int) (mr:List (List Value)) (Y:List RLy) (T2:Tr):Prop where
 ext:Ext H0 H
 ow:Ow (joinR (inoR p m L T :: refR t nv mv nx mr Y T2 :: X)) H
 own:∀ b∈(joinR (inoR p m L T :: refR t nv mv nx mr Y T2 :: X)).fp,H0.next<=b
 cov:Cov L T
 len:Y.length=T2.N.length
 fit:T2.N.length<=60000
section
variable {X:List Res} {E:Sy} {H0 H H' H'':AH} {Q:Value->AH->Prop} {p m:Nat} {L L' L'':LyL} {T T' T'' T2 T2':Tr} {t:Nat} {nv nv' mv:Value} {nx:Int} {mr:List (List Value)} {Y Y':List RLy}
theorem TwoX.ino (h:TwoX X H0 H p m L T t nv mv nx mr Y T2):Ino H p m L T:=⟨h.ow.part (k:=0) rfl,h.cov⟩
theorem TwoX.ref (h:TwoX X H0 H p m L T t nv mv nx mr Y T2):RefT H t nv mv nx mr Y T2:=⟨h.ow.part (k:=1) rfl,h.len,h.fit⟩
theorem TwoX.upd {r:Res} (h:TwoX X H0 H p m L T t nv mv nx mr Y T2) (u:Upd (joinR (inoR p m L T :: refR t nv mv nx mr Y T2 :: X)) r H H'):Ext H0 H'/\Ow r H'/\∀ b∈r.fp,H0.next<=b :=
 ⟨u.only.ext h.ext h.own,h.ow.upd u,fun b hb=>(u.fp b hb).1.elim (h.own b) fun k=>Nat.le_trans h.ext.1 k⟩
theorem TwoX.step1 (h:TwoX X H0 H p m L T t nv mv nx mr Y T2) (u:UpdI p m L T L' T' H H'):TwoX X H0 H' p m L' T' t nv mv nx mr Y T2:=by
 obtain ⟨q1,q2,q3⟩:=h.upd (h.ow.set (k:=0) rfl u.upd)
 exact ⟨q1,q2,q3,u.cov,h.len,h.fit⟩
theorem TwoX.step2 (h:TwoX X H0 H p m L T t nv mv nx mr Y T2) (u:UpdR t nv mv nx mr Y T2 nv' Y' T2' H H'):TwoX X H0 H' p m L T t nv' mv nx mr Y' T2':=by
 obtain ⟨q1,q2,q3⟩:=h.upd (h.ow.set (k:=1) rfl u.upd)
 exact ⟨q1,q2,q3,h.cov,u.len,u.fit⟩
theorem TwoX.mono (h:TwoX X H0 H p m L T t nv mv nx mr Y T2) (e:Ext H H'):TwoX X H0 H' p m L T t nv mv nx mr Y T2:=h.step1 (h.ino.same e)
theorem TwoX.box (h:TwoX X H0 H p m L T t nv mv nx mr Y T2) (c:List Value):TwoX (X++[boxR H.next c]) H0 (H.new (.cells c none)) p m L T t nv mv nx mr Y T2:=by
 obtain ⟨q1,q2,q3⟩:=h.upd (h.ow.add (boxR H.next c) ((Ext.refl H).new _) (AH.get_new_self _ _) (fun b hb=>by simp [boxR] at hb; subst hb; simp) (by simp [boxR]))
 exact ⟨q1,q2,q3,h.cov,h.len,h.fit⟩
theorem TwoX.held {k:Nat} {c:List Value} (h:TwoX (X++[boxR k c]) H0 H p m L T t nv mv nx mr Y T2):H.get k = .cells c none:=h.ow.holds (boxR k c) (by simp)
theorem TwoX.drop {r:Res} (h:TwoX (X++[r]) H0 H p m L T t nv mv nx mr Y T2):TwoX X H0 H p m L T t nv mv nx mr Y T2:=by
 have u:=h.ow.erase (X.length+2)
 have e:(inoR p m L T :: refR t nv mv nx mr Y T2 :: (X++[r])).eraseIdx (X.length+2)=inoR p m L T :: refR t nv mv nx mr Y T2 :: X:=by simp [List.eraseIdx_append]
 rw [e] at u
 obtain ⟨q1,q2,q3⟩:=h.upd u
 exact ⟨q1,q2,q3,h.cov,h.len,h.fit⟩
theorem Tr.WF.small (h:T.WF):T.small:=fun n=>by have:=h.size n; omega
theorem TwoX.cMake (hE:Fold E) (h:TwoX X H0 H p m L T t nv mv nx mr Y T2) (w:T.WF) (n:BitVec 16) (s:NameL) (hs:s.length<2 ^ 63) (k:BitVec 8) (text:List UInt8) (ht:text.length<2 ^ 63) (hc : -9223372036854775808<=T.change/\T.change<9223372036854775807)
  (hQ:∀ L' H',TwoX X H0 H' p m L' (T.make n s k text).1 t nv mv nx mr Y T2->Q (.tuple #[u16 (T.make n s k text).2.1,vi (T.make n s k text).2.2]) H'):E.call (E.fid i.f12) [ptr p 0,u16 n,str s,u8 k,str text] H Q:=by
 have hlen:=w.len16
 have hl2:=w.len.1
 exact S.f12 hE h.ino n s hs k text ht hc ⟨by omega,by omega⟩ (fun _ r=>w.chain ⟨(Tr.room_ok r).1,(Tr.room_ok r).2.2.1⟩ 17) fun L1 H1 _ u1=>hQ _ _ (h.step1 u1)
theorem TwoX.rMake (hE:Fold E) (h:TwoX X H0 H p m L T t nv mv nx mr Y T2) (w:T2.WF) (n:BitVec 16) (s:NameL) (hs:s.length<2 ^ 63) (k:BitVec 8) (text:List UInt8) (hc : -9223372036854775808<=T2.change/\T2.change<9223372036854775807)
  (hQ:∀ nv' Y' H',TwoX X H0 H' p m L T t nv' mv nx mr Y' (T2.make n s k text).1->Q (.tuple #[vi ((T2.make n s k text).2.1.toNat:Int),vi (T2.make n s k text).2.2]) H'):E.call (E.fid i.f61) [ptr t 0,vi (n.toNat:Int),str s,vi (k.toNat:Int),str text] H Q:=by
 have hlen:=w.len16
 have hl2:=w.len.1
 exact S.f61 hE h.ref w.small n s hs k text hc ⟨by omega,by omega⟩ (fun _ r=>w.deep20 ⟨(Tr.room_ok r).1,(Tr.room_ok r).2.2.1⟩) fun nv2 Y2 H2 u2=>hQ _ _ _ (h.step2 u2)
theorem Tr.WF.look_bd (w:T.WF) (n:BitVec 16) (s:NameL) (h:(T.look n s).2=0):(T.node (T.look n s).1).kind≠0#8/\0<=(T.node (T.look n s).1).links/\(T.node (T.look n s).1).links<=8224 :=
 ⟨(w.pos (Tr.look_ok h).2).2.2.2.1,(w.links_bd _).1,(w.links_bd _).2⟩
theorem TwoX.cAdd (hE:Fold E) (h:TwoX X H0 H p m L T t nv mv nx mr Y T2) (w:T.WF) (n:BitVec 16) (s:NameL) (hs:s.length<2 ^ 63) (v:BitVec 16) (hc : -9223372036854775808<=T.change/\T.change<9223372036854775807)
  (hQ:∀ L' H',TwoX X H0 H' p m L' (T.add n s v).1 t nv mv nx mr Y T2->Q (vi (T.add n s v).2) H'):E.call (E.fid i.f5) [ptr p 0,u16 n,str s,u16 v] H Q :=
 S.f5 hE h.ino n s hs v hc (w.links_bd v).1 fun L1 H1 _ u1=>hQ _ _ (h.step1 u1)
theorem TwoX.rAdd (hE:Fold E) (h:TwoX X H0 H p m L T t nv mv nx mr Y T2) (w:T2.WF) (n:BitVec 16) (s:NameL) (hs:s.length<2 ^ 63) (v:BitVec 16) (hc : -9223372036854775808<=T2.change/\T2.change<9223372036854775807)
  (hQ:∀ Y' H',TwoX X H0 H' p m L T t nv mv nx mr Y' (T2.add n s v).1->Q (vi (T2.add n s v).2) H'):E.call (E.fid i.f54) [ptr t 0,vi (n.toNat:Int),str s,vi (v.toNat:Int)] H Q :=
 S.f54 hE h.ref w.small n s hs v hc (w.links_bd v).1 fun Y2 H2 u2=>hQ _ _ (h.step2 u2)
theorem TwoX.cDrop (hE:Fold E) (h:TwoX X H0 H p m L T t nv mv nx mr Y T2) (w:T.WF) (n:BitVec 16) (s:NameL) (d:Bool) (hc : -9223372036854775808<=T.change/\T.change<9223372036854775807)
  (hQ:∀ L' H',TwoX X H0 H' p m L' (T.drop n s d).1 t nv mv nx mr Y T2->Q (vi (T.drop n s d).2) H'):E.call (E.fid i.f7) [ptr p 0,u16 n,str s,vb d] H Q :=
 S.f7 hE h.ino n s d hc (fun e=>by have:=w.look_bd n s e; exact ⟨this.1,by omega,by omega⟩) fun L1 H1 _ _ u1=>hQ _ _ (h.step1 u1)
theorem TwoX.rDrop (hE:Fold E) (h:TwoX X H0 H p m L T t nv mv nx mr Y T2) (w:T2.WF) (n:BitVec 16) (s:NameL) (d:Bool) (hc : -9223372036854775808<=T2.change/\T2.change<9223372036854775807)
  (hQ:∀ Y' H',TwoX X H0 H' p m L T t nv mv nx mr Y' (T2.drop n s d).1->Q (vi (T2.drop n s d).2) H'):E.call (E.fid i.f57) [ptr t 0,vi (n.toNat:Int),str s,vb d] H Q :=
 S.f57 hE h.ref w.small n s d hc (fun e=>by have:=w.look_bd n s e; exact ⟨this.1,by omega,by omega⟩) (by have:=w.size n; omega) fun Y2 H2 u2=>hQ _ _ (h.step2 u2)
theorem TwoX.cHold (hE:Fold E) (h:TwoX X H0 H p m L T t nv mv nx mr Y T2) (w:T.WF) (n:BitVec 16) (more:Bool) (hb:(T.node n).held<9223372036854775807)
  (hQ:∀ L' H',TwoX X H0 H' p m L' (T.hold n more).1 t nv mv nx mr Y T2->Q (vi (T.hold n more).2) H'):E.call (E.fid i.f10) [ptr p 0,u16 n,vb more] H Q:=by
 refine S.f10 hE h.ino n more ⟨w.held n,hb⟩ ?_
 intros
 apply hQ
 rename_i u1
 exact h.step1 u1
theorem TwoX.rHold (hE:Fold E) (h:TwoX X H0 H p m L T t nv mv nx mr Y T2) (w:T2.WF) (n:BitVec 16) (more:Bool) (hb:(T2.node n).held<9223372036854775807)
  (hQ:∀ Y' H',TwoX X H0 H' p m L T t nv mv nx mr Y' (T2.hold n more).1->Q (vi (T2.hold n more).2) H'):E.call (E.fid i.f58) [ptr t 0,vi (n.toNat:Int),vb more] H Q :=
 S.f58 hE h.ref n more ⟨w.held n,hb⟩ fun Y2 H2 u2=>hQ _ _ (h.step2 u2)
theorem TwoX.cMove (hE:Fold E) (h:TwoX X H0 H p m L T t nv mv nx mr Y T2) (w:T.WF) (fr to:BitVec 16) (s other:NameL) (hs:other.length<2 ^ 63) (hc : -9223372036854775808<=T.change/\T.change<9223372036854775806)
  (hQ:∀ L' H',TwoX X H0 H' p m L' (T.move fr s to other).1 t nv mv nx mr Y T2->Q (vi (T.move fr s to other).2) H'):E.call (E.fid i.f13) [ptr p 0,u16 fr,str s,u16 to,str other] H Q:=by
 exact S.f13 hE h.ino fr to s other hs hc (fun e=>(w.look_bd fr s e).1) (fun _ hk h1=>w.chain ⟨hk,h1⟩ 17) (f:=17) (fun e hk=>w.fits17 (w.look_live (Tr.look_ok e).2 hk)) (by omega)
  (fun y hk hy=>⟨(w.pos hy).2.2.2.1,(w.links_bd y).1,by have:=(w.links_bd y).2; omega⟩) fun L1 H1 _ _ u1=>hQ _ _ (h.step1 u1)
theorem TwoX.rMove (hE:Fold E) (h:TwoX X H0 H p m L T t nv mv nx mr Y T2) (w:T2.WF) (fr to:BitVec 16) (s other:NameL) (hs:other.length<2 ^ 63) (hc : -9223372036854775808<=T2.change/\T2.change<9223372036854775806)
  (hQ:∀ Y' H',TwoX X H0 H' p m L T t nv mv nx mr Y' (T2.move fr s to other).1->Q (vi (T2.move fr s to other).2) H'):E.call (E.fid i.f62) [ptr t 0,vi (fr.toNat:Int),str s,vi (to.toNat:Int),str other] H Q :=
 S.f62 hE h.ref w.small fr to s other hs hc (fun e=>(w.look_bd fr s e).1) (fun _ h1 hk=>⟨w.deep20 ⟨hk,h1⟩,w.within20 ⟨hk,h1⟩ _⟩) (f:=17) (fun e hk=>w.fits17 (w.look_live (Tr.look_ok e).2 hk)) (by omega)
  (fun y hk hy=>⟨(w.pos hy).2.2.2.1,(w.links_bd y).1,by have:=(w.links_bd y).2; omega⟩) (fun _=>(w.rising to).nodup) ⟨by have:=w.size fr; omega,by have:=w.size to; omega⟩ fun Y2 H2 u2=>hQ _ _ (h.step2 u2)
theorem TwoX.cWrite (hE:Fold E) (h:TwoX X H0 H p m L T t nv mv nx mr Y T2) (w:T.WF) (n:BitVec 16) (at_:Int) (v:Value) (b:List (BitVec 8)) (hv:Rows H 1 v (byteR b)) (hb:b.length<2 ^ 63) (hat : -9223372036854775808<=at_/\at_<9223372036854775808) (hc : -9223372036854775808<=T.change/\T.change<9223372036854775807)
  (hQ:∀ L' H',TwoX X H0 H' p m L' (T.write n at_ b).1 t nv mv nx mr Y T2->Q (vi (T.write n at_ b).2) H'):E.call (E.fid i.f15) [ptr p 0,u16 n,vi at_,v] H Q :=
 S.f15 hE h.ino n at_ v b hv hb hc hat (by have:=w.data n; omega) fun L1 H1 _ u1=>hQ _ _ (h.step1 u1)
theorem TwoX.rWrite (hE:Fold E) (h:TwoX X H0 H p m L T t nv mv nx mr Y T2) (w:T2.WF) (n:BitVec 16) (at_:Int) (v:Value) (b:List (BitVec 8)) (hv:Rows H 1 v (byteR b)) (hb:b.length<2 ^ 62) (hc : -9223372036854775808<=T2.change/\T2.change<9223372036854775807)
  (hQ:∀ Y' H',TwoX X H0 H' p m L T t nv mv nx mr Y' (T2.write n at_ b).1->Q (vi (T2.write n at_ b).2) H'):E.call (E.fid i.f66) [ptr t 0,vi (n.toNat:Int),vi at_,v] H Q :=
 S.f66 hE h.ref n at_ v b hv hb hc (by have:=w.data n; omega) fun Y2 H2 u2=>hQ _ _ (h.step2 u2)
theorem TwoX.cCut (hE:Fold E) (h:TwoX X H0 H p m L T t nv mv nx mr Y T2) (w:T.WF) (n:BitVec 16) (size:Int) (hc : -9223372036854775808<=T.change/\T.change<9223372036854775807)
  (hQ:∀ L' H',TwoX X H0 H' p m L' (T.cut n size).1 t nv mv nx mr Y T2->Q (vi (T.cut n size).2) H'):E.call (E.fid i.f6) [ptr p 0,u16 n,vi size] H Q:=by
 exact S.f6 hE h.ino n size hc fun L1 H1 _ u1=>hQ _ _ (h.step1 u1)
theorem TwoX.rCut (hE:Fold E) (h:TwoX X H0 H p m L T t nv mv nx mr Y T2) (w:T2.WF) (n:BitVec 16) (size:Int) (hc : -9223372036854775808<=T2.change/\T2.change<9223372036854775807)
  (hQ:∀ Y' H',TwoX X H0 H' p m L T t nv mv nx mr Y' (T2.cut n size).1->Q (vi (T2.cut n size).2) H'):E.call (E.fid i.f56) [ptr t 0,vi (n.toNat:Int),vi size] H Q :=
 S.f56 hE h.ref n size hc (by have:=w.data n; omega) fun Y2 H2 u2=>hQ _ _ (h.step2 u2)
end
end Go.AM
end
section
namespace Go.AM
section
variable {X:List Res} {E:Sy} {H0 H H' H'':AH} {Q:Value->AH->Prop} {p m:Nat} {L L' L'':LyL} {T T' T'' T2 T2':Tr} {t:Nat} {nv nv' mv:Value} {nx:Int} {mr:List (List Value)} {Y Y':List RLy}
theorem ofInt_nat16 (j:Nat):BitVec.ofInt 16 (j:Int)=BitVec.ofNat 16 j:=by
 apply BitVec.eq_of_toNat_eq
 simp
theorem conv16 (a:Nat):convInt .u16 (vi a)=some (u16 (BitVec.ofNat 16 a)):=by rw [i64_to_u16,ofInt_nat16]
theorem convN (a:BitVec 16):convInt .u16 (vi (a.toNat:Int))=some (u16 a):=by rw [conv16]; simp
end
end Go.AM
end
section
namespace Go.AM
structure ActD where
 kind:BitVec 8
 in_:BitVec 8
 to:BitVec 8
 name:BitVec 8
 other:BitVec 8
 any:List UInt8
 n:Int
 bytes:Value
 bl:List (BitVec 8)
 flag:Bool
 raw:Bool
def ActD.cells (x:ActD):List Value:=[u8 x.kind,u8 x.in_,u8 x.to,u8 x.name,u8 x.other,str x.any,vi x.n,x.bytes,vb x.flag,vb x.raw]
abbrev actSh:Sh := .struct [.int .u8,.int .u8,.int .u8,.int .u8,.int .u8,.str,.int .i64,.slice 1 (.int .u8),.bool,.bool]
structure ActD.ok (H:AH) (x:ActD):Prop where
 any:x.any.length<=9223372036854775807
 n : -9223372036854775808<=x.n/\x.n<9223372036854775808
 bytes:Rows H 1 x.bytes (byteR x.bl)
 bl:x.bl.length<=9223372036854775807
theorem ActD.ok.mono {H H':AH} {x:ActD} (h:x.ok H) (e:Ext H H'):x.ok H':=⟨h.any,h.n,h.bytes.mono e,h.bl⟩
theorem SV.act {H:AH} {cs:List Value} (h:SV H actSh cs):∃ x:ActD,cs=x.cells/\x.ok H:=by
 obtain ⟨c0,e0,rfl,h0,c1,e1,rfl,h1,c2,e2,rfl,h2,c3,e3,rfl,h3,c4,e4,rfl,h4,c5,e5,rfl,h5,c6,e6,rfl,h6,c7,e7,rfl,h7,c8,e8,rfl,h8,c9,e9,rfl,h9,rfl⟩:=h
 obtain ⟨x0,rfl⟩:=h0.u8
 obtain ⟨x1,rfl⟩:=h1.u8
 obtain ⟨x2,rfl⟩:=h2.u8
 obtain ⟨x3,rfl⟩:=h3.u8
 obtain ⟨x4,rfl⟩:=h4.u8
 obtain ⟨x5,rfl,g5⟩:=h5
 obtain ⟨x6,rfl,g6⟩:=h6.i64
 obtain ⟨v7,x7,rfl,g7,l7⟩:=SV.vals (fun r hr=>SV.u8 hr) h7
 obtain ⟨x8,rfl⟩:=h8
 obtain ⟨x9,rfl⟩:=h9
 refine ⟨⟨x0,x1,x2,x3,x4,x5,x6,v7,x7,x8,x9⟩,rfl,g5,g6,?_,by simpa using l7⟩
 show Rows H 1 v7 (byteR x7)
 have:byteR x7=(x7.map AM.u8).map fun v=>[v]:=by simp [byteR]
 rw [this]; exact g7
section
variable {X:List Res} {E:Sy} {H0 H H' H'':AH} {Q:Value->AH->Prop} {p m:Nat} {L L' L'':LyL} {T T' T'' T2 T2':Tr} {t:Nat} {nv nv' mv:Value} {nx:Int} {mr:List (List Value)} {Y Y':List RLy}
def actNames:List NameL:=[[97],[98],[99],[100,46,101],[102],[103],[],[46,46],[97,47,98]]
theorem S.f43 (hE:Fold E) (hQ:∀ v H',Ext H H'->Rows H' 1 v (strR actNames)->Q v H'):E.call (E.fid i.f43) [] H Q:=by
 apply hE.f43
 have hb:buildS 9 1 #[(.string ⟨#[]⟩)] [(0,(.string ⟨#[97]⟩)),(1,(.string ⟨#[98]⟩)),(2,(.string ⟨#[99]⟩)),(3,(.string ⟨#[100,46,101]⟩)),(4,(.string ⟨#[102]⟩)),(5,(.string ⟨#[103]⟩)),(6,(.string ⟨#[]⟩)),(7,(.string ⟨#[46,46]⟩)),(8,(.string ⟨#[97,47,98]⟩))]=some (.cells (actNames.map str) none,mkSlc 9 9):=by
  have:=buildS_full 9 1 [str []] [(0,str [97]),(1,str [98]),(2,str [99]),(3,str [100,46,101]),(4,str [102]),(5,str [103]),(6,str []),(7,str [46,46]),(8,str [97,47,98])] (actNames.map str) rfl rfl rfl rfl (by
   intro v hv
   obtain ⟨s,_,rfl⟩:=List.mem_map.1 hv
   rfl)
  simpa [actNames] using this
 simp only [F.f43,hb,AM.mk_some,mkSlc_eq,tk_eq]
 refine hQ _ _ ((Ext.refl H).new _) (Rows.made (f:=none) (by rw [AH.get_new_self]; rfl) (.inl rfl) rfl ?_)
 intro r hr
 obtain ⟨s,_,rfl⟩:=List.mem_map.1 hr
 rfl
theorem actZero:([(.int .u8 0),(.int .u8 0),(.int .u8 0),(.int .u8 0),(.int .u8 0),(.string ⟨#[]⟩),(.int .i64 0),(.slice none 0 0),(.bool false),(.bool false)]:List Value)=(ActD.mk 0#8 0#8 0#8 0#8 0#8 [] 0 nilS [] false false).cells:=rfl
theorem ActD.all_plain (x:ActD) (h:plain1 x.bytes=true):x.cells.all plain1=true:=by
 simp only [ActD.cells,List.all_cons,List.all_nil,h]; rfl
theorem act_store {x:ActD} (hp:plain1 x.bytes=true) (z:ActD):storeN 10 (ptr H.next 0) (.agg x.cells.toArray) (H.new (.cells z.cells none))=some (H.new (.cells x.cells none)):=by
 rw [storeN_ptr,AH.get_new_self]
 have hs:AM.splice z.cells 0 x.cells=x.cells:=rfl
 have h1:x.cells.length=10:=rfl
 have h2:z.cells.length=10:=rfl
 simp only [List.size_toArray,List.toList_toArray,h1,h2,ActD.all_plain x hp,Nat.zero_add,Nat.le_refl,and_self,if_true,hs,AH.new_put]
theorem rows_plain {v:Value} {rows:List (List Value)} {sz:Nat} (h:Rows H sz v rows):plain1 v=true:=by
 rcases h.at_ with ⟨_,c,rfl⟩ | ⟨b,o,c,rfl,_⟩
 ·cases c <;> rfl
 ·rfl
end
end Go.AM
end
section
namespace Go.AM
section
variable {X:List Res} {E:Sy} {H0 H H' H'':AH} {Q:Value->AH->Prop} {p m:Nat} {L L' L'':LyL} {T T' T'' T2 T2':Tr} {t:Nat} {nv nv' mv:Value} {nx:Int} {mr:List (List Value)} {Y Y':List RLy}
structure ActTo (X:List Res) (H0 H':AH) (p m t:Nat) (mv:Value) (nx:Int) (mr:List (List Value)) (T:Tr) (B:Int) (L':LyL) (nv':Value) (Y':List RLy) (T':Tr):Prop where
 two:TwoX X H0 H' p m L' T' t nv' mv nx mr Y' T'
 wf:T'.WF
 cb:T.CB T'
 hb:T'.HB (B+1)
inductive Tr.Did (up:Bool) (T:Tr):Tr->Prop
 | make (a:BitVec 16) (s:NameL) (k:BitVec 8) (text:List UInt8):T.Did up (T.make a s k text).1
 | add (a:BitVec 16) (s:NameL) (b:BitVec 16):T.Did up (T.add a s b).1
 | drop (a:BitVec 16) (s:NameL) (d:Bool):T.Did up (T.drop a s d).1
 | move (a:BitVec 16) (s:NameL) (b:BitVec 16) (o:NameL):T.Did up (T.move a s b o).1
 | hold (a:BitVec 16):T.Did up (T.hold a up).1
 | write (a:BitVec 16) (n:Int) (l:List (BitVec 8)):T.Did up (T.write a n l).1
 | cut (a:BitVec 16) (n:Int):T.Did up (T.cut a n).1
 | refl:T.Did up T
theorem tab5 (o:BitVec 8) (k:BitVec 8) (hk:k<5#8):∃ kd:BitVec 8,([[u8 1#8],[u8 2#8],[u8 2#8],[u8 3#8],[u8 o]]:List (List Value))[k.toNat]? = some [u8 kd]:=by
 have h:k.toNat<5:=hk
 have:k.toNat=0\/k.toNat=1\/k.toNat=2\/k.toNat=3\/k.toNat=4:=by omega
 rcases this with e | e | e | e | e <;> rw [e]
 ·exact ⟨_,rfl⟩
 ·exact ⟨_,rfl⟩
 ·exact ⟨_,rfl⟩
 ·exact ⟨_,rfl⟩
 ·exact ⟨_,rfl⟩
theorem do_j1 (hE:Fold E) {bx:Nat} {x:ActD} (h:TwoX (X++[boxR bx x.cells]) H0 H p m L T t nv mv nx mr Y T) (w:T.WF) {B:Int} (hb:T.HB B) (hB:0<=B/\B<1000000) (hc:0<=T.change/\T.change<1000000) (hx:x.ok H0) (hl:x.any.length<=200/\x.bl.length<=200) {up:Bool} (hup:x.kind % 15#8=11#8->x.flag=up)
  (a b:BitVec 16) (s o:NameL) (hs:s.length<2 ^ 63) (ho:o.length<2 ^ 63) (hQ:∀ L' nv' Y' T' H',ActTo X H0 H' p m t mv nx mr T B L' nv' Y' T'->T.Did up T'->Q (vb true) H') :
  F.f42_j1 E Q (ptr p 0) (ptr t 0) (ptr bx 0) (vi (a.toNat:Int)) (vi (b.toNat:Int)) (str s) (str o) H:=by
 have hbx:=h.held
 have c0:x.cells[0]? = some (u8 x.kind):=rfl
 have c4:x.cells[4]? = some (u8 x.other):=rfl
 have c5:x.cells[5]? = some (str x.any):=rfl
 have c6:x.cells[6]? = some (vi x.n):=rfl
 have c7:x.cells[7]? = some x.bytes:=rfl
 have c8:x.cells[8]? = some (vb x.flag):=rfl
 have hrem:binInt .rem (u8 x.kind) (.int .u8 15)=some (u8 (x.kind % 15#8)):=u8_rem x.kind 15#8 (by decide)
 have hlt:(x.kind % 15#8).toNat<15:=by rw [BitVec.toNat_umod]; exact Nat.mod_lt _ (by decide)
 have n5:(.int .u8 5:Value)=u8 5#8:=rfl
 have n8:(.int .u8 8:Value)=u8 8#8:=rfl
 have n11:(.int .u8 11:Value)=u8 11#8:=rfl
 have n12:(.int .u8 12:Value)=u8 12#8:=rfl
 have n13:(.int .u8 13:Value)=u8 13#8:=rfl
 simp only [F.f42_j1,convN,addOff_ptr,load1_ptr,Nat.zero_add,hbx,cell_cells_z,c0,hrem,tk_eq,opt_some]
 generalize x.kind % 15#8=k at *
 have lss:∀ c:BitVec 8,binInt .lss (u8 k) (u8 c)=some (vb (decide (k<c))):=fun c=>by rw [u8_lss]; rfl
 by_cases k5:k<5#8
 ·have q1:binInt .lss (u8 k) (.int .u8 5)=some (vb true):=by rw [n5,lss]; simp [k5]
  have k5n:k.toNat<5:=k5
  obtain ⟨kd,hkd⟩:=tab5 x.other k k5
  have hbS:buildS 5 1 #[(.int .u8 0)] [(0,(.int .u8 1)),(1,(.int .u8 2)),(2,(.int .u8 2)),(3,(.int .u8 3)),(4,u8 x.other)]=some (.cells [u8 1#8,u8 2#8,u8 2#8,u8 3#8,u8 x.other] none,mkSlc 5 5):=by
   have:=buildS_full 5 1 [u8 0#8] [(0,u8 1#8),(1,u8 2#8),(2,u8 2#8),(3,u8 3#8),(4,u8 x.other)] [u8 1#8,u8 2#8,u8 2#8,u8 3#8,u8 x.other] rfl rfl rfl rfl (by intro v hv; simp at hv; rcases hv with rfl | rfl | rfl | rfl <;> rfl)
   simpa using this
  have hx1:Ext H (H.new (.cells [u8 1#8,u8 2#8,u8 2#8,u8 3#8,u8 x.other] none)):=(Ext.refl H).new _
  have hr:Rows (H.new (.cells [u8 1#8,u8 2#8,u8 2#8,u8 3#8,u8 x.other] none)) 1 (slc H.next 0 5 5) [[u8 1#8],[u8 2#8],[u8 2#8],[u8 3#8],[u8 x.other]]:=Rows.made (f:=none) (by rw [AH.get_new_self]; rfl) (.inl rfl) rfl (by intro r hr; simp at hr; rcases hr with rfl | rfl | rfl | rfl <;> rfl)
  obtain ⟨b1,o1,p1,p2⟩:=hr.ix (i:=k.toNat) k5n
  rw [List.getElem?_eq_getElem (by simpa using k5n)] at hkd
  rw [Option.some.inj hkd] at p2
  have p3:((H.new (.cells [u8 1#8,u8 2#8,u8 2#8,u8 3#8,u8 x.other] none)).get b1).cell o1=some (u8 kd):=by have:=row_at p2 (j:=0) (by omega); simpa using this
  have h1:=h.mono hx1
  simp only [q1,addOff_ptr,load1_ptr,Nat.zero_add,hbx,cell_cells_z,c4,hbS,AM.mk_some,mkSlc_eq,ixSlc_u8,p1,p3,h1.held,c5,tk_eq,opt_some,ifB_true]
  refine TwoX.cMake hE h1 w a s hs kd x.any (by omega) ⟨by omega,by omega⟩ fun L2 H2 h2 =>?_
  simp only [ext_tuple,List.getElem?_cons_zero,List.getElem?_cons_succ,u8_to_i64,addOff_ptr,load1_ptr,Nat.zero_add,h2.held,cell_cells_z,c5,tk_eq,opt_some]
  refine TwoX.rMake hE h2 w a s hs kd x.any ⟨by omega,by omega⟩ fun nv3 Y3 H3 h3 =>?_
  simp only [ext_tuple,List.getElem?_cons_zero,List.getElem?_cons_succ,u16_to_i64,i64_eql,decide_true,gd_tt,pick_true_z,tk_eq,opt_some]
  exact hQ _ _ _ _ _ ⟨h3.drop,w.make a s kd x.any,.make a s kd x.any,(hb.make hB.1 a s kd x.any).mono (by omega)⟩ (.make a s kd x.any)
 by_cases e5:k=5#8
 ·have q1:binInt .lss (u8 k) (.int .u8 5)=some (vb false):=by rw [n5,lss]; simp [k5]
  have q2:binInt .eql (u8 k) (.int .u8 5)=some (vb true):=by rw [n5]; simp [e5]
  simp only [q1,q2,tk_eq,opt_some,ifB_false,ifB_true]
  refine TwoX.cAdd hE h w a s hs b ⟨by omega,by omega⟩ fun L1 H1 h1 =>?_
  refine TwoX.rAdd hE h1 w a s hs b ⟨by omega,by omega⟩ fun Y2 H2 h2 =>?_
  simp only [i64_eql,decide_true,tk_eq,opt_some]
  exact hQ _ _ _ _ _ ⟨h2.drop,w.add a s b,.add a s b,(hb.add a s b).mono (by omega)⟩ (.add a s b)
 by_cases k8:k<8#8
 ·have q1:binInt .lss (u8 k) (.int .u8 5)=some (vb false):=by rw [n5,lss]; simp [k5]
  have q2:binInt .eql (u8 k) (.int .u8 5)=some (vb false):=by rw [n5]; simp [e5]
  have q3:binInt .lss (u8 k) (.int .u8 8)=some (vb true):=by rw [n8,lss]; simp [k8]
  simp only [q1,q2,q3,addOff_ptr,load1_ptr,Nat.zero_add,hbx,cell_cells_z,c8,tk_eq,opt_some,ifB_false,ifB_true]
  refine TwoX.cDrop hE h w a s x.flag ⟨by omega,by omega⟩ fun L1 H1 h1 =>?_
  refine ⟨by rw [load1_ptr,load1_ptr,h1.held,hbx],?_⟩
  refine TwoX.rDrop hE h1 w a s x.flag ⟨by omega,by omega⟩ fun Y2 H2 h2 =>?_
  simp only [i64_eql,decide_true,tk_eq,opt_some]
  exact hQ _ _ _ _ _ ⟨h2.drop,w.drop a s x.flag,.drop a s x.flag,(hb.drop hB.1 a s x.flag).mono (by omega)⟩ (.drop a s x.flag)
 by_cases k11:k<11#8
 ·have q1:binInt .lss (u8 k) (.int .u8 5)=some (vb false):=by rw [n5,lss]; simp [k5]
  have q2:binInt .eql (u8 k) (.int .u8 5)=some (vb false):=by rw [n5]; simp [e5]
  have q3:binInt .lss (u8 k) (.int .u8 8)=some (vb false):=by rw [n8,lss]; simp [k8]
  have q4:binInt .lss (u8 k) (.int .u8 11)=some (vb true):=by rw [n11,lss]; simp [k11]
  simp only [q1,q2,q3,q4,tk_eq,opt_some,ifB_false,ifB_true]
  refine TwoX.cMove hE h w a b s o ho ⟨by omega,by omega⟩ fun L1 H1 h1 =>?_
  refine TwoX.rMove hE h1 w a b s o ho ⟨by omega,by omega⟩ fun Y2 H2 h2 =>?_
  simp only [i64_eql,decide_true,tk_eq,opt_some]
  exact hQ _ _ _ _ _ ⟨h2.drop,w.move a s b o,.move a s b o,(hb.move hB.1 a s b o).mono (by omega)⟩ (.move a s b o)
 have q1:binInt .lss (u8 k) (.int .u8 5)=some (vb false):=by rw [n5,lss]; simp [k5]
 have q2:binInt .eql (u8 k) (.int .u8 5)=some (vb false):=by rw [n5]; simp [e5]
 have q3:binInt .lss (u8 k) (.int .u8 8)=some (vb false):=by rw [n8,lss]; simp [k8]
 have q4:binInt .lss (u8 k) (.int .u8 11)=some (vb false):=by rw [n11,lss]; simp [k11]
 by_cases e11:k=11#8
 ·have q5:binInt .eql (u8 k) (.int .u8 11)=some (vb true):=by rw [n11]; simp [e11]
  simp only [q1,q2,q3,q4,q5,addOff_ptr,load1_ptr,Nat.zero_add,hbx,cell_cells_z,c8,tk_eq,opt_some,ifB_false,ifB_true]
  refine TwoX.cHold hE h w a x.flag (by have:=hb a; omega) fun L1 H1 h1 =>?_
  refine ⟨by rw [load1_ptr,load1_ptr,h1.held,hbx],?_⟩
  refine TwoX.rHold hE h1 w a x.flag (by have:=hb a; omega) fun Y2 H2 h2 =>?_
  simp only [i64_eql,decide_true,tk_eq,opt_some]
  exact hQ _ _ _ _ _ ⟨h2.drop,w.hold a x.flag,.hold a x.flag,hb.hold hB.1 a x.flag⟩ (hup e11 ▸ .hold a)
 have q5:binInt .eql (u8 k) (.int .u8 11)=some (vb false):=by rw [n11]; simp [e11]
 by_cases e12:k=12#8
 ·have q6:binInt .eql (u8 k) (.int .u8 12)=some (vb true):=by rw [n12]; simp [e12]
  simp only [q1,q2,q3,q4,q5,q6,addOff_ptr,load1_ptr,Nat.zero_add,hbx,cell_cells_z,c6,c7,tk_eq,opt_some,ifB_false,ifB_true]
  refine TwoX.cWrite hE h w a x.n x.bytes x.bl (hx.bytes.mono h.ext) (by omega) hx.n ⟨by omega,by omega⟩ fun L1 H1 h1 =>?_
  refine ⟨by rw [load1_ptr,load1_ptr,h1.held,hbx],by rw [load1_ptr,load1_ptr,h1.held,hbx],?_⟩
  refine TwoX.rWrite hE h1 w a x.n x.bytes x.bl (hx.bytes.mono h1.ext) (by omega) ⟨by omega,by omega⟩ fun Y2 H2 h2 =>?_
  simp only [i64_eql,decide_true,tk_eq,opt_some]
  exact hQ _ _ _ _ _ ⟨h2.drop,w.write a x.n x.bl,.write a x.n x.bl,(hb.write a x.n x.bl).mono (by omega)⟩ (.write a x.n x.bl)
 have q6:binInt .eql (u8 k) (.int .u8 12)=some (vb false):=by rw [n12]; simp [e12]
 by_cases e13:k=13#8
 ·have q7:binInt .eql (u8 k) (.int .u8 13)=some (vb true):=by rw [n13]; simp [e13]
  simp only [q1,q2,q3,q4,q5,q6,q7,addOff_ptr,load1_ptr,Nat.zero_add,hbx,cell_cells_z,c6,tk_eq,opt_some,ifB_false,ifB_true]
  refine TwoX.cCut hE h w a x.n ⟨by omega,by omega⟩ fun L1 H1 h1 =>?_
  refine ⟨by rw [load1_ptr,load1_ptr,h1.held,hbx],?_⟩
  refine TwoX.rCut hE h1 w a x.n ⟨by omega,by omega⟩ fun Y2 H2 h2 =>?_
  simp only [i64_eql,decide_true,tk_eq,opt_some]
  exact hQ _ _ _ _ _ ⟨h2.drop,w.cut a x.n,.cut a x.n,(hb.cut a x.n).mono (by omega)⟩ (.cut a x.n)
 have q7:binInt .eql (u8 k) (.int .u8 13)=some (vb false):=by rw [n13]; simp [e13]
 simp only [q1,q2,q3,q4,q5,q6,q7,tk_eq,opt_some,ifB_false]
 refine S.f11 hE h.ino a s ?_
 simp only [ext_tuple,List.getElem?_cons_zero,List.getElem?_cons_succ,tk_eq,opt_some]
 refine S.f60 hE h.ref w.small a s fun H2 e2 =>?_
 simp only [ext_tuple,List.getElem?_cons_zero,List.getElem?_cons_succ,u16_to_i64,i64_eql,decide_true,gd_tt,pick_true_z,tk_eq,opt_some]
 exact hQ _ _ _ _ _ ⟨(h.mono e2).drop,w,.refl,hb.mono (by omega)⟩ .refl
theorem names_at {v:Value} (h:Rows H 1 v (strR actNames)) (k:Nat):∃ b o s,ixSlc 1 v (vi ((k % 9:Nat):Int))=some (ptr b o)/\(∀ H',Ext H H'->(H'.get b).cell o=some (str s))/\s.length<2 ^ 63:=by
 have hk:k % 9<9:=Nat.mod_lt _ (by omega)
 have hlen:(strR actNames).length=9:=rfl
 obtain ⟨b,o,p1,p2⟩:=h.ix (i:=k % 9) (by rw [hlen]; exact hk)
 have hmem:(strR actNames)[k % 9]'(by rw [hlen]; exact hk)∈strR actNames:=List.getElem_mem _
 obtain ⟨s,hs,he⟩:=List.mem_map.1 hmem
 rw [<- he] at p2
 refine ⟨b,o,s,p1,fun H' e =>?_,?_⟩
 ·rw [e.get (AH.lt_of_get (row_notdead p2))]
  have:=row_at p2 (j:=0) (by omega)
  simpa using this
 ·have:∀ s∈actNames,s.length<2 ^ 63:=by decide
  exact this s hs
theorem S.f42 (hE:Fold E) {x:ActD} (h:TwoX X H0 H p m L T t nv mv nx mr Y T) (w:T.WF) {B:Int} (hb:T.HB B) (hB:0<=B/\B<1000000) (hc:0<=T.change/\T.change<1000000) (hx:x.ok H0) (hl:x.any.length<=200/\x.bl.length<=200) (hraw:x.raw=false) {up:Bool} (hup:x.kind % 15#8=11#8->x.flag=up)
  (hQ:∀ L' nv' Y' T' H',ActTo X H0 H' p m t mv nx mr T B L' nv' Y' T'->T.Did up T'->Q (vb true) H'):E.call (E.fid i.f42) [ptr p 0,ptr t 0,.agg x.cells.toArray] H Q:=by
 apply hE.f42
 have hbo:boxO (.agg x.cells.toArray)=some (.cells x.cells none,fun b=>ptr b 0):=by
  have:x.cells.all plain1=true:=x.all_plain (rows_plain hx.bytes)
  first
   | rfl
   | simp [boxO,this]
 have h1:=h.box x.cells
 have hb1:=h1.held
 have c1:x.cells[1]? = some (u8 x.in_):=rfl
 have c2:x.cells[2]? = some (u8 x.to):=rfl
 have c3:x.cells[3]? = some (u8 x.name):=rfl
 have c4:x.cells[4]? = some (u8 x.other):=rfl
 have c9:x.cells[9]? = some (vb x.raw):=rfl
 have r1:binInt .rem (u8 x.in_) (.int .u8 8)=some (u8 (x.in_ % 8#8)):=u8_rem _ 8#8 (by decide)
 have r2:binInt .rem (u8 x.to) (.int .u8 8)=some (u8 (x.to % 8#8)):=u8_rem _ 8#8 (by decide)
 have n1:(((x.in_ % 8#8).setWidth 16:BitVec 16).toNat)=(x.in_ % 8#8).toNat:=by simp; omega
 have n2:(((x.to % 8#8).setWidth 16:BitVec 16).toNat)=(x.to % 8#8).toNat:=by simp; omega
 simp only [F.f42,hbo,AM.mk_some,addOff_ptr,load1_ptr,Nat.zero_add,hb1,cell_cells_z,c1,c2,c3,c4,r1,r2,u8_to_i64,tk_eq,opt_some]
 generalize hH1:H.new (.cells x.cells none)=H1 at *
 have ld:∀ {H'} (k:Nat),Ext H1 H'->load1 (ptr H.next k) H'=load1 (ptr H.next k) H1:=fun k e=>by rw [load1_ptr,load1_ptr,(h1.mono e).held,hb1]
 refine S.f43 hE fun v2 H2 e2 s2 =>?_
 refine ⟨ld 4 e2,ld 3 e2,?_⟩
 refine S.f43 hE fun v3 H3 e3 s3 =>?_
 have e13:=e2.trans e3
 refine ⟨ld 4 e13,ld 3 e13,?_⟩
 have l3:AM.lenSlc v3=some (vi (9:Nat)):=s3.lenSlc
 obtain ⟨b4,o4,sn,p4,q4,w4⟩:=names_at s2 x.name.toNat
 simp only [l3,i64_rem_nat x.name.toNat 9 (by omega),p4,load1_ptr,q4 H3 e3,tk_eq,opt_some]
 refine S.f43 hE fun v5 H5 e5 s5 =>?_
 have e15:=e13.trans e5
 refine ⟨by rw [load1_ptr,load1_ptr,q4 H5 (e3.trans e5),q4 H3 e3],ld 4 e15,ld 3 e15,?_⟩
 refine S.f43 hE fun v6 H6 e6 s6 =>?_
 have e16:=e15.trans e6
 refine ⟨by rw [load1_ptr,load1_ptr,q4 H6 (e3.trans (e5.trans e6)),q4 H3 e3],ld 4 e16,ld 3 e16,?_⟩
 have l6:AM.lenSlc v6=some (vi (9:Nat)):=s6.lenSlc
 obtain ⟨b7,o7,so,p7,q7,w7⟩:=names_at s5 x.other.toNat
 have h6:=h1.mono e16
 have hj:=do_j1 (Q:=Q) hE h6 w hb hB hc hx hl hup ((x.in_ % 8#8).setWidth 16) ((x.to % 8#8).setWidth 16) sn so w4 w7 hQ
 rw [n1,n2] at hj
 simp only [l6,i64_rem_nat x.other.toNat 9 (by omega),p7,load1_ptr,q7 H6 e6,addOff_ptr,Nat.zero_add,h6.held,cell_cells_z,c9,hraw,tk_eq,opt_some,ifB_false]
 exact hj
end
end Go.AM
end
section
namespace Go.AM
def Tr.Stay (T T':Tr):Prop:=∀ n,(T.node n).kind≠0#8->1<=(T.node n).held->(T'.node n).kind=(T.node n).kind/\(T.node n).held<=(T'.node n).held
section
variable {T T' T'':Tr}
theorem Tr.node_upd_ne {n k:BitVec 16} (h:k≠n) (f:Nd->Nd):(T.upd n f).node k=T.node k:=by
 have e:¬ n.toNat=k.toNat:=fun e=>h (BitVec.eq_of_toNat_eq e.symm)
 unfold Tr.upd Tr.node
 simp only [List.getD_eq_getElem?_getD,List.getElem?_modify,e,if_false]
 cases T.N[k.toNat]? <;> rfl
theorem Tr.Stay.refl:T.Stay T:=fun _ _ _=>⟨rfl,Int.le_refl _⟩
theorem Tr.Stay.trans (h:T.Stay T') (h':T'.Stay T''):T.Stay T'':=fun n hk hh=>by
 obtain ⟨a,b⟩:=h n hk hh
 obtain ⟨c,d⟩:=h' n (by rw [a]; exact hk) (by omega)
 exact ⟨c.trans a,by omega⟩
theorem Tr.Stay.upd (n:BitVec 16) (f:Nd->Nd) (hf:∀ x:Nd,(f x).kind=x.kind/\x.held<=(f x).held):T.Stay (T.upd n f):=fun k _ _=>by
 rcases T.upd_or n k f with e | e
 ·rw [e]; exact ⟨rfl,Int.le_refl _⟩
 ·rw [e]; exact hf _
theorem Tr.Stay.bump (h:T.Stay T'):T.Stay T'.bump:=h
theorem Tr.Stay.tidy (n:BitVec 16):T.Stay (T.tidy n):=fun k hk hh=>by
 unfold Tr.tidy
 split
 ·rename_i hc
  have e:k≠n:=by rintro rfl; omega
  rw [Tr.node_upd_ne e]
  exact ⟨rfl,Int.le_refl _⟩
 ·exact ⟨rfl,Int.le_refl _⟩
theorem Tr.Stay.make (w:T.WF) (inn:BitVec 16) (s:NameL) (kd:BitVec 8) (text:List UInt8):T.Stay (T.make inn s kd text).1:=by
 rcases w.make_node inn s kd text with e | ⟨_,_,A,_,hA,hi,hn⟩
 ·rw [e]; exact .refl
 ·intro n hk hh
  rw [hn]
  split
  ·rename_i e; subst e; exact ⟨rfl,Int.le_refl _⟩
  ·split
   ·rename_i e; subst e; exact (hk hA).elim
   ·exact ⟨rfl,Int.le_refl _⟩
theorem Tr.Stay.add (inn:BitVec 16) (s:NameL) (v:BitVec 16):T.Stay (T.add inn s v).1:=by
 unfold Tr.add
 repeat' split
 all_goals try exact .refl
 exact (Tr.Stay.upd inn (Nd.addE s v) fun _=>⟨rfl,Int.le_refl _⟩).trans (Tr.Stay.upd v (Nd.addL 1) fun _=>⟨rfl,Int.le_refl _⟩)
theorem Tr.Stay.drop (inn:BitVec 16) (s:NameL) (d:Bool):T.Stay (T.drop inn s d).1:=by
 unfold Tr.drop
 repeat' split
 all_goals try exact .refl
 exact ((Tr.Stay.upd inn (Nd.delE s) fun _=>⟨rfl,Int.le_refl _⟩).trans (Tr.Stay.upd _ (Nd.addL (-1)) fun _=>⟨rfl,Int.le_refl _⟩)).bump.trans (Tr.Stay.tidy _)
theorem Tr.Stay.hold (n:BitVec 16):T.Stay (T.hold n true).1:=by
 unfold Tr.hold
 repeat' split
 all_goals try exact .refl
 ·exact Tr.Stay.upd n (Nd.addH 1) fun x=>⟨rfl,by show x.held<=x.held+1; omega⟩
 ·rename_i h _; exact (h rfl).elim
theorem Tr.Stay.move (fr:BitVec 16) (s:NameL) (to:BitVec 16) (other:NameL):T.Stay (T.move fr s to other).1:=by
 have key:∀ (U:Tr) (n:BitVec 16),U.Stay (Tr.moved U fr s to other n):=by
  intro U n
  have h2:U.Stay ((U.upd fr (Nd.delE s)).upd to (Nd.addE other n)):=(Tr.Stay.upd fr (Nd.delE s) fun _=>⟨rfl,Int.le_refl _⟩).trans (Tr.Stay.upd to (Nd.addE other n) fun _=>⟨rfl,Int.le_refl _⟩)
  unfold Tr.moved
  simp only
  split
  ·exact (h2.trans (Tr.Stay.upd n (fun x=>{ x with parent:=to }) fun _=>⟨rfl,Int.le_refl _⟩)).bump
  ·exact h2.bump
 unfold Tr.move
 split
 ·exact .refl
 split
 ·exact .refl
 split
 ·exact .refl
 split
 ·exact .refl
 split
 ·exact .refl
 refine Tr.Stay.trans ?_ (key _ _)
 split
 ·exact .drop _ _ _
 ·exact .refl
theorem Tr.Stay.write (n:BitVec 16) (at_:Int) (b:List (BitVec 8)):T.Stay (T.write n at_ b).1:=by
 unfold Tr.write
 repeat' split
 all_goals try exact .refl
 exact (Tr.Stay.upd n (fun x=>{ x with data:=writeL x.data at_.toNat b }) fun _=>⟨rfl,Int.le_refl _⟩).bump
theorem Tr.Stay.cut (n:BitVec 16) (size:Int):T.Stay (T.cut n size).1:=by
 unfold Tr.cut
 repeat' split
 all_goals try exact .refl
 exact (Tr.Stay.upd n (fun x=>{ x with data:=cutL x.data size.toNat }) fun _=>⟨rfl,Int.le_refl _⟩).bump
theorem Tr.Did.stay (h:T.Did true T') (w:T.WF):T.Stay T':=by
 cases h
 ·exact .make w _ _ _ _
 ·exact .add _ _ _
 ·exact .drop _ _ _
 ·exact .move _ _ _ _
 ·exact .hold _
 ·exact .write _ _ _
 ·exact .cut _ _
 ·exact .refl
theorem Tr.Did.kd {up:Bool} (h:T.Did up T') (k:T.KD):T'.KD:=by
 cases h
 ·exact k.make keeps_KD _ _ _ _
 ·exact k.add keeps_KD _ _ _
 ·exact k.drop keeps_KD _ _ _
 ·exact k.move keeps_KD _ _ _ _
 ·exact k.hold keeps_KD _ _
 ·exact k.write keeps_KD _ _ _
 ·exact k.cut keeps_KD _ _
 ·exact k
end
end Go.AM
end
