/- CONTRACTS ON THE PRINTED FUNCTIONS. -/
import Derived.Test.YtgeenpollgalkaaGreatDoorDea46C1
set_option linter.all false
section
namespace Go.AM
theorem Ow.perm {rs rs':List Res} {H:AH} (h:Ow (joinR rs) H) (hp:rs.Perm rs'):Ow (joinR rs') H :=
 ⟨fun r hr=>h.holds r (hp.mem_iff.2 hr),fun b hb=>h.lt b ((hp.flatMap_right Res.fp).mem_iff.2 hb),(hp.flatMap_right Res.fp).nodup_iff.1 h.nd⟩
def wkRs (p m:Nat) (L:LyL) (T:Tr) (q:Nat) (v:Value) (M:List MntD) (nx:Int) (w:Nat) (X:List Res):List Res:=inoR p m L T :: tabR q v M nx :: boxR w [ptr p 0,ptr q 0] :: X
def WkO (X:List Res) (H0 H:AH) (w:Nat) (T:Tr) (M:List MntD) (nx:Int):Prop :=
 ∃ p m L q v,Ext H0 H∧Ow (joinR (wkRs p m L T q v M nx w X)) H∧(∀ b∈(joinR (wkRs p m L T q v M nx w X)).fp,H0.next≤b)∧Cov L T∧TabOk M nx
section
variable {E:Sy} {X:List Res} {H H' H0 Z:AH} {Q:Value→AH→Prop} {w:Nat} {T T':Tr} {M M':List MntD} {nx nx':Int} {L:List Res}
theorem WkO.ext (h:WkO X H0 H w T M nx):Ext H0 H:=by obtain ⟨_,_,_,_,_,h,_⟩:=h; exact h
theorem WkO.tab (h:WkO X H0 H w T M nx):TabOk M nx:=by obtain ⟨_,_,_,_,_,_,_,_,_,h⟩:=h; exact h
theorem own_upd {r r':Res} (e:Ext H0 H) (o:Ow r H) (own:∀ b∈r.fp,H0.next≤b) (u:Upd r r' H H'):Ext H0 H'∧Ow r' H'∧∀ b∈r'.fp,H0.next≤b :=
 ⟨u.only.ext e own,o.upd u,fun b hb=>(u.fp b hb).1.elim (own b) fun k=>Nat.le_trans e.1 k⟩
theorem WkO.open_ (h:WkO X H0 H w T M nx):∃ p q,H.get w = .cells [ptr p 0,ptr q 0] none ∧
  (∃ m L,Ino H p m L T∧∀ L' T' H',UpdI p m L T L' T' H H'→WkO X H0 H' w T' M nx) ∧
  (∃ v,(tabR q v M nx).P H∧(tabR q v M nx).fp.Nodup∧∀ v' M' nx' H',Upd (tabR q v M nx) (tabR q v' M' nx') H H'→TabOk M' nx'→WkO X H0 H' w T M' nx'):=by
 obtain ⟨p,m,L,q,v,e,o,own,cov,tab⟩:=h
 refine ⟨p,q,o.holds (boxR w [ptr p 0,ptr q 0]) (by simp [wkRs]),⟨m,L,⟨o.part (k:=0) rfl,cov⟩,fun L' T' H' u =>?_⟩,⟨v,o.holds (tabR q v M nx) (by simp [wkRs]),(o.part (k:=1) rfl).nd,fun v' M' nx' H' u ok =>?_⟩⟩
 ·obtain ⟨a,b,c⟩:=own_upd e o own (o.set (k:=0) rfl u.upd)
  exact ⟨p,m,L',q,v,a,b,c,u.cov,tab⟩
 ·obtain ⟨a,b,c⟩:=own_upd e o own (o.set (k:=1) rfl u)
  exact ⟨p,m,L,q,v',a,b,c,cov,ok⟩
theorem WkO.openX (h:WkO X H0 H w T M nx) {k:Nat} {r:Res} (hk:X[k]? = some r):Ow r H∧∀ r' H',Upd r r' H H'→WkO (X.set k r') H0 H' w T M nx:=by
 obtain ⟨p,m,L,q,v,e,o,own,cov,tab⟩:=h
 have hk':(wkRs p m L T q v M nx w X)[k+3]? = some r:=by simpa [wkRs] using hk
 refine ⟨o.part hk',fun r' H' u =>?_⟩
 obtain ⟨a,b,c⟩:=own_upd e o own (o.set hk' u)
 exact ⟨p,m,L,q,v,a,b,c,cov,tab⟩
theorem WkO.mono (h:WkO X H0 H w T M nx) (e:Ext H H'):WkO X H0 H' w T M nx:=by
 obtain ⟨p,m,L,q,v,e0,o,own,cov,tab⟩:=h
 exact ⟨p,m,L,q,v,e0.trans e,o.mono e,own,cov,tab⟩
theorem WkO.add (h:WkO X H0 H w T M nx) {r:Res} (n:NewRes r H H'):WkO (X++[r]) H0 H' w T M nx:=by
 obtain ⟨p,m,L,q,v,e0,o,own,cov,tab⟩:=h
 obtain ⟨a,b,c⟩:=own_upd e0 o own (o.add r n.1 n.2.1 n.2.2.1 n.2.2.2)
 exact ⟨p,m,L,q,v,a,b,c,cov,tab⟩
theorem newbox (H:AH) (c:List Value):NewRes (boxR H.next c) H (H.new (.cells c none)):=⟨(Ext.refl H).new _,AH.get_new_self _ _,fun b hb=>by simp [boxR] at hb; subst hb; simp,by simp [boxR]⟩
theorem WkO.box (h:WkO X H0 H w T M nx) (c:List Value):WkO (X++[boxR H.next c]) H0 (H.new (.cells c none)) w T M nx:=h.add (newbox H c)
theorem WkO.drop {r:Res} (h:WkO (X++[r]) H0 H w T M nx):WkO X H0 H w T M nx:=by
 obtain ⟨p,m,L,q,v,e0,o,own,cov,tab⟩:=h
 have u:=o.erase (X.length+3)
 have e:(wkRs p m L T q v M nx w (X++[r])).eraseIdx (X.length+3)=wkRs p m L T q v M nx w X:=by simp [wkRs,List.eraseIdx_append]
 rw [e] at u
 obtain ⟨a,b,c⟩:=own_upd e0 o own u
 exact ⟨p,m,L,q,v,a,b,c,cov,tab⟩
theorem WkO.held {k:Nat} {c:List Value} (h:WkO (X++[boxR k c]) H0 H w T M nx):H.get k = .cells c none:=(h.openX (k:=X.length) (r:=boxR k c) (by simp)).1.holds
theorem WkO.put {k:Nat} {c:List Value} (h:WkO (X++[boxR k c]) H0 H w T M nx) (c':List Value):WkO (X++[boxR k c']) H0 (H.put k (.cells c' none)) w T M nx:=by
 have:=(h.openX (k:=X.length) (r:=boxR k c) (by simp)).2 _ _ (boxR.put h.held c')
 rwa [set_last] at this
theorem WkO.at_ (h:WkO X H0 H w T M nx):WkAt H w T M:=by
 obtain ⟨p,q,hw,⟨m,L,hi,_⟩,⟨v,ht,_,_⟩⟩:=h.open_
 have:=h.tab.len
 exact ⟨⟨p,m,L,q,nx,hw,hi,tabR.at_ ht (by omega)⟩,h.tab.older⟩
theorem WkO.two {t:Nat} {nv mv:Value} {mr:List (List Value)} {Y:List RLy} {T2:Tr} {rx:Int} (h:WkO (refR t nv mv rx mr Y T2 :: X) H0 H w T M nx) (hl:Y.length=T2.N.length) (hf:T2.N.length≤60000) :
  ∃ p q v m L,TwoX (tabR q v M nx :: boxR w [ptr p 0,ptr q 0] :: X) H0 H p m L T t nv mv rx mr Y T2 ∧
   ∀ L' T' nv' Y' T2' H',TwoX (tabR q v M nx :: boxR w [ptr p 0,ptr q 0] :: X) H0 H' p m L' T' t nv' mv rx mr Y' T2'→WkO (refR t nv' mv rx mr Y' T2' :: X) H0 H' w T' M nx:=by
 obtain ⟨p,m,L,q,v,e0,o,own,cov,tab⟩:=h
 have perm:∀ (a b c d:Res),(a :: b :: c :: d :: X).Perm (a :: d :: b :: c :: X):=fun a b c d=>by
  refine .cons _ ?_
  exact (List.Perm.cons _ (.swap _ _ _)).trans (.swap _ _ _)
 refine ⟨p,q,v,m,L,⟨e0,o.perm (perm _ _ _ _),fun b hb=>own b (((perm _ _ _ _).flatMap_right Res.fp).mem_iff.2 hb),cov,hl,hf⟩,fun L' T' nv' Y' T2' H' h2 =>?_⟩
 exact ⟨p,m,L',q,v,h2.ext,h2.ow.perm (perm _ _ _ _).symm,fun b hb=>h2.own b (((perm _ _ _ _).flatMap_right Res.fp).mem_iff.1 hb),h2.cov,tab⟩
theorem S.f106 (hE:Fold E) (limit:Int) (hQ:∀ w H',WkO [] H H' w (Tr.new limit) tab0 1→Q (ptr w 0) H'):E.call (E.fid i.f106) [vi limit] H Q:=by
 apply hE.f106
 simp only [F.f106]
 refine S.f8' hE limit fun p m L H1 h1 =>?_
 refine S.f33 hE fun q v H2 n2 =>?_
 have hb:buildV [(0,1),(1,1)] #[(.pointer none),(.pointer none)] [(0,ptr p 0),(1,ptr q 0)]=some (.agg #[ptr p 0,ptr q 0]):=rfl
 simp only [hb,boxO_agg_z,AM.mk_some,mkPtr_eq_z,stdZ,Nat.zero_add,Nat.add_zero,List.getElem?_cons_zero,List.getElem?_cons_succ,Bool.not_true,Bool.not_false,List.toList_toArray]
 refine hQ H2.next _ ⟨p,m,L,q,v,?_⟩
 have o1:Ow (joinR [inoR p m L (Tr.new limit)]) H1:=by
  refine ⟨fun r hr=>by rw [List.mem_singleton] at hr; rw [hr]; exact h1.ino.ow.holds,?_,?_⟩
  ·intro b hb; exact h1.ino.ow.lt b (by simpa [joinR] using hb)
  ·simpa [joinR] using h1.ino.ow.nd
 have own1:∀ b∈(joinR [inoR p m L (Tr.new limit)]).fp,H.next≤b:=fun b hb=>h1.own b (by simpa [joinR] using hb)
 obtain ⟨a2,b2,c2⟩:=own_upd h1.ext o1 own1 (o1.add _ n2.1 n2.2.1 n2.2.2.1 n2.2.2.2)
 have n3:=newbox H2 [ptr p 0,ptr q 0]
 obtain ⟨a3,b3,c3⟩:=own_upd a2 b2 c2 (b2.add _ n3.1 n3.2.1 n3.2.2.1 n3.2.2.2)
 exact ⟨a3,b3,c3,h1.ino.cov,tabOk0⟩
end
end Go.AM
end
section
namespace Go.AM
def Tr.Each (P:Nd→Prop) (T:Tr):Prop:=∀ n,P (T.node n)
structure Keeps (P:Nd→Prop):Prop where
 none:P Nd.none
 addE:∀ s k x,P x→P (Nd.addE s k x)
 delE:∀ s x,P x→P (Nd.delE s x)
 addL:∀ k x,P x→P (Nd.addL k x)
 addH:∀ k x,P x→P (Nd.addH k x)
 par:∀ (q:BitVec 16) (x:Nd),P x→P { x with parent:=q }
 made:∀ inn k text,¬ (k=0#8∨3#8<k∨(k=3#8∧(text.length<1∨120<text.length)))→P (Nd.made inn k text)
 data:∀ (x:Nd) (d:List (BitVec 8)),x.kind=1#8→P x→P { x with data:=d }
section
variable {T:Tr} {P:Nd→Prop} (K:Keeps P)
theorem Tr.Each.upd (h:T.Each P) {n:BitVec 16} {f:Nd→Nd} (hf:∀ x:Nd,P x→P (f x)):(T.upd n f).Each P:=by
 intro k
 rcases T.upd_or n k f with e | e
 ·rw [e]; exact h k
 ·rw [e]; exact hf _ (h k)
theorem Tr.Each.updAt (h:T.Each P) {n:BitVec 16} {f:Nd→Nd} (hf:P (f (T.node n))):(T.upd n f).Each P:=by
 intro k
 unfold Tr.upd Tr.node
 simp only [List.getD_eq_getElem?_getD,List.getElem?_modify]
 have hk:=h k
 unfold Tr.node at hk hf
 simp only [List.getD_eq_getElem?_getD] at hk hf
 by_cases e:n.toNat=k.toNat
 ·rw [e] at hf
  cases hh:T.N[k.toNat]? with
  | none=>rw [hh] at hk; exact hk
  | some x=>rw [hh] at hf; simpa [e] using hf
 ·simp only [e,if_false]
  cases hh:T.N[k.toNat]? with
  | none=>rw [hh] at hk; exact hk
  | some x=>rw [hh] at hk; exact hk
theorem Tr.Each.bump (h:T.Each P):T.bump.Each P:=h
include K
theorem Tr.Each.tidy (h:T.Each P) (n:BitVec 16):(T.tidy n).Each P:=by
 unfold Tr.tidy
 split
 ·exact h.upd fun _ _=>K.none
 ·exact h
theorem Tr.Each.put (h:T.Each P) (a:Nat) (x:Nd) (hx:P x):(T.put a x).Each P:=by
 intro k
 unfold Tr.put Tr.node
 simp only [List.getD_eq_getElem?_getD]
 have hk:=h k
 unfold Tr.node at hk
 simp only [List.getD_eq_getElem?_getD] at hk
 split
 ·rw [List.getElem?_set]
  split
  ·exact hx
  ·exact hk
 ·rw [List.getElem?_append]
  split
  ·exact hk
  ·cases hz:([x][k.toNat - T.N.length]? : Option Nd) with
   | none=>exact K.none
   | some z =>
    have:=List.mem_of_getElem? hz
    simp at this
    subst this
    exact hx
theorem Tr.Each.make (h:T.Each P) (inn:BitVec 16) (s:NameL) (kd:BitVec 8) (text:List UInt8):(T.make inn s kd text).1.Each P:=by
 unfold Tr.make
 split
 ·exact h
 split
 ·exact h
 rename_i hc
 split
 ·exact h
 exact ((h.put K T.free (Nd.made inn kd text) (K.made inn kd text hc)).upd (f:=Nd.addE s (BitVec.ofNat 16 T.free)) fun x hx=>K.addE _ _ _ hx).bump
theorem Tr.Each.add (h:T.Each P) (inn:BitVec 16) (s:NameL) (v:BitVec 16):(T.add inn s v).1.Each P:=by
 unfold Tr.add
 repeat' split
 all_goals try exact h
 exact ((h.upd (f:=Nd.addE s v) fun x hx=>K.addE _ _ _ hx).upd (f:=Nd.addL 1) fun x hx=>K.addL _ _ hx).bump
theorem Tr.Each.drop (h:T.Each P) (inn:BitVec 16) (s:NameL) (d:Bool):(T.drop inn s d).1.Each P:=by
 unfold Tr.drop
 repeat' split
 all_goals try exact h
 exact Tr.Each.tidy K ((h.upd (f:=Nd.delE s) fun x hx=>K.delE _ _ hx).upd (f:=Nd.addL (-1)) fun x hx=>K.addL _ _ hx).bump _
theorem Tr.Each.hold (h:T.Each P) (n:BitVec 16) (more:Bool):(T.hold n more).1.Each P:=by
 unfold Tr.hold
 repeat' split
 all_goals try exact h
 ·exact h.upd fun x hx=>K.addH _ _ hx
 ·exact Tr.Each.tidy K (h.upd fun x hx=>K.addH _ _ hx) _
theorem Tr.Each.move (h:T.Each P) (fr:BitVec 16) (s:NameL) (to:BitVec 16) (other:NameL):(T.move fr s to other).1.Each P:=by
 have key:∀ (U:Tr) (n:BitVec 16),U.Each P→(Tr.moved U fr s to other n).Each P:=by
  intro U n hU
  have h2:((U.upd fr (Nd.delE s)).upd to (Nd.addE other n)).Each P:=(hU.upd (f:=Nd.delE s) fun x hx=>K.delE _ _ hx).upd (f:=Nd.addE other n) fun x hx=>K.addE _ _ _ hx
  unfold Tr.moved
  simp only
  split
  ·exact (h2.upd (f:=fun x=>{ x with parent:=to }) fun x hx=>K.par _ _ hx).bump
  ·exact h2.bump
 unfold Tr.move
 split
 ·exact h
 split
 ·exact h
 split
 ·exact h
 split
 ·exact h
 split
 ·exact h
 refine key _ _ ?_
 split
 ·exact h.drop K _ _ _
 ·exact h
theorem Tr.Each.write (h:T.Each P) (n:BitVec 16) (at_:Int) (b:List (BitVec 8)):(T.write n at_ b).1.Each P:=by
 unfold Tr.write
 split
 ·exact h
 split
 ·exact h
 split
 ·exact h
 rename_i hc
 split
 ·exact h
 refine Tr.Each.bump (Tr.Each.updAt h ?_)
 exact K.data _ _ (by simp only [not_or,Decidable.not_not] at hc; exact hc.1) (h n)
theorem Tr.Each.cut (h:T.Each P) (n:BitVec 16) (size:Int):(T.cut n size).1.Each P:=by
 unfold Tr.cut
 split
 ·exact h
 split
 ·exact h
 split
 ·exact h
 rename_i hc
 split
 ·exact h
 refine Tr.Each.bump (Tr.Each.updAt h ?_)
 exact K.data _ _ (by simp only [not_or,Decidable.not_not] at hc; exact hc.1) (h n)
omit K in
theorem Tr.Each.new (limit:Int) (h0:P Nd.none) (h1:P { Nd.none with kind:=2#8,parent:=1#16,links:=1 }):(Tr.new limit).Each P:=by
 intro n
 unfold Tr.new Tr.node
 simp only [List.getD_eq_getElem?_getD]
 by_cases e0:n.toNat=0
 ·rw [e0]; exact h0
 ·by_cases e1:n.toNat=1
  ·rw [e1]; exact h1
  ·rw [List.getElem?_eq_none (by simp; omega)]; exact h0
end
structure Nd.KD (x:Nd):Prop where
 kind:x.kind=0#8∨x.kind=1#8∨x.kind=2#8∨x.kind=3#8
 text:x.kind=3#8→x.text≠[]∧x.text.length≤120
 notext:x.kind≠3#8→x.text=[]
 nodata:x.kind≠1#8→x.data=[]
theorem keeps_KD:Keeps Nd.KD where
 none:=⟨.inl rfl,by simp [Nd.none],by simp [Nd.none],by simp [Nd.none]⟩
 addE:=fun _ _ _ h=>⟨h.kind,h.text,h.notext,h.nodata⟩
 delE:=fun _ _ h=>⟨h.kind,h.text,h.notext,h.nodata⟩
 addL:=fun _ _ h=>⟨h.kind,h.text,h.notext,h.nodata⟩
 addH:=fun _ _ h=>⟨h.kind,h.text,h.notext,h.nodata⟩
 par:=fun _ _ h=>⟨h.kind,h.text,h.notext,h.nodata⟩
 made:=fun inn k text h=>by
  simp only [not_or,not_and] at h
  obtain ⟨h1,h2,h3⟩:=h
  have hk:k=1#8∨k=2#8∨k=3#8:=by
   have h2:¬ (3<k.toNat):=h2
   have h1:k.toNat≠0:=fun e=>h1 (BitVec.eq_of_toNat_eq e)
   have:k.toNat=1∨k.toNat=2∨k.toNat=3:=by omega
   rcases this with e | e | e
   ·exact .inl (BitVec.eq_of_toNat_eq e)
   ·exact .inr (.inl (BitVec.eq_of_toNat_eq e))
   ·exact .inr (.inr (BitVec.eq_of_toNat_eq e))
  refine ⟨.inr hk,fun e =>?_,fun e =>?_,fun _=>rfl⟩
  ·have e:k=3#8:=e
   obtain ⟨a,b⟩:=h3 e
   have ht:(Nd.made inn k text).text=text:=by simp [Nd.made,e]
   rw [ht]
   refine ⟨fun e0=>a (by rw [e0]; decide),by omega⟩
  ·have e:k≠3#8:=e
   simp [Nd.made,e]
 data:=fun x d hk h=>⟨h.kind,h.text,h.notext,fun e=>(e hk).elim⟩
abbrev Tr.KD (T:Tr):Prop:=T.Each Nd.KD
theorem Tr.KD.new (limit:Int):(Tr.new limit).KD:=Tr.Each.new limit keeps_KD.none ⟨.inr (.inr (.inl rfl)),by simp,by simp [Nd.none],by simp [Nd.none]⟩
end Go.AM
end
section
namespace Go.AM
section
variable {E:Sy} {X:List Res} {H H' H0 Z:AH} {Q:Value→AH→Prop} {w p m:Nat} {T T':Tr} {M M':List MntD} {nx nx':Int} {L:LyL}
abbrev Tr.CO (T:Tr):Prop := -9223372036854775808≤T.change∧T.change<9223372036854775806
theorem Ino.cMake (hE:Fold E) (h:Ino H p m L T) (wf:T.WF) (n:BitVec 16) (s:NameL) (hs:s.length<2 ^ 63) (k:BitVec 8) (text:List UInt8) (ht:text.length<2 ^ 63) (hc:T.CO)
  (hQ:∀ L' H',UpdI p m L T L' (T.make n s k text).1 H H'→Q (.tuple #[u16 (T.make n s k text).2.1,vi (T.make n s k text).2.2]) H'):E.call (E.fid i.f15) [ptr p 0,u16 n,str s,u8 k,str text] H Q:=by
 have hlen:=wf.len16
 have hl2:=wf.len.1
 exact S.f15 hE h n s hs k text ht ⟨hc.1,by have:=hc.2; omega⟩ ⟨by omega,by omega⟩ (fun _ r=>wf.chain ⟨(Tr.room_ok r).1,(Tr.room_ok r).2.2.1⟩ 17) fun L1 H1 _ u1=>hQ _ _ u1
theorem Tr.KD.lt (h:T.KD):T.LT:=fun n hk=>(h n).text hk
theorem tab0_atOk:AtOk T tab0:=by
 intro m hm h
 simp [tab0] at hm
 subst hm
 exact (h rfl).elim
end
end Go.AM
end
section
namespace Go.AM
structure SetD where
 h:BitVec 16
 paths:List (BitVec 16×BitVec 16)
 ports:List (BitVec 16×BitVec 16)
abbrev getR (n:BitVec 16) (l:List (BitVec 16×BitVec 16)):BitVec 16:=(l.lookup n).getD 0#16
def fitsR (dir:Bool) (r:BitVec 16):BitVec 16:=if dir then r&&&2047#16 else r&&&1031#16
def addR (n r:BitVec 16) (l:List (BitVec 16×BitVec 16)):List (BitVec 16×BitVec 16):=aset n (getR n l|||r) l
def ofStep (T:Tr) (M:List MntD) (cwd:PlaceD) (l:List (BitVec 16×BitVec 16)) (b:List UInt8×BitVec 16):List (BitVec 16×BitVec 16)×Int :=
 if (findW T M cwd b.1 true).2≠0 then (l,(findW T M cwd b.1 true).2)
 else if fitsR (decide ((T.node (findW T M cwd b.1 true).1.i).kind=2#8)) b.2≠b.2 then (l,22)
 else (addR (findW T M cwd b.1 true).1.i b.2 l,0)
def ofPaths (T:Tr) (M:List MntD) (cwd:PlaceD):List (BitVec 16×BitVec 16)→List (List UInt8×BitVec 16)→List (BitVec 16×BitVec 16)×Int
 | l,[]=>(l,0)
 | l,b :: bs=>if (ofStep T M cwd l b).2≠0 then ofStep T M cwd l b else ofPaths T M cwd (ofStep T M cwd l b).1 bs
def ofPorts (ps:List (BitVec 16×BitVec 16)):List (BitVec 16×BitVec 16):=ps.foldl (fun l x=>addR x.1 x.2 l) []
def PolX.set (T:Tr) (M:List MntD) (cwd:PlaceD) (x:PolX):SetD×Int:=(⟨x.handled,(ofPaths T M cwd [] x.paths).1,ofPorts x.ports⟩,(ofPaths T M cwd [] x.paths).2)
def SetD.at_ (d:SetD) (n:BitVec 16):BitVec 16:=getR n d.paths
def SetD.granted (d:SetD) (n:BitVec 16) (above:List PlaceD):BitVec 16:=above.foldl (fun r p=>r|||d.at_ p.i) (d.at_ n)
def SetD.denied (d:SetD) (want n:BitVec 16) (above:List PlaceD):BitVec 16:=(want&&&d.h) &&& ~~~ d.granted n above
def SetD.port (d:SetD) (want number:BitVec 16):Bool:=decide ((want&&&d.h) &&& ~~~ getR number d.ports=0#16)
def SetAt (H:AH) (s:Nat) (d:SetD):Prop:=∃ r1 r2,H.get s = .cells [u16 d.h,.map (some r1),.map (some r2)] none∧MapAt u16 u16 H r1 d.paths∧MapAt u16 u16 H r2 d.ports
section
variable {E:Sy} {X:List Res} {H H' H0 Z:AH} {Q:Value→AH→Prop} {t w:Nat} {T T':Tr} {M M':List MntD} {nx nx':Int} {L:List Res} {s:Nat} {d:SetD}
theorem SetAt.mono (h:SetAt H s d) (e:Ext H H'):SetAt H' s d:=by
 obtain ⟨r1,r2,h1,h2,h3⟩:=h
 exact ⟨r1,r2,e.cells h1,h2.keep (e.get h2.lt),h3.keep (e.get h3.lt)⟩
theorem look_u16 {r:Nat} {l:List (BitVec 16×BitVec 16)} (h:MapAt u16 u16 H r l) (n:BitVec 16):look 0 (.int .u16 0) false (.map (some r)) (u16 n) H=some (u16 (getR n l)):=by
 have:=h.look (kd:=0) (fun a b=>same_u16 a b) n (.int .u16 0) false
 rw [this]
 unfold getR
 cases l.lookup n <;> rfl
theorem look_u16' {r:Nat} {l:List (BitVec 16×BitVec 16)} (h:MapAt u16 u16 H r l) (n:BitVec 16):look 0 (u16 0#16) false (.map (some r)) (u16 n) H=some (u16 (getR n l)):=look_u16 h n
theorem S.f86 (hE:Fold E) (r:BitVec 16) (dir:Bool) (hQ:Q (u16 (fitsR dir r)) H):E.call (E.fid i.f86) [u16 r,vb dir] H Q:=by
 apply hE.f86
 cases dir <;> simpa [F.f86,fitsR] using hQ
theorem S.f92 (hE:Fold E) (h:SetAt H s d) (hQ:Q (u16 d.h) H):E.call (E.fid i.f92) [ptr s 0] H Q:=by
 apply hE.f92
 obtain ⟨r1,r2,h1,h2,h3⟩:=h
 simp only [F.f92,nilq_p,h1,stdZ,Nat.zero_add,Nat.add_zero,List.getElem?_cons_zero,List.getElem?_cons_succ,Bool.not_true,Bool.not_false,List.toList_toArray]
 exact hQ
theorem S.f89 (hE:Fold E) (h:SetAt H s d) (n:BitVec 16) (hQ:Q (u16 (d.at_ n)) H):E.call (E.fid i.f89) [ptr s 0,u16 n] H Q:=by
 apply hE.f89
 obtain ⟨r1,r2,h1,h2,h3⟩:=h
 simp only [F.f89,nilq_p,h1,look_u16 h2,stdZ,Nat.zero_add,Nat.add_zero,List.getElem?_cons_zero,List.getElem?_cons_succ,Bool.not_true,Bool.not_false,List.toList_toArray]
 exact hQ
theorem S.f93 (hE:Fold E) (h:SetAt H s d) (want n:BitVec 16) (hQ:Q (vb (d.port want n)) H):E.call (E.fid i.f93) [ptr s 0,u16 want,u16 n] H Q:=by
 apply hE.f93
 obtain ⟨r1,r2,h1,h2,h3⟩:=h
 have n0:(.int .u16 0:Value)=u16 0#16:=rfl
 simp only [F.f93,nilq_p,h1,look_u16 h3,u16_and,u16_andNot,n0,look_u16' h3,u16_eql,stdZ,Nat.zero_add,Nat.add_zero,List.getElem?_cons_zero,List.getElem?_cons_succ,Bool.not_true,Bool.not_false,List.toList_toArray]
 exact hQ
theorem S.f91 (hE:Fold E) (h:SetAt H s d) (n:BitVec 16) (v:Value) (l:List PlaceD) (hv:Rows H 2 v (placeR l)) (hl:l.length<2 ^ 63) (hQ:∀ H',Ext H H'→Q (u16 (d.granted n l)) H'):E.call (E.fid i.f91) [ptr s 0,u16 n,v] H Q:=by
 apply hE.f91
 simp only [F.f91]
 refine S.f89 hE h n ?_
 have hls:=hv.lenSlc
 rw [placeR_length] at hls
 simp only [hls,stdZ,Nat.zero_add,Nat.add_zero,List.getElem?_cons_zero,List.getElem?_cons_succ,Bool.not_true,Bool.not_false,List.toList_toArray]
 unfold SetD.granted at hQ
 refine LoopL.count l.length (fun j ls H'=>ls=[ptr s 0,u16 ((l.take j).foldl (fun r p=>r|||d.at_ p.i) (d.at_ n)),v,vi l.length,vi j]∧Ext H H') ?_ ⟨rfl,Ext.refl _⟩
 rintro j _ H1 X hj hX ⟨rfl,e1⟩
 rcases Nat.lt_or_ge j l.length with hjl | hjl
 ·have hX:=hX hjl
  have hjl':(j:Int)<l.length:=by omega
  have hjj:=i64_inc (i:=j) (by omega)
  obtain ⟨b,o,f1,f2⟩:=(hv.mono e1).ix (i:=j) (by rw [placeR_length]; exact hjl)
  have hrow:(placeR l)[j]'(by rw [placeR_length]; exact hjl)=(l[j]).cells:=by simp [placeR]
  rw [hrow] at f2
  rw [List.take_succ_eq_append_getElem hjl,List.foldl_append,List.foldl_cons,List.foldl_nil] at hX
  generalize l[j]=p at *
  have hlo:loadN 2 (ptr b o) H1=some p.v:=by rw [loadN_ptr,f2]; rfl
  have hz2:([(.int .i64 0),(.int .u16 0)]:List Value)=PlaceD.zero.cells:=rfl
  have hst:storeN 2 (ptr H1.next 0) p.v (H1.new (.cells PlaceD.zero.cells none))=some (H1.new (.cells p.cells none)):=by
   rw [storeN_ptr,AH.get_new_self]
   have:AM.splice PlaceD.zero.cells 0 p.cells=p.cells:=rfl
   simp only [List.size_toArray,List.toList_toArray,show p.cells.length=2 from rfl,show PlaceD.zero.cells.length=2 from rfl,show p.cells.all plain1=true from rfl,Nat.zero_add,Nat.le_refl,and_self,if_true,this,AH.new_put]
  have x2:Ext H1 (H1.new (.cells p.cells none)):=(Ext.refl _).new _
  have c1:p.cells[1]? = some (u16 p.i):=rfl
  simp only [F.f91_l1,i64_lss,hjl',decide_true,f1,hlo,allocW_eq,hz2,hst,AH.get_new_self,c1,stdZ,Nat.zero_add,Nat.add_zero,List.getElem?_cons_zero,List.getElem?_cons_succ,Bool.not_true,Bool.not_false,List.toList_toArray]
  refine S.f89 hE (h.mono (e1.trans x2)) p.i ?_
  simp only [u16_or,hjj,stdZ,Nat.zero_add,Nat.add_zero,List.getElem?_cons_zero,List.getElem?_cons_succ,Bool.not_true,Bool.not_false,List.toList_toArray]
  exact hX _ _ ⟨rfl,e1.trans x2⟩
 ·have hjl':¬ (j:Int)<l.length:=by omega
  rw [List.take_of_length_le hjl]
  simp only [F.f91_l1,i64_lss,hjl',decide_false,stdZ,Nat.zero_add,Nat.add_zero,List.getElem?_cons_zero,List.getElem?_cons_succ,Bool.not_true,Bool.not_false,List.toList_toArray]
  exact hQ _ e1
theorem S.f90 (hE:Fold E) (h:SetAt H s d) (want n:BitVec 16) (v:Value) (l:List PlaceD) (hv:Rows H 2 v (placeR l)) (hl:l.length<2 ^ 63) (hQ:∀ H',Ext H H'→Q (u16 (d.denied want n l)) H'):E.call (E.fid i.f90) [ptr s 0,u16 want,u16 n,v] H Q:=by
 apply hE.f90
 simp only [F.f90]
 refine S.f92 hE h ?_
 simp only [u16_and,stdZ,Nat.zero_add,Nat.add_zero,List.getElem?_cons_zero,List.getElem?_cons_succ,Bool.not_true,Bool.not_false,List.toList_toArray]
 refine S.f91 hE h n v l hv hl fun H1 e1 =>?_
 simp only [u16_andNot,stdZ,Nat.zero_add,Nat.add_zero,List.getElem?_cons_zero,List.getElem?_cons_succ,Bool.not_true,Bool.not_false,List.toList_toArray]
 exact hQ _ e1
end
end Go.AM
end
section
namespace Go.AM
section
variable {E:Sy} {X:List Res} {H H' H0 Z:AH} {Q:Value→AH→Prop} {t w:Nat} {T T':Tr} {M M':List MntD} {nx nx':Int} {L:List Res} {s:Nat} {d:SetD}
theorem findW_kind (T:Tr) (M:List MntD) (c:PlaceD) (path:List UInt8) (follow:Bool):(findW T M c path follow).2=0→(T.node (findW T M c path follow).1.i).kind≠0#8:=by
 unfold findW
 split
 ·rename_i h; intro e; exact (h e).elim
 ·simp only
  split
  ·rename_i h; intro e; exact (h e).elim
  ·split
   ·intro e; simp at e
   ·rename_i h
    split
    ·intro e; simp at e
    ·intro _; exact h
theorem two_store {H:AH} {z c:List Value} (hz:z.length=2) (hc:c.length=2) (hp:c.all plain1=true):storeN 2 (ptr H.next 0) (.agg c.toArray) (H.new (.cells z none))=some (H.new (.cells c none)):=by
 rw [storeN_ptr,AH.get_new_self]
 have:AM.splice z 0 c=c:=by simp [splice,hz,hc]
 simp only [List.size_toArray,List.toList_toArray,hc,hz,hp,Nat.zero_add,Nat.le_refl,and_self,if_true,this,AH.new_put]
theorem of_ports {l:List (BitVec 16×BitVec 16)} (ps:List (BitVec 16×BitVec 16)) {v:Value} (hv:Rows H 2 v (ps.map fun p=>[u16 p.1,u16 p.2])) (hn:ps.length<2 ^ 63) {r1 r2:Nat} {b0 b1:List Value} {x0 x1 h:Nat} {hd:BitVec 16} {pl:List (BitVec 16×BitVec 16)} {H1:AH} (hl:l=[])
  (g:Has H H H1 [boxR x0 b0,boxR x1 b1,mapR u16 u16 r1 pl,mapR u16 u16 r2 l,boxR h [u16 hd,.map (some r1),.map (some r2)]])
  (hQ:∀ H',Ext H H'→SetAt H' h ⟨hd,pl,ofPorts ps⟩→Q (.tuple #[ptr h 0,vi 0]) H') :
  LoopL (fun l H X0=>F.f88_l2 E Q (nth l 0) (nth l 1) (nth l 2) (nth l 3) H X0) [ptr h 0,v,vi ps.length,(.int .i64 0)] H1:=by
 subst hl
 refine LoopL.count ps.length (fun j ls H'=>ls=[ptr h 0,v,vi ps.length,vi j]∧Has H H H' [boxR x0 b0,boxR x1 b1,mapR u16 u16 r1 pl,mapR u16 u16 r2 (ofPorts (ps.take j)),boxR h [u16 hd,.map (some r1),.map (some r2)]]) ?_ ⟨rfl,g⟩
 rintro j _ H2 X hj hX ⟨rfl,g2⟩
 rcases Nat.lt_or_ge j ps.length with hjl | hjl
 ·have hX:=hX hjl
  have hjl':(j:Int)<ps.length:=by omega
  have hjj:=i64_inc (i:=j) (by omega)
  obtain ⟨b,o,f1,f2⟩:=(hv.mono g2.ext).ix (i:=j) (by simpa using hjl)
  rw [List.getElem_map] at f2
  have hst:ofPorts (ps.take (j+1))=addR ps[j].1 ps[j].2 (ofPorts (ps.take j)):=by
   unfold ofPorts
   rw [List.take_succ_eq_append_getElem hjl,List.foldl_append]; rfl
  rw [hst] at hX
  generalize ps[j]=p at *
  generalize ofPorts (ps.take j)=l at *
  have hlo:loadN 2 (ptr b o) H2=some (.agg [u16 p.1,u16 p.2].toArray):=by rw [loadN_ptr,f2]; rfl
  have hz2:storeN 2 (ptr H2.next 0) (.agg [u16 p.1,u16 p.2].toArray) (H2.new (.cells [(.int .u16 0),(.int .u16 0)] none))=some (H2.new (.cells [u16 p.1,u16 p.2] none)):=two_store rfl rfl rfl
  have g3:=g2.newbox [u16 p.1,u16 p.2]
  have hb3:=g3.box (k:=4) (b:=h) rfl
  have hp3:=g3.box (k:=5) (b:=H2.next) rfl
  have hm3:=g3.mapAt (k:=3) rfl
  obtain ⟨H4,m1,m2⟩:=g3.mapset (n:=3) (kd:=0) rfl (fun a b=>same_u16 a b) p.1 (getR p.1 l|||p.2)
  have m2:=m2.drop 5
  simp only [F.f88_l2,i64_lss,hjl',decide_true,f1,hlo,allocW_eq,hz2,hb3,hp3,look_u16 hm3,u16_or,m1,hjj,stdZ,Nat.zero_add,Nat.add_zero,List.getElem?_cons_zero,List.getElem?_cons_succ,Bool.not_true,Bool.not_false,List.toList_toArray]
  exact hX _ _ ⟨rfl,m2⟩
 ·have hjl':¬ (j:Int)<ps.length:=by omega
  rw [List.take_of_length_le hjl] at g2
  simp only [F.f88_l2,i64_lss,hjl',decide_false,stdZ,Nat.zero_add,Nat.add_zero,List.getElem?_cons_zero,List.getElem?_cons_succ,Bool.not_true,Bool.not_false,List.toList_toArray]
  exact hQ _ g2.ext ⟨r1,r2,g2.box (k:=4) rfl,g2.mapAt (k:=2) rfl,g2.mapAt (k:=3) rfl⟩
theorem S.f88 (hE:Fold E) (h:WkAt H t T M) (wf:T.WF) (lt:T.LT) (x:PolX) (cs:List Value) (hx:PolXAt H x cs) (hf:x.paths.length<2 ^ 63∧x.ports.length<2 ^ 63) (hpl:∀ b∈x.paths,b.1.length<2 ^ 63) (c:PlaceD)
  (hbad:(x.set T M c).2≠0→∀ H',Ext H H'→Q (.tuple #[.pointer none,vi (x.set T M c).2]) H')
  (hok:(x.set T M c).2=0→∀ s H',Ext H H'→H.next≤s→SetAt H' s (x.set T M c).1→Q (.tuple #[ptr s 0,vi 0]) H'):E.call (E.fid i.f88) [.agg cs.toArray,ptr t 0,c.v] H Q:=by
 apply hE.f88
 obtain ⟨v,pv,qv,rfl,_,hp,hq⟩:=hx
 have g0:Has H H H []:=Has.start (Ext.refl H)
 have g1:=g0.newbox [str x.name,u32 x.pol.default,v,u16 x.handled,pv,qv]
 have g2:=g1.newbox c.cells
 have g3:=g2.newmap u16 u16
 have g4:=g3.newmap u16 u16
 have hbv:∀ r1 r2,buildV [(0,1),(1,1),(2,1)] #[(.int .u16 0),(.map none),(.map none)] [(0,u16 x.handled),(1,.map (some r1)),(2,.map (some r2))]=some (.agg #[u16 x.handled,.map (some r1),.map (some r2)]):=fun r1 r2=>rfl
 simp only [F.f88,boxO_agg_z,AM.mk_some,mkPtr_eq_z,List.toList_toArray,nilq_p,stdZ,Nat.zero_add,Nat.add_zero,List.getElem?_cons_zero,List.getElem?_cons_succ,Bool.not_true,Bool.not_false,List.toList_toArray]
 have hb2:=g2.box (k:=0) (b:=H.next) rfl
 have d3:([str x.name,u32 x.pol.default,v,u16 x.handled,pv,qv]:List Value)[3]? = some (u16 x.handled):=rfl
 generalize hH2:(H.new (.cells [str x.name,u32 x.pol.default,v,u16 x.handled,pv,qv] none)).new (.cells c.cells none)=H2 at *
 have n2:H2.next=H.next+2:=by subst hH2; simp
 simp only [hb2,mapW_eq,hbv,AM.mk_some,mkPtr_eq_z,stdZ,Nat.zero_add,Nat.add_zero,List.getElem?_cons_zero,List.getElem?_cons_succ,Bool.not_true,Bool.not_false,List.toList_toArray]
 have hlt1:=g2.ext.1
 have g5:=g4.newbox [u16 x.handled,.map (some H2.next),.map (some (H2.new (.map [] 0 true)).next)]
 have hb5:=g5.box (k:=0) (b:=H.next) rfl
 have d4:([str x.name,u32 x.pol.default,v,u16 x.handled,pv,qv]:List Value)[4]? = some pv:=rfl
 have hlp:=hp.lenSlc
 rw [List.length_map] at hlp
 generalize hs:((H2.new (.map [] 0 true)).new (.map [] 0 true)).next=s at *
 have hsn:H.next≤s:=by subst hs; simp; omega
 simp only [AH.next_new_z] at hb5 g5 hs ⊢
 generalize hH5:((H2.new (.map [] 0 true)).new (.map [] 0 true)).new (.cells [u16 x.handled,.map (some H2.next),.map (some (H2.next+1))] none)=H5 at *
 simp only [hb5,d4,hlp,stdZ,Nat.zero_add,Nat.add_zero,List.getElem?_cons_zero,List.getElem?_cons_succ,Bool.not_true,Bool.not_false,List.toList_toArray]
 have g5:Has H H H5 [boxR H.next [str x.name,u32 x.pol.default,v,u16 x.handled,pv,qv],boxR (H.next+1) c.cells,mapR u16 u16 H2.next [],mapR u16 u16 (H2.next+1) [],boxR s [u16 x.handled,.map (some H2.next),.map (some (H2.next+1))]]:=g5
 clear hH5 hs hH2 g4 g3 g2 g1
 generalize H2.next=r1 at *
 unfold PolX.set at hbad hok
 simp only at hbad hok
 refine LoopL.count x.paths.length (fun j ls H'=>∃ l,ls=[ptr t 0,ptr H.next 0,ptr (H.next+1) 0,ptr s 0,pv,vi x.paths.length,vi j]∧Has H H H' [boxR H.next [str x.name,u32 x.pol.default,v,u16 x.handled,pv,qv],boxR (H.next+1) c.cells,mapR u16 u16 r1 l,mapR u16 u16 (r1+1) [],boxR s [u16 x.handled,.map (some r1),.map (some (r1+1))]]∧ofPaths T M c [] x.paths=ofPaths T M c l (x.paths.drop j)) ?_ ⟨[],rfl,g5,rfl⟩
 rintro j _ H6 X hj hX ⟨l,rfl,g6,hof⟩
 rcases Nat.lt_or_ge j x.paths.length with hjl | hjl
 ·have hX:=hX hjl
  have hjl':(j:Int)<x.paths.length:=by omega
  have hjj:=i64_inc (i:=j) (by omega)
  obtain ⟨b,o,f1,f2⟩:=(hp.mono g6.ext).ix (i:=j) (by simpa using hjl)
  rw [List.getElem_map] at f2
  rw [List.drop_eq_getElem_cons hjl] at hof
  have hpj:=hpl x.paths[j] (List.getElem_mem hjl)
  generalize x.paths[j]=p at *
  have hlo:loadN 2 (ptr b o) H6=some (.agg [str p.1,u16 p.2].toArray):=by rw [loadN_ptr,f2]; rfl
  have hst:storeN 2 (ptr H6.next 0) (.agg [str p.1,u16 p.2].toArray) (H6.new (.cells [(.string ⟨#[]⟩),(.int .u16 0)] none))=some (H6.new (.cells [str p.1,u16 p.2] none)):=two_store rfl rfl rfl
  have g7:=g6.newbox [str p.1,u16 p.2]
  have hb7:=g7.box (k:=5) (b:=H6.next) rfl
  have hlc:loadN 2 (ptr (H.next+1) 0) (H6.new (.cells [str p.1,u16 p.2] none))=some c.v:=by rw [loadN_ptr,g7.box (k:=1) (b:=H.next+1) rfl]; rfl
  simp only [F.f88_l1,i64_lss,hjl',decide_true,f1,hlo,allocW_eq,hst,hlc,hb7,stdZ,Nat.zero_add,Nat.add_zero,List.getElem?_cons_zero,List.getElem?_cons_succ,Bool.not_true,Bool.not_false,List.toList_toArray]
  refine S.f109 hE (h.mono g7.ext) wf lt c p.1 hpj true fun H8 e8 =>?_
  have g8:=g7.grow e8
  have hstep:ofStep T M c l p=if (findW T M c p.1 true).2≠0 then (l,(findW T M c p.1 true).2) else if fitsR (decide ((T.node (findW T M c p.1 true).1.i).kind=2#8)) p.2≠p.2 then (l,22) else (addR (findW T M c p.1 true).1.i p.2 l,0):=rfl
  have hfk:(findW T M c p.1 true).2=0→(T.node (findW T M c p.1 true).1.i).kind≠0#8:=findW_kind T M c p.1 true
  generalize findW T M c p.1 true=r at *
  have hst8:storeN 2 (ptr H8.next 0) r.1.v (H8.new (.cells [(.int .i64 0),(.int .u16 0)] none))=some (H8.new (.cells r.1.cells none)):=two_store rfl rfl rfl
  have g9:=g8.newbox r.1.cells
  simp only [allocW_eq,hst8,i64_neq,stdZ,Nat.zero_add,Nat.add_zero,List.getElem?_cons_zero,List.getElem?_cons_succ,Bool.not_true,Bool.not_false,List.toList_toArray]
  by_cases he:r.2=0
  rotate_left
  ·rw [if_pos (by simpa using he)] at hstep
   have hof2:ofPaths T M c [] x.paths=(l,r.2):=by rw [hof,ofPaths,hstep,if_pos (by simpa using he)]
   rw [hof2] at hbad
   simp only [ne_eq,he,not_false_eq_true,decide_true,stdZ,Nat.zero_add,Nat.add_zero,List.getElem?_cons_zero,List.getElem?_cons_succ,Bool.not_true,Bool.not_false,List.toList_toArray]
   exact hbad he _ g9.ext
  rw [if_neg (by simpa using he)] at hstep
  obtain ⟨⟨q,m,L',q',nx,q1,q2,q3⟩,_⟩:=h.mono g9.ext
  have hb9:=g9.box (k:=6) (b:=H8.next) rfl
  have hb9':=g9.box (k:=5) (b:=H6.next) rfl
  have hb9s:=g9.box (k:=4) (b:=s) rfl
  have hm9:=g9.mapAt (k:=2) rfl
  have e1:r.1.cells[1]? = some (u16 r.1.i):=rfl
  have n2':(.int .u8 2:Value)=u8 2#8:=rfl
  simp only [ne_eq,he,not_true,decide_false,q1,hb9,e1,stdZ,Nat.zero_add,Nat.add_zero,List.getElem?_cons_zero,List.getElem?_cons_succ,Bool.not_true,Bool.not_false,List.toList_toArray]
  refine S.f12 hE q2 r.1.i ?_
  rcases q2.get r.1.i with ⟨k0,_⟩ | ⟨kk,yy,k0,k1,k2,k3,k4⟩
  ·exact (hfk he k0).elim
  simp only [nodeP_some q2.cov.nd k1,k3,inC,n2',u8_eql,hb9',stdZ,Nat.zero_add,Nat.add_zero,List.getElem?_cons_zero,List.getElem?_cons_succ,Bool.not_true,Bool.not_false,List.toList_toArray]
  refine S.f86 hE p.2 _ ?_
  refine ⟨rfl,?_⟩
  simp only [u16_neq,stdZ,Nat.zero_add,Nat.add_zero,List.getElem?_cons_zero,List.getElem?_cons_succ,Bool.not_true,Bool.not_false,List.toList_toArray]
  by_cases hfit:fitsR (decide ((T.node r.1.i).kind=2#8)) p.2=p.2
  ·rw [if_neg (by simpa using hfit)] at hstep
   have hof2:ofPaths T M c [] x.paths=ofPaths T M c (addR r.1.i p.2 l) (x.paths.drop (j+1)):=by rw [hof,ofPaths,hstep,if_neg (by simp)]
   obtain ⟨H10,m1,m2⟩:=g9.mapset (n:=2) (kd:=0) rfl (fun a b=>same_u16 a b) r.1.i (getR r.1.i l|||p.2)
   have m2:=(m2.drop 6).drop 5
   simp only [ne_eq,hfit,not_true,decide_false,hb9s,hb9,hb9',e1,look_u16 hm9,u16_or,m1,hjj,stdZ,Nat.zero_add,Nat.add_zero,List.getElem?_cons_zero,List.getElem?_cons_succ,Bool.not_true,Bool.not_false,List.toList_toArray]
   exact hX _ _ ⟨addR r.1.i p.2 l,rfl,m2,hof2⟩
  ·rw [if_pos (by simpa using hfit)] at hstep
   have hof2:ofPaths T M c [] x.paths=(l,22):=by rw [hof,ofPaths,hstep,if_pos (by simp)]
   rw [hof2] at hbad
   simp only [ne_eq,hfit,not_false_eq_true,decide_true,stdZ,Nat.zero_add,Nat.add_zero,List.getElem?_cons_zero,List.getElem?_cons_succ,Bool.not_true,Bool.not_false,List.toList_toArray]
   exact hbad (by simp) _ g9.ext
 ·have hjl':¬ (j:Int)<x.paths.length:=by omega
  rw [List.drop_of_length_le hjl] at hof
  have hof:ofPaths T M c [] x.paths=(l,0):=hof
  rw [hof] at hok
  have d5:([str x.name,u32 x.pol.default,v,u16 x.handled,pv,qv]:List Value)[5]? = some qv:=rfl
  have hlq:=hq.lenSlc
  rw [List.length_map] at hlq
  simp only [F.f88_l1,i64_lss,hjl',decide_false,g6.box (k:=0) (b:=H.next) rfl,d5,hlq,stdZ,Nat.zero_add,Nat.add_zero,List.getElem?_cons_zero,List.getElem?_cons_succ,Bool.not_true,Bool.not_false,List.toList_toArray]
  exact of_ports x.ports hq hf.2 rfl g6 fun H' e hs=>hok rfl s H' e hsn hs
end
end Go.AM
end
section
namespace Go.AM
section
variable {E:Sy} {X:List Res} {H H' H0 Z:AH} {Q:Value→AH→Prop} {t w:Nat} {T T':Tr} {M M':List MntD} {nx nx':Int} {L:List Res} {s:Nat} {d:SetD}
def awkPol:PolX:=⟨[],⟨0#32,[]⟩,4#16,[([47,97],4#16)],[]⟩
theorem S.f54 (hE:Fold E) (hQ:∀ H',Ext H H'→Q (vb true) H'):E.call (E.fid i.f54) [] H Q:=by
 apply hE.f54
 simp only [F.f54]
 refine S.f106 hE 9 fun w H1 h1 =>?_
 obtain ⟨p,q,hw,⟨m,L,hi,ki⟩,_⟩:=h1.open_
 have s97:(.string ⟨#[97]⟩:Value)=str [97]:=rfl
 have s0:(.string ⟨#[]⟩:Value)=str []:=rfl
 have n1:(.int .u16 1:Value)=u16 1#16:=rfl
 have n4:(.int .u16 4:Value)=u16 4#16:=rfl
 have n7:(.int .u16 7:Value)=u16 7#16:=rfl
 have n0:(.int .u16 0:Value)=u16 0#16:=rfl
 have k2:(.int .u8 2:Value)=u8 2#8:=rfl
 simp only [nilq_p,hw,s97,s0,n1,k2,stdZ,Nat.zero_add,Nat.add_zero,List.getElem?_cons_zero,List.getElem?_cons_succ,Bool.not_true,Bool.not_false,List.toList_toArray]
 have f1:((Tr.new 9).make 1#16 [97] 2#8 []).2=(2#16,0):=by decide +kernel
 refine Ino.cMake hE hi (Tr.new_wf 9) 1#16 [97] (by decide) 2#8 [] (by decide) (by decide) fun L2 H2 u2 =>?_
 have h2:=ki _ _ _ u2
 have w2:=(Tr.new_wf 9).make 1#16 [97] 2#8 []
 have d2:=(Tr.KD.new 9).make keeps_KD 1#16 [97] 2#8 []
 rw [f1]
 generalize hT2:((Tr.new 9).make 1#16 [97] 2#8 []).1=T2 at *
 have sp:(.string ⟨#[47,97]⟩:Value)=str [47,97]:=rfl
 have b1:buildV [(0,1),(1,1)] #[str [],u16 0#16] [(0,str [47,97]),(1,u16 4#16)]=some (.agg #[str [47,97],u16 4#16]):=rfl
 have b2:=buildS_one 2 [str [],u16 0#16] [str [47,97],u16 4#16] rfl rfl
 have b2:buildS 1 2 #[str [],u16 0#16] [(0,.agg #[str [47,97],u16 4#16])]=some (.cells [str [47,97],u16 4#16] none,mkSlc 1 1):=b2
 have z32:(.int .u32 0:Value)=u32 0#32:=rfl
 have b3:∀ v,buildV [(0,1),(1,1),(2,1),(3,1),(4,1),(5,1)] #[str [],u32 0#32,(.slice none 0 0),u16 0#16,(.slice none 0 0),(.slice none 0 0)] [(3,u16 4#16),(4,slc v 0 1 1)]=some (.agg #[str [],u32 0#32,nilS,u16 4#16,slc v 0 1 1,nilS]):=fun v=>rfl
 simp only [sp,s0,n4,n0,b1,b2,z32,b3,stdZ,Nat.zero_add,Nat.add_zero,List.getElem?_cons_zero,List.getElem?_cons_succ,Bool.not_true,Bool.not_false,List.toList_toArray]
 have x3:Ext H2 (H2.new (.cells [str [47,97],u16 4#16] none)):=(Ext.refl _).new _
 have r3:Rows (H2.new (.cells [str [47,97],u16 4#16] none)) 2 (slc H2.next 0 1 1) ([([47,97],4#16)].map fun p:List UInt8×BitVec 16=>[str p.1,u16 p.2]):=Rows.made (f:=none) (by rw [AH.get_new_self]; rfl) (.inl rfl) rfl (by simp)
 have h3:=h2.mono x3
 generalize H2.new (.cells [str [47,97],u16 4#16] none)=H3 at *
 refine S.f41 hE fun H4 e4 =>?_
 have h4:=h3.mono e4
 have hp:PolXAt H4 awkPol [str [],u32 0#32,nilS,u16 4#16,slc H2.next 0 1 1,nilS]:=⟨nilS,_,nilS,rfl,⟨[],Rows.nil _ _ none,rfl,fun i h=>by simp [awkPol] at h⟩,r3.mono e4,Rows.nil _ _ none⟩
 have f2:(awkPol.set T2 tab0 ⟨0,1#16⟩).2=0:=by subst hT2; decide +kernel
 have f3:(awkPol.set T2 tab0 ⟨0,1#16⟩).1.at_ 2#16=4#16:=by subst hT2; decide +kernel
 have f4:(awkPol.set T2 tab0 ⟨0,1#16⟩).1.denied 4#16 7#16 [⟨0,1#16⟩]=4#16:=by subst hT2; decide +kernel
 have f5:(awkPol.set T2 tab0 ⟨0,1#16⟩).1.denied 4#16 7#16 [⟨0,2#16⟩]=0#16:=by subst hT2; decide +kernel
 refine S.f88 hE h4.at_ w2 (Tr.KD.lt d2) awkPol _ hp ⟨by decide,by decide⟩ (by simp [awkPol]) ⟨0,1#16⟩ (fun h=>(h f2).elim) fun _ s H5 e5 _ hs5 =>?_
 generalize (awkPol.set T2 tab0 ⟨0,1#16⟩).1=d at *
 have h5:=h4.mono e5
 simp only [i64_eql,decide_true,stdZ,Nat.zero_add,Nat.add_zero,List.getElem?_cons_zero,List.getElem?_cons_succ,Bool.not_true,Bool.not_false,List.toList_toArray]
 refine S.f89 hE hs5 2#16 ?_
 simp only [f3,n4,u16_eql,decide_true,stdZ,Nat.zero_add,Nat.add_zero,List.getElem?_cons_zero,List.getElem?_cons_succ,Bool.not_true,Bool.not_false,List.toList_toArray]
 refine S.f41 hE fun H6 e6 =>?_
 have hz2:([(.int .i64 0),u16 0#16]:List Value)=PlaceD.zero.cells:=rfl
 have bp:∀ c:PlaceD,buildS 1 2 #[(.int .i64 0),u16 0#16] [(0,c.v)]=some (.cells c.cells none,mkSlc 1 1):=fun c=>buildS_one 2 [vi 0,u16 0#16] c.cells rfl rfl
 have rp:∀ (H:AH) (c:PlaceD),Rows (H.new (.cells c.cells none)) 2 (slc H.next 0 1 1) (placeR [c]):=fun H c=>Rows.made (f:=none) (by rw [AH.get_new_self]; simp [placeR]) (.inl rfl) rfl (by simp [placeR,PlaceD.cells])
 have x7:Ext H6 (H6.new (.cells (PlaceD.cells ⟨0,1#16⟩) none)):=(Ext.refl _).new _
 simp only [bp,n0,n4,n7,stdZ,Nat.zero_add,Nat.add_zero,List.getElem?_cons_zero,List.getElem?_cons_succ,Bool.not_true,Bool.not_false,List.toList_toArray]
 refine S.f90 hE (hs5.mono (e6.trans x7)) 4#16 7#16 _ _ (rp H6 ⟨0,1#16⟩) (by decide) fun H8 e8 =>?_
 have bv:buildV [(0,1),(1,1)] #[(.int .i64 0),u16 0#16] [(1,u16 2#16)]=some (PlaceD.v ⟨0,2#16⟩):=rfl
 have x9:Ext H8 (H8.new (.cells (PlaceD.cells ⟨0,2#16⟩) none)):=(Ext.refl _).new _
 simp only [f4,u16_eql,decide_true,bv,bp,n0,n4,n7,stdZ,Nat.zero_add,Nat.add_zero,List.getElem?_cons_zero,List.getElem?_cons_succ,Bool.not_true,Bool.not_false,List.toList_toArray]
 refine S.f90 hE (hs5.mono (e6.trans (x7.trans (e8.trans x9)))) 4#16 7#16 _ _ (rp H8 ⟨0,2#16⟩) (by decide) fun H10 e10 =>?_
 simp only [f5,n0,u16_eql,decide_true,stdZ,Nat.zero_add,Nat.add_zero,List.getElem?_cons_zero,List.getElem?_cons_succ,Bool.not_true,Bool.not_false,List.toList_toArray]
 exact hQ _ ((h5.mono (e6.trans (x7.trans (e8.trans (x9.trans e10))))).ext)
end
end Go.AM
end
section
namespace Go.AM
section
variable {X:List Res} {E:Sy} {H0 H H' H'':AH} {Q:Value→AH→Prop} {p m:Nat} {L L' L'':LyL} {T T' T'' T2 T2':Tr} {t:Nat} {nv nv' mv:Value} {nx:Int} {mr:List (List Value)} {Y Y':List RLy}
theorem ofInt_nat16 (j:Nat):BitVec.ofInt 16 (j:Int)=BitVec.ofNat 16 j:=by
 apply BitVec.eq_of_toNat_eq
 simp
theorem conv16 (a:Nat):convInt .u16 (vi a)=some (u16 (BitVec.ofNat 16 a)):=by rw [i64_to_u16,ofInt_nat16]
theorem convN (a:BitVec 16):convInt .u16 (vi (a.toNat:Int))=some (u16 a):=by rw [conv16]; simp
end
end Go.AM
end
section
namespace Go.AM
structure ActD where
 kind:BitVec 8
 in_:BitVec 8
 to:BitVec 8
 name:BitVec 8
 other:BitVec 8
 any:List UInt8
 n:Int
 bytes:Value
 bl:List (BitVec 8)
 flag:Bool
 raw:Bool
def ActD.cells (x:ActD):List Value:=[u8 x.kind,u8 x.in_,u8 x.to,u8 x.name,u8 x.other,str x.any,vi x.n,x.bytes,vb x.flag,vb x.raw]
abbrev actSh:Sh := .struct [.int .u8,.int .u8,.int .u8,.int .u8,.int .u8,.str,.int .i64,.slice 1 (.int .u8),.bool,.bool]
structure ActD.ok (H:AH) (x:ActD):Prop where
 any:x.any.length≤9223372036854775807
 n : -9223372036854775808≤x.n∧x.n<9223372036854775808
 bytes:Rows H 1 x.bytes (byteR x.bl)
 bl:x.bl.length≤9223372036854775807
theorem ActD.ok.mono {H H':AH} {x:ActD} (h:x.ok H) (e:Ext H H'):x.ok H':=⟨h.any,h.n,h.bytes.mono e,h.bl⟩
theorem SV.act {H:AH} {cs:List Value} (h:SV H actSh cs):∃ x:ActD,cs=x.cells∧x.ok H:=by
 obtain ⟨c0,e0,rfl,h0,c1,e1,rfl,h1,c2,e2,rfl,h2,c3,e3,rfl,h3,c4,e4,rfl,h4,c5,e5,rfl,h5,c6,e6,rfl,h6,c7,e7,rfl,h7,c8,e8,rfl,h8,c9,e9,rfl,h9,rfl⟩:=h
 obtain ⟨x0,rfl⟩:=h0.u8
 obtain ⟨x1,rfl⟩:=h1.u8
 obtain ⟨x2,rfl⟩:=h2.u8
 obtain ⟨x3,rfl⟩:=h3.u8
 obtain ⟨x4,rfl⟩:=h4.u8
 obtain ⟨x5,rfl,g5⟩:=h5
 obtain ⟨x6,rfl,g6⟩:=h6.i64
 obtain ⟨v7,x7,rfl,g7,l7⟩:=SV.vals (fun r hr=>SV.u8 hr) h7
 obtain ⟨x8,rfl⟩:=h8
 obtain ⟨x9,rfl⟩:=h9
 refine ⟨⟨x0,x1,x2,x3,x4,x5,x6,v7,x7,x8,x9⟩,rfl,g5,g6,?_,by simpa using l7⟩
 show Rows H 1 v7 (byteR x7)
 have:byteR x7=(x7.map AM.u8).map fun v=>[v]:=by simp [byteR]
 rw [this]; exact g7
section
variable {X:List Res} {E:Sy} {H0 H H' H'':AH} {Q:Value→AH→Prop} {p m:Nat} {L L' L'':LyL} {T T' T'' T2 T2':Tr} {t:Nat} {nv nv' mv:Value} {nx:Int} {mr:List (List Value)} {Y Y':List RLy}
def actNames:List NameL:=[[97],[98],[99],[100,46,101],[102],[103],[],[46,46],[97,47,98]]
theorem S.f49 (hE:Fold E) (hQ:∀ v H',Ext H H'→Rows H' 1 v (strR actNames)→Q v H'):E.call (E.fid i.f49) [] H Q:=by
 apply hE.f49
 have hb:buildS 9 1 #[(.string ⟨#[]⟩)] [(0,(.string ⟨#[97]⟩)),(1,(.string ⟨#[98]⟩)),(2,(.string ⟨#[99]⟩)),(3,(.string ⟨#[100,46,101]⟩)),(4,(.string ⟨#[102]⟩)),(5,(.string ⟨#[103]⟩)),(6,(.string ⟨#[]⟩)),(7,(.string ⟨#[46,46]⟩)),(8,(.string ⟨#[97,47,98]⟩))]=some (.cells (actNames.map str) none,mkSlc 9 9):=by
  have:=buildS_full 9 1 [str []] [(0,str [97]),(1,str [98]),(2,str [99]),(3,str [100,46,101]),(4,str [102]),(5,str [103]),(6,str []),(7,str [46,46]),(8,str [97,47,98])] (actNames.map str) rfl rfl rfl rfl (by
   intro v hv
   obtain ⟨s,_,rfl⟩:=List.mem_map.1 hv
   rfl)
  simpa [actNames] using this
 simp only [F.f49,hb,AM.mk_some,mkSlc_eq,tk_eq]
 refine hQ _ _ ((Ext.refl H).new _) (Rows.made (f:=none) (by rw [AH.get_new_self]; rfl) (.inl rfl) rfl ?_)
 intro r hr
 obtain ⟨s,_,rfl⟩:=List.mem_map.1 hr
 rfl
theorem actZero:([(.int .u8 0),(.int .u8 0),(.int .u8 0),(.int .u8 0),(.int .u8 0),(.string ⟨#[]⟩),(.int .i64 0),(.slice none 0 0),(.bool false),(.bool false)]:List Value)=(ActD.mk 0#8 0#8 0#8 0#8 0#8 [] 0 nilS [] false false).cells:=rfl
theorem ActD.all_plain (x:ActD) (h:plain1 x.bytes=true):x.cells.all plain1=true:=by
 simp only [ActD.cells,List.all_cons,List.all_nil,h]; rfl
theorem act_store {x:ActD} (hp:plain1 x.bytes=true) (z:ActD):storeN 10 (ptr H.next 0) (.agg x.cells.toArray) (H.new (.cells z.cells none))=some (H.new (.cells x.cells none)):=by
 rw [storeN_ptr,AH.get_new_self]
 have hs:AM.splice z.cells 0 x.cells=x.cells:=rfl
 have h1:x.cells.length=10:=rfl
 have h2:z.cells.length=10:=rfl
 simp only [List.size_toArray,List.toList_toArray,h1,h2,ActD.all_plain x hp,Nat.zero_add,Nat.le_refl,and_self,if_true,hs,AH.new_put]
theorem rows_plain {v:Value} {rows:List (List Value)} {sz:Nat} (h:Rows H sz v rows):plain1 v=true:=by
 rcases h.at_ with ⟨_,c,rfl⟩ | ⟨b,o,c,rfl,_⟩
 ·cases c <;> rfl
 ·rfl
end
end Go.AM
end
section
namespace Go.AM
section
variable {X:List Res} {E:Sy} {H0 H H' H'':AH} {Q:Value→AH→Prop} {p m:Nat} {L L' L'':LyL} {T T' T'' T2 T2':Tr} {t:Nat} {nv nv' mv:Value} {nx:Int} {mr:List (List Value)} {Y Y':List RLy}
structure ActTo (X:List Res) (H0 H':AH) (p m t:Nat) (mv:Value) (nx:Int) (mr:List (List Value)) (T:Tr) (B:Int) (L':LyL) (nv':Value) (Y':List RLy) (T':Tr):Prop where
 two:TwoX X H0 H' p m L' T' t nv' mv nx mr Y' T'
 wf:T'.WF
 cb:T.CB T'
 hb:T'.HB (B+1)
inductive Tr.Did (up:Bool) (T:Tr):Tr→Prop
 | make (a:BitVec 16) (s:NameL) (k:BitVec 8) (text:List UInt8):T.Did up (T.make a s k text).1
 | add (a:BitVec 16) (s:NameL) (b:BitVec 16):T.Did up (T.add a s b).1
 | drop (a:BitVec 16) (s:NameL) (d:Bool):T.Did up (T.drop a s d).1
 | move (a:BitVec 16) (s:NameL) (b:BitVec 16) (o:NameL):T.Did up (T.move a s b o).1
 | hold (a:BitVec 16):T.Did up (T.hold a up).1
 | write (a:BitVec 16) (n:Int) (l:List (BitVec 8)):T.Did up (T.write a n l).1
 | cut (a:BitVec 16) (n:Int):T.Did up (T.cut a n).1
 | refl:T.Did up T
theorem tab5 (o:BitVec 8) (k:BitVec 8) (hk:k<5#8):∃ kd:BitVec 8,([[u8 1#8],[u8 2#8],[u8 2#8],[u8 3#8],[u8 o]]:List (List Value))[k.toNat]? = some [u8 kd]:=by
 have h:k.toNat<5:=hk
 have:k.toNat=0∨k.toNat=1∨k.toNat=2∨k.toNat=3∨k.toNat=4:=by omega
 rcases this with e | e | e | e | e <;> rw [e]
 ·exact ⟨_,rfl⟩
 ·exact ⟨_,rfl⟩
 ·exact ⟨_,rfl⟩
 ·exact ⟨_,rfl⟩
 ·exact ⟨_,rfl⟩
theorem do_j1 (hE:Fold E) {bx:Nat} {x:ActD} (h:TwoX (X++[boxR bx x.cells]) H0 H p m L T t nv mv nx mr Y T) (w:T.WF) {B:Int} (hb:T.HB B) (hB:0≤B∧B<1000000) (hc:0≤T.change∧T.change<1000000) (hx:x.ok H0) (hl:x.any.length≤200∧x.bl.length≤200) {up:Bool} (hup:x.kind % 15#8=11#8→x.flag=up)
  (a b:BitVec 16) (s o:NameL) (hs:s.length<2 ^ 63) (ho:o.length<2 ^ 63) (hQ:∀ L' nv' Y' T' H',ActTo X H0 H' p m t mv nx mr T B L' nv' Y' T'→T.Did up T'→Q (vb true) H') :
  F.f48_j1 E Q (ptr p 0) (ptr t 0) (ptr bx 0) (vi (a.toNat:Int)) (vi (b.toNat:Int)) (str s) (str o) H:=by
 have hbx:=h.held
 have c0:x.cells[0]? = some (u8 x.kind):=rfl
 have c4:x.cells[4]? = some (u8 x.other):=rfl
 have c5:x.cells[5]? = some (str x.any):=rfl
 have c6:x.cells[6]? = some (vi x.n):=rfl
 have c7:x.cells[7]? = some x.bytes:=rfl
 have c8:x.cells[8]? = some (vb x.flag):=rfl
 have hrem:binInt .rem (u8 x.kind) (.int .u8 15)=some (u8 (x.kind % 15#8)):=u8_rem x.kind 15#8 (by decide)
 have hlt:(x.kind % 15#8).toNat<15:=by rw [BitVec.toNat_umod]; exact Nat.mod_lt _ (by decide)
 have n5:(.int .u8 5:Value)=u8 5#8:=rfl
 have n8:(.int .u8 8:Value)=u8 8#8:=rfl
 have n11:(.int .u8 11:Value)=u8 11#8:=rfl
 have n12:(.int .u8 12:Value)=u8 12#8:=rfl
 have n13:(.int .u8 13:Value)=u8 13#8:=rfl
 simp only [F.f48_j1,convN,addOff_ptr,load1_ptr,Nat.zero_add,hbx,cell_cells_z,c0,hrem,tk_eq,opt_some]
 generalize x.kind % 15#8=k at *
 have lss:∀ c:BitVec 8,binInt .lss (u8 k) (u8 c)=some (vb (decide (k<c))):=fun c=>by rw [u8_lss]; rfl
 by_cases k5:k<5#8
 ·have q1:binInt .lss (u8 k) (.int .u8 5)=some (vb true):=by rw [n5,lss]; simp [k5]
  have k5n:k.toNat<5:=k5
  obtain ⟨kd,hkd⟩:=tab5 x.other k k5
  have hbS:buildS 5 1 #[(.int .u8 0)] [(0,(.int .u8 1)),(1,(.int .u8 2)),(2,(.int .u8 2)),(3,(.int .u8 3)),(4,u8 x.other)]=some (.cells [u8 1#8,u8 2#8,u8 2#8,u8 3#8,u8 x.other] none,mkSlc 5 5):=by
   have:=buildS_full 5 1 [u8 0#8] [(0,u8 1#8),(1,u8 2#8),(2,u8 2#8),(3,u8 3#8),(4,u8 x.other)] [u8 1#8,u8 2#8,u8 2#8,u8 3#8,u8 x.other] rfl rfl rfl rfl (by intro v hv; simp at hv; rcases hv with rfl | rfl | rfl | rfl <;> rfl)
   simpa using this
  have hx1:Ext H (H.new (.cells [u8 1#8,u8 2#8,u8 2#8,u8 3#8,u8 x.other] none)):=(Ext.refl H).new _
  have hr:Rows (H.new (.cells [u8 1#8,u8 2#8,u8 2#8,u8 3#8,u8 x.other] none)) 1 (slc H.next 0 5 5) [[u8 1#8],[u8 2#8],[u8 2#8],[u8 3#8],[u8 x.other]]:=Rows.made (f:=none) (by rw [AH.get_new_self]; rfl) (.inl rfl) rfl (by intro r hr; simp at hr; rcases hr with rfl | rfl | rfl | rfl <;> rfl)
  obtain ⟨b1,o1,p1,p2⟩:=hr.ix (i:=k.toNat) k5n
  rw [List.getElem?_eq_getElem (by simpa using k5n)] at hkd
  rw [Option.some.inj hkd] at p2
  have p3:((H.new (.cells [u8 1#8,u8 2#8,u8 2#8,u8 3#8,u8 x.other] none)).get b1).cell o1=some (u8 kd):=by have:=row_at p2 (j:=0) (by omega); simpa using this
  have h1:=h.mono hx1
  simp only [q1,addOff_ptr,load1_ptr,Nat.zero_add,hbx,cell_cells_z,c4,hbS,AM.mk_some,mkSlc_eq,ixSlc_u8,p1,p3,h1.held,c5,tk_eq,opt_some,ifB_true]
  refine TwoX.cMake hE h1 w a s hs kd x.any (by omega) ⟨by omega,by omega⟩ fun L2 H2 h2 =>?_
  simp only [ext_tuple,List.getElem?_cons_zero,List.getElem?_cons_succ,u8_to_i64,addOff_ptr,load1_ptr,Nat.zero_add,h2.held,cell_cells_z,c5,tk_eq,opt_some]
  refine TwoX.rMake hE h2 w a s hs kd x.any ⟨by omega,by omega⟩ fun nv3 Y3 H3 h3 =>?_
  simp only [ext_tuple,List.getElem?_cons_zero,List.getElem?_cons_succ,u16_to_i64,i64_eql,decide_true,gd_tt,pick_true_z,tk_eq,opt_some]
  exact hQ _ _ _ _ _ ⟨h3.drop,w.make a s kd x.any,.make a s kd x.any,(hb.make hB.1 a s kd x.any).mono (by omega)⟩ (.make a s kd x.any)
 by_cases e5:k=5#8
 ·have q1:binInt .lss (u8 k) (.int .u8 5)=some (vb false):=by rw [n5,lss]; simp [k5]
  have q2:binInt .eql (u8 k) (.int .u8 5)=some (vb true):=by rw [n5]; simp [e5]
  simp only [q1,q2,tk_eq,opt_some,ifB_false,ifB_true]
  refine TwoX.cAdd hE h w a s hs b ⟨by omega,by omega⟩ fun L1 H1 h1 =>?_
  refine TwoX.rAdd hE h1 w a s hs b ⟨by omega,by omega⟩ fun Y2 H2 h2 =>?_
  simp only [i64_eql,decide_true,tk_eq,opt_some]
  exact hQ _ _ _ _ _ ⟨h2.drop,w.add a s b,.add a s b,(hb.add a s b).mono (by omega)⟩ (.add a s b)
 by_cases k8:k<8#8
 ·have q1:binInt .lss (u8 k) (.int .u8 5)=some (vb false):=by rw [n5,lss]; simp [k5]
  have q2:binInt .eql (u8 k) (.int .u8 5)=some (vb false):=by rw [n5]; simp [e5]
  have q3:binInt .lss (u8 k) (.int .u8 8)=some (vb true):=by rw [n8,lss]; simp [k8]
  simp only [q1,q2,q3,addOff_ptr,load1_ptr,Nat.zero_add,hbx,cell_cells_z,c8,tk_eq,opt_some,ifB_false,ifB_true]
  refine TwoX.cDrop hE h w a s x.flag ⟨by omega,by omega⟩ fun L1 H1 h1 =>?_
  refine ⟨by rw [load1_ptr,load1_ptr,h1.held,hbx],?_⟩
  refine TwoX.rDrop hE h1 w a s x.flag ⟨by omega,by omega⟩ fun Y2 H2 h2 =>?_
  simp only [i64_eql,decide_true,tk_eq,opt_some]
  exact hQ _ _ _ _ _ ⟨h2.drop,w.drop a s x.flag,.drop a s x.flag,(hb.drop hB.1 a s x.flag).mono (by omega)⟩ (.drop a s x.flag)
 by_cases k11:k<11#8
 ·have q1:binInt .lss (u8 k) (.int .u8 5)=some (vb false):=by rw [n5,lss]; simp [k5]
  have q2:binInt .eql (u8 k) (.int .u8 5)=some (vb false):=by rw [n5]; simp [e5]
  have q3:binInt .lss (u8 k) (.int .u8 8)=some (vb false):=by rw [n8,lss]; simp [k8]
  have q4:binInt .lss (u8 k) (.int .u8 11)=some (vb true):=by rw [n11,lss]; simp [k11]
  simp only [q1,q2,q3,q4,tk_eq,opt_some,ifB_false,ifB_true]
  refine TwoX.cMove hE h w a b s o ho ⟨by omega,by omega⟩ fun L1 H1 h1 =>?_
  refine TwoX.rMove hE h1 w a b s o ho ⟨by omega,by omega⟩ fun Y2 H2 h2 =>?_
  simp only [i64_eql,decide_true,tk_eq,opt_some]
  exact hQ _ _ _ _ _ ⟨h2.drop,w.move a s b o,.move a s b o,(hb.move hB.1 a s b o).mono (by omega)⟩ (.move a s b o)
 have q1:binInt .lss (u8 k) (.int .u8 5)=some (vb false):=by rw [n5,lss]; simp [k5]
 have q2:binInt .eql (u8 k) (.int .u8 5)=some (vb false):=by rw [n5]; simp [e5]
 have q3:binInt .lss (u8 k) (.int .u8 8)=some (vb false):=by rw [n8,lss]; simp [k8]
 have q4:binInt .lss (u8 k) (.int .u8 11)=some (vb false):=by rw [n11,lss]; simp [k11]
 by_cases e11:k=11#8
 ·have q5:binInt .eql (u8 k) (.int .u8 11)=some (vb true):=by rw [n11]; simp [e11]
  simp only [q1,q2,q3,q4,q5,addOff_ptr,load1_ptr,Nat.zero_add,hbx,cell_cells_z,c8,tk_eq,opt_some,ifB_false,ifB_true]
  refine TwoX.cHold hE h w a x.flag (by have:=hb a; omega) fun L1 H1 h1 =>?_
  refine ⟨by rw [load1_ptr,load1_ptr,h1.held,hbx],?_⟩
  refine TwoX.rHold hE h1 w a x.flag (by have:=hb a; omega) fun Y2 H2 h2 =>?_
  simp only [i64_eql,decide_true,tk_eq,opt_some]
  exact hQ _ _ _ _ _ ⟨h2.drop,w.hold a x.flag,.hold a x.flag,hb.hold hB.1 a x.flag⟩ (hup e11 ▸ .hold a)
 have q5:binInt .eql (u8 k) (.int .u8 11)=some (vb false):=by rw [n11]; simp [e11]
 by_cases e12:k=12#8
 ·have q6:binInt .eql (u8 k) (.int .u8 12)=some (vb true):=by rw [n12]; simp [e12]
  simp only [q1,q2,q3,q4,q5,q6,addOff_ptr,load1_ptr,Nat.zero_add,hbx,cell_cells_z,c6,c7,tk_eq,opt_some,ifB_false,ifB_true]
  refine TwoX.cWrite hE h w a x.n x.bytes x.bl (hx.bytes.mono h.ext) (by omega) hx.n ⟨by omega,by omega⟩ fun L1 H1 h1 =>?_
  refine ⟨by rw [load1_ptr,load1_ptr,h1.held,hbx],by rw [load1_ptr,load1_ptr,h1.held,hbx],?_⟩
  refine TwoX.rWrite hE h1 w a x.n x.bytes x.bl (hx.bytes.mono h1.ext) (by omega) ⟨by omega,by omega⟩ fun Y2 H2 h2 =>?_
  simp only [i64_eql,decide_true,tk_eq,opt_some]
  exact hQ _ _ _ _ _ ⟨h2.drop,w.write a x.n x.bl,.write a x.n x.bl,(hb.write a x.n x.bl).mono (by omega)⟩ (.write a x.n x.bl)
 have q6:binInt .eql (u8 k) (.int .u8 12)=some (vb false):=by rw [n12]; simp [e12]
 by_cases e13:k=13#8
 ·have q7:binInt .eql (u8 k) (.int .u8 13)=some (vb true):=by rw [n13]; simp [e13]
  simp only [q1,q2,q3,q4,q5,q6,q7,addOff_ptr,load1_ptr,Nat.zero_add,hbx,cell_cells_z,c6,tk_eq,opt_some,ifB_false,ifB_true]
  refine TwoX.cCut hE h w a x.n ⟨by omega,by omega⟩ fun L1 H1 h1 =>?_
  refine ⟨by rw [load1_ptr,load1_ptr,h1.held,hbx],?_⟩
  refine TwoX.rCut hE h1 w a x.n ⟨by omega,by omega⟩ fun Y2 H2 h2 =>?_
  simp only [i64_eql,decide_true,tk_eq,opt_some]
  exact hQ _ _ _ _ _ ⟨h2.drop,w.cut a x.n,.cut a x.n,(hb.cut a x.n).mono (by omega)⟩ (.cut a x.n)
 have q7:binInt .eql (u8 k) (.int .u8 13)=some (vb false):=by rw [n13]; simp [e13]
 simp only [q1,q2,q3,q4,q5,q6,q7,tk_eq,opt_some,ifB_false]
 refine S.f14 hE h.ino a s ?_
 simp only [ext_tuple,List.getElem?_cons_zero,List.getElem?_cons_succ,tk_eq,opt_some]
 refine S.f69 hE h.ref w.small a s fun H2 e2 =>?_
 simp only [ext_tuple,List.getElem?_cons_zero,List.getElem?_cons_succ,u16_to_i64,i64_eql,decide_true,gd_tt,pick_true_z,tk_eq,opt_some]
 exact hQ _ _ _ _ _ ⟨(h.mono e2).drop,w,.refl,hb.mono (by omega)⟩ .refl
theorem names_at {v:Value} (h:Rows H 1 v (strR actNames)) (k:Nat):∃ b o s,ixSlc 1 v (vi ((k % 9:Nat):Int))=some (ptr b o)∧(∀ H',Ext H H'→(H'.get b).cell o=some (str s))∧s.length<2 ^ 63:=by
 have hk:k % 9<9:=Nat.mod_lt _ (by omega)
 have hlen:(strR actNames).length=9:=rfl
 obtain ⟨b,o,p1,p2⟩:=h.ix (i:=k % 9) (by rw [hlen]; exact hk)
 have hmem:(strR actNames)[k % 9]'(by rw [hlen]; exact hk)∈strR actNames:=List.getElem_mem _
 obtain ⟨s,hs,he⟩:=List.mem_map.1 hmem
 rw [← he] at p2
 refine ⟨b,o,s,p1,fun H' e =>?_,?_⟩
 ·rw [e.get (AH.lt_of_get (row_notdead p2))]
  have:=row_at p2 (j:=0) (by omega)
  simpa using this
 ·have:∀ s∈actNames,s.length<2 ^ 63:=by decide
  exact this s hs
theorem S.f48 (hE:Fold E) {x:ActD} (h:TwoX X H0 H p m L T t nv mv nx mr Y T) (w:T.WF) {B:Int} (hb:T.HB B) (hB:0≤B∧B<1000000) (hc:0≤T.change∧T.change<1000000) (hx:x.ok H0) (hl:x.any.length≤200∧x.bl.length≤200) (hraw:x.raw=false) {up:Bool} (hup:x.kind % 15#8=11#8→x.flag=up)
  (hQ:∀ L' nv' Y' T' H',ActTo X H0 H' p m t mv nx mr T B L' nv' Y' T'→T.Did up T'→Q (vb true) H'):E.call (E.fid i.f48) [ptr p 0,ptr t 0,.agg x.cells.toArray] H Q:=by
 apply hE.f48
 have hbo:boxO (.agg x.cells.toArray)=some (.cells x.cells none,fun b=>ptr b 0):=by
  have:x.cells.all plain1=true:=x.all_plain (rows_plain hx.bytes)
  first
   | rfl
   | simp [boxO,this]
 have h1:=h.box x.cells
 have hb1:=h1.held
 have c1:x.cells[1]? = some (u8 x.in_):=rfl
 have c2:x.cells[2]? = some (u8 x.to):=rfl
 have c3:x.cells[3]? = some (u8 x.name):=rfl
 have c4:x.cells[4]? = some (u8 x.other):=rfl
 have c9:x.cells[9]? = some (vb x.raw):=rfl
 have r1:binInt .rem (u8 x.in_) (.int .u8 8)=some (u8 (x.in_ % 8#8)):=u8_rem _ 8#8 (by decide)
 have r2:binInt .rem (u8 x.to) (.int .u8 8)=some (u8 (x.to % 8#8)):=u8_rem _ 8#8 (by decide)
 have n1:(((x.in_ % 8#8).setWidth 16:BitVec 16).toNat)=(x.in_ % 8#8).toNat:=by simp; omega
 have n2:(((x.to % 8#8).setWidth 16:BitVec 16).toNat)=(x.to % 8#8).toNat:=by simp; omega
 simp only [F.f48,hbo,AM.mk_some,addOff_ptr,load1_ptr,Nat.zero_add,hb1,cell_cells_z,c1,c2,c3,c4,r1,r2,u8_to_i64,tk_eq,opt_some]
 generalize hH1:H.new (.cells x.cells none)=H1 at *
 have ld:∀ {H'} (k:Nat),Ext H1 H'→load1 (ptr H.next k) H'=load1 (ptr H.next k) H1:=fun k e=>by rw [load1_ptr,load1_ptr,(h1.mono e).held,hb1]
 refine S.f49 hE fun v2 H2 e2 s2 =>?_
 refine ⟨ld 4 e2,ld 3 e2,?_⟩
 refine S.f49 hE fun v3 H3 e3 s3 =>?_
 have e13:=e2.trans e3
 refine ⟨ld 4 e13,ld 3 e13,?_⟩
 have l3:AM.lenSlc v3=some (vi (9:Nat)):=s3.lenSlc
 obtain ⟨b4,o4,sn,p4,q4,w4⟩:=names_at s2 x.name.toNat
 simp only [l3,i64_rem_nat x.name.toNat 9 (by omega),p4,load1_ptr,q4 H3 e3,tk_eq,opt_some]
 refine S.f49 hE fun v5 H5 e5 s5 =>?_
 have e15:=e13.trans e5
 refine ⟨by rw [load1_ptr,load1_ptr,q4 H5 (e3.trans e5),q4 H3 e3],ld 4 e15,ld 3 e15,?_⟩
 refine S.f49 hE fun v6 H6 e6 s6 =>?_
 have e16:=e15.trans e6
 refine ⟨by rw [load1_ptr,load1_ptr,q4 H6 (e3.trans (e5.trans e6)),q4 H3 e3],ld 4 e16,ld 3 e16,?_⟩
 have l6:AM.lenSlc v6=some (vi (9:Nat)):=s6.lenSlc
 obtain ⟨b7,o7,so,p7,q7,w7⟩:=names_at s5 x.other.toNat
 have h6:=h1.mono e16
 have hj:=do_j1 (Q:=Q) hE h6 w hb hB hc hx hl hup ((x.in_ % 8#8).setWidth 16) ((x.to % 8#8).setWidth 16) sn so w4 w7 hQ
 rw [n1,n2] at hj
 simp only [l6,i64_rem_nat x.other.toNat 9 (by omega),p7,load1_ptr,q7 H6 e6,addOff_ptr,Nat.zero_add,h6.held,cell_cells_z,c9,hraw,tk_eq,opt_some,ifB_false]
 exact hj
end
end Go.AM
end
section
namespace Go.AM
def Tr.Stay (T T':Tr):Prop:=∀ n,(T.node n).kind≠0#8→1≤(T.node n).held→(T'.node n).kind=(T.node n).kind∧(T.node n).held≤(T'.node n).held
section
variable {T T' T'':Tr}
theorem Tr.node_upd_ne {n k:BitVec 16} (h:k≠n) (f:Nd→Nd):(T.upd n f).node k=T.node k:=by
 have e:¬ n.toNat=k.toNat:=fun e=>h (BitVec.eq_of_toNat_eq e.symm)
 unfold Tr.upd Tr.node
 simp only [List.getD_eq_getElem?_getD,List.getElem?_modify,e,if_false]
 cases T.N[k.toNat]? <;> rfl
theorem Tr.Stay.refl:T.Stay T:=fun _ _ _=>⟨rfl,Int.le_refl _⟩
theorem Tr.Stay.trans (h:T.Stay T') (h':T'.Stay T''):T.Stay T'':=fun n hk hh=>by
 obtain ⟨a,b⟩:=h n hk hh
 obtain ⟨c,d⟩:=h' n (by rw [a]; exact hk) (by omega)
 exact ⟨c.trans a,by omega⟩
theorem Tr.Stay.upd (n:BitVec 16) (f:Nd→Nd) (hf:∀ x:Nd,(f x).kind=x.kind∧x.held≤(f x).held):T.Stay (T.upd n f):=fun k _ _=>by
 rcases T.upd_or n k f with e | e
 ·rw [e]; exact ⟨rfl,Int.le_refl _⟩
 ·rw [e]; exact hf _
theorem Tr.Stay.bump (h:T.Stay T'):T.Stay T'.bump:=h
theorem Tr.Stay.tidy (n:BitVec 16):T.Stay (T.tidy n):=fun k hk hh=>by
 unfold Tr.tidy
 split
 ·rename_i hc
  have e:k≠n:=by rintro rfl; omega
  rw [Tr.node_upd_ne e]
  exact ⟨rfl,Int.le_refl _⟩
 ·exact ⟨rfl,Int.le_refl _⟩
theorem Tr.Stay.make (w:T.WF) (inn:BitVec 16) (s:NameL) (kd:BitVec 8) (text:List UInt8):T.Stay (T.make inn s kd text).1:=by
 rcases w.make_node inn s kd text with e | ⟨_,_,A,_,hA,hi,hn⟩
 ·rw [e]; exact .refl
 ·intro n hk hh
  rw [hn]
  split
  ·rename_i e; subst e; exact ⟨rfl,Int.le_refl _⟩
  ·split
   ·rename_i e; subst e; exact (hk hA).elim
   ·exact ⟨rfl,Int.le_refl _⟩
theorem Tr.Stay.add (inn:BitVec 16) (s:NameL) (v:BitVec 16):T.Stay (T.add inn s v).1:=by
 unfold Tr.add
 repeat' split
 all_goals try exact .refl
 exact (Tr.Stay.upd inn (Nd.addE s v) fun _=>⟨rfl,Int.le_refl _⟩).trans (Tr.Stay.upd v (Nd.addL 1) fun _=>⟨rfl,Int.le_refl _⟩)
theorem Tr.Stay.drop (inn:BitVec 16) (s:NameL) (d:Bool):T.Stay (T.drop inn s d).1:=by
 unfold Tr.drop
 repeat' split
 all_goals try exact .refl
 exact ((Tr.Stay.upd inn (Nd.delE s) fun _=>⟨rfl,Int.le_refl _⟩).trans (Tr.Stay.upd _ (Nd.addL (-1)) fun _=>⟨rfl,Int.le_refl _⟩)).bump.trans (Tr.Stay.tidy _)
theorem Tr.Stay.hold (n:BitVec 16):T.Stay (T.hold n true).1:=by
 unfold Tr.hold
 repeat' split
 all_goals try exact .refl
 ·exact Tr.Stay.upd n (Nd.addH 1) fun x=>⟨rfl,by show x.held≤x.held+1; omega⟩
 ·rename_i h _; exact (h rfl).elim
theorem Tr.Stay.move (fr:BitVec 16) (s:NameL) (to:BitVec 16) (other:NameL):T.Stay (T.move fr s to other).1:=by
 have key:∀ (U:Tr) (n:BitVec 16),U.Stay (Tr.moved U fr s to other n):=by
  intro U n
  have h2:U.Stay ((U.upd fr (Nd.delE s)).upd to (Nd.addE other n)):=(Tr.Stay.upd fr (Nd.delE s) fun _=>⟨rfl,Int.le_refl _⟩).trans (Tr.Stay.upd to (Nd.addE other n) fun _=>⟨rfl,Int.le_refl _⟩)
  unfold Tr.moved
  simp only
  split
  ·exact (h2.trans (Tr.Stay.upd n (fun x=>{ x with parent:=to }) fun _=>⟨rfl,Int.le_refl _⟩)).bump
  ·exact h2.bump
 unfold Tr.move
 split
 ·exact .refl
 split
 ·exact .refl
 split
 ·exact .refl
 split
 ·exact .refl
 split
 ·exact .refl
 refine Tr.Stay.trans ?_ (key _ _)
 split
 ·exact .drop _ _ _
 ·exact .refl
theorem Tr.Stay.write (n:BitVec 16) (at_:Int) (b:List (BitVec 8)):T.Stay (T.write n at_ b).1:=by
 unfold Tr.write
 repeat' split
 all_goals try exact .refl
 exact (Tr.Stay.upd n (fun x=>{ x with data:=writeL x.data at_.toNat b }) fun _=>⟨rfl,Int.le_refl _⟩).bump
theorem Tr.Stay.cut (n:BitVec 16) (size:Int):T.Stay (T.cut n size).1:=by
 unfold Tr.cut
 repeat' split
 all_goals try exact .refl
 exact (Tr.Stay.upd n (fun x=>{ x with data:=cutL x.data size.toNat }) fun _=>⟨rfl,Int.le_refl _⟩).bump
theorem Tr.Did.stay (h:T.Did true T') (w:T.WF):T.Stay T':=by
 cases h
 ·exact .make w _ _ _ _
 ·exact .add _ _ _
 ·exact .drop _ _ _
 ·exact .move _ _ _ _
 ·exact .hold _
 ·exact .write _ _ _
 ·exact .cut _ _
 ·exact .refl
theorem Tr.Did.kd {up:Bool} (h:T.Did up T') (k:T.KD):T'.KD:=by
 cases h
 ·exact k.make keeps_KD _ _ _ _
 ·exact k.add keeps_KD _ _ _
 ·exact k.drop keeps_KD _ _ _
 ·exact k.move keeps_KD _ _ _ _
 ·exact k.hold keeps_KD _ _
 ·exact k.write keeps_KD _ _ _
 ·exact k.cut keeps_KD _ _
 ·exact k
end
end Go.AM
end
section
namespace Go.AM
def Tr.dead (T:Tr) (n:BitVec 16):Prop:=(T.node n).kind=2#8∧(T.node n).links=0
structure Tr.Order (T:Tr):Prop where
 rank:∃ (r:BitVec 16→Nat) (B:Nat),(∀ n,r n<B)∧∀ n,T.dead n→T.dead (T.node n).parent→r n<r (T.node n).parent
 par:∀ n,(T.node n).kind≠2#8→(T.node n).parent=0#16
def Tr.DAt (T T':Tr) (n:BitVec 16):Prop:=(T'.dead n→(T'.node n).parent=(T.node n).parent∧(T.dead n∨¬ T'.dead (T'.node n).parent))∧((T'.node n).kind≠2#8→(T'.node n).parent=0#16∨((T.node n).kind≠2#8∧(T'.node n).parent=(T.node n).parent))
def Tr.DStep (T T':Tr):Prop:=∀ n,T.DAt T' n
section
variable {T T' T'':Tr}
open Classical in
theorem Tr.Order.step (h:T.Order) (d:T.DStep T'):T'.Order:=by
 obtain ⟨r,B,hr,ho⟩:=h.rank
 refine ⟨⟨fun n=>if T.dead n then r n else B,B+1,fun n =>?_,fun n hn hp =>?_⟩,fun n hk =>?_⟩
 ·have:=hr n
  simp only
  split <;> omega
 ·obtain ⟨e,h1⟩:=(d n).1 hn
  rcases h1 with h1 | h1
  ·simp only [if_pos h1]
   split
   ·rename_i h2
    rw [e] at h2 ⊢
    exact ho n h1 h2
   ·exact hr n
  ·exact (h1 hp).elim
 ·rcases (d n).2 hk with e | ⟨a,b⟩
  ·exact e
  ·rw [b]; exact h.par n a
theorem Tr.DAt.same {n:BitVec 16} (h1:(T'.node n).kind=(T.node n).kind) (h2:(T'.node n).parent=(T.node n).parent) (h3:(T'.node n).links=(T.node n).links):T.DAt T' n :=
 ⟨fun h=>⟨h2,.inl ⟨by rw [← h1]; exact h.1,by rw [← h3]; exact h.2⟩⟩,fun h => .inr ⟨by rw [← h1]; exact h,h2⟩⟩
theorem Tr.DAt.none {n:BitVec 16} (h:T'.node n=Nd.none):T.DAt T' n :=
 ⟨fun hd=>by have:=hd.1; rw [h] at this; simp [Nd.none] at this,fun _ => .inl (by rw [h]; rfl)⟩
theorem Tr.DAt.file {n:BitVec 16} (h:(T'.node n).kind≠2#8) (h1:(T.node n).kind≠2#8) (h2:(T'.node n).parent=(T.node n).parent):T.DAt T' n :=
 ⟨fun hd=>(h hd.1).elim,fun _ => .inr ⟨h1,h2⟩⟩
theorem Tr.DAt.live {n:BitVec 16} (h:(T'.node n).kind=2#8) (h1:(T'.node n).links≠0):T.DAt T' n :=
 ⟨fun hd=>(h1 hd.2).elim,fun hk=>(hk h).elim⟩
theorem Tr.DStep.refl:T.DStep T:=fun _ => .same rfl rfl rfl
theorem Tr.DStep.upd (n:BitVec 16) (f:Nd→Nd) (hf:∀ x:Nd,(f x).kind=x.kind∧(f x).parent=x.parent∧(f x).links=x.links):T.DStep (T.upd n f):=fun k=>by
 rcases T.upd_or n k f with e | e
 ·exact .same (by rw [e]) (by rw [e]) (by rw [e])
 ·obtain ⟨a,b,c⟩:=hf (T.node k)
  exact .same (by rw [e,a]) (by rw [e,b]) (by rw [e,c])
theorem Tr.DStep.make (w:T.WF) (inn:BitVec 16) (s:NameL) (kd:BitVec 8) (text:List UInt8):T.DStep (T.make inn s kd text).1:=by
 rcases w.make_node inn s kd text with e | ⟨_,_,A,_,hA,hi,hn⟩
 ·rw [e]; exact .refl
 ·intro n
  have hn:=hn n
  generalize (T.make inn s kd text).1=T' at *
  by_cases e:n=inn
  ·subst e
   rw [if_pos rfl] at hn
   exact .same (by rw [hn]; rfl) (by rw [hn]; rfl) (by rw [hn]; rfl)
  rw [if_neg e] at hn
  by_cases e2:n=A
  ·subst e2
   rw [if_pos rfl] at hn
   by_cases hk:kd=2#8
   ·exact .live (by rw [hn]; exact hk) (by rw [hn]; exact Int.one_ne_zero)
   ·exact ⟨fun hd=>by have:=hd.1; rw [hn] at this; exact (hk this).elim,fun _ => .inl (by rw [hn]; exact if_neg hk)⟩
  ·rw [if_neg e2] at hn
   exact .same (by rw [hn]) (by rw [hn]) (by rw [hn])
theorem Tr.DStep.add (inn:BitVec 16) (s:NameL) (v:BitVec 16):T.DStep (T.add inn s v).1:=by
 unfold Tr.add
 split
 ·exact .refl
 split
 ·exact .refl
 split
 ·exact .refl
 split
 ·exact .refl
 split
 ·exact .refl
 rename_i h2 _ _ _
 intro k
 have hV:((T.upd inn (Nd.addE s v)).node k).kind=(T.node k).kind∧((T.upd inn (Nd.addE s v)).node k).parent=(T.node k).parent∧((T.upd inn (Nd.addE s v)).node k).links=(T.node k).links:=by
  rcases T.upd_or inn k (Nd.addE s v) with e | e <;> rw [e] <;> exact ⟨rfl,rfl,rfl⟩
 obtain ⟨a,b,c⟩:=hV
 by_cases e:k=v
 ·subst e
  have:(((T.upd inn (Nd.addE s k)).upd k (Nd.addL 1)).node k).kind=(T.node k).kind∧(((T.upd inn (Nd.addE s k)).upd k (Nd.addL 1)).node k).parent=(T.node k).parent:=by
   rcases (T.upd inn (Nd.addE s k)).upd_or k k (Nd.addL 1) with e | e <;> rw [e] <;> exact ⟨a,b⟩
  exact .file (by show ¬ _=_; rw [Tr.bump_node,this.1]; exact h2) h2 this.2
 ·have hn:(((T.upd inn (Nd.addE s v)).upd v (Nd.addL 1)).bump.node k)=(T.upd inn (Nd.addE s v)).node k:=Tr.node_upd_ne e _
  exact .same (by rw [hn,a]) (by rw [hn,b]) (by rw [hn,c])
theorem Tr.DStep.hold (n:BitVec 16) (up:Bool):T.DStep (T.hold n up).1:=by
 unfold Tr.hold
 split
 ·exact .refl
 split
 ·exact .upd n _ fun _=>⟨rfl,rfl,rfl⟩
 split
 ·exact .refl
 intro k
 have hV:((T.upd n (Nd.addH (-1))).node k).kind=(T.node k).kind∧((T.upd n (Nd.addH (-1))).node k).parent=(T.node k).parent∧((T.upd n (Nd.addH (-1))).node k).links=(T.node k).links:=by
  rcases T.upd_or n k (Nd.addH (-1)) with e | e <;> rw [e] <;> exact ⟨rfl,rfl,rfl⟩
 obtain ⟨a,b,c⟩:=hV
 unfold Tr.tidy
 split
 ·rcases (T.upd n (Nd.addH (-1))).upd_or n k (fun _=>Nd.none) with e | e
  ·exact .same (by rw [e,a]) (by rw [e,b]) (by rw [e,c])
  ·exact .none e
 ·exact .same a b c
theorem Tr.DStep.drop (w:T.WF) (inn:BitVec 16) (s:NameL) (d:Bool):T.DStep (T.drop inn s d).1:=by
 unfold Tr.drop
 split
 ·exact .refl
 split
 ·exact .refl
 split
 ·exact .refl
 split
 ·exact .refl
 rename_i c1 _ _ _
 have c1:(T.look inn s).2=0:=by simpa using c1
 obtain ⟨k1,k2⟩:=Tr.look_ok c1
 generalize (T.look inn s).1=y at *
 obtain ⟨e1,e2,e3,o0,o1,e6⟩:=w.pos k2
 have hyi:inn≠y:=by rintro rfl; exact w.no_self (alook_mem k2)
 intro k
 have hV:∀ k,((T.upd inn (Nd.delE s)).node k).kind=(T.node k).kind∧((T.upd inn (Nd.delE s)).node k).parent=(T.node k).parent∧((T.upd inn (Nd.delE s)).node k).links=(T.node k).links:=fun k=>by
  rcases T.upd_or inn k (Nd.delE s) with e | e <;> rw [e] <;> exact ⟨rfl,rfl,rfl⟩
 have hW:∀ k,k≠y→((((T.upd inn (Nd.delE s)).upd y (Nd.addL (-1))).bump).tidy y).node k=(T.upd inn (Nd.delE s)).node k:=fun k e=>by
  unfold Tr.tidy
  split
  ·rw [Tr.node_upd_ne e,Tr.bump_node,Tr.node_upd_ne e]
  ·rw [Tr.bump_node,Tr.node_upd_ne e]
 by_cases e:k=y
 ·subst e
  have hin:¬ ((((T.upd inn (Nd.delE s)).upd k (Nd.addL (-1))).bump).tidy k).dead inn:=fun hd=>by
   have h2:=hd.2
   rw [hW inn hyi,(hV inn).2.2] at h2
   exact e2 h2
  have hk:(((T.upd inn (Nd.delE s)).upd k (Nd.addL (-1))).node k).kind=(T.node k).kind∧(((T.upd inn (Nd.delE s)).upd k (Nd.addL (-1))).node k).parent=(T.node k).parent:=by
   rcases (T.upd inn (Nd.delE s)).upd_or k k (Nd.addL (-1)) with e | e <;> rw [e] <;> exact ⟨(hV k).1,(hV k).2.1⟩
  unfold Tr.tidy at hin ⊢
  split at hin
  ·rename_i hc
   rw [if_pos hc]
   have hz:((((T.upd inn (Nd.delE s)).upd k (Nd.addL (-1))).bump).upd k (fun _=>Nd.none)).node k=Nd.none:=by
    rw [Tr.node_upd (by rw [Tr.bump_node,hk.1]; exact o0),if_pos rfl]
   exact .none hz
  ·rename_i hc
   rw [if_neg hc]
   by_cases h2:(T.node k).kind=2#8
   ·refine ⟨fun _=>⟨hk.2,.inr ?_⟩,fun h=>(h (hk.1.trans h2)).elim⟩
    have:(((T.upd inn (Nd.delE s)).upd k (Nd.addL (-1))).bump.node k).parent=inn:=hk.2.trans (e6 h2)
    rw [this]
    exact hin
   ·exact .file (fun h=>h2 (hk.1.symm.trans h)) h2 hk.2
 ·obtain ⟨a,b,c⟩:=hV k
  have hn:=hW k e
  exact .same (by rw [hn,a]) (by rw [hn,b]) (by rw [hn,c])
theorem Tr.node_upd_lt {n:BitVec 16} (h:n.toNat<T.N.length) (f:Nd→Nd):(T.upd n f).node n=f (T.node n):=by
 unfold Tr.upd Tr.node
 simp [List.getD_eq_getElem?_getD,List.getElem?_modify,h]
theorem Tr.len_upd (n:BitVec 16) (f:Nd→Nd):(T.upd n f).N.length=T.N.length:=by simp [Tr.upd]
theorem Tr.len_tidy (n:BitVec 16):(T.tidy n).N.length=T.N.length:=by
 unfold Tr.tidy
 split
 ·exact Tr.len_upd _ _
 ·rfl
theorem Tr.len_drop (inn:BitVec 16) (s:NameL) (d:Bool):(T.drop inn s d).1.N.length=T.N.length:=by
 unfold Tr.drop
 repeat' split
 all_goals try rfl
 rw [Tr.len_tidy]
 show ((T.upd _ _).upd _ _).N.length=_
 rw [Tr.len_upd,Tr.len_upd]
theorem Tr.DStep.moved {U:Tr} {fr to n:BitVec 16} {s other:NameL} (hl:to.toNat<U.N.length) (w:(Tr.moved U fr s to other n).WF):U.DStep (Tr.moved U fr s to other n):=by
 have hV:∀ m,(((U.upd fr (Nd.delE s)).upd to (Nd.addE other n)).node m).kind=(U.node m).kind∧(((U.upd fr (Nd.delE s)).upd to (Nd.addE other n)).node m).parent=(U.node m).parent∧(((U.upd fr (Nd.delE s)).upd to (Nd.addE other n)).node m).links=(U.node m).links:=fun m=>by
  have h1:((U.upd fr (Nd.delE s)).node m).kind=(U.node m).kind∧((U.upd fr (Nd.delE s)).node m).parent=(U.node m).parent∧((U.upd fr (Nd.delE s)).node m).links=(U.node m).links:=by
   rcases U.upd_or fr m (Nd.delE s) with e | e <;> rw [e] <;> exact ⟨rfl,rfl,rfl⟩
  rcases (U.upd fr (Nd.delE s)).upd_or to m (Nd.addE other n) with e | e <;> rw [e] <;> exact h1
 have hm:(other,n)∈(((U.upd fr (Nd.delE s)).upd to (Nd.addE other n)).node to).ents:=by
  rw [Tr.node_upd_lt (by rw [Tr.len_upd]; exact hl)]
  exact mem_insertE.2 (.inl rfl)
 unfold Tr.moved at w ⊢
 simp only at w ⊢
 split at w
 ·rename_i hk
  rw [if_pos hk]
  intro m
  by_cases e:m=n
  ·subst e
   have hk':((((U.upd fr (Nd.delE s)).upd to (Nd.addE other m)).upd m (fun x=>{ x with parent:=to })).bump.node m).kind=2#8:=by
    rw [Tr.bump_node]
    rcases ((U.upd fr (Nd.delE s)).upd to (Nd.addE other m)).upd_or m m (fun x=>{ x with parent:=to }) with e | e <;> rw [e] <;> exact (hV m).1.trans hk
   have hm':(other,m)∈((((U.upd fr (Nd.delE s)).upd to (Nd.addE other m)).upd m (fun x=>{ x with parent:=to })).bump.node to).ents:=by
    rw [Tr.bump_node]
    rcases ((U.upd fr (Nd.delE s)).upd to (Nd.addE other m)).upd_or m to (fun x=>{ x with parent:=to }) with e | e <;> rw [e] <;> exact hm
   have:=w.live_of hm' hk'
   exact .live this.1 this.2
  ·obtain ⟨a,b,c⟩:=hV m
   have hn:((((U.upd fr (Nd.delE s)).upd to (Nd.addE other n)).upd n (fun x=>{ x with parent:=to })).bump.node m)=((U.upd fr (Nd.delE s)).upd to (Nd.addE other n)).node m:=Tr.node_upd_ne e _
   exact .same (by rw [hn,a]) (by rw [hn,b]) (by rw [hn,c])
 ·rename_i hk
  rw [if_neg hk]
  intro m
  obtain ⟨a,b,c⟩:=hV m
  exact .same a b c
theorem Tr.Order.move (h:T.Order) (w:T.WF) (fr:BitVec 16) (s:NameL) (to:BitVec 16) (other:NameL):(T.move fr s to other).1.Order:=by
 have w':=w.move fr s to other
 unfold Tr.move at w' ⊢
 split
 ·exact h
 rename_i c1
 split
 ·exact h
 rename_i c2
 split
 ·exact h
 rename_i c3
 split
 ·exact h
 rename_i c4
 split
 ·exact h
 rename_i c5
 simp only [if_neg c1,if_neg c2,if_neg c3,if_neg c4,if_neg c5] at w'
 have hto:to.toNat<T.N.length:=by
  have c2:T.dir to=0:=by simpa using c2
  exact Tr.node_lt (by rw [Tr.dir_zero.1 c2]; decide)
 refine Tr.Order.step (T:=if (alook other (T.node to).ents).isSome then (T.drop to other (decide ((T.node (T.look fr s).1).kind=2#8))).1 else T) ?_ (Tr.DStep.moved ?_ w')
 ·split
  ·exact h.step (.drop w _ _ _)
  ·exact h
 ·split
  ·rw [Tr.len_drop]; exact hto
  ·exact hto
theorem Tr.Did.order {up:Bool} (h:T.Did up T') (w:T.WF) (o:T.Order):T'.Order:=by
 cases h
 ·exact o.step (.make w _ _ _ _)
 ·exact o.step (.add _ _ _)
 ·exact o.step (.drop w _ _ _)
 ·exact o.move w _ _ _ _
 ·exact o.step (.hold _ _)
 ·unfold Tr.write
  repeat' split
  all_goals try exact o
  exact o.step (.upd _ _ fun _=>⟨rfl,rfl,rfl⟩)
 ·unfold Tr.cut
  repeat' split
  all_goals try exact o
  exact o.step (.upd _ _ fun _=>⟨rfl,rfl,rfl⟩)
 ·exact o
theorem Tr.Order.new (limit:Int):(Tr.new limit).Order:=by
 have hp:∀ n,((Tr.new limit).node n).kind≠2#8→((Tr.new limit).node n).parent=0#16:=by
  intro n hk
  unfold Tr.new Tr.node at hk ⊢
  simp only [List.getD_eq_getElem?_getD] at hk ⊢
  by_cases e0:n.toNat=0
  ·rw [e0]; rfl
  ·by_cases e1:n.toNat=1
   ·rw [e1] at hk; exact (hk rfl).elim
   ·rw [List.getElem?_eq_none (by simp; omega)]; rfl
 refine ⟨⟨fun _=>0,1,fun _=>Nat.zero_lt_one,fun n hd _ =>?_⟩,hp⟩
 obtain ⟨a,b⟩:=hd
 unfold Tr.new Tr.node at a b
 simp only [List.getD_eq_getElem?_getD] at a b
 by_cases e0:n.toNat=0
 ·rw [e0] at a; exact absurd a (by decide)
 ·by_cases e1:n.toNat=1
  ·rw [e1] at b; exact absurd b (by decide)
  ·rw [List.getElem?_eq_none (by simp; omega)] at a; exact absurd a (by decide)
end
end Go.AM
end
section
namespace Go.AM
variable {E:Sy} {H:AH} {Q:Value→AH→Prop}
def RefAt (H:AH) (p:Nat) (t:TreeI) (M:List MntI):Prop:=H.get p = .cells t.cells none∧M.length<2 ^ 62∧Rows H 5 t.m (M.map MntI.cells)
theorem RefAt.mono {H H':AH} {p:Nat} {t:TreeI} {M:List MntI} (h:RefAt H p t M) (e:Ext H H'):RefAt H' p t M:=⟨e.cells h.1,h.2.1,h.2.2.mono e⟩
theorem RefAt.len {H:AH} {p:Nat} {t:TreeI} {M:List MntI} (h:RefAt H p t M):lenSlc t.m=some (vi M.length):=by
 have:=h.2.2.lenSlc
 simpa using this
theorem S.f78 (hE:Fold E) (p:Nat) (t:TreeI) (M:List MntI) (hT:RefAt H p t M) (id:Int) (hQ:Q (vi (ixOf (fun m:MntI=>decide (m.id=id)) M)) H):E.call (E.fid i.f78) [ptr p 0,vi id] H Q:=by
 apply hE.f78
 have hl:=hT.len
 have h0:=hT.2.1
 simp [F.f78]
 refine LoopL.count M.length (fun j s H'=>s=[ptr p 0,vi id,vi j]∧H'=H∧∀ i (hi:i<M.length),i<j→¬ M[i].id=id) ?_ ⟨rfl,rfl,fun i _ h=>by omega⟩
 rintro j _ _ X hj hX ⟨rfl,rfl,hn⟩
 simp only [F.f78_l1,nth_0,nth_s]
 simp [hT.1,hl]
 refine ifB_split (fun h =>?_) (fun h =>?_)
 ·have hjl:j<M.length:=by omega
  obtain ⟨b,o,f1,f2,f3,_⟩:=MntI.elem hT.2.2 hjl
  simp [hT.1,f1,f3]
  refine ifB_split (fun h =>?_) (fun h =>?_)
  ·have:ixOf (fun m:MntI=>decide (m.id=id)) M=(j:Int):=by
    have:M.findIdx? (fun m:MntI=>decide (m.id=id))=some j:=List.findIdx?_eq_some_iff_getElem.2 ⟨hjl,by simpa using h,fun i hi=>by simpa using hn i (by omega) hi⟩
    simp [ixOf,this]
   rw [← this]
   exact hQ
  ·rw [i64_inc (by omega),opt_some]
   refine hX hjl _ _ ⟨rfl,rfl,fun i hi hij =>?_⟩
   by_cases e:i=j
   ·subst e; exact h
   ·exact hn i hi (by omega)
 ·have:j=M.length:=by omega
  subst this
  have:ixOf (fun m:MntI=>decide (m.id=id)) M = -1:=by
   have:M.findIdx? (fun m:MntI=>decide (m.id=id))=none:=by
    rw [List.findIdx?_eq_none_iff]
    intro x hx
    obtain ⟨i,hi,rfl⟩:=List.getElem_of_mem hx
    simpa using hn i hi hi
   simp [ixOf,this]
  rw [← this]
  exact hQ
def standsI (p:PlaceI) (m:MntI):Bool:=decide (m.id≠0)&&decide (m.at_=p)
def lastIx {α:Type} (P:α→Bool) (l:List α):Int:=match (List.range l.length).reverse.find? (fun i=>(l[i]?).any P) with | some i=>(i:Int) | none => -1
theorem lastIx_snoc {α:Type} (P:α→Bool) (l:List α) (x:α):lastIx P (l++[x])=if P x then (l.length:Int) else lastIx P l:=by
 unfold lastIx
 rw [List.length_append,List.length_singleton,List.range_succ,List.reverse_append,List.reverse_singleton,List.singleton_append,List.find?_cons]
 have h0:((l++[x])[l.length]?).any P=P x:=by simp
 rw [h0]
 cases P x with
 | true=>simp
 | false =>
  simp only [Bool.false_eq_true,if_false]
  have:∀ (L:List Nat),(∀ i∈L,i<l.length)→L.find? (fun i=>((l++[x])[i]?).any P)=L.find? (fun i=>(l[i]?).any P):=by
   intro L hL
   induction L with
   | nil=>rfl
   | cons a L ih =>
    have ha:=hL a (by simp)
    rw [List.find?_cons,List.find?_cons,List.getElem?_append_left ha,ih fun i hi=>hL i (by simp [hi])]
  rw [this _ (fun i hi=>by simpa using hi)]
theorem lastIx_cases {α:Type} (P:α→Bool) (l:List α):(lastIx P l = -1∧∀ x∈l,P x=false)∨∃ (i:Nat) (hi:i<l.length),lastIx P l=i∧P l[i]=true:=by
 unfold lastIx
 cases h:(List.range l.length).reverse.find? (fun i=>(l[i]?).any P) with
 | none =>
  refine .inl ⟨rfl,fun x hx =>?_⟩
  obtain ⟨i,hi,rfl⟩:=List.getElem_of_mem hx
  have:=List.find?_eq_none.1 h i (by simpa using hi)
  simpa [hi] using this
 | some i =>
  have h1:=List.find?_some h
  have h2:=List.mem_of_find?_eq_some h
  have hi:i<l.length:=by simpa using h2
  exact .inr ⟨i,hi,rfl,by simpa [hi] using h1⟩
def seenI (M:List MntI):Nat→PlaceI→PlaceI
 | 0,p=>p
 | n+1,p=>if h:0≤lastIx (standsI p) M∧(lastIx (standsI p) M).toNat<M.length then seenI M n ⟨(M[(lastIx (standsI p) M).toNat]'h.2).id,(M[(lastIx (standsI p) M).toNat]'h.2).root⟩ else p
theorem S.f73 (hE:Fold E) (p:Nat) (t:TreeI) (M:List MntI) (hT:RefAt H p t M) (q:PlaceI) (hQ:∀ H',Ext H H'→Q (seenI M 20 q).v H'):E.call (E.fid i.f73) [ptr p 0,q.v] H Q:=by
 apply hE.f73
 have hl:=hT.len
 have h0:=hT.2.1
 simp [F.f73]
 generalize hH2:(H.new _).new _=H2
 have x2:Ext H H2:=by subst hH2; exact ((Ext.refl H).new _).new _
 have k1:H2.get H.next = .cells q.cells none:=by subst hH2; simp [AH.get_new]
 have k2:H2.get (H.next+1) = .cells [vi 0,vi 0] none:=by subst hH2; simp [AH.get_new]
 clear hH2
 refine LoopL.count 20 (fun k s H'=>∃ r,s=[ptr p 0,ptr H.next 0,ptr (H.next+1) 0,vi k]∧Ext H H'∧seenI M (20 - k) r=seenI M 20 q∧H'.get H.next = .cells r.cells none∧H'.get (H.next+1) = .cells [vi 0,vi 0] none) ?_ ⟨q,rfl,x2,rfl,k1,k2⟩
 rintro k _ H' X hk hX ⟨r,rfl,e1,hs,m1,m2⟩
 have hT1:=hT.mono e1
 have l1:=AH.lt_cells m1
 have l2:=AH.lt_cells m2
 have leave:seenI M 20 q=r→Q (seenI M 20 q).v (H'.put (H.next+1) (.cells r.cells none)):=by
  intro h
  exact hQ _ (e1.put (b:=H.next+1) (by omega) _)
 simp only [F.f73_l1,nth_0,nth_s]
 simp
 by_cases hk20:(k:Int)<20
 ·simp [hk20]
  refine LoopL.count M.length (fun j s H''=>s=[ptr p 0,ptr H.next 0,ptr (H.next+1) 0,vi k,vi (lastIx (standsI r) (M.take j)),vi j]∧H''=H') ?_ ⟨rfl,rfl⟩
  rintro j _ _ X1 hj hX1 ⟨rfl,rfl⟩
  simp only [F.f73_l2,nth_0,nth_s]
  simp [hT1.1,hl]
  refine ifB_split (fun h =>?_) (fun h =>?_)
  ·have hjl:j<M.length:=by omega
   obtain ⟨b,o,f1,f2,f3,f4,f5,f6,f7,f8⟩:=MntI.elem hT1.2.2 hjl
   have htk:M.take (j+1)=M.take j++[M[j]]:=by rw [List.take_succ,List.getElem?_eq_getElem hjl]; rfl
   have hln:(M.take j).length=j:=by rw [List.length_take]; omega
   by_cases hid:M[j].id=0
   ·simp [hT1.1,f1,f3,hid]
    rw [i64_inc (by omega),opt_some]
    refine hX1 hjl _ _ ⟨?_,rfl⟩
    rw [htk,lastIx_snoc]
    simp [standsI,hid]
   ·by_cases hat:M[j].at_=r
    ·simp [hT1.1,f1,f3,hid,m1,f8,hat]
     rw [i64_inc (by omega),opt_some]
     refine hX1 hjl _ _ ⟨?_,rfl⟩
     rw [htk,lastIx_snoc,hln]
     simp [standsI,hid,hat]
    ·simp [hT1.1,f1,f3,hid,m1,f8,hat]
     rw [i64_inc (by omega),opt_some]
     refine hX1 hjl _ _ ⟨?_,rfl⟩
     rw [htk,lastIx_snoc]
     simp [standsI,hid,hat]
  ·have:j=M.length:=by omega
   subst this
   rw [List.take_length]
   have hstep:seenI M (20 - k) r=if h:0≤lastIx (standsI r) M∧(lastIx (standsI r) M).toNat<M.length then seenI M (20 - (k+1)) ⟨(M[(lastIx (standsI r) M).toNat]'h.2).id,(M[(lastIx (standsI r) M).toNat]'h.2).root⟩ else r:=by
    rw [show 20 - k=(20 - (k+1))+1 by omega]
    rfl
   rcases lastIx_cases (standsI r) M with ⟨h1,_⟩ | ⟨i,hi,h1,_⟩
   ·rw [h1] at hstep
    simp at hstep
    simp [h1,m1,m2]
    have:=leave (by rw [← hs,hstep])
    rw [← hs,hstep] at this
    simpa [l2] using this
   ·rw [h1] at hstep
    simp [hi] at hstep
    have hneg:¬ ((i:Int)<0):=by omega
    obtain ⟨b,o,f1,f2,f3,f4,f5,f6,f7,f8⟩:=MntI.elem hT1.2.2 hi
    simp [hT1.1,h1,hneg,f1,f3,f4,m1]
    rw [i64_inc (by omega),opt_some]
    refine hX (by omega) _ _ ⟨⟨M[i].id,M[i].root⟩,rfl,e1.put (b:=H.next) (by omega) _,by rw [← hs,hstep,show 20 - (k+1)=19 - k by omega],?_,?_⟩
    ·simp [l1]
    ·rw [AH.get_put_ne _ _ (by omega)]; exact m2
 ·have:k=20:=by omega
  subst this
  simp at hs
  simp [m1,m2]
  have:=leave (by rw [← hs]; rfl)
  rw [← hs] at this
  simpa [l2,seenI] using this
end Go.AM
end
section
namespace Go.AM
variable {E:Sy} {H:AH} {Q:Value→AH→Prop}
def refMR (p:Nat) (t:TreeI) (N:List NodeI) (M:List MntI):Res:=⟨p :: (blkL t.n++blkL t.m),fun H=>H.get p = .cells t.cells none∧Grow zH H 7 t.n (N.map NodeI.cells)∧Grow zH H 5 t.m (M.map MntI.cells),
 fun h e=>⟨by rw [e _ (by simp)]; exact h.1,h.2.1.keep fun b hb _=>e b (by simp [mem_blkL.2 hb]),h.2.2.keep fun b hb _=>e b (by simp [mem_blkL.2 hb])⟩⟩
section
variable {p:Nat} {t:TreeI} {N:List NodeI} {M M':List MntI} {H1:AH} {v':Value}
theorem refMR.at_ (h:(refMR p t N M).P H) (hn:M.length<2 ^ 62):RefAt H p t M:=⟨h.1,hn,h.2.2.toRows⟩
theorem refMR.nodup (hnd:(refMR p t N M).fp.Nodup):p ∉ blkL t.n∧p ∉ blkL t.m∧∀ b∈blkL t.n,b ∉ blkL t.m:=by
 simp only [refMR,List.nodup_cons,List.mem_append,List.nodup_append,not_or] at hnd
 obtain ⟨⟨h1,h2⟩,h3,h4,h5⟩:=hnd
 exact ⟨h1,h2,fun b hb hm=>h5 b hb b hm rfl⟩
theorem refMR.fp_lt (hr:(refMR p t N M).P H):∀ b∈(refMR p t N M).fp,b<H.next:=by
 intro b hb
 simp only [refMR,List.mem_cons,List.mem_append] at hb
 rcases hb with rfl | hb | hb
 ·exact AH.lt_cells hr.1
 ·exact hr.2.1.blk_lt (mem_blkL.1 hb)
 ·exact hr.2.2.blk_lt (mem_blkL.1 hb)
theorem refMR.updM (h:(refMR p t N M).P H) (hnd:(refMR p t N M).fp.Nodup) (o:Only (p :: blkL t.m) H H1) (g:Grow zH H1 5 v' (M'.map MntI.cells)) (hb:∀ b,blk v'=some b→blk t.m=some b∨H.next≤b) (nx:Int) :
  Upd (refMR p t N M) (refMR p { t with m:=v',next:=nx } N M') H (H1.put p (.cells ({ t with m:=v',next:=nx }:TreeI).cells none)):=by
 obtain ⟨n1,n2,n3⟩:=refMR.nodup hnd
 have hlt:p<H.next:=AH.lt_cells h.1
 have hpb:p ∉ blkL v':=fun k=>by
  rcases hb p (mem_blkL.1 k) with k | k
  ·exact n2 (mem_blkL.2 k)
  ·omega
 have hN:∀ b,blk t.n=some b→b<H.next:=fun b hb=>h.2.1.blk_lt hb
 have hNn:∀ b,blk t.n=some b→b ∉ blkL v':=fun b hbn k=>by
  rcases hb b (mem_blkL.1 k) with k | k
  ·exact n3 b (mem_blkL.2 hbn) (mem_blkL.2 k)
  ·have:=hN b hbn; omega
 refine ⟨(o.put (.inl (by simp)) _).mono fun b hb => .inl ?_,⟨AH.get_put_self _ _ (Nat.lt_of_lt_of_le hlt o.1),?_,?_⟩,fun b hb' =>?_,?_⟩
 ·simp only [List.mem_cons,refMR,List.mem_append] at hb ⊢
  exact hb.imp id .inr
 ·refine h.2.1.keep fun b hb _ =>?_
  have hbp:b≠p:=by rintro rfl; exact n1 (mem_blkL.2 hb)
  rw [AH.get_put_ne _ _ hbp]
  exact o.get (hN b hb) (by simp only [List.mem_cons,not_or]; exact ⟨hbp,n3 b (mem_blkL.2 hb)⟩)
 ·exact g.keep fun b hb _=>AH.get_put_ne _ _ (by rintro rfl; exact hpb (mem_blkL.2 hb))
 ·simp only [refMR,List.mem_cons,List.mem_append] at hb' ⊢
  rcases hb' with rfl | hb' | hb'
  ·exact ⟨.inl (by simp),Nat.lt_of_lt_of_le hlt o.1⟩
  ·exact ⟨.inl (by simp [hb']),Nat.lt_of_lt_of_le (hN b (mem_blkL.1 hb')) o.1⟩
  ·exact ⟨(hb b (mem_blkL.1 hb')).imp (fun k=>by simp [mem_blkL.2 k]) id,g.blk_lt (mem_blkL.1 hb')⟩
 ·simp only [refMR,List.nodup_cons,List.mem_append,not_or,List.nodup_append]
  exact ⟨⟨n1,hpb⟩,blkL_nodup _,blkL_nodup _,fun a ha b hb' e=>hNn a (mem_blkL.1 ha) (e▸hb')⟩
end
end Go.AM
end
section
namespace Go.AM
variable {E:Sy} {H:AH} {Q:Value→AH→Prop}
structure BoundI where
 M:List MntI
 nx:Int
 n:Int
 e:Int
def bindI (M:List MntI) (nx root:Int) (q:PlaceI):BoundI :=
 if ixOf (fun m:MntI=>decide (m.id=q.mount)) M<0 then ⟨M,nx,0,22⟩ else if seenI M 20 q≠q then ⟨M,nx,0,16⟩ else if 16≤M.length then ⟨M,nx,0,28⟩ else ⟨M++[⟨nx,root,q,0⟩],nx+1,nx,0⟩
theorem S.f64 (hE:Fold E) (p:Nat) (t:TreeI) (N:List NodeI) (M:List MntI) (hr:(refMR p t N M).P H) (hnd:(refMR p t N M).fp.Nodup) (hn:M.length<2 ^ 20) (hx:0≤t.next∧t.next<2 ^ 61) (root:Int) (q:PlaceI)
  (hQ:∀ t' H',t'.next=(bindI M t.next root q).nx∧t'.n=t.n∧t'.limit=t.limit∧t'.change=t.change→Upd (refMR p t N M) (refMR p t' N (bindI M t.next root q).M) H H'→Q (.tuple #[vi (bindI M t.next root q).n,vi (bindI M t.next root q).e]) H'):E.call (E.fid i.f64) [ptr p 0,vi root,q.v] H Q:=by
 apply hE.f64
 have hT:=refMR.at_ hr (by omega)
 have same:∀ H',Ext H H'→Upd (refMR p t N M) (refMR p t N M) H H':=fun H' e=>(Upd.refl hr (refMR.fp_lt hr) hnd).ext e
 have x1:Ext H (H.new (.cells q.cells none)):=(Ext.refl H).new _
 have k1:(H.new (.cells q.cells none)).get H.next = .cells q.cells none:=AH.get_new_self _ _
 obtain ⟨n1,n2,n3⟩:=refMR.nodup hnd
 have hlp:=AH.lt_cells hr.1
 simp [F.f64]
 refine S.f78 hE p t M (hT.mono x1) q.mount ?_
 unfold bindI at hQ
 by_cases hf:ixOf (fun m:MntI=>decide (m.id=q.mount)) M<0
 ·simp only [hf,if_true] at hQ
  simp [hf]
  exact hQ t _ ⟨rfl,rfl,rfl,rfl⟩ (same _ x1)
 ·simp only [hf,if_false] at hQ
  simp [hf]
  refine S.f73 hE p t M (hT.mono x1) q fun H3 e3 =>?_
  have x3:=x1.trans e3
  have k3:=e3.cells k1
  simp [k3]
  by_cases hs:seenI M 20 q=q
  ·simp only [hs,ne_eq,not_true,if_false] at hQ
   have hT3:=hT.mono x3
   simp [hs,hT3.1,hT3.len]
   by_cases h16:16≤M.length
   ·simp only [h16,if_true] at hQ
    have h16':(16:Int)≤M.length:=by omega
    simp [h16']
    exact hQ t _ ⟨rfl,rfl,rfl,rfl⟩ (same _ x3)
   ·simp only [h16,if_false] at hQ
    have h16':¬ (16:Int)≤M.length:=by omega
    have l3:=AH.lt_cells hT3.1
    simp [h16',hT3.1]
    rw [i64_add (by omega) (by omega),opt_some]
    simp [hT3.1,l3]
    have hpk:H.next≠p:=by omega
    have k4:(H3.put p (.cells ({ t with next:=t.next+1 }:TreeI).cells none)).get H.next = .cells q.cells none:=by rw [AH.get_put_ne _ _ hpk]; exact k3
    have hg3:=hr.2.2.ext x3
    have hg4:Grow zH (H3.put p (.cells ({ t with next:=t.next+1 }:TreeI).cells none)) 5 t.m (M.map MntI.cells):=hg3.keep fun b hb _=>AH.get_put_ne _ _ (by rintro rfl; exact n2 (mem_blkL.2 hb))
    obtain ⟨v',H6,a1,a2,a3,a4⟩:=hg4.app1 (Nat.zero_le _) (bytes:=40) (MntI.cells ⟨t.next,root,q,0⟩) rfl rfl (by omega) (by omega) (by simp; omega)
    have hpv6:H6.get p = .cells ({ t with next:=t.next+1 }:TreeI).cells none:=a3.cells (AH.get_put_self _ _ l3) n2
    have l6:=AH.lt_cells hpv6
    simp only [AH.next_put] at a1
    simp [k4]
    rw [a1]
    simp [a2.plain,hpv6]
    refine hQ { t with m:=v',next:=t.next+1 } _ ⟨rfl,rfl,rfl,rfl⟩ ?_
    have hO:Only (p :: blkL t.m) H H6:=by
     refine ((x3.only (F:=p :: blkL t.m)).put (.inl (by simp)) _).trans a3 fun b hb => .inl (by simp [hb])
    exact refMR.updM hr hnd hO (by simpa using a2) (fun b hb=>(a4 b hb).imp id fun h=>by have:=x3.1; simp at h; omega) _
  ·simp only [hs,ne_eq,not_false_eq_true,if_true] at hQ
   simp [hs]
   exact hQ t _ ⟨rfl,rfl,rfl,rfl⟩ (same _ x3)
end Go.AM
end
section
namespace Go.AM
variable {E:Sy} {H0 Z H:AH} {L:List Res} {Q:Value→AH→Prop}
def PlaceD.toI (p:PlaceD):PlaceI:=⟨p.m,p.i.toNat⟩
def MntD.toI (m:MntD):MntI:=⟨m.id,m.root.toNat,m.at_.toI,m.held⟩
theorem toI_inj (p q:PlaceD):p.toI=q.toI↔p=q:=by
 simp only [PlaceD.toI,PlaceI.ext_iff,PlaceD.ext_iff]
 constructor
 ·rintro ⟨h1,h2⟩; exact ⟨h1,BitVec.eq_of_toNat_eq (by omega)⟩
 ·rintro ⟨h1,h2⟩; rw [h2]; exact ⟨h1,rfl⟩
theorem S.f50 (hE:Fold E) (q:PlaceD) (hQ:∀ H',Ext H H'→Q q.toI.v H'):E.call (E.fid i.f50) [q.v] H Q:=by
 apply hE.f50
 simp [F.f50,AH.get_new,PlaceD.cells]
 exact hQ _ (((Ext.refl H).new _).new _)
theorem ix_toI (T:List MntD) (k:Int):ixOf (fun m:MntI=>decide (m.id=k)) (T.map MntD.toI)=findT T k:=by
 unfold findT ixOf
 rw [List.findIdx?_map]; rfl
theorem stands_toI (p:PlaceD) (m:MntD):standsI p.toI m.toI=standsAt p m:=by
 simp only [standsI,standsAt,MntD.toI,toI_inj]
 congr
structure PInv (T:List MntD) (nx k:Int):Prop where
 older:Older T
 uniq:∀ a∈T,∀ b∈T,a.id≠0→b.id≠0→a.at_=b.at_→a.id=b.id
 nodup:(T.map MntD.id).Nodup
 len:T.length≤16
 ids:∀ m∈T,0≤m.id∧m.id<nx
 nx0:1≤nx
 nx1:nx≤1+k
 held:∀ m∈T,0≤m.held∧m.held≤k
theorem PInv.ok {T:List MntD} {nx k:Int} (h:PInv T nx k) (hk:k≤1000):TabOk T nx :=
 ⟨h.older,h.len,by have:=h.nx0; omega,by have:=h.nx1; omega,fun m hm=>by have:=h.held m hm; omega⟩
theorem PInv.mono {T:List MntD} {nx k k':Int} (h:PInv T nx k) (hk:k≤k'):PInv T nx k' :=
 { h with nx1:=by have:=h.nx1; omega,held:=fun m hm=>by have:=h.held m hm; omega }
theorem pinv0:PInv tab0 1 0:=⟨by unfold Older; simp [tab0],by simp [tab0],by simp [tab0],by simp [tab0],by simp [tab0],by omega,by omega,by simp [tab0]⟩
theorem PInv.inj {T:List MntD} {nx k:Int} (h:PInv T nx k) {i j:Nat} (hi:i<T.length) (hj:j<T.length) (e:T[i].id=T[j].id):i=j:=by
 have h1:i<(T.map MntD.id).length:=by simpa using hi
 have h2:j<(T.map MntD.id).length:=by simpa using hj
 have key:=List.pairwise_iff_getElem.1 h.nodup
 rcases Nat.lt_trichotomy i j with g | g | g
 ·exact absurd (by simpa using e) (key i j h1 h2 g)
 ·exact g
 ·exact absurd (by simpa using e.symm) (key j i h2 h1 g)
theorem last_toI {T:List MntD} {nx k:Int} (h:PInv T nx k) (p:PlaceD):lastIx (standsI p.toI) (T.map MntD.toI)=ixOf (standsAt p) T:=by
 have hs:∀ i (hi:i<T.length),standsI p.toI ((T.map MntD.toI)[i]'(by simpa using hi))=standsAt p T[i]:=fun i hi=>by rw [List.getElem_map,stands_toI]
 rcases lastIx_cases (standsI p.toI) (T.map MntD.toI) with ⟨h1,h2⟩ | ⟨i,hi,h1,h2⟩ <;> rcases ixOf_cases (standsAt p) T with ⟨g1,g2⟩ | ⟨j,hj,g1,_,g3,_⟩
 ·rw [h1,g2]
 ·have:=h2 _ (List.getElem_mem (by simpa using hj))
  rw [hs j hj,g3] at this
  simp at this
 ·have hi':i<T.length:=by simpa using hi
  rw [hs i hi'] at h2
  have:=List.find?_eq_none.1 g1 _ (List.getElem_mem hi')
  exact absurd h2 this
 ·have hi':i<T.length:=by simpa using hi
  rw [hs i hi'] at h2
  simp only [standsAt,Bool.and_eq_true,decide_eq_true_eq] at h2 g3
  have:=h.inj hi' hj (h.uniq _ (List.getElem_mem hi') _ (List.getElem_mem hj) h2.1 g3.1 (h2.2.trans g3.2.symm))
  subst this
  rw [h1,g1]
theorem seenI_toI {T:List MntD} {nx k:Int} (h:PInv T nx k):∀ (n:Nat) (p:PlaceD),seenI (T.map MntD.toI) n p.toI=(seenN T n p).toI
 | 0,p=>rfl
 | n+1,p=>by
  simp only [seenI,seenN,last_toI h]
  rcases ixOf_cases (standsAt p) T with ⟨g1,g2⟩ | ⟨j,hj,g1,g2,g3,_⟩
  ·simp [g2,g1]
  ·simp only [g1,g2,List.length_map]
   rw [dif_pos ⟨by omega,by simpa using hj⟩]
   have:=seenI_toI h n ⟨T[j].id,T[j].root⟩
   simp only [List.getElem_map]
   exact this
theorem seen20 {T:List MntD} {nx k:Int} (h:PInv T nx k) (p:PlaceD):seenI (T.map MntD.toI) 20 p.toI=(seen T p).toI:=by
 rw [seenI_toI h]
 have h1:=h.len
 have h2:=above_le T p
 have:=seenN_enough h.older p (20 - T.length) T.length h2
 rw [show T.length+(20 - T.length)=20 by omega] at this
 rw [this]; rfl
theorem seenN_ge {T:List MntD} (h:Older T):∀ (n:Nat) (p:PlaceD),p.m≤(seenN T n p).m
 | 0,p=>by simp [seenN]
 | n+1,p=>by
  rw [seenN]
  cases hf:T.find? (standsAt p) with
  | none=>simp
  | some m =>
   have h1:=List.find?_some hf
   have h2:=List.mem_of_find?_eq_some hf
   simp only [standsAt,Bool.and_eq_true,decide_eq_true_eq] at h1
   have h3:=h m h2 h1.1
   have h4:=seenN_ge h n ⟨m.id,m.root⟩
   rw [h1.2] at h3
   simp only at h4 ⊢
   omega
theorem seen_fix {T:List MntD} (h:Older T) {p:PlaceD} (e:seen T p=p):T.find? (standsAt p)=none:=by
 cases hf:T.find? (standsAt p) with
 | none=>rfl
 | some m =>
  have h1:=List.find?_some hf
  have h2:=List.mem_of_find?_eq_some hf
  simp only [standsAt,Bool.and_eq_true,decide_eq_true_eq] at h1
  have h3:=h m h2 h1.1
  have h4:=seenN_ge h T.length ⟨m.id,m.root⟩
  have h5:=seen_some h hf
  rw [e] at h5
  unfold seen at h5
  rw [← h5] at h4
  rw [h1.2] at h3
  simp only at h4
  omega
theorem bind_toI {T:List MntD} {nx k:Int} (h:PInv T nx k) (r:BitVec 16) (p:PlaceD):(bindI (T.map MntD.toI) nx r.toNat p.toI).M=(bindT T nx r p).T.map MntD.toI∧(bindI (T.map MntD.toI) nx r.toNat p.toI).nx=(bindT T nx r p).nx ∧
  (bindI (T.map MntD.toI) nx r.toNat p.toI).n=(bindT T nx r p).n∧(bindI (T.map MntD.toI) nx r.toNat p.toI).e=(bindT T nx r p).e:=by
 unfold bindI bindT
 have h0:p.toI.mount=p.m:=rfl
 rw [h0,ix_toI,seen20 h,List.length_map]
 simp only [ne_eq,toI_inj]
 split
 ·simp
 ·split
  ·simp
  ·split
   ·simp
   ·simp [MntD.toI]
theorem PInv.bind {T:List MntD} {nx k:Int} (h:PInv T nx k) (r:BitVec 16) (p:PlaceD):PInv (bindT T nx r p).T (bindT T nx r p).nx (k+1):=by
 have hk:PInv T nx (k+1):=h.mono (by omega)
 unfold bindT
 split
 ·exact hk
 ·rename_i hf
  split
  ·exact hk
  ·rename_i hs
   split
   ·exact hk
   ·rename_i hl
    have hs:seen T p=p:=Classical.not_not.1 hs
    have hno:=seen_fix h.older hs
    have hpm:p.m<nx:=by
     rcases ixOf_cases (fun m:MntD=>decide (m.id=p.m)) T with ⟨h1,h2⟩ | ⟨j,hj,h1,h2,h3,_⟩
     ·have h2:findT T p.m = -1:=h2
      omega
     ·have:=(h.ids _ (List.getElem_mem hj)).2
      simp only [decide_eq_true_eq] at h3
      omega
    have hnx:=h.nx0
    refine ⟨fun m hm h0 =>?_,fun a ha b hb a0 b0 e =>?_,?_,by simp; omega,fun m hm =>?_,by simp only; omega,by have:=h.nx1; simp only; omega,fun m hm =>?_⟩
    ·rcases List.mem_append.1 hm with hm | hm
     ·exact h.older m hm h0
     ·simp only [List.mem_singleton] at hm; subst hm; exact hpm
    ·rcases List.mem_append.1 ha with ha | ha <;> rcases List.mem_append.1 hb with hb | hb
     ·exact h.uniq a ha b hb a0 b0 e
     ·simp only [List.mem_singleton] at hb; subst hb
      exact absurd (by simp only [standsAt,Bool.and_eq_true,decide_eq_true_eq]; exact ⟨a0,e⟩) (List.find?_eq_none.1 hno a ha)
     ·simp only [List.mem_singleton] at ha; subst ha
      exact absurd (by simp only [standsAt,Bool.and_eq_true,decide_eq_true_eq]; exact ⟨b0,e.symm⟩) (List.find?_eq_none.1 hno b hb)
     ·simp only [List.mem_singleton] at ha hb; subst ha hb; rfl
    ·rw [List.map_append,List.nodup_append]
     refine ⟨h.nodup,by simp,fun a ha b hb =>?_⟩
     obtain ⟨m,hm,rfl⟩:=List.mem_map.1 ha
     simp at hb; subst hb
     have:=(h.ids m hm).2
     omega
    ·rcases List.mem_append.1 hm with hm | hm
     ·have:=h.ids m hm; simp only; omega
     ·simp only [List.mem_singleton] at hm; subst hm; simp only; omega
    ·rcases List.mem_append.1 hm with hm | hm
     ·have:=h.held m hm; omega
     ·simp only [List.mem_singleton] at hm; subst hm; simp only; have:=h.nx1; omega
end Go.AM
end
section
namespace Go.AM
theorem Upd.congr {r r' s s':Res} {H H':AH} (h:Upd r r' H H') (f:r.fp=s.fp) (f':r'.fp=s'.fp) (p':∀ H,r'.P H→s'.P H):Upd s s' H H':=by
 obtain ⟨a,b,c,d⟩:=h
 exact ⟨f▸a,p' _ b,by rw [← f,← f']; exact c,f'▸d⟩
def nodesI (T:Tr) (Y:List RLy):List NodeI:=(T.N.zip Y).map fun p=>refI p.1 p.2
theorem nodesI_rows (T:Tr) (Y:List RLy):(nodesI T Y).map NodeI.cells=nodeRows T Y:=by simp [nodesI,nodeRows]
def mntI (M:List MntD):List (List Value):=(M.map MntD.toI).map MntI.cells
section
variable {E:Sy} {H H':AH} {Q:Value→AH→Prop} {t:Nat} {nv mv mv':Value} {nx nx':Int} {Y:List RLy} {T:Tr} {M M':List MntI}
def restR (Y:List RLy) (T:Tr):List Res:=(T.N.zip Y).map fun p=>nodeRR p.1 p.2
theorem refR_fp:(refR t nv mv nx (M.map MntI.cells) Y T).fp=(joinR (refMR t ⟨nv,T.limit,mv,nx,T.change⟩ (nodesI T Y) M :: restR Y T)).fp:=by
 simp [refR,refRs,joinR,refMR,restR,boxR,growR]
theorem refR_holds (H:AH):(refR t nv mv nx (M.map MntI.cells) Y T).P H↔(joinR (refMR t ⟨nv,T.limit,mv,nx,T.change⟩ (nodesI T Y) M :: restR Y T)).P H:=by
 simp only [refR,refRs,joinR,restR,List.mem_cons,forall_eq_or_imp]
 constructor
 ·rintro ⟨a,b,c,d⟩
  exact ⟨⟨a,by rw [nodesI_rows]; exact b,c⟩,d⟩
 ·rintro ⟨⟨a,b,c⟩,d⟩
  exact ⟨a,by rw [nodesI_rows] at b; exact b,c,d⟩
theorem refR_toM (h:Ow (refR t nv mv nx (M.map MntI.cells) Y T) H):Ow (joinR (refMR t ⟨nv,T.limit,mv,nx,T.change⟩ (nodesI T Y) M :: restR Y T)) H :=
 ⟨(refR_holds H).1 h.holds,by rw [← refR_fp]; exact h.lt,by rw [← refR_fp]; exact h.nd⟩
theorem refR_upd (h:Ow (refR t nv mv nx (M.map MntI.cells) Y T) H) (u:Upd (refMR t ⟨nv,T.limit,mv,nx,T.change⟩ (nodesI T Y) M) (refMR t ⟨nv,T.limit,mv',nx',T.change⟩ (nodesI T Y) M') H H') :
  Upd (refR t nv mv nx (M.map MntI.cells) Y T) (refR t nv mv' nx' (M'.map MntI.cells) Y T) H H' :=
 ((refR_toM h).set (k:=0) rfl u).congr refR_fp.symm refR_fp.symm fun H h=>(refR_holds H).2 h
theorem S.pinfoldref16_Tree_BindT (hE:Fold E) (h:Ow (refR t nv mv nx (M.map MntI.cells) Y T) H) (hn:M.length<2 ^ 20) (hx:0≤nx∧nx<2 ^ 61) (root:Int) (q:PlaceI)
  (hQ:∀ mv' H',Upd (refR t nv mv nx (M.map MntI.cells) Y T) (refR t nv mv' (bindI M nx root q).nx ((bindI M nx root q).M.map MntI.cells) Y T) H H'→Q (.tuple #[vi (bindI M nx root q).n,vi (bindI M nx root q).e]) H') :
  E.call (E.fid i.f64) [ptr t 0,vi root,q.v] H Q:=by
 have o:=(refR_toM h).part (k:=0) rfl
 refine S.f64 hE t ⟨nv,T.limit,mv,nx,T.change⟩ (nodesI T Y) M o.holds o.nd hn hx root q fun t' H' ht u =>?_
 obtain ⟨a,b,c,d⟩:=ht
 obtain ⟨n',l',m',x',c'⟩:=t'
 simp only at a b c d
 subst a b c d
 exact hQ m' H' (refR_upd h u)
end
end Go.AM
end
section
namespace Go.AM
theorem Tr.Did.limit {up:Bool} {T T':Tr} (h:T.Did up T'):T'.limit=T.limit:=by
 have htd:∀ (U:Tr) (n:BitVec 16),(U.tidy n).limit=U.limit:=fun U n=>by unfold Tr.tidy; split <;> rfl
 have hdr:∀ (U:Tr) (n:BitVec 16) (s:NameL) (d:Bool),(U.drop n s d).1.limit=U.limit:=fun U n s d=>by
  unfold Tr.drop
  repeat' split
  all_goals try rfl
  rw [htd]; rfl
 have hmv:∀ (U:Tr) (fr to n:BitVec 16) (s o:NameL),(Tr.moved U fr s to o n).limit=U.limit:=fun U fr to n s o=>by
  unfold Tr.moved
  simp only
  split <;> rfl
 cases h
 ·unfold Tr.make
  repeat' split
  all_goals rfl
 ·unfold Tr.add
  repeat' split
  all_goals rfl
 ·exact hdr _ _ _ _
 ·unfold Tr.move
  split
  ·rfl
  split
  ·rfl
  split
  ·rfl
  split
  ·rfl
  split
  ·rfl
  rw [hmv]
  split
  ·exact hdr _ _ _ _
  ·rfl
 ·unfold Tr.hold
  repeat' split
  all_goals try rfl
  exact htd _ _
 ·unfold Tr.write
  repeat' split
  all_goals rfl
 ·unfold Tr.cut
  repeat' split
  all_goals rfl
 ·rfl
def topM:MntD:=⟨0,⟨0,0#16⟩,1#16,0⟩
structure GI (k:Int) (T:Tr) (M:List MntD) (nx l:Int):Prop where
 k0:0≤k
 k1:k≤900
 wf:T.WF
 kd:T.KD
 ord:T.Order
 lim:T.limit≤l
 hb:T.HB (2*k)
 c0:0≤T.change
 c1:T.change≤2*k
 pin:PInv M nx k
 top:getT M 0=some topM
 mnt:∀ m∈M,(T.node m.root).kind=2#8∧(m.id=0→m=topM)∧(m.id≠0→1≤(T.node m.root).held∧(T.node m.at_.i).kind=2#8∧1≤(T.node m.at_.i).held∧0≤m.at_.m∧m.at_.m≤2)
section
variable {T T':Tr} {M:List MntD} {nx k l:Int}
theorem GI.atOk (g:GI k T M nx l):AtOk T M:=fun m hm h0=>by rw [((g.mnt m hm).2.2 h0).2.1]; decide
theorem GI.mono (g:GI k T M nx l) {k':Int} (h:k≤k') (h1:k'≤900):GI k' T M nx l :=
 { g with k0:=by have:=g.k0; omega,k1:=h1,hb:=g.hb.mono (by omega),c1:=by have:=g.c1; omega,pin:=g.pin.mono h }
theorem GI.co (g:GI k T M nx l):T.CO:=⟨by have:=g.c0; omega,by have:=g.c1; have:=g.k1; omega⟩
theorem GI.stay (g:GI k T M nx l) (s:T.Stay T') (wf:T'.WF) (kd:T'.KD) (ord:T'.Order) (lim:T'.limit≤l) {k':Int} (hk:k≤k') (h1:k'≤900) (hb:T'.HB (2*k')) (c0:0≤T'.change) (c1:T'.change≤2*k'):GI k' T' M nx l where
 k0:=by have:=g.k0; omega
 k1:=h1
 wf:=wf
 kd:=kd
 ord:=ord
 lim:=lim
 hb:=hb
 c0:=c0
 c1:=c1
 pin:=g.pin.mono hk
 top:=g.top
 mnt:=fun m hm=>by
  obtain ⟨a,b,c⟩:=g.mnt m hm
  refine ⟨?_,b,fun h0 =>?_⟩
  ·by_cases h0:m.id=0
   ·rw [b h0]; exact wf.root.1
   ·obtain ⟨c1,_⟩:=c h0
    rw [(s m.root (by rw [a]; decide) c1).1]; exact a
  ·obtain ⟨c1,c2,c3,c4⟩:=c h0
   have h1:=s m.root (by rw [a]; decide) c1
   have h2:=s m.at_.i (by rw [c2]; decide) c3
   exact ⟨by omega,by rw [h2.1]; exact c2,by omega,c4⟩
theorem GI.did (g:GI k T M nx l) (d:T.Did true T') (wf:T'.WF) (cb:T.CB T') (hb:T'.HB (2*k+1)) (h1:k+1≤900):GI (k+1) T' M nx l:=by
 have hc0:=g.c0
 have hc1:=g.c1
 exact g.stay (d.stay g.wf) wf (d.kd g.kd) (d.order g.wf g.ord) (by rw [d.limit]; exact g.lim) (by omega) h1 (hb.mono (by omega)) (by have:=cb.1; omega) (by have:=cb.2; omega)
theorem getT_append {l:List MntD} {x:MntD} {id:Int} {m:MntD} (h:getT l id=some m):getT (l++[x]) id=some m:=by
 unfold getT at h ⊢
 rw [List.find?_append,h]; rfl
theorem GI.new (limit l:Int) (hl:1≤l∧limit≤l):GI 0 (Tr.new limit) tab0 1 l where
 k0:=Int.le_refl _
 k1:=by decide
 wf:=Tr.new_wf limit
 kd:=Tr.KD.new limit
 ord:=Tr.Order.new limit
 lim:=by show min (max limit 1) 256≤l; omega
 hb:=Tr.HB.new limit
 c0:=Int.le_refl _
 c1:=Int.le_refl _
 pin:=pinv0
 top:=rfl
 mnt:=fun m hm=>by
  simp [tab0] at hm
  subst hm
  exact ⟨(Tr.new_wf limit).root.1,fun _=>rfl,fun h=>(h rfl).elim⟩
theorem GI.bind (g:GI k T M nx l) (h1:k+1≤900) (root:BitVec 16) (p:PlaceD) (hp:0≤p.m∧p.m≤2) (hr:(T.node root).kind=2#8) (ha:(T.node p.i).kind=2#8) (ok:(bindT M nx root p).e=0) :
  GI (k+1) ((T.hold root true).1.hold p.i true).1 (bindT M nx root p).T (bindT M nx root p).nx l:=by
 have s1:T.Stay (T.hold root true).1 := .hold root
 have s2:(T.hold root true).1.Stay ((T.hold root true).1.hold p.i true).1 := .hold p.i
 have w1:=g.wf.hold root true
 have w2:=w1.hold p.i true
 have hk0:=g.k0
 have hc0:=g.c0
 have hc1:=g.c1
 have b1:=g.hb.hold (by omega) root true
 have b2:=b1.hold (by omega) p.i true
 have e1:(T.hold root true).1=T.upd root (Nd.addH 1):=by
  unfold Tr.hold
  rw [if_neg (by rw [hr]; decide),if_pos rfl]
 have n1:∀ m,(T.hold root true).1.node m=if m=root then Nd.addH 1 (T.node root) else T.node m:=fun m=>by
  rw [e1,Tr.node_upd (by rw [hr]; decide)]
 have ha1:((T.hold root true).1.node p.i).kind=2#8:=by
  rw [n1]; split
  ·exact hr
  ·exact ha
 have e2:((T.hold root true).1.hold p.i true).1=(T.hold root true).1.upd p.i (Nd.addH 1):=by
  show (Tr.hold _ _ _).1=_
  rw [Tr.hold,if_neg (by rw [ha1]; decide),if_pos rfl]
 have n2:∀ m,((T.hold root true).1.hold p.i true).1.node m=if m=p.i then Nd.addH 1 ((T.hold root true).1.node p.i) else (T.hold root true).1.node m:=fun m=>by
  rw [e2,Tr.node_upd (by rw [ha1]; decide)]
 have q1:=g.wf.held root
 have q2:=g.wf.held p.i
 have hr2:(((T.hold root true).1.hold p.i true).1.node root).kind=2#8∧1≤(((T.hold root true).1.hold p.i true).1.node root).held:=by
  rw [n2]
  split
  ·rename_i e
   refine ⟨ha1,?_⟩
   show 1≤((T.hold root true).1.node p.i).held+1
   have:=w1.held p.i
   omega
  ·rw [n1,if_pos rfl]
   refine ⟨hr,?_⟩
   show 1≤(T.node root).held+1
   omega
 have ha2:(((T.hold root true).1.hold p.i true).1.node p.i).kind=2#8∧1≤(((T.hold root true).1.hold p.i true).1.node p.i).held:=by
  rw [n2,if_pos rfl]
  refine ⟨ha1,?_⟩
  show 1≤((T.hold root true).1.node p.i).held+1
  have:=w1.held p.i
  omega
 have c1:(T.hold root true).1.change=T.change:=by rw [e1]; rfl
 have c2:((T.hold root true).1.hold p.i true).1.change=T.change:=by rw [e2]; exact c1
 have l1:(T.hold root true).1.limit=T.limit:=by rw [e1]; rfl
 have l2:((T.hold root true).1.hold p.i true).1.limit=T.limit:=by rw [e2]; exact l1
 have kd:=(g.kd.hold keeps_KD root true).hold keeps_KD p.i true
 have o2:=(g.ord.step (.hold root true)).step (.hold p.i true)
 have pin:=g.pin.bind root p
 have base:=g.stay (s1.trans s2) w2 kd o2 (by rw [l2]; exact g.lim) (k':=k+1) (by omega) h1 (b2.mono (by omega)) (by rw [c2]; exact hc0) (by rw [c2]; omega)
 have hT:(bindT M nx root p).T=M++[⟨nx,p,root,0⟩]:=by
  unfold bindT at ok ⊢
  split at ok
  ·simp at ok
  ·rename_i h
   rw [if_neg h]
   split at ok
   ·simp at ok
   ·rename_i h
    rw [if_neg h]
    split at ok
    ·simp at ok
    ·rename_i h
     rw [if_neg h]
 refine { base with pin:=pin,top :=?_,mnt:=fun m hm =>?_ }
 ·rw [hT]; exact getT_append g.top
 ·rw [hT] at hm
  rcases List.mem_append.1 hm with hm | hm
  ·exact base.mnt m hm
  ·simp only [List.mem_singleton] at hm
   subst hm
   have:=g.pin.nx0
   exact ⟨hr2.1,fun h=>by simp only at h; omega,fun _=>⟨hr2.2,ha2.1,ha2.2,hp⟩⟩
end
end Go.AM
end
section
namespace Go.AM
set_option maxRecDepth 20000
structure GActD where
 kind:BitVec 8
 act:ActD
 root:BitVec 8
 seen:BitVec 8
 link:BitVec 8
def GActD.cells (x:GActD):List Value:=u8 x.kind :: (x.act.cells++[u8 x.root,u8 x.seen,u8 x.link])
abbrev gactSh:Sh := .struct [.int .u8,actSh,.int .u8,.int .u8,.int .u8]
theorem SV.gact {H:AH} {cs:List Value} (h:SV H gactSh cs):∃ x:GActD,cs=x.cells∧x.act.ok H:=by
 obtain ⟨c0,e0,rfl,h0,c1,e1,rfl,h1,c2,e2,rfl,h2,c3,e3,rfl,h3,c4,e4,rfl,h4,rfl⟩:=h
 obtain ⟨x0,rfl⟩:=h0.u8
 obtain ⟨x1,rfl,ok⟩:=SV.act h1
 obtain ⟨x2,rfl⟩:=h2.u8
 obtain ⟨x3,rfl⟩:=h3.u8
 obtain ⟨x4,rfl⟩:=h4.u8
 exact ⟨⟨x0,x1,x2,x3,x4⟩,by simp [GActD.cells],ok⟩
theorem ArgSV.gacts {H:AH} {v:Value} (h:ArgSV H (.slice 14 gactSh) v):∃ l:List GActD,Rows H 14 v (l.map GActD.cells)∧l.length≤9223372036854775807∧∀ x∈l,x.act.ok H:=ArgSV.rowsOf (fun _ h=>SV.gact h) h
theorem gactZero:([(.int .u8 0),(.int .u8 0),(.int .u8 0),(.int .u8 0),(.int .u8 0),(.int .u8 0),(.string ⟨#[]⟩),(.int .i64 0),(.slice none 0 0),(.bool false),(.bool false),(.int .u8 0),(.int .u8 0),(.int .u8 0)]:List Value)=(GActD.mk 0#8 (ActD.mk 0#8 0#8 0#8 0#8 0#8 [] 0 nilS [] false false) 0#8 0#8 0#8).cells:=rfl
theorem GActD.len (x:GActD):x.cells.length=14:=rfl
theorem GActD.all_plain (x:GActD) (h:plain1 x.act.bytes=true):x.cells.all plain1=true:=by
 have:=x.act.all_plain h
 simp only [GActD.cells,List.all_cons,List.all_append,this,List.all_nil,Bool.and_true,Bool.true_and]; rfl
theorem gact_store {H:AH} {x:GActD} (hp:plain1 x.act.bytes=true) (z:GActD):storeN 14 (ptr H.next 0) (.agg x.cells.toArray) (H.new (.cells z.cells none))=some (H.new (.cells x.cells none)):=by
 rw [storeN_ptr,AH.get_new_self]
 have hs:AM.splice z.cells 0 x.cells=x.cells:=rfl
 simp only [List.size_toArray,List.toList_toArray,GActD.len,GActD.all_plain x hp,Nat.zero_add,Nat.le_refl,and_self,if_true,hs,AH.new_put]
section
variable {X:List Res} {E:Sy} {H0 H H' H'':AH} {Q:Value→AH→Prop} {w t:Nat} {T T':Tr} {M M':List MntD} {nx nx' k l:Int}
def lightL (l:List GActD):Bool:=l.all fun x=>decide (x.act.any.length≤200)&&decide (x.act.bl.length≤200)
theorem S.f51 (hE:Fold E) (v:Value) (l:List GActD) (hv:Rows H 14 v (l.map GActD.cells)) (hll:l.length≤9223372036854775807) (hok:∀ x∈l,x.act.ok H)
  (hQ:∀ H',Ext H H'→Q (vb (lightL l)) H'):E.call (E.fid i.f51) [v] H Q:=by
 apply hE.f51
 have hl:=hv.lenSlc
 rw [List.length_map] at hl
 simp only [F.f51,hl,tk_eq,opt_some]
 refine LoopL.count l.length (fun j ls H'=>ls=[v,vi l.length,vi j]∧Ext H H'∧lightL (l.take j)=true) ?_ ⟨rfl,Ext.refl H,rfl⟩
 rintro j _ H1 X hj hX ⟨rfl,e1,hn⟩
 by_cases hjl:j<l.length
 ·have hjl':(j:Int)<l.length:=by omega
  have hX:=hX hjl
  have hjj:=i64_inc (i:=j) (by omega)
  obtain ⟨b,o,p1,p2⟩:=(hv.mono e1).ix (i:=j) (by simpa using hjl)
  rw [List.getElem_map] at p2
  have hmem:=List.getElem_mem hjl
  have hx:=(hok l[j] hmem).mono e1
  have htk:l.take (j+1)=l.take j++[l[j]]:=by rw [List.take_succ,List.getElem?_eq_getElem hjl]; rfl
  have hno:¬ (l[j].act.any.length≤200∧l[j].act.bl.length≤200)→lightL l=false:=by
   intro h
   unfold lightL
   rw [List.all_eq_false]
   refine ⟨l[j],hmem,?_⟩
   simpa using h
  have hyes:l[j].act.any.length≤200→l[j].act.bl.length≤200→lightL (l.take (j+1))=true:=by
   intro h1 h2
   unfold lightL at hn ⊢
   rw [htk,List.all_append,hn]
   simp [h1,h2]
  generalize l[j]=x at *
  generalize hj1:j+1=j1 at *
  have hlo:loadN 14 (ptr b o) H1=some (.agg x.cells.toArray):=by rw [loadN_ptr,p2]; rfl
  have hst:=gact_store (H:=H1) (rows_plain hx.bytes) (GActD.mk 0#8 (ActD.mk 0#8 0#8 0#8 0#8 0#8 [] 0 nilS [] false false) 0#8 0#8 0#8)
  have hx2:Ext H1 (H1.new (.cells x.cells none)):=(Ext.refl H1).new _
  have hb2:=AH.get_new_self H1 (.cells x.cells none)
  have c6:x.cells[6]? = some (str x.act.any):=rfl
  have c8:x.cells[8]? = some x.act.bytes:=rfl
  have hbl:=hx.bytes.lenSlc
  rw [byteR_length] at hbl
  by_cases a1:200<x.act.any.length
  ·have a1':(200:Int)<x.act.any.length:=by omega
   have hQ:=hQ _ (e1.trans hx2)
   rw [hno (by omega)] at hQ
   simp only [F.f51_l1,i64_lss,hjl',decide_true,p1,hlo,allocW_eq,gactZero,hst,hb2,c6,lenStr_s,i64_gtr,gt_iff_lt,a1',stdZ,Nat.zero_add,Nat.add_zero,List.getElem?_cons_zero,List.getElem?_cons_succ,Bool.not_true,Bool.not_false,List.toList_toArray]
   exact hQ
  have a1':¬ (200:Int)<x.act.any.length:=by omega
  by_cases a2:200<x.act.bl.length
  ·have a2':(200:Int)<x.act.bl.length:=by omega
   have hQ:=hQ _ (e1.trans hx2)
   rw [hno (by omega)] at hQ
   simp only [F.f51_l1,i64_lss,hjl',decide_true,p1,hlo,allocW_eq,gactZero,hst,hb2,c6,c8,lenStr_s,i64_gtr,gt_iff_lt,a1',a2',decide_false,hbl,stdZ,Nat.zero_add,Nat.add_zero,List.getElem?_cons_zero,List.getElem?_cons_succ,Bool.not_true,Bool.not_false,List.toList_toArray]
   exact hQ
  have a2':¬ (200:Int)<x.act.bl.length:=by omega
  simp only [F.f51_l1,i64_lss,hjl',decide_true,p1,hlo,allocW_eq,gactZero,hst,hb2,c6,c8,lenStr_s,i64_gtr,gt_iff_lt,a1',a2',decide_false,hbl,hjj,stdZ,Nat.zero_add,Nat.add_zero,List.getElem?_cons_zero,List.getElem?_cons_succ,Bool.not_true,Bool.not_false,List.toList_toArray]
  exact hX _ _ ⟨rfl,e1.trans hx2,hyes (by omega) (by omega)⟩
 ·have hjl':¬ (j:Int)<l.length:=by omega
  have:j=l.length:=by omega
  subst this
  rw [List.take_length] at hn
  have hQ:=hQ _ e1
  rw [hn] at hQ
  simp only [F.f51_l1,i64_lss,hjl',decide_false,stdZ,Nat.zero_add,Nat.add_zero,List.getElem?_cons_zero,List.getElem?_cons_succ,Bool.not_true,Bool.not_false,List.toList_toArray]
  exact hQ
def linkTexts:List NameL:=[[97],[47,97],[46,46,47,98],[98,47,99],[47],[46],[46,46],[47,98,47,46,46,47,97],[102],[97,47],[110,111,116,104,105,110,103],[47,97,47,98,47,99]]
theorem S.f53 (hE:Fold E) (hQ:∀ v H',Ext H H'→Rows H' 1 v (strR linkTexts)→Q v H'):E.call (E.fid i.f53) [] H Q:=by
 apply hE.f53
 have hb:=buildS_full 12 1 [str []] [(0,str [97]),(1,str [47,97]),(2,str [46,46,47,98]),(3,str [98,47,99]),(4,str [47]),(5,str [46]),(6,str [46,46]),(7,str [47,98,47,46,46,47,97]),(8,str [102]),(9,str [97,47]),(10,str [110,111,116,104,105,110,103]),(11,str [47,97,47,98,47,99])] (linkTexts.map str) rfl rfl rfl rfl (by
   intro v hv
   obtain ⟨s,_,rfl⟩:=List.mem_map.1 hv
   rfl)
 have hb:buildS 12 1 #[(.string ⟨#[]⟩)] [(0,(.string ⟨#[97]⟩)),(1,(.string ⟨#[47,97]⟩)),(2,(.string ⟨#[46,46,47,98]⟩)),(3,(.string ⟨#[98,47,99]⟩)),(4,(.string ⟨#[47]⟩)),(5,(.string ⟨#[46]⟩)),(6,(.string ⟨#[46,46]⟩)),(7,(.string ⟨#[47,98,47,46,46,47,97]⟩)),(8,(.string ⟨#[102]⟩)),(9,(.string ⟨#[97,47]⟩)),(10,(.string ⟨#[110,111,116,104,105,110,103]⟩)),(11,(.string ⟨#[47,97,47,98,47,99]⟩))]=some (.cells (linkTexts.map str) none,mkSlc 12 12):=by
  simpa [linkTexts] using hb
 simp only [F.f53,hb,AM.mk_some,mkSlc_eq,tk_eq]
 refine hQ _ _ ((Ext.refl H).new _) (Rows.made (f:=none) (by rw [AH.get_new_self]; rfl) (.inl rfl) rfl ?_)
 intro r hr
 obtain ⟨s,_,rfl⟩:=List.mem_map.1 hr
 rfl
def GwO (X:List Res) (H0 H:AH) (w t:Nat) (T:Tr) (M:List MntD) (nx:Int):Prop:=∃ nv mv Y,WkO (refR t nv mv nx (mntI M) Y T :: X) H0 H w T M nx∧Y.length=T.N.length∧T.N.length≤60000
theorem GwO.ext (h:GwO X H0 H w t T M nx):Ext H0 H:=by obtain ⟨_,_,_,h,_⟩:=h; exact h.ext
theorem GwO.mono (h:GwO X H0 H w t T M nx) (e:Ext H H'):GwO X H0 H' w t T M nx:=by obtain ⟨nv,mv,Y,h,a,b⟩:=h; exact ⟨nv,mv,Y,h.mono e,a,b⟩
theorem GwO.at_ (h:GwO X H0 H w t T M nx):WkAt H w T M:=by obtain ⟨nv,mv,Y,h,a,b⟩:=h; exact h.at_
theorem GwO.box (h:GwO X H0 H w t T M nx) (c:List Value):GwO (X++[boxR H.next c]) H0 (H.new (.cells c none)) w t T M nx:=by obtain ⟨nv,mv,Y,h,a,b⟩:=h; exact ⟨nv,mv,Y,h.box c,a,b⟩
theorem GwO.drop {r:Res} (h:GwO (X++[r]) H0 H w t T M nx):GwO X H0 H w t T M nx:=by obtain ⟨nv,mv,Y,h,a,b⟩:=h; exact ⟨nv,mv,Y,WkO.drop (X:=refR t nv mv nx (mntI M) Y T :: X) h,a,b⟩
theorem GwO.held {b:Nat} {c:List Value} (h:GwO (X++[boxR b c]) H0 H w t T M nx):H.get b = .cells c none:=by obtain ⟨nv,mv,Y,h,_⟩:=h; exact WkO.held (X:=refR t nv mv nx (mntI M) Y T :: X) h
theorem GwO.put {b:Nat} {c:List Value} (h:GwO (X++[boxR b c]) H0 H w t T M nx) (c':List Value):GwO (X++[boxR b c']) H0 (H.put b (.cells c' none)) w t T M nx:=by obtain ⟨nv,mv,Y,h,a,b⟩:=h; exact ⟨nv,mv,Y,WkO.put (X:=refR t nv mv nx (mntI M) Y T :: X) h c',a,b⟩
theorem more_j2 (hE:Fold E) {c:Nat} {x:ActD} (h:GwO (X++[boxR c x.cells]) H0 H w t T M nx) (g:GI k T M nx l) (hk:k+1≤900) (hx:x.ok H0) (hl:x.any.length≤200∧x.bl.length≤200) (hraw:x.raw=false) (hup:x.kind % 15#8=11#8→x.flag=true)
  {av nv:Value} {j:Nat} (hj:j<2 ^ 62) {X0:List Value→AH→Prop} (next:∀ T' H',GwO X H0 H' w t T' M nx→GI (k+1) T' M nx l→X0 [ptr w 0,ptr t 0,av,nv,vi ((j+1:Nat):Int)] H') :
  F.f52_j2 E Q X0 (ptr w 0) (ptr t 0) (ptr c 0) av nv (vi j) H:=by
 have hb:=h.held
 have hlo:loadN 10 (ptr c 0) H=some (.agg x.cells.toArray):=by rw [loadN_ptr,hb,row_all _ _ 10 rfl]; rfl
 obtain ⟨rv,mv,Y,h,hyl,hyf⟩:=h
 obtain ⟨p,q,hw,_⟩:=h.open_
 obtain ⟨p',q',v,m,L,h2,back⟩:=h.two hyl hyf
 have hw2:=h2.ow.holds (boxR w [ptr p' 0,ptr q' 0]) (by simp)
 have hw2:H.get w = .cells [ptr p' 0,ptr q' 0] none:=hw2
 have hjj:=i64_inc (i:=j) (by omega)
 have hk0:=g.k0
 have hc0:=g.c0
 have hc1:=g.c1
 generalize hj1:j+1=j1 at *
 simp only [F.f52_j2,hw2,hlo,stdZ,Nat.zero_add,Nat.add_zero,List.getElem?_cons_zero,List.getElem?_cons_succ,Bool.not_true,Bool.not_false,List.toList_toArray]
 refine S.f48 hE h2 g.wf g.hb ⟨by omega,by omega⟩ ⟨by omega,by omega⟩ hx hl hraw hup fun L' nv' Y' T' H' ha hd =>?_
 simp only [hjj,stdZ,Nat.zero_add,Nat.add_zero,List.getElem?_cons_zero,List.getElem?_cons_succ,Bool.not_true,Bool.not_false,List.toList_toArray]
 have ho:=back _ _ _ _ _ _ ha.two
 have hg:GwO (X++[boxR c x.cells]) H0 H' w t T' M nx:=⟨nv',mv,Y',ho,ha.two.len,ha.two.fit⟩
 exact next T' H' hg.drop (g.did hd ha.wf ha.cb ha.hb hk)
end
end Go.AM
end
section
namespace Go.AM
set_option maxRecDepth 20000
section
variable {X:List Res} {E:Sy} {H0 H H' H'':AH} {Q:Value→AH→Prop} {w t:Nat} {T T':Tr} {M M':List MntD} {nx nx' k l:Int}
theorem bindT_not {root:BitVec 16} {p:PlaceD} (h:(bindT M nx root p).e≠0):(bindT M nx root p).T=M∧(bindT M nx root p).nx=nx:=by
 unfold bindT at h ⊢
 split
 ·exact ⟨rfl,rfl⟩
 ·rename_i h1
  rw [if_neg h1] at h
  split
  ·exact ⟨rfl,rfl⟩
  ·rename_i h2
   rw [if_neg h2] at h
   split
   ·exact ⟨rfl,rfl⟩
   ·rename_i h3
    rw [if_neg h3] at h
    exact (h rfl).elim
theorem more_j1 (hE:Fold E) {a c:Nat} {z:GActD} {x:ActD} (h:GwO ((X++[boxR a z.cells])++[boxR c x.cells]) H0 H w t T M nx) (g:GI k T M nx l) (hk:k+1≤900) (hx:x.ok H0) (hl:x.any.length≤200∧x.bl.length≤200) (hraw:x.raw=false) (hup:x.kind % 15#8=11#8→x.flag=true)
  {av nv:Value} {j:Nat} (hj:j<2 ^ 62) {X0:List Value→AH→Prop} (next:∀ T' H',GwO X H0 H' w t T' M nx→GI (k+1) T' M nx l→X0 [ptr w 0,ptr t 0,av,nv,vi ((j+1:Nat):Int)] H') :
  F.f52_j1 E Q X0 (ptr w 0) (ptr t 0) (ptr a 0) (ptr c 0) av nv (vi j) H:=by
 have hb:=h.held
 have ha:=h.drop.held
 have c0:x.cells[0]? = some (u8 x.kind):=rfl
 have z13:z.cells[13]? = some (u8 z.link):=rfl
 have r1:binInt .rem (u8 x.kind) (.int .u8 15)=some (u8 (x.kind % 15#8)):=u8_rem _ 15#8 (by decide)
 have e1:binInt .eql (u8 (x.kind % 15#8)) (.int .u8 3)=some (vb (decide (x.kind % 15#8=3#8))):=u8_eql _ 3#8
 simp only [F.f52_j1,hb,c0,r1,e1,stdZ,Nat.zero_add,Nat.add_zero,List.getElem?_cons_zero,List.getElem?_cons_succ,Bool.not_true,Bool.not_false,List.toList_toArray]
 by_cases h3:x.kind % 15#8=3#8
 ·simp only [h3,decide_true,ha,z13,u8_to_i64,stdZ,Nat.zero_add,Nat.add_zero,List.getElem?_cons_zero,List.getElem?_cons_succ,Bool.not_true,Bool.not_false,List.toList_toArray]
  refine S.f53 hE fun v1 H1 x1 s1 =>?_
  refine ⟨by rw [load1_ptr,load1_ptr,x1.cells ha,ha],?_⟩
  refine S.f53 hE fun v2 H2 x2 s2 =>?_
  refine ⟨by rw [load1_ptr,load1_ptr,x2.cells (x1.cells ha),ha],?_⟩
  have l2:AM.lenSlc v2=some (vi ((12:Nat):Int)):=s2.lenSlc
  have hlen:(strR linkTexts).length=12:=rfl
  have hlt:z.link.toNat % 12<(strR linkTexts).length:=by rw [hlen]; exact Nat.mod_lt _ (by omega)
  obtain ⟨b,o,p1,p2⟩:=(s1.mono x2).ix hlt
  obtain ⟨s,hs,he⟩:=List.mem_map.1 (List.getElem_mem hlt)
  rw [← he] at p2
  have p3:(H2.get b).cell o=some (str s):=by
   have:=row_at p2 (j:=0) (by omega)
   simpa using this
  have hsl:s.length≤120:=by
   have:∀ s∈linkTexts,s.length≤120:=by decide
   exact this s hs
  have h2:=(h.mono x1).mono x2
  have hst:store1 (ptr c 5) (str s) H2=some (H2.put c (.cells ({ x with any:=s }:ActD).cells none)):=by
   rw [store1_ptr,if_pos (show plain1 (str s)=true from rfl),h2.held]
   have q1:x.cells.length=10:=rfl
   have q2:x.cells.set 5 (str s)=({ x with any:=s }:ActD).cells:=rfl
   simp only [q1,q2,show (5<10)=True from by simp,if_true]
  simp only [l2,i64_rem_nat z.link.toNat 12 (by omega),p1,p3,hst,stdZ,Nat.zero_add,Nat.add_zero,List.getElem?_cons_zero,List.getElem?_cons_succ,Bool.not_true,Bool.not_false,List.toList_toArray]
  exact more_j2 hE (h2.put ({ x with any:=s }:ActD).cells) g hk ⟨by show s.length≤_; omega,hx.n,hx.bytes,hx.bl⟩ ⟨by show s.length≤200; omega,hl.2⟩ hraw hup hj fun T' H' h' g'=>next T' H' h'.drop g'
 ·simp only [h3,decide_false,stdZ,Nat.zero_add,Nat.add_zero,List.getElem?_cons_zero,List.getElem?_cons_succ,Bool.not_true,Bool.not_false,List.toList_toArray]
  exact more_j2 hE h g hk hx hl hraw hup hj fun T' H' h' g'=>next T' H' h'.drop g'
theorem more_l2 (hE:Fold E) {a b:BitVec 16} {c:Nat} (h:GwO (X++[boxR c [vi a.toNat,vi b.toNat]]) H0 H w t T M nx) (wf:T.WF) {B:Int} (hb:T.HB B) (hB:0≤B∧B<1000000)
  {av nv:Value} {j:Nat} (hj:j<2 ^ 62) {X0:List Value→AH→Prop} (next:∀ H',GwO X H0 H' w t ((T.hold a true).1.hold b true).1 M nx→X0 [ptr w 0,ptr t 0,av,nv,vi ((j+1:Nat):Int)] H') :
  LoopL (fun l H X1=>F.f52_l2 E Q X0 (nth l 0) (nth l 1) (nth l 2) (nth l 3) (nth l 4) (nth l 5) (nth l 6) (nth l 7) H X1) [ptr w 0,ptr t 0,av,nv,vi j,slc c 0 2 2,vi 2,(.int .i64 0)] H:=by
 have hjj:=i64_inc (i:=j) (by omega)
 generalize hj1:j+1=j1 at *
 have one:∀ {T:Tr} {H:AH} {B:Int} (n:BitVec 16) (Q1:Value→AH→Prop),GwO (X++[boxR c [vi a.toNat,vi b.toNat]]) H0 H w t T M nx→T.WF→T.HB B→B<1100000→(∀ H',GwO (X++[boxR c [vi a.toNat,vi b.toNat]]) H0 H' w t (T.hold n true).1 M nx→Q1 (.tuple #[]) H') →
   ∃ p q,H.get w = .cells [ptr p 0,ptr q 0] none∧E.call (E.fid i.f13) [ptr p 0,u16 n,vb true] H fun _ H1=>E.call (E.fid i.f67) [ptr t 0,vi (n.toNat:Int),vb true] H1 fun _ H2=>Q1 (.tuple #[]) H2:=by
  intro T H B n Q1 h wf hb hB hQ1
  obtain ⟨rv,mv,Y,h,hyl,hyf⟩:=h
  obtain ⟨p',q',v,m,L,h2,back⟩:=h.two hyl hyf
  have hw2:=h2.ow.holds (boxR w [ptr p' 0,ptr q' 0]) (by simp)
  have hn:=hb n
  refine ⟨p',q',hw2,?_⟩
  refine TwoX.cHold hE h2 wf n true (by omega) fun L1 H1 h3 =>?_
  refine TwoX.rHold hE h3 wf n true (by omega) fun Y2 H2 h4 =>?_
  exact hQ1 _ ⟨rv,mv,Y2,back _ _ _ _ _ _ h4,h4.len,h4.fit⟩
 have conv:∀ x:BitVec 16,convInt .u16 (vi (x.toNat:Int))=some (u16 x):=fun x=>by
  rw [i64_to_u16]
  congr 2
  rw [BitVec.ofInt_natCast,BitVec.ofNat_toNat,BitVec.setWidth_eq]
 have i0:(.int .i64 0:Value)=vi ((0:Nat):Int):=rfl
 rw [i0]
 refine LoopL.count 2 (fun i ls H'=>ls=[ptr w 0,ptr t 0,av,nv,vi j,slc c 0 2 2,vi 2,vi i]∧((i=0∧GwO (X++[boxR c [vi a.toNat,vi b.toNat]]) H0 H' w t T M nx)∨(i=1∧GwO (X++[boxR c [vi a.toNat,vi b.toNat]]) H0 H' w t (T.hold a true).1 M nx)∨(i=2∧GwO (X++[boxR c [vi a.toNat,vi b.toNat]]) H0 H' w t ((T.hold a true).1.hold b true).1 M nx))) ?_ ⟨rfl,.inl ⟨rfl,h⟩⟩
 rintro i _ H1 X1 hi hX ⟨rfl,(⟨rfl,h1⟩ | ⟨rfl,h1⟩ | ⟨rfl,h1⟩)⟩
 ·have hX:=hX (by omega)
  have p1:ixSlc 1 (slc c 0 2 2) (vi ((0:Nat):Int))=some (ptr c 0):=rfl
  have p2:=h1.held
  obtain ⟨p,q,hw,hc⟩:=one a (fun v H=>X1 [ptr w 0,ptr t 0,av,nv,vi j,slc c 0 2 2,vi 2,vi ((1:Nat):Int)] H) h1 wf hb (by omega) fun H' h'=>hX _ _ ⟨rfl,.inr (.inl ⟨rfl,h'⟩)⟩
  have hlt:(((0:Nat):Int)<2)=True:=by simp
  have inc:binInt .add (vi ((0:Nat):Int)) (vi 1)=some (vi ((1:Nat):Int)):=i64_inc (i:=0) (by omega)
  simp only [F.f52_l2,i64_lss,hlt,decide_true,p1,p2,hw,conv,inc,stdZ,Nat.zero_add,Nat.add_zero,List.getElem?_cons_zero,List.getElem?_cons_succ,Bool.not_true,Bool.not_false,List.toList_toArray]
  exact hc
 ·have hX:=hX (by omega)
  have p1:ixSlc 1 (slc c 0 2 2) (vi ((1:Nat):Int))=some (ptr c 1):=rfl
  have p2:=h1.held
  obtain ⟨p,q,hw,hc⟩:=one b (fun v H=>X1 [ptr w 0,ptr t 0,av,nv,vi j,slc c 0 2 2,vi 2,vi ((2:Nat):Int)] H) h1 (wf.hold a true) (hb.hold hB.1 a true) (by omega) fun H' h'=>hX _ _ ⟨rfl,.inr (.inr ⟨rfl,h'⟩)⟩
  have hlt:(((1:Nat):Int)<2)=True:=by simp
  have inc:binInt .add (vi ((1:Nat):Int)) (vi 1)=some (vi ((2:Nat):Int)):=i64_inc (i:=1) (by omega)
  simp only [F.f52_l2,i64_lss,hlt,decide_true,p1,p2,hw,conv,inc,stdZ,Nat.zero_add,Nat.add_zero,List.getElem?_cons_zero,List.getElem?_cons_succ,Bool.not_true,Bool.not_false,List.toList_toArray]
  exact hc
 ·have hlt:(((2:Nat):Int)<2)=False:=by simp
  simp only [F.f52_l2,i64_lss,hlt,decide_false,hjj,stdZ,Nat.zero_add,Nat.add_zero,List.getElem?_cons_zero,List.getElem?_cons_succ,Bool.not_true,Bool.not_false,List.toList_toArray]
  exact next _ h1.drop
end
end Go.AM
end
section
namespace Go.AM
set_option maxRecDepth 20000
section
variable {X:List Res} {E:Sy} {H0 H H' H'':AH} {Q:Value→AH→Prop} {w t:Nat} {T T':Tr} {M M':List MntD} {nx nx' k l:Int}
theorem dirP_kind {p:PlaceD} (h:dirP T M p=true):(T.node p.i).kind=2#8:=by
 unfold dirP at h
 simp only [Bool.and_eq_true,decide_eq_true_eq] at h
 exact h.2
theorem more_bind (hE:Fold E) {b:Nat} {p:PlaceD} (h:GwO (X++[boxR b p.cells]) H0 H w t T M nx) (g:GI k T M nx l) (hk:k+1≤900) (root:BitVec 16) (hp:0≤p.m∧p.m≤2) (hr:(T.node root).kind=2#8) (ha:(T.node p.i).kind=2#8)
  {av nv:Value} {j:Nat} (hj:j<2 ^ 62) {X0:List Value→AH→Prop} (next:∀ T' M' nx' H',GwO X H0 H' w t T' M' nx'→GI (k+1) T' M' nx' l→X0 [ptr w 0,ptr t 0,av,nv,vi ((j+1:Nat):Int)] H') :
  opt (nilCk (ptr w 0)) fun v42=>opt (addOff v42 1) fun v43=>opt (load1 v43 H) fun v44=>opt (convInt .u16 (vi (root.toNat:Int))) fun v45=>opt (loadN 2 (ptr b 0) H) fun v46 =>
  E.call (E.fid i.f34) [v44,v45,v46] H fun v47 H13 =>
  opt (ext v47 0) fun v48=>opt (ext v47 1) fun v49=>opt (binInt .eql v49 (.int .i64 0)) fun v50 =>
  ifB v50 (
  opt (loadN 2 (ptr b 0) H13) fun v51 =>
  E.call (E.fid i.f50) [v51] H13 fun v52 H14 =>
  E.call (E.fid i.f64) [(ptr t 0),(vi (root.toNat:Int)),v52] H14 fun v53 H15 =>
  opt (addOff (ptr b 0) 1) fun v54=>opt (load1 v54 H15) fun v55=>opt (convInt .i64 v55) fun v56 =>
  mk (buildS 2 1 #[(.int .i64 0)] [(0,(vi (root.toNat:Int))),(1,v56)]) H15 fun v57 H16 =>
  opt (lenSlc v57) fun v58 =>
  LoopL (fun l H X1=>F.f52_l2 E Q X0 (nth l 0) (nth l 1) (nth l 2) (nth l 3) (nth l 4) (nth l 5) (nth l 6) (nth l 7) H X1) [(ptr w 0),(ptr t 0),av,nv,(vi j),v57,v58,(.int .i64 0)] H16) (
  opt (binInt .add (vi j) (.int .i64 1)) fun v59 =>
  X0 [(ptr w 0),(ptr t 0),av,nv,v59] H13):=by
 have hb:=h.held
 have hlo:∀ {H':AH},H'.get b = .cells p.cells none→loadN 2 (ptr b 0) H'=some p.v:=fun hh=>by rw [loadN_ptr,hh]; rfl
 have conv:convInt .u16 (vi (root.toNat:Int))=some (u16 root):=by
  rw [i64_to_u16]
  congr 2
  rw [BitVec.ofInt_natCast,BitVec.ofNat_toNat,BitVec.setWidth_eq]
 have hjj:=i64_inc (i:=j) (by omega)
 have hk0:=g.k0
 generalize hj1:j+1=j1 at *
 obtain ⟨rv,mv,Y,h,hyl,hyf⟩:=h
 obtain ⟨pp,q,hw,_,⟨v,ht,hnd,back⟩⟩:=h.open_
 simp only [hw,conv,hlo hb,stdZ,Nat.zero_add,Nat.add_zero,List.getElem?_cons_zero,List.getElem?_cons_succ,Bool.not_true,Bool.not_false,List.toList_toArray]
 have ok':=(g.pin.bind root p).ok (by omega)
 refine S.f34 hE q v M nx ht hnd h.tab root p fun v' H1 u1 =>?_
 have h1:=back _ _ _ _ u1 ok'
 obtain ⟨g1,g2,g3,g4⟩:=bind_toI g.pin root p
 have hb1:=WkO.held (X:=refR t rv mv nx (mntI M) Y T :: X) h1
 by_cases he:(bindT M nx root p).e=0
 ·have gb:=g.bind hk root p hp hr ha he
  simp only [he,i64_eql,decide_true,hlo hb1,stdZ,Nat.zero_add,Nat.add_zero,List.getElem?_cons_zero,List.getElem?_cons_succ,Bool.not_true,Bool.not_false,List.toList_toArray]
  refine S.f50 hE p fun H2 e2 =>?_
  have h2:=h1.mono e2
  obtain ⟨o2,back2⟩:=WkO.openX (k:=0) h2 (r:=refR t rv mv nx (mntI M) Y T) rfl
  have hnx:=g.pin.nx0
  have hnx1:=g.pin.nx1
  have hlen:=g.pin.len
  refine S.pinfoldref16_Tree_BindT hE (M:=M.map MntD.toI) o2 (by rw [List.length_map]; omega) (by omega) _ _ fun mv' H3 u3 =>?_
  rw [g1,g2] at u3
  have h3:=back2 _ _ u3
  have h3:WkO ((refR t rv mv' (bindT M nx root p).nx (mntI (bindT M nx root p).T) Y T :: X)++[boxR b p.cells]) H0 H3 w T (bindT M nx root p).T (bindT M nx root p).nx:=h3
  have hb3:=h3.held
  have c1:p.cells[1]? = some (u16 p.i):=rfl
  have hbs:buildS 2 1 #[(.int .i64 0)] [(0,vi (root.toNat:Int)),(1,vi (p.i.toNat:Int))]=some (.cells [vi (root.toNat:Int),vi (p.i.toNat:Int)] none,mkSlc 2 2):=buildS_full 2 1 [vi 0] [(0,vi (root.toNat:Int)),(1,vi (p.i.toNat:Int))] [vi (root.toNat:Int),vi (p.i.toNat:Int)] rfl rfl rfl rfl (by
   intro v hv
   simp only [List.mem_cons,List.not_mem_nil,or_false] at hv
   rcases hv with rfl | rfl <;> rfl)
  have l2:AM.lenSlc (slc H3.next 0 2 2)=some (vi 2):=rfl
  simp only [hb3,c1,u16_to_i64,hbs,l2,stdZ,Nat.zero_add,Nat.add_zero,List.getElem?_cons_zero,List.getElem?_cons_succ,Bool.not_true,Bool.not_false,List.toList_toArray]
  have h4:GwO (X++[boxR H3.next [vi (root.toNat:Int),vi (p.i.toNat:Int)]]) H0 (H3.new (.cells [vi (root.toNat:Int),vi (p.i.toNat:Int)] none)) w t T (bindT M nx root p).T (bindT M nx root p).nx:=⟨rv,mv',Y,WkO.box (X:=refR t rv mv' (bindT M nx root p).nx (mntI (bindT M nx root p).T) Y T :: X) (WkO.drop (X:=refR t rv mv' (bindT M nx root p).nx (mntI (bindT M nx root p).T) Y T :: X) h3) _,hyl,hyf⟩
  refine more_l2 hE h4 g.wf g.hb ⟨by omega,by have:=g.k1; omega⟩ hj fun H5 h5 =>?_
  rw [hj1]
  exact next _ _ _ _ h5 gb
 ·obtain ⟨t1,t2⟩:=bindT_not he
  rw [t1,t2] at h1
  simp only [he,i64_eql,decide_false,hjj,stdZ,Nat.zero_add,Nat.add_zero,List.getElem?_cons_zero,List.getElem?_cons_succ,Bool.not_true,Bool.not_false,List.toList_toArray]
  exact next T M nx _ ⟨rv,mv,Y,WkO.drop (X:=refR t rv mv nx (mntI M) Y T :: X) h1,hyl,hyf⟩ (g.mono (by omega) hk)
end
end Go.AM
end
section
namespace Go.AM
set_option maxRecDepth 20000
section
variable {X:List Res} {E:Sy} {H0 H H' H'':AH} {Q:Value→AH→Prop} {w t:Nat} {T T':Tr} {M M':List MntD} {nx nx' k l:Int}
theorem more_act (hE:Fold E) {a:Nat} {z:GActD} (h:GwO (X++[boxR a z.cells]) H0 H w t T M nx) (g:GI k T M nx l) (hk:k+1≤900) (hx:z.act.ok H0) (hl:z.act.any.length≤200∧z.act.bl.length≤200)
  {av nv:Value} {j:Nat} (hj:j<2 ^ 62) {X0:List Value→AH→Prop} (next:∀ T' H',GwO X H0 H' w t T' M nx→GI (k+1) T' M nx l→X0 [ptr w 0,ptr t 0,av,nv,vi ((j+1:Nat):Int)] H') :
  opt (addOff (ptr a 0) 1) fun v10=>opt (loadN 10 v10 H) fun v11 =>
  allocW [(.int .u8 0),(.int .u8 0),(.int .u8 0),(.int .u8 0),(.int .u8 0),(.string ⟨#[]⟩),(.int .i64 0),(.slice none 0 0),(.bool false),(.bool false)] H fun v12 H3 =>
  opt (storeN 10 v12 v11 H3) fun H4=>opt (addOff v12 9) fun v13=>opt (store1 v13 (.bool false) H4) fun H5 =>
  opt (addOff v12 0) fun v14=>opt (load1 v14 H5) fun v15=>opt (binInt .rem v15 (.int .u8 15)) fun v16=>opt (binInt .eql v16 (.int .u8 11)) fun v17 =>
  ifB v17 (
  opt (addOff v12 8) fun v18=>opt (store1 v18 (.bool true) H5) fun H6 =>
  F.f52_j1 E Q X0 (ptr w 0) (ptr t 0) (ptr a 0) v12 av nv (vi j) H6) (
  F.f52_j1 E Q X0 (ptr w 0) (ptr t 0) (ptr a 0) v12 av nv (vi j) H5):=by
 have ha:=h.held
 have hlo:loadN 10 (ptr a 1) H=some (.agg z.act.cells.toArray):=by
  have hr:AObj.row (.cells z.cells none) 1 10=some z.act.cells:=by
   have h0:=row_all z.cells none 14 rfl
   exact row_part h0 (j:=1) (m:=10) (by omega)
  rw [loadN_ptr,ha,hr]; rfl
 have hst:=act_store (H:=H) (rows_plain hx.bytes) (ActD.mk 0#8 0#8 0#8 0#8 0#8 [] 0 nilS [] false false)
 have hs1:store1 (ptr H.next 9) (.bool false) (H.new (.cells z.act.cells none))=some (H.new (.cells ({ z.act with raw:=false }:ActD).cells none)):=by
  rw [store1_ptr,if_pos (show plain1 (.bool false)=true from rfl),AH.get_new_self]
  have h1:z.act.cells.length=10:=rfl
  have h2:z.act.cells.set 9 (.bool false)=({ z.act with raw:=false }:ActD).cells:=rfl
  simp only [h1,h2,show (9<10)=True from by simp,if_true,AH.new_put]
 have h5:=h.box ({ z.act with raw:=false }:ActD).cells
 have hb5:=h5.held
 have c0:({ z.act with raw:=false }:ActD).cells[0]? = some (u8 z.act.kind):=rfl
 have r1:binInt .rem (u8 z.act.kind) (.int .u8 15)=some (u8 (z.act.kind % 15#8)):=u8_rem _ 15#8 (by decide)
 have e1:binInt .eql (u8 (z.act.kind % 15#8)) (.int .u8 11)=some (vb (decide (z.act.kind % 15#8=11#8))):=u8_eql _ 11#8
 simp only [hlo,allocW_eq,actZero,hst,hs1,hb5,c0,r1,e1,stdZ,Nat.zero_add,Nat.add_zero,List.getElem?_cons_zero,List.getElem?_cons_succ,Bool.not_true,Bool.not_false,List.toList_toArray]
 by_cases h11:z.act.kind % 15#8=11#8
 ·have hs2:store1 (ptr H.next 8) (.bool true) (H.new (.cells ({ z.act with raw:=false }:ActD).cells none))=some ((H.new (.cells ({ z.act with raw:=false }:ActD).cells none)).put H.next (.cells ({ z.act with raw:=false,flag:=true }:ActD).cells none)):=by
   rw [store1_ptr,if_pos (show plain1 (.bool true)=true from rfl),AH.get_new_self]
   have h1:({ z.act with raw:=false }:ActD).cells.length=10:=rfl
   have h2:({ z.act with raw:=false }:ActD).cells.set 8 (.bool true)=({ z.act with raw:=false,flag:=true }:ActD).cells:=rfl
   simp only [h1,h2,show (8<10)=True from by simp,if_true]
  have h6:=h5.put ({ z.act with raw:=false,flag:=true }:ActD).cells
  simp only [h11,decide_true,hs2,stdZ,Nat.zero_add,Nat.add_zero,List.getElem?_cons_zero,List.getElem?_cons_succ,Bool.not_true,Bool.not_false,List.toList_toArray]
  exact more_j1 hE (x:={ z.act with raw:=false,flag:=true }) h6 g hk ⟨hx.any,hx.n,hx.bytes,hx.bl⟩ hl rfl (fun _=>rfl) hj next
 ·simp only [h11,decide_false,stdZ,Nat.zero_add,Nat.add_zero,List.getElem?_cons_zero,List.getElem?_cons_succ,Bool.not_true,Bool.not_false,List.toList_toArray]
  exact more_j1 hE (x:={ z.act with raw:=false }) h5 g hk ⟨hx.any,hx.n,hx.bytes,hx.bl⟩ hl rfl (fun h=>(h11 h).elim) hj next
def GActD.rootN (z:GActD):BitVec 16:=BitVec.ofNat 16 (1+z.root.toNat % 8)
def GActD.atP (z:GActD):PlaceD:=⟨((z.link % 3#8).toNat:Int),(1#8+z.seen % 8#8).setWidth 16⟩
theorem S.f52 (hE:Fold E) (h:GwO X H0 H w t T M nx) (g:GI k T M nx l) (hk:k+60≤900) (av:Value) (acts:List GActD) (hv:Rows H0 14 av (acts.map GActD.cells)) (hll:acts.length≤9223372036854775807) (hok:∀ x∈acts,x.act.ok H0) (hlt:lightL acts=true)
  (hQ:∀ T' M' nx' H',GwO X H0 H' w t T' M' nx'→GI (k+60) T' M' nx' l→Q (.tuple #[]) H'):E.call (E.fid i.f52) [ptr w 0,ptr t 0,av] H Q:=by
 apply hE.f52
 have hl:=hv.mono h.ext
 have hl:=hl.lenSlc
 rw [List.length_map] at hl
 simp only [F.f52,hl,stdZ,Nat.zero_add,Nat.add_zero,List.getElem?_cons_zero,List.getElem?_cons_succ,Bool.not_true,Bool.not_false,List.toList_toArray]
 have i0:(.int .i64 0:Value)=vi ((0:Nat):Int):=rfl
 rw [i0]
 refine LoopL.count acts.length (fun j ls H'=>j≤60∧∃ T' M' nx',ls=[ptr w 0,ptr t 0,av,vi acts.length,vi j]∧GwO X H0 H' w t T' M' nx'∧GI (k+j) T' M' nx' l) ?_ ⟨by omega,T,M,nx,rfl,h,by simpa using g⟩
 rintro j _ H1 X1 hj hX ⟨hj60,T,M,nx,rfl,h,g⟩
 by_cases hjl:j<acts.length
 rotate_left
 ·have hjl':¬ (j:Int)<acts.length:=by omega
  simp only [F.f52_l1,i64_lss,hjl',decide_false,stdZ,Nat.zero_add,Nat.add_zero,List.getElem?_cons_zero,List.getElem?_cons_succ,Bool.not_true,Bool.not_false,List.toList_toArray]
  exact hQ _ _ _ _ h (g.mono (by omega) hk)
 have hjl':(j:Int)<acts.length:=by omega
 have hX:=hX hjl
 obtain ⟨b,o,p1,p2⟩:=(hv.mono h.ext).ix (i:=j) (by simpa using hjl)
 rw [List.getElem_map] at p2
 have hx:=hok acts[j] (List.getElem_mem hjl)
 have hxl:acts[j].act.any.length≤200∧acts[j].act.bl.length≤200:=by
  unfold lightL at hlt
  have:=List.all_eq_true.1 hlt _ (List.getElem_mem hjl)
  simpa using this
 generalize acts[j]=z at *
 have hlo:loadN 14 (ptr b o) H1=some (.agg z.cells.toArray):=by rw [loadN_ptr,p2]; rfl
 have hst:=gact_store (H:=H1) (rows_plain hx.bytes) (GActD.mk 0#8 (ActD.mk 0#8 0#8 0#8 0#8 0#8 [] 0 nilS [] false false) 0#8 0#8 0#8)
 have h2:=h.box z.cells
 have hb2:=h2.held
 by_cases h60:j<60
 rotate_left
 ·have h60':(60:Int)≤j:=by omega
  simp only [F.f52_l1,i64_lss,i64_geq,hjl',h60',ge_iff_le,decide_true,p1,hlo,allocW_eq,gactZero,hst,stdZ,Nat.zero_add,Nat.add_zero,List.getElem?_cons_zero,List.getElem?_cons_succ,Bool.not_true,Bool.not_false,List.toList_toArray]
  exact hQ _ _ _ _ h2.drop (g.mono (by omega) hk)
 have h60':¬ (60:Int)≤j:=by omega
 have next:∀ T' M' nx' H',GwO X H0 H' w t T' M' nx'→GI (k+j+1) T' M' nx' l→X1 [ptr w 0,ptr t 0,av,vi acts.length,vi ((j+1:Nat):Int)] H':=fun T' M' nx' H' h' g' =>
  hX _ _ ⟨by omega,T',M',nx',rfl,h',g'.mono (by omega) (by omega)⟩
 have c0:z.cells[0]? = some (u8 z.kind):=rfl
 have r1:binInt .rem (u8 z.kind) (.int .u8 12)=some (u8 (z.kind % 12#8)):=u8_rem _ 12#8 (by decide)
 have e1:binInt .lss (u8 (z.kind % 12#8)) (.int .u8 10)=some (vb (decide (z.kind % 12#8<10#8))):=u8_lss _ 10#8
 by_cases h10:z.kind % 12#8<10#8
 ·have ha:=more_act (Q:=Q) hE h2 g (by omega) hx hxl (av:=av) (nv:=vi acts.length) (j:=j) (by omega) (X0:=X1) fun T' H' h' g'=>next T' M nx H' h' g'
  simp only [F.f52_l1,i64_lss,i64_geq,hjl',h60',ge_iff_le,decide_true,decide_false,p1,hlo,allocW_eq,gactZero,hst,hb2,c0,r1,e1,h10,stdZ,Nat.zero_add,Nat.add_zero,List.getElem?_cons_zero,List.getElem?_cons_succ,Bool.not_true,Bool.not_false,List.toList_toArray] at ha ⊢
  exact ha
 generalize H1.new (.cells z.cells none)=H2 at *
 have c11:z.cells[11]? = some (u8 z.root):=rfl
 have c12:z.cells[12]? = some (u8 z.seen):=rfl
 have c13:z.cells[13]? = some (u8 z.link):=rfl
 have hr8:(z.rootN.toNat:Int)=((1+z.root.toNat % 8:Nat):Int):=by
  unfold GActD.rootN
  rw [BitVec.toNat_ofNat,Nat.mod_eq_of_lt (by omega)]
 have a1:binInt .add (.int .i64 1) (vi ((z.root.toNat % 8:Nat):Int))=some (vi (z.rootN.toNat:Int)):=by
  rw [hr8]
  have:=i64_add (a:=1) (b:=((z.root.toNat % 8:Nat):Int)) (by omega) (by omega)
  rw [show ((1+z.root.toNat % 8:Nat):Int)=1+((z.root.toNat % 8:Nat):Int) by omega]
  exact this
 have r8:binInt .rem (vi (z.root.toNat:Int)) (.int .i64 8)=some (vi ((z.root.toNat % 8:Nat):Int)):=i64_rem_nat z.root.toNat 8 (by omega)
 have r3:binInt .rem (u8 z.link) (.int .u8 3)=some (u8 (z.link % 3#8)):=u8_rem _ 3#8 (by decide)
 have r8':binInt .rem (u8 z.seen) (.int .u8 8)=some (u8 (z.seen % 8#8)):=u8_rem _ 8#8 (by decide)
 have a2:binInt .add (.int .u8 1) (u8 (z.seen % 8#8))=some (u8 (1#8+z.seen % 8#8)):=u8_add 1#8 _
 have hbv:buildV [(0,1),(1,1)] PlaceD.zero.cells.toArray [(0,vi ((z.link % 3#8).toNat:Int)),(1,u16 ((1#8+z.seen % 8#8).setWidth 16))]=some z.atP.v:=rfl
 have hz2:([(.int .i64 0),(.int .u16 0)]:List Value)=PlaceD.zero.cells:=rfl
 have hbv2:∀ n:BitVec 16,buildV [(0,1),(1,1)] PlaceD.zero.cells.toArray [(1,u16 n)]=some (PlaceD.v ⟨0,n⟩):=fun n=>rfl
 have conv:convInt .u16 (vi (z.rootN.toNat:Int))=some (u16 z.rootN):=by
  rw [i64_to_u16]
  congr 2
  rw [BitVec.ofInt_natCast,BitVec.ofNat_toNat,BitVec.setWidth_eq]
 have hst2:storeN 2 (ptr H2.next 0) z.atP.v (H2.new (.cells PlaceD.zero.cells none))=some (H2.new (.cells z.atP.cells none)):=two_store rfl rfl rfl
 have h3:=h2.drop.box z.atP.cells
 have hpm:0≤z.atP.m∧z.atP.m≤2:=by
  have:(z.link % 3#8).toNat=z.link.toNat % 3:=by simp
  unfold GActD.atP
  simp only
  omega
 generalize z.rootN=root at *
 generalize hp:z.atP=p at *
 have hjj:=i64_inc (i:=j) (by omega)
 simp only [F.f52_l1,i64_lss,i64_geq,hjl',h60',ge_iff_le,decide_true,decide_false,p1,hlo,allocW_eq,gactZero,hst,hb2,c0,r1,e1,h10,c11,c12,c13,u8_to_i64,r8,a1,r3,r8',a2,u8_to_u16,hz2,hbv,hst2,conv,stdZ,Nat.zero_add,Nat.add_zero,List.getElem?_cons_zero,List.getElem?_cons_succ,Bool.not_true,Bool.not_false,List.toList_toArray]
 simp only [hz2,hst2,conv,hbv2,stdZ,Nat.zero_add,Nat.add_zero,List.getElem?_cons_zero,List.getElem?_cons_succ,Bool.not_true,Bool.not_false,List.toList_toArray]
 have hlo3:∀ {H':AH},H'.get H2.next = .cells p.cells none→loadN 2 (ptr H2.next 0) H'=some p.v:=fun hh=>by rw [loadN_ptr,hh]; rfl
 generalize H2.new (.cells p.cells none)=H3 at *
 generalize H2.next=b3 at *
 refine S.f108 hE h3.at_ ⟨0,root⟩ fun H4 e4 =>?_
 have h4:=h3.mono e4
 cases hd:dirP T M ⟨0,root⟩ with
 | false =>
  simp only [hjj,stdZ,Nat.zero_add,Nat.add_zero,List.getElem?_cons_zero,List.getElem?_cons_succ,Bool.not_true,Bool.not_false,List.toList_toArray]
  exact next T M nx _ h4.drop (g.mono (by omega) (by omega))
 | true =>
  simp only [hlo3 h4.held,stdZ,Nat.zero_add,Nat.add_zero,List.getElem?_cons_zero,List.getElem?_cons_succ,Bool.not_true,Bool.not_false,List.toList_toArray]
  refine S.f108 hE h4.at_ p fun H5 e5 =>?_
  have h5:=h4.mono e5
  cases hd2:dirP T M p with
  | false =>
   simp only [hjj,stdZ,Nat.zero_add,Nat.add_zero,List.getElem?_cons_zero,List.getElem?_cons_succ,Bool.not_true,Bool.not_false,List.toList_toArray]
   exact next T M nx _ h5.drop (g.mono (by omega) (by omega))
  | true =>
   have hf:=more_bind (Q:=Q) hE h5 g (by omega) root hpm (dirP_kind hd) (dirP_kind hd2) (av:=av) (nv:=vi acts.length) (j:=j) (by omega) (X0:=X1) fun T' M' nx' H' h' g'=>next T' M' nx' H' h' g'
   simp only [stdZ,Nat.zero_add,Nat.add_zero,List.getElem?_cons_zero,List.getElem?_cons_succ,Bool.not_true,Bool.not_false,List.toList_toArray] at hf ⊢
   exact hf
theorem grow_new (hE:Fold E) (l:Int) {Q:Value→Value→AH→Prop} (hQ:∀ w t H',GwO [] H H' w t (Tr.new l) tab0 1→Q (ptr w 0) (ptr t 0) H') :
  E.call (E.fid i.f106) [vi l] H fun v1 H1=>E.call (E.fid i.f62) [vi l] H1 fun v2 H2=>Q v1 v2 H2:=by
 refine S.f106 hE l fun w H1 h1 =>?_
 refine S.f62 hE l fun t nv mv Y H2 e2 h2 f2 =>?_
 refine hQ w t H2 ⟨nv,mv,Y,?_,h2.len,h2.fit⟩
 obtain ⟨p,m,L,q,v,e,o,own,cov,tab⟩:=h1
 have o2:=o.ext e2
 have hm:mntI tab0=mntTop:=rfl
 rw [hm]
 have perm:(refR t nv mv 1 mntTop Y (Tr.new l) :: wkRs p m L (Tr.new l) q v tab0 1 w []).Perm (wkRs p m L (Tr.new l) q v tab0 1 w (refR t nv mv 1 mntTop Y (Tr.new l) :: [])):=by
  show List.Perm (_ :: ([_,_,_]++[])) ([_,_,_]++_ :: [])
  exact List.perm_middle.symm
 have ho:Ow (joinR (refR t nv mv 1 mntTop Y (Tr.new l) :: wkRs p m L (Tr.new l) q v tab0 1 w [])) H2:=by
  refine ⟨fun r hr =>?_,fun b hb =>?_,?_⟩
  ·rcases List.mem_cons.1 hr with rfl | hr
   ·exact h2.ow.holds
   ·exact o2.holds r hr
  ·have hb:b∈(refR t nv mv 1 mntTop Y (Tr.new l)).fp++(wkRs p m L (Tr.new l) q v tab0 1 w []).flatMap Res.fp:=hb
   rcases List.mem_append.1 hb with hb | hb
   ·exact h2.ow.lt b hb
   ·exact (o2.fp b hb).2
  ·show ((refR t nv mv 1 mntTop Y (Tr.new l)).fp++(wkRs p m L (Tr.new l) q v tab0 1 w []).flatMap Res.fp).Nodup
   rw [List.nodup_append]
   refine ⟨h2.ow.nd,o2.nd,fun a ha b hb =>?_⟩
   have h3:=f2 a ha
   have h4:=o.lt b hb
   omega
 refine ⟨p,m,L,q,v,e.trans e2,ho.perm perm,fun b hb =>?_,cov,tab⟩
 have hb:=((perm.flatMap_right Res.fp).mem_iff).2 hb
 rw [List.flatMap_cons,List.mem_append] at hb
 rcases hb with hb | hb
 ·exact Nat.le_trans e.1 (f2 b hb)
 ·exact own b hb
end
end Go.AM
end
section
namespace Go.AM
set_option maxRecDepth 20000
def mk5:List (BitVec 16×NameL×BitVec 8):=[(1#16,[97],2#8),(2#16,[98],2#8),(1#16,[102],1#8),(2#16,[103],1#8),(1#16,[99],2#8)]
def mkR (x:BitVec 16×NameL×BitVec 8):List Value:=[vi (x.1.toNat:Int),str x.2.1,u8 x.2.2]
def grownTo (j:Nat):Tr:=(mk5.take j).foldl (fun T x=>(T.make x.1 x.2.1 x.2.2 []).1) (Tr.new 80)
theorem grownTo_succ {j:Nat} (h:j<mk5.length):grownTo (j+1)=((grownTo j).make mk5[j].1 mk5[j].2.1 mk5[j].2.2 []).1:=by
 unfold grownTo
 rw [List.take_succ,List.getElem?_eq_getElem h,List.foldl_append]; rfl
section
variable {X:List Res} {E:Sy} {H0 H H' H'':AH} {Q:Value→AH→Prop} {w t:Nat} {T T':Tr} {M M':List MntD} {nx nx' k l:Int}
theorem grown_loop (hE:Fold E) (av:Value) (hQ:∀ w t H',GwO [] H H' w t (grownTo 5) tab0 1→GI 5 (grownTo 5) tab0 1 80→E.call (E.fid i.f52) [ptr w 0,ptr t 0,av] H' fun _ H5=>Q (.tuple #[ptr w 0,ptr t 0]) H5):E.call (E.fid i.f55) [av] H Q:=by
 apply hE.f55
 simp only [F.f55]
 have hbv:∀ (a:Int) (s:NameL) (c:BitVec 8),buildV [(0,1),(1,1),(2,1)] #[(.int .i64 0),(.string ⟨#[]⟩),(.int .u8 0)] [(0,vi a),(1,str s),(2,u8 c)]=some (.agg #[vi a,str s,u8 c]):=fun a s c=>rfl
 have b1:buildV [(0,1),(1,1),(2,1)] #[(.int .i64 0),(.string ⟨#[]⟩),(.int .u8 0)] [(0,(.int .i64 1)),(1,(.string ⟨#[97]⟩)),(2,(.int .u8 2))]=some (.agg (mkR (1#16,[97],2#8)).toArray):=rfl
 have b2:buildV [(0,1),(1,1),(2,1)] #[(.int .i64 0),(.string ⟨#[]⟩),(.int .u8 0)] [(0,(.int .i64 2)),(1,(.string ⟨#[98]⟩)),(2,(.int .u8 2))]=some (.agg (mkR (2#16,[98],2#8)).toArray):=rfl
 have b3:buildV [(0,1),(1,1),(2,1)] #[(.int .i64 0),(.string ⟨#[]⟩),(.int .u8 0)] [(0,(.int .i64 1)),(1,(.string ⟨#[102]⟩)),(2,(.int .u8 1))]=some (.agg (mkR (1#16,[102],1#8)).toArray):=rfl
 have b4:buildV [(0,1),(1,1),(2,1)] #[(.int .i64 0),(.string ⟨#[]⟩),(.int .u8 0)] [(0,(.int .i64 2)),(1,(.string ⟨#[103]⟩)),(2,(.int .u8 1))]=some (.agg (mkR (2#16,[103],1#8)).toArray):=rfl
 have b5:buildV [(0,1),(1,1),(2,1)] #[(.int .i64 0),(.string ⟨#[]⟩),(.int .u8 0)] [(0,(.int .i64 1)),(1,(.string ⟨#[99]⟩)),(2,(.int .u8 2))]=some (.agg (mkR (1#16,[99],2#8)).toArray):=rfl
 have hbs:=buildS_full 5 3 [vi 0,str [],u8 0#8] [(0,.agg (mkR (1#16,[97],2#8)).toArray),(1,.agg (mkR (2#16,[98],2#8)).toArray),(2,.agg (mkR (1#16,[102],1#8)).toArray),(3,.agg (mkR (2#16,[103],1#8)).toArray),(4,.agg (mkR (1#16,[99],2#8)).toArray)] (mk5.map fun x => .agg (mkR x).toArray) rfl rfl rfl rfl (by
  intro v hv
  obtain ⟨s,_,rfl⟩:=List.mem_map.1 hv
  rfl)
 have hbs:buildS 5 3 #[(.int .i64 0),(.string ⟨#[]⟩),(.int .u8 0)] [(0,.agg (mkR (1#16,[97],2#8)).toArray),(1,.agg (mkR (2#16,[98],2#8)).toArray),(2,.agg (mkR (1#16,[102],1#8)).toArray),(3,.agg (mkR (2#16,[103],1#8)).toArray),(4,.agg (mkR (1#16,[99],2#8)).toArray)]=some (.cells (mk5.map mkR).flatten none,mkSlc 5 5):=by
  rw [show (mk5.map mkR).flatten=(mk5.map fun x=>Value.agg (mkR x).toArray).flatMap vcells from rfl]
  exact hbs
 refine grow_new (Q:=fun v1 v2 H2=>_) hE 80 fun w t H1 h1 =>?_
 simp only [b1,b2,b3,b4,b5,hbs,stdZ,Nat.zero_add,Nat.add_zero,List.getElem?_cons_zero,List.getElem?_cons_succ,Bool.not_true,Bool.not_false,List.toList_toArray]
 have h2:=h1.box (mk5.map mkR).flatten
 have hv2:Rows (H1.new (.cells (mk5.map mkR).flatten none)) 3 (slc H1.next 0 5 5) (mk5.map mkR):=Rows.made (f:=none) (by rw [AH.get_new_self]) (.inl rfl) rfl (by decide)
 have hls:AM.lenSlc (slc H1.next 0 5 5)=some (vi ((5:Nat):Int)):=rfl
 have i0:(.int .i64 0:Value)=vi ((0:Nat):Int):=rfl
 simp only [hls,i0,stdZ,Nat.zero_add,Nat.add_zero,List.getElem?_cons_zero,List.getElem?_cons_succ,Bool.not_true,Bool.not_false,List.toList_toArray]
 generalize hbb:H1.next=bb at *
 generalize H1.new (.cells (mk5.map mkR).flatten none)=H2 at *
 have h2:GwO [boxR bb (mk5.map mkR).flatten] H H2 w t (grownTo 0) tab0 1:=h2
 refine LoopL.count 5 (fun j ls H'=>ls=[av,ptr w 0,ptr t 0,slc bb 0 5 5,vi ((5:Nat):Int),vi j]∧GwO [boxR bb (mk5.map mkR).flatten] H H' w t (grownTo j) tab0 1∧GI j (grownTo j) tab0 1 80) ?_ ⟨rfl,h2,GI.new 80 80 ⟨by omega,by omega⟩⟩
 rintro j _ H3 X hj hX ⟨rfl,h3,g⟩
 have hb3:=GwO.held (X:=[]) h3
 have hv3:Rows H3 3 (slc bb 0 5 5) (mk5.map mkR):=Rows.made (f:=none) (by rw [hb3]) (.inl rfl) rfl (by decide)
 rcases Nat.lt_or_ge j 5 with hj5 | hj5
 rotate_left
 ·have:j=5:=by omega
  subst this
  have hlt:¬ (((5:Nat):Int)<((5:Nat):Int)):=by omega
  simp only [F.f55_l1,i64_lss,hlt,decide_false,stdZ,Nat.zero_add,Nat.add_zero,List.getElem?_cons_zero,List.getElem?_cons_succ,Bool.not_true,Bool.not_false,List.toList_toArray]
  exact hQ w t H3 (GwO.drop (X:=[]) h3) g
 have hX:=hX hj5
 have hjm:j<mk5.length:=hj5
 obtain ⟨b,o,p1,p2⟩:=hv3.ix (i:=j) (by simpa using hjm)
 rw [List.getElem_map] at p2
 rw [grownTo_succ hjm] at hX
 have hsl:(mk5[j]).2.1.length<2 ^ 63:=by
  have:∀ x∈mk5,x.2.1.length<2 ^ 63:=by decide
  exact this _ (List.getElem_mem hjm)
 generalize mk5[j]=x at *
 have hjj:=i64_inc (i:=j) (by omega)
 have hjl':((j:Nat):Int)<((5:Nat):Int):=by omega
 have hlo:loadN 3 (ptr b o) H3=some (.agg (mkR x).toArray):=by rw [loadN_ptr,p2]; rfl
 have hst:storeN 3 (ptr H3.next 0) (.agg (mkR x).toArray) (H3.new (.cells [(.int .i64 0),str [],(.int .u8 0)] none))=some (H3.new (.cells (mkR x) none)):=by
  rw [storeN_ptr,AH.get_new_self]
  have hs:AM.splice [(.int .i64 0),str [],(.int .u8 0)] 0 (mkR x)=mkR x:=rfl
  have hp:(mkR x).all plain1=true:=rfl
  have hl:(mkR x).length=3:=rfl
  simp only [List.size_toArray,List.toList_toArray,hl,hp,List.length_cons,List.length_nil,Nat.zero_add,Nat.reduceAdd,Nat.le_refl,and_self,if_true,hs,AH.new_put]
 have h4:=h3.box (mkR x)
 have hb4:=h4.held
 obtain ⟨rv,mv,Y,h4,hyl,hyf⟩:=h4
 obtain ⟨p',q',v,m,L,h5,back⟩:=h4.two hyl hyf
 have hw5:(H3.new (.cells (mkR x) none)).get w = .cells [ptr p' 0,ptr q' 0] none:=h5.ow.holds (boxR w [ptr p' 0,ptr q' 0]) (by simp)
 have c0:(mkR x)[0]? = some (vi (x.1.toNat:Int)):=rfl
 have c1:(mkR x)[1]? = some (str x.2.1):=rfl
 have c2:(mkR x)[2]? = some (u8 x.2.2):=rfl
 have s0:(.string ⟨#[]⟩:Value)=str []:=rfl
 have conv:convInt .u16 (vi (x.1.toNat:Int))=some (u16 x.1):=by
  rw [i64_to_u16]
  congr 2
  rw [BitVec.ofInt_natCast,BitVec.ofNat_toNat,BitVec.setWidth_eq]
 have hc:=g.co
 have hk0:=g.k0
 generalize hj1:j+1=j1 at *
 simp only [F.f55_l1,i64_lss,hjl',decide_true,p1,hlo,allocW_eq,hst,hw5,hb4,c0,c1,c2,conv,s0,stdZ,Nat.zero_add,Nat.add_zero,List.getElem?_cons_zero,List.getElem?_cons_succ,Bool.not_true,Bool.not_false,List.toList_toArray]
 refine TwoX.cMake hE h5 g.wf x.1 x.2.1 hsl x.2.2 [] (by decide) ⟨hc.1,by have:=hc.2; omega⟩ fun L1 H5 h6 =>?_
 have hb6:H5.get H3.next = .cells (mkR x) none:=h6.ow.holds (boxR H3.next (mkR x)) (by simp)
 simp only [hb6,c0,c1,c2,u8_to_i64,stdZ,Nat.zero_add,Nat.add_zero,List.getElem?_cons_zero,List.getElem?_cons_succ,Bool.not_true,Bool.not_false,List.toList_toArray]
 refine TwoX.rMake hE h6 g.wf x.1 x.2.1 hsl x.2.2 [] ⟨hc.1,by have:=hc.2; omega⟩ fun nv2 Y2 H6 h7 =>?_
 have h8:GwO ([boxR bb (mk5.map mkR).flatten]++[boxR H3.next (mkR x)]) H H6 w t ((grownTo j).make x.1 x.2.1 x.2.2 []).1 tab0 1:=⟨nv2,mv,Y2,back _ _ _ _ _ _ h7,h7.len,h7.fit⟩
 simp only [hjj,stdZ,Nat.zero_add,Nat.add_zero,List.getElem?_cons_zero,List.getElem?_cons_succ,Bool.not_true,Bool.not_false,List.toList_toArray]
 refine hX _ _ ⟨rfl,h8.drop,?_⟩
 have:=g.did (.make x.1 x.2.1 x.2.2 []) (g.wf.make x.1 x.2.1 x.2.2 []) (.make x.1 x.2.1 x.2.2 []) ((g.hb.make (by omega) x.1 x.2.1 x.2.2 []).mono (by omega)) (by omega)
 rw [← hj1]
 exact this
theorem S.f55 (hE:Fold E) (av:Value) (acts:List GActD) (hv:Rows H 14 av (acts.map GActD.cells)) (hll:acts.length≤9223372036854775807) (hok:∀ x∈acts,x.act.ok H) (hlt:lightL acts=true)
  (hQ:∀ w t T' M' nx' H',GwO [] H H' w t T' M' nx'→GI 65 T' M' nx' 80→Q (.tuple #[ptr w 0,ptr t 0]) H'):E.call (E.fid i.f55) [av] H Q :=
 grown_loop hE av fun w t H' h g=>S.f52 hE h g (by omega) av acts hv hll hok hlt fun T' M' nx' H' h' g'=>hQ w t T' M' nx' H' h' g'
end
end Go.AM
end
section
namespace Go.AM
set_option maxRecDepth 20000
abbrev SetL:=List (Nat×SetD)
def setR (l:SetL):List (List Value):=l.map fun x=>[ptr x.1 0]
theorem setR_length (l:SetL):(setR l).length=l.length:=by simp [setR]
theorem setR_plain (l:SetL):∀ r∈setR l,r.all plain1=true:=by
 intro r hr
 obtain ⟨x,_,rfl⟩:=List.mem_map.1 hr
 rfl
structure SetsAt (H:AH) (v:Value) (l:SetL):Prop where
 rows:Rows H 1 v (setR l)
 sets:∀ x∈l,SetAt H x.1 x.2
def DomAt (H:AH) (dv:Value) (l:SetL):Prop:=(dv = .pointer none∧l=[])∨∃ b v,dv=ptr b 0∧H.get b = .cells [v] none∧SetsAt H v l
section
variable {X:List Res} {E:Sy} {H0 H H' H'':AH} {Q:Value→AH→Prop} {w t s:Nat} {T T':Tr} {M M':List MntD} {nx nx' k:Int} {d:SetD} {v dv:Value} {l:SetL}
theorem SetsAt.mono (h:SetsAt H v l) (e:Ext H H'):SetsAt H' v l:=⟨h.rows.mono e,fun x hx=>(h.sets x hx).mono e⟩
theorem DomAt.mono (h:DomAt H dv l) (e:Ext H H'):DomAt H' dv l:=by
 rcases h with h | ⟨b,v,h1,h2,h3⟩
 ·exact .inl h
 ·exact .inr ⟨b,v,h1,e.cells h2,h3.mono e⟩
theorem SetsAt.len (h:SetsAt H v l):AM.lenSlc v=some (vi l.length):=by
 have:=h.rows.lenSlc
 rwa [setR_length] at this
theorem SetsAt.elem (h:SetsAt H v l) {i:Nat} (hi:i<l.length):∃ b o,ixSlc 1 v (vi i)=some (ptr b o)∧(H.get b).cell o=some (ptr (l[i]).1 0)∧SetAt H (l[i]).1 (l[i]).2:=by
 obtain ⟨b,o,f1,f2⟩:=h.rows.ix (i:=i) (by rw [setR_length]; exact hi)
 have hrow:(setR l)[i]'(by rw [setR_length]; exact hi)=[ptr (l[i]).1 0]:=by simp [setR]
 rw [hrow] at f2
 exact ⟨b,o,f1,by have:=row_at f2 (j:=0) (by omega); simpa using this,h.sets _ (List.getElem_mem hi)⟩
theorem nilD:binNil eqPtr .eql (.pointer none) (.pointer none)=some (vb true):=rfl
theorem S.f2 (hE:Fold E) (h:DomAt H dv l) (hQ:Q (vi l.length) H):E.call (E.fid i.f2) [dv] H Q:=by
 apply hE.f2
 rcases h with ⟨rfl,rfl⟩ | ⟨b,v,rfl,h2,h3⟩
 ·simp only [F.f2,nilD,stdZ,Nat.zero_add,Nat.add_zero,List.getElem?_cons_zero,List.getElem?_cons_succ,Bool.not_true,Bool.not_false,List.toList_toArray]
  exact hQ
 ·simp only [F.f2,nilq_p,h2,h3.len,stdZ,Nat.zero_add,Nat.add_zero,List.getElem?_cons_zero,List.getElem?_cons_succ,Bool.not_true,Bool.not_false,List.toList_toArray]
  exact hQ
theorem S.f1 (hE:Fold E) (h:DomAt H dv l) (hl:l.length≤1000) (hQ:∀ v H',Ext H H'→Grow zH H' 1 v (setR l)→FreshV H.next v→(∀ x∈l,SetAt H' x.1 x.2)→Q v H'):E.call (E.fid i.f1) [dv] H Q:=by
 apply hE.f1
 rcases h with ⟨rfl,rfl⟩ | ⟨b,v,rfl,h2,h3⟩
 ·simp only [F.f1,nilD,stdZ,Nat.zero_add,Nat.add_zero,List.getElem?_cons_zero,List.getElem?_cons_succ,Bool.not_true,Bool.not_false,List.toList_toArray]
  exact hQ _ _ (Ext.refl _) (Grow.nil _ _ _) (by intro b hb; simp [blk] at hb) (by simp)
 ·have hb0:buildS 0 1 #[(.pointer none)] []=some (.cells [] none,mkSlc 0 0):=buildS0 1 [.pointer none] rfl
  have e1:Ext H (H.new (.cells [] none)):=(Ext.refl H).new _
  have g1:Grow zH (H.new (.cells [] none)) 1 (slc H.next 0 0 0) []:=Grow.room (zH_get _) (AH.get_new_self _ _) rfl
  have h4:=h3.mono e1
  obtain ⟨v',H',a1,a2,a3⟩:=g1.app (bytes:=8) (Nat.zero_le _) h4.rows (setR_plain l) (by decide) (by decide) (by rw [setR_length]; simp; omega) (by rw [setR_length]; simp; omega)
  obtain ⟨e2,f2⟩:=grew_ext a3 e1 (fun b hb=>by simp [blk] at hb; omega)
  have hap:app 1 8 (slc H.next 0 0 0) v (H.new (.cells [] none))=some (v',H'):=a1
  simp only [F.f1,nilq_p,hb0,e1.cells h2,hap,stdZ,Nat.zero_add,Nat.add_zero,List.getElem?_cons_zero,List.getElem?_cons_succ,Bool.not_true,Bool.not_false,List.toList_toArray]
  exact hQ _ _ e2 (by simpa using a2) f2 fun x hx=>(h3.sets x hx).mono e2
theorem S.f5 (hE:Fold E) (h:DomAt H dv l) (hs:SetAt H s d) (hl:l.length≤1000) (hbad:16≤l.length→Q (.tuple #[.pointer none,vi 27]) H)
  (hok:l.length<16→∀ b H',Ext H H'→H.next≤b→DomAt H' (ptr b 0) (l++[(s,d)])→Q (.tuple #[ptr b 0,vi 0]) H'):E.call (E.fid i.f5) [dv,ptr s 0] H Q:=by
 apply hE.f5
 simp only [F.f5,nilq_p,stdZ,Nat.zero_add,Nat.add_zero,List.getElem?_cons_zero,List.getElem?_cons_succ,Bool.not_true,Bool.not_false,List.toList_toArray]
 refine S.f2 hE h ?_
 by_cases h16:16≤l.length
 ·have h16':(16:Int)≤l.length:=by omega
  simp only [i64_geq,ge_iff_le,h16',decide_true,stdZ,Nat.zero_add,Nat.add_zero,List.getElem?_cons_zero,List.getElem?_cons_succ,Bool.not_true,Bool.not_false,List.toList_toArray]
  exact hbad h16
 ·have h16':¬ (16:Int)≤l.length:=by omega
  simp only [i64_geq,ge_iff_le,h16',decide_false,stdZ,Nat.zero_add,Nat.add_zero,List.getElem?_cons_zero,List.getElem?_cons_succ,Bool.not_true,Bool.not_false,List.toList_toArray]
  refine S.f1 hE h hl fun v H2 e2 g2 f2 s2 =>?_
  have hbS:buildS 1 1 #[(.pointer none)] [(0,ptr s 0)]=some (.cells [ptr s 0] none,mkSlc 1 1):=buildS_one 1 [.pointer none] [ptr s 0] rfl rfl
  obtain ⟨v',H3,a1,a2,a3⟩:=g2.app1 (bytes:=8) (Nat.zero_le _) [ptr s 0] rfl rfl (by decide) (by decide) (by rw [setR_length]; omega)
  obtain ⟨e3,f3⟩:=grew_ext a3 e2 f2
  have hbv:buildV [(0,1)] #[(.slice none 0 0)] [(0,v')]=some (.agg #[v']):=by
   have:=a2.plain
   rcases a2.2 with ⟨hz,_⟩ | ⟨b,f,c,cs,_,rfl,_⟩
   ·simp at hz
   ·rfl
  have x4:Ext H3 (H3.new (.cells [v'] none)):=(Ext.refl _).new _
  simp only [hbS,a1,hbv,stdZ,Nat.zero_add,Nat.add_zero,List.getElem?_cons_zero,List.getElem?_cons_succ,Bool.not_true,Bool.not_false,List.toList_toArray]
  refine hok (by omega) _ _ (e3.trans x4) e3.1 (.inr ⟨H3.next,v',rfl,AH.get_new_self _ _,⟨?_,?_⟩⟩)
  ·have:=a2.toRows.mono x4
   simpa [setR] using this
  ·intro x hx
   rcases List.mem_append.1 hx with hx | hx
   ·rcases h with ⟨_,rfl⟩ | ⟨b,v0,_,_,h3⟩
    ·simp at hx
    ·exact ((h3.sets x hx).mono e3).mono x4
   ·simp only [List.mem_singleton] at hx
    subst hx
    exact (hs.mono e3).mono x4
def domDenied (l:SetL) (want n:BitVec 16) (above:List PlaceD):BitVec 16:=l.foldl (fun r x=>r|||x.2.denied want n above) 0#16
theorem domDenied_take (l:SetL) (want n:BitVec 16) (above:List PlaceD) {j:Nat} (h:j<l.length):domDenied (l.take (j+1)) want n above=domDenied (l.take j) want n above|||(l[j]).2.denied want n above:=by
 unfold domDenied
 rw [List.take_succ,List.getElem?_eq_getElem h,List.foldl_append]; rfl
theorem above_289 (T:Tr) (M:List MntD):∀ (f:Nat) (p:PlaceD),(aboveN T M f p).length≤f
 | 0,p=>by simp [aboveN]
 | f+1,p=>by
  rw [aboveN]
  cases nextA T M p with
  | none=>simp
  | some q=>have:=above_289 T M f q; simp only [List.length_cons]; omega
theorem aboveW_len (T:Tr) (M:List MntD) (p:PlaceD):(aboveW T M p).length≤289:=by
 unfold aboveW
 split
 ·exact above_289 T M 289 p
 ·simp
theorem S.f0 (hE:Fold E) (h:DomAt H dv l) (ht:WkAt H t T M) (ao:AtOk T M) (hl:l.length<2 ^ 62) (want n:BitVec 16) (c:PlaceD) (hQ:∀ H',Ext H H'→Q (u16 (domDenied l want n (aboveW T M c))) H'):E.call (E.fid i.f0) [dv,ptr t 0,u16 want,u16 n,c.v] H Q:=by
 apply hE.f0
 have x1:Ext H (H.new (.cells c.cells none)):=(Ext.refl H).new _
 have hb:=AH.get_new_self H (.cells c.cells none)
 simp only [F.f0,stdZ,Nat.zero_add,Nat.add_zero,List.getElem?_cons_zero,List.getElem?_cons_succ,Bool.not_true,Bool.not_false,List.toList_toArray]
 have h1:=h.mono x1
 have ht1:=ht.mono x1
 generalize H.new (.cells c.cells none)=H1 at *
 refine S.f2 hE h1 ?_
 by_cases h0:l.length=0
 ·have:l=[]:=List.length_eq_zero_iff.1 h0
  subst this
  simp only [i64_eql,List.length_nil,Int.ofNat_zero,Int.natCast_zero,decide_true,stdZ,Nat.zero_add,Nat.add_zero,List.getElem?_cons_zero,List.getElem?_cons_succ,Bool.not_true,Bool.not_false,List.toList_toArray]
  exact hQ _ x1
 ·have h0':¬ (l.length:Int)=0:=by omega
  have hlo:loadN 2 (ptr H.next 0) H1=some c.v:=by rw [loadN_ptr,hb]; rfl
  simp only [i64_eql,h0',decide_false,hlo,stdZ,Nat.zero_add,Nat.add_zero,List.getElem?_cons_zero,List.getElem?_cons_succ,Bool.not_true,Bool.not_false,List.toList_toArray]
  refine S.f107 hE ht1 ao c fun v H2 e2 r2 =>?_
  rcases h1.mono e2 with ⟨_,rfl⟩ | ⟨b,sv,rfl,h2,h3⟩
  ·simp at h0
  simp only [h2,h3.len,stdZ,Nat.zero_add,Nat.add_zero,List.getElem?_cons_zero,List.getElem?_cons_succ,Bool.not_true,Bool.not_false,List.toList_toArray]
  have i0:(.int .i64 0:Value)=vi ((0:Nat):Int):=rfl
  have n0:(.int .u16 0:Value)=u16 (domDenied (l.take 0) want n (aboveW T M c)):=rfl
  rw [i0,n0]
  refine LoopL.count l.length (fun j ls H'=>ls=[u16 want,u16 n,v,u16 (domDenied (l.take j) want n (aboveW T M c)),sv,vi l.length,vi j]∧Ext H2 H') ?_ ⟨rfl,Ext.refl _⟩
  rintro j _ H3 X hj hX ⟨rfl,e3⟩
  rcases Nat.lt_or_ge j l.length with hjl | hjl
  ·have hX:=hX hjl
   have hjl':(j:Int)<l.length:=by omega
   have hjj:=i64_inc (i:=j) (by omega)
   obtain ⟨b',o',p1,p2,p3⟩:=(h3.mono e3).elem hjl
   rw [domDenied_take l want n _ hjl] at hX
   simp only [F.f0_l1,i64_lss,hjl',decide_true,p1,p2,stdZ,Nat.zero_add,Nat.add_zero,List.getElem?_cons_zero,List.getElem?_cons_succ,Bool.not_true,Bool.not_false,List.toList_toArray]
   refine S.f90 hE p3 want n v _ (r2.mono e3) (by have:=aboveW_len T M c; omega) fun H4 e4 =>?_
   simp only [u16_or,hjj,stdZ,Nat.zero_add,Nat.add_zero,List.getElem?_cons_zero,List.getElem?_cons_succ,Bool.not_true,Bool.not_false,List.toList_toArray]
   exact hX _ _ ⟨rfl,e3.trans e4⟩
  ·have hjl':¬ (j:Int)<l.length:=by omega
   have:j=l.length:=by omega
   subst this
   rw [List.take_length]
   simp only [F.f0_l1,i64_lss,hjl',decide_false,stdZ,Nat.zero_add,Nat.add_zero,List.getElem?_cons_zero,List.getElem?_cons_succ,Bool.not_true,Bool.not_false,List.toList_toArray]
   exact hQ _ (x1.trans (e2.trans e3))
theorem S.f3 (hE:Fold E) (h:DomAt H dv l) (hl:l.length<2 ^ 62) (want n:BitVec 16) (hQ:Q (vb (l.all fun x=>x.2.port want n)) H):E.call (E.fid i.f3) [dv,u16 want,u16 n] H Q:=by
 apply hE.f3
 rcases h with ⟨rfl,rfl⟩ | ⟨b,sv,rfl,h2,h3⟩
 ·simp only [F.f3,nilD,stdZ,Nat.zero_add,Nat.add_zero,List.getElem?_cons_zero,List.getElem?_cons_succ,Bool.not_true,Bool.not_false,List.toList_toArray]
  exact hQ
 ·simp only [F.f3,nilq_p,h2,h3.len,stdZ,Nat.zero_add,Nat.add_zero,List.getElem?_cons_zero,List.getElem?_cons_succ,Bool.not_true,Bool.not_false,List.toList_toArray]
  have i0:(.int .i64 0:Value)=vi ((0:Nat):Int):=rfl
  rw [i0]
  refine LoopL.count l.length (fun j ls H'=>ls=[u16 want,u16 n,sv,vi l.length,vi j]∧H=H'∧(l.take j).all (fun x=>x.2.port want n)=true) ?_ ⟨rfl,rfl,rfl⟩
  rintro j _ H3 X hj hX ⟨rfl,rfl,ha⟩
  rcases Nat.lt_or_ge j l.length with hjl | hjl
  ·have hX:=hX hjl
   have hjl':(j:Int)<l.length:=by omega
   have hjj:=i64_inc (i:=j) (by omega)
   obtain ⟨b',o',p1,p2,p3⟩:=h3.elem hjl
   simp only [F.f3_l1,i64_lss,hjl',decide_true,p1,p2,stdZ,Nat.zero_add,Nat.add_zero,List.getElem?_cons_zero,List.getElem?_cons_succ,Bool.not_true,Bool.not_false,List.toList_toArray]
   refine S.f93 hE p3 want n ?_
   cases hp:(l[j]).2.port want n with
   | false =>
    have:(l.all fun x=>x.2.port want n)=false:=List.all_eq_false.2 ⟨l[j],List.getElem_mem hjl,by simp [hp]⟩
    rw [this] at hQ
    simp only [stdZ,Nat.zero_add,Nat.add_zero,List.getElem?_cons_zero,List.getElem?_cons_succ,Bool.not_true,Bool.not_false,List.toList_toArray]
    exact hQ
   | true =>
    simp only [hjj,stdZ,Nat.zero_add,Nat.add_zero,List.getElem?_cons_zero,List.getElem?_cons_succ,Bool.not_true,Bool.not_false,List.toList_toArray]
    refine hX _ _ ⟨rfl,rfl,?_⟩
    rw [List.take_succ,List.getElem?_eq_getElem hjl,List.all_append,ha]
    simp [hp]
  ·have hjl':¬ (j:Int)<l.length:=by omega
   have:j=l.length:=by omega
   subst this
   rw [List.take_length] at ha
   rw [ha] at hQ
   simp only [F.f3_l1,i64_lss,hjl',decide_false,stdZ,Nat.zero_add,Nat.add_zero,List.getElem?_cons_zero,List.getElem?_cons_succ,Bool.not_true,Bool.not_false,List.toList_toArray]
   exact hQ
end
end Go.AM
end
section
namespace Go.AM
set_option maxRecDepth 20000
section
variable {X:List Res} {E:Sy} {H0 H H' H'':AH} {Q:Value→AH→Prop} {w t s:Nat} {T T':Tr} {M M':List MntD} {nx nx' k:Int} {d:SetD} {v dv:Value} {l:SetL}
theorem SetAt.grew (h:SetAt H s d) (g:Grow zH H 1 v (setR l)) (hne:l=[]→v=nilS) {v':Value} (gr:Grew' H H' v v'):SetAt H' s d:=by
 obtain ⟨r1,r2,h1,h2,h3⟩:=h
 have hb:∀ b,blk v=some b→∃ cs f,H.get b = .cells cs f∧∃ n,cs[0]? = some (ptr n 0):=by
  intro b hb
  rcases g.2 with ⟨_,rfl⟩ | ⟨b',f,c,cs,_,rfl,q1,q2,q3,q4,_⟩
  ·simp [blk] at hb
  ·simp [blk] at hb
   subst hb
   refine ⟨cs,f,q1,?_⟩
   cases l with
   | nil=>have:=hne rfl; simp at this
   | cons x l =>
    refine ⟨x.1,?_⟩
    have:=congrArg (fun z=>z[0]?) q4
    simpa [setR,List.getElem?_take] using this
 have hm:∀ {r:Nat} {m:List (BitVec 16×BitVec 16)},MapAt u16 u16 H r m→H'.get r=H.get r:=fun {r m} hm=>by
  refine gr.1.get hm.lt fun hbl =>?_
  obtain ⟨cs,f,q,_⟩:=hb r (mem_blkL.1 hbl)
  obtain ⟨es,cl,hh,_⟩:=hm
  rw [q] at hh
  simp at hh
 have hs:H'.get s=H.get s:=by
  refine gr.1.get (AH.lt_cells h1) fun hbl =>?_
  obtain ⟨cs,f,q,n,q2⟩:=hb s (mem_blkL.1 hbl)
  rw [h1] at q
  simp only [AObj.cells.injEq] at q
  obtain ⟨q3,_⟩:=q
  rw [← q3] at q2
  simp [u16_def,ptr] at q2
 exact ⟨r1,r2,by rw [hs,h1],h2.keep (hm h2),h3.keep (hm h3)⟩
theorem S.f59 (hE:Fold E) (ht:WkAt H t T M) (wf:T.WF) (lt:T.LT) (v:Value) (rows:List (List Value)) (hv:Rows H 8 v rows) (hn:rows.length<2 ^ 63) (hsm:∀ r∈rows,∃ x:Small,SmallAt H x r)
  (hQ:∀ v l H',Ext H H'→l.length≤8→SetsAt H' v l→Q v H'):E.call (E.fid i.f59) [ptr t 0,v] H Q:=by
 apply hE.f59
 simp only [F.f59,hv.lenSlc,stdZ,Nat.zero_add,Nat.add_zero,List.getElem?_cons_zero,List.getElem?_cons_succ,Bool.not_true,Bool.not_false,List.toList_toArray]
 have i0:(.int .i64 0:Value)=vi ((0:Nat):Int):=rfl
 rw [i0]
 refine LoopL.count rows.length (fun j ls H'=>∃ u l,ls=[ptr t 0,u,v,vi rows.length,vi j]∧Ext H H'∧FreshV H.next u∧Grow zH H' 1 u (setR l)∧(l=[]→u=nilS)∧(∀ x∈l,SetAt H' x.1 x.2)∧l.length≤j∧l.length≤8) ?_
  ⟨nilS,[],rfl,Ext.refl _,by intro b hb; simp [blk] at hb,Grow.nil _ _ _,fun _=>rfl,by simp,by simp,by simp⟩
 rintro j _ H1 X hj hX ⟨u,l,rfl,e1,f1,g1,hne,hs,hlj,hl8⟩
 rcases Nat.lt_or_ge j rows.length with hjl | hjl
 rotate_left
 ·have hjl':¬ (j:Int)<rows.length:=by omega
  simp only [F.f59_l1,i64_lss,hjl',decide_false,stdZ,Nat.zero_add,Nat.add_zero,List.getElem?_cons_zero,List.getElem?_cons_succ,Bool.not_true,Bool.not_false,List.toList_toArray]
  exact hQ u l H1 e1 hl8 ⟨g1.toRows,hs⟩
 have hX:=hX hjl
 have hjl':(j:Int)<rows.length:=by omega
 have hjj:=i64_inc (i:=j) (by omega)
 obtain ⟨b,o,p1,p2⟩:=(hv.mono e1).ix hjl
 obtain ⟨x,hx⟩:=hsm _ (List.getElem_mem hjl)
 generalize rows[j]=cs at *
 have hlen:cs.length=8:=by
  obtain ⟨v,pv,rv,qv,rfl,_⟩:=hx
  rfl
 have hpl:cs.all plain1=true:=by
  obtain ⟨v,pv,rv,qv,rfl,h1,h2,h3,h4,_⟩:=hx
  have q1:plain1 v=true:=by obtain ⟨rows,h,_⟩:=h1; exact h.plain
  simp only [List.all_cons,List.all_nil,q1,h2.plain,h3.plain,h4.plain]; rfl
 have hx1:=hx.sub e1.sub
 have hlo:loadN 8 (ptr b o) H1=some (.agg cs.toArray):=by rw [loadN_ptr,p2]; rfl
 have hst:storeN 8 (ptr H1.next 0) (.agg cs.toArray) (H1.new (.cells [(.int .u8 0),(.int .u8 0),(.int .u8 0),(.slice none 0 0),(.int .u16 0),(.slice none 0 0),(.slice none 0 0),(.slice none 0 0)] none))=some (H1.new (.cells cs none)):=by
  rw [storeN_ptr,AH.get_new_self]
  have hsp:AM.splice [(.int .u8 0),(.int .u8 0),(.int .u8 0),(.slice none 0 0),(.int .u16 0),(.slice none 0 0),(.slice none 0 0),(.slice none 0 0)] 0 cs=cs:=by simp [splice,hlen]
  simp only [List.size_toArray,List.toList_toArray,hlen,hpl,List.length_cons,List.length_nil,Nat.zero_add,Nat.reduceAdd,Nat.le_refl,and_self,if_true,hsp,AH.new_put]
 have x2:Ext H1 (H1.new (.cells cs none)):=(Ext.refl _).new _
 have hlo2:loadN 8 (ptr H1.next 0) (H1.new (.cells cs none))=some (.agg cs.toArray):=by rw [loadN_ptr,AH.get_new_self,row_all _ _ 8 hlen]; rfl
 simp only [F.f59_l1,i64_lss,hjl',decide_true,p1,hlo,allocW_eq,hst,hlo2,stdZ,Nat.zero_add,Nat.add_zero,List.getElem?_cons_zero,List.getElem?_cons_succ,Bool.not_true,Bool.not_false,List.toList_toArray]
 refine S.f45 hE x cs (hx1.sub x2.sub) fun H3 cp e3 hp =>?_
 refine S.f41 hE fun H4 e4 =>?_
 have e14:=x2.trans (e3.trans e4)
 have hlp:=pathsTo_len x x.paths.length
 have hlq:=portsTo_len x x.ports.length
 have hpl:∀ b∈x.pol.paths,b.1.length<2 ^ 63:=by
  intro b hb
  have h1:=(pathsTo_ok x x.paths.length).2 b.1 (List.mem_map_of_mem hb)
  have:∀ y∈sdirs,y.length<2 ^ 63:=by decide
  exact this _ h1
 have skip:∀ H',Ext H1 H'→X [ptr t 0,u,v,vi rows.length,vi ((j+1:Nat):Int)] H':=fun H' e=>hX _ _ ⟨u,l,rfl,e1.trans e,f1,g1.ext e,hne,fun x hx=>(hs x hx).mono e,by omega,hl8⟩
 refine S.f88 hE (ht.mono (e1.trans e14)) wf lt x.pol cp (hp.mono e4) ⟨by show (x.pathsTo x.paths.length).length<_; omega,by show (x.portsTo x.ports.length).length<_; omega⟩ hpl ⟨0,1#16⟩ (fun hbad H5 e5 =>?_) fun hgood s H5 e5 _ hset =>?_
 ·by_cases h8:(j:Int)<8
  ·simp only [i64_lss,h8,decide_true,i64_eql,hbad,decide_false,hjj,stdZ,Nat.zero_add,Nat.add_zero,List.getElem?_cons_zero,List.getElem?_cons_succ,Bool.not_true,Bool.not_false,List.toList_toArray]
   exact skip _ (e14.trans e5)
  ·simp only [i64_lss,h8,decide_false,hjj,stdZ,Nat.zero_add,Nat.add_zero,List.getElem?_cons_zero,List.getElem?_cons_succ,Bool.not_true,Bool.not_false,List.toList_toArray]
   exact skip _ (e14.trans e5)
 ·by_cases h8:(j:Int)<8
  ·have e15:=e14.trans e5
   have g5:=g1.ext e15
   have hbS:buildS 1 1 #[(.pointer none)] [(0,ptr s 0)]=some (.cells [ptr s 0] none,mkSlc 1 1):=buildS_one 1 [.pointer none] [ptr s 0] rfl rfl
   obtain ⟨u',H6,a1,a2,a3⟩:=g5.app1 (bytes:=8) (Nat.zero_le _) [ptr s 0] rfl rfl (by decide) (by decide) (by rw [setR_length]; omega)
   obtain ⟨e6,f6⟩:=grew_ext a3 (e1.trans e15) f1
   simp only [i64_lss,h8,decide_true,i64_eql,hbS,a1,hjj,stdZ,Nat.zero_add,Nat.add_zero,List.getElem?_cons_zero,List.getElem?_cons_succ,Bool.not_true,Bool.not_false,List.toList_toArray]
   refine hX _ _ ⟨u',l++[(s,(x.pol.set T M ⟨0,1#16⟩).1)],rfl,e6,f6,by simpa [setR] using a2,by simp,fun y hy =>?_,by simp; omega,by simp; omega⟩
   rcases List.mem_append.1 hy with hy | hy
   ·exact ((hs y hy).mono e15).grew g5 hne a3
   ·simp only [List.mem_singleton] at hy
    subst hy
    exact hset.grew g5 hne a3
  ·simp only [i64_lss,h8,decide_false,hjj,stdZ,Nat.zero_add,Nat.add_zero,List.getElem?_cons_zero,List.getElem?_cons_succ,Bool.not_true,Bool.not_false,List.toList_toArray]
   exact skip _ (e14.trans e5)
theorem S.f58 (hE:Fold E) (h:SetsAt H v l) (hl:l.length≤16) (hQ:∀ dv H',Ext H H'→DomAt H' dv l→Q dv H'):E.call (E.fid i.f58) [v] H Q:=by
 apply hE.f58
 simp only [F.f58,h.len,stdZ,Nat.zero_add,Nat.add_zero,List.getElem?_cons_zero,List.getElem?_cons_succ,Bool.not_true,Bool.not_false,List.toList_toArray]
 have i0:(.int .i64 0:Value)=vi ((0:Nat):Int):=rfl
 rw [i0]
 refine LoopL.count l.length (fun j ls H'=>∃ dv,ls=[dv,v,vi l.length,vi j]∧Ext H H'∧DomAt H' dv (l.take j)) ?_ ⟨.pointer none,rfl,Ext.refl _,.inl ⟨rfl,by simp⟩⟩
 rintro j _ H1 X hj hX ⟨dv,rfl,e1,hd⟩
 rcases Nat.lt_or_ge j l.length with hjl | hjl
 ·have hX:=hX hjl
  have hjl':(j:Int)<l.length:=by omega
  have hjj:=i64_inc (i:=j) (by omega)
  obtain ⟨b,o,p1,p2,p3⟩:=(h.mono e1).elem hjl
  have htk:l.take (j+1)=l.take j++[l[j]]:=by rw [List.take_succ,List.getElem?_eq_getElem hjl]; rfl
  rw [htk] at hX
  have hlt:(l.take j).length=j:=by rw [List.length_take]; omega
  generalize l[j]=y at *
  simp only [F.f58_l1,i64_lss,hjl',decide_true,p1,p2,stdZ,Nat.zero_add,Nat.add_zero,List.getElem?_cons_zero,List.getElem?_cons_succ,Bool.not_true,Bool.not_false,List.toList_toArray]
  refine S.f5 hE hd p3 (by omega) (fun hb=>by omega) fun _ b' H2 e2 _ hd2 =>?_
  simp only [hjj,stdZ,Nat.zero_add,Nat.add_zero,List.getElem?_cons_zero,List.getElem?_cons_succ,Bool.not_true,Bool.not_false,List.toList_toArray]
  exact hX _ _ ⟨_,rfl,e1.trans e2,hd2⟩
 ·have hjl':¬ (j:Int)<l.length:=by omega
  rw [List.take_of_length_le hjl] at hd
  simp only [F.f58_l1,i64_lss,hjl',decide_false,stdZ,Nat.zero_add,Nat.add_zero,List.getElem?_cons_zero,List.getElem?_cons_succ,Bool.not_true,Bool.not_false,List.toList_toArray]
  exact hQ dv _ e1 hd
theorem granted_none (h n:BitVec 16) (ps:List (BitVec 16×BitVec 16)) (l:List PlaceD):(SetD.mk h [] ps).granted n l=0#16:=by
 unfold SetD.granted
 have h0:(SetD.mk h [] ps).at_ n=0#16:=rfl
 rw [h0]
 induction l with
 | nil=>rfl
 | cons p l ih =>
  rw [List.foldl_cons]
  have:(0#16|||(SetD.mk h [] ps).at_ p.i)=0#16:=by show (0#16|||0#16)=0#16; decide
  rw [this]
  exact ih
theorem SetL.two {l:SetL} {a b:SetD} (h:l.map Prod.snd=[a,b]) (want n:BitVec 16) (above:List PlaceD):domDenied l want n above=a.denied want n above|||b.denied want n above:=by
 match l,h with
 | [x,y],h =>
  simp only [List.map_cons,List.map_nil,List.cons.injEq,and_true] at h
  obtain ⟨rfl,rfl⟩:=h
  simp [domDenied]
def awkS (r:BitVec 16):Small:=⟨0#8,0#8,0#8,[],r,[],[],[]⟩
theorem S.f56 (hE:Fold E) (hQ:∀ H',Ext H H'→Q (vb true) H'):E.call (E.fid i.f56) [] H Q:=by
 apply hE.f56
 simp only [F.f56]
 refine S.f54 hE fun H1 e1 =>?_
 simp only [stdZ,Nat.zero_add,Nat.add_zero,List.getElem?_cons_zero,List.getElem?_cons_succ,Bool.not_true,Bool.not_false,List.toList_toArray]
 refine S.f106 hE 9 fun w H2 h2 =>?_
 have hbs:buildS 2 1 #[(.int .u16 0)] [(0,(.int .u16 4)),(1,(.int .u16 2))]=some (.cells [u16 4#16,u16 2#16] none,mkSlc 2 2):=buildS_full 2 1 [u16 0#16] [(0,u16 4#16),(1,u16 2#16)] [u16 4#16,u16 2#16] rfl rfl rfl rfl (by
  intro v hv
  simp only [List.mem_cons,List.not_mem_nil,or_false] at hv
  rcases hv with rfl | rfl <;> rfl)
 have l2:AM.lenSlc (slc H2.next 0 2 2)=some (vi ((2:Nat):Int)):=rfl
 have i0:(.int .i64 0:Value)=vi ((0:Nat):Int):=rfl
 simp only [hbs,l2,i0,stdZ,Nat.zero_add,Nat.add_zero,List.getElem?_cons_zero,List.getElem?_cons_succ,Bool.not_true,Bool.not_false,List.toList_toArray]
 have x3:Ext H2 (H2.new (.cells [u16 4#16,u16 2#16] none)):=(Ext.refl _).new _
 have hb3:=AH.get_new_self H2 (.cells [u16 4#16,u16 2#16] none)
 have h3:=h2.mono x3
 generalize H2.new (.cells [u16 4#16,u16 2#16] none)=H3 at *
 generalize H2.next=b at *
 let rs:List (BitVec 16):=[4#16,2#16]
 refine LoopL.count 2 (fun j ls H'=>∃ dv l,ls=[ptr w 0,dv,slc b 0 2 2,vi ((2:Nat):Int),vi j]∧Ext H3 H'∧DomAt H' dv l∧l.map Prod.snd=(rs.take j).map (fun r=>⟨r,[],[]⟩)) ?_ ⟨.pointer none,[],rfl,Ext.refl _,.inl ⟨rfl,rfl⟩,rfl⟩
 rintro j _ H4 X hj hX ⟨dv,l,rfl,e4,hd,hm⟩
 have h4:=h3.mono e4
 rcases Nat.lt_or_ge j 2 with hj2 | hj2
 ·have hX:=hX hj2
  have hjl':((j:Nat):Int)<((2:Nat):Int):=by omega
  have hjj:=i64_inc (i:=j) (by omega)
  have hll:l.length=j:=by
   have:=congrArg List.length hm
   simp [rs] at this
   omega
  obtain ⟨r,hr,p2⟩:∃ r:BitVec 16,rs[j]? = some r∧(ixSlc 1 (slc b 0 2 2) (vi j)=some (ptr b j)∧(H4.get b).cell j=some (u16 r)):=by
   rw [e4.cells hb3]
   match j,hj2 with
   | 0,_=>exact ⟨4#16,rfl,rfl,rfl⟩
   | 1,_=>exact ⟨2#16,rfl,rfl,rfl⟩
  have htk:rs.take (j+1)=rs.take j++[r]:=by rw [List.take_succ,hr]; rfl
  have hr2:(r&&&51199#16)=r:=by
   have:r∈rs:=List.mem_of_getElem? hr
   simp only [rs,List.mem_cons,List.not_mem_nil,or_false] at this
   rcases this with rfl | rfl <;> rfl
  have hbv:buildV [(0,1),(1,1),(2,1),(3,1),(4,1),(5,1),(6,1),(7,1)] #[(.int .u8 0),(.int .u8 0),(.int .u8 0),(.slice none 0 0),(.int .u16 0),(.slice none 0 0),(.slice none 0 0),(.slice none 0 0)] [(4,u16 r)]=some (.agg [u8 0#8,u8 0#8,u8 0#8,nilS,u16 r,nilS,nilS,nilS].toArray):=rfl
  have hsm:SmallAt H4 (awkS r) [u8 0#8,u8 0#8,u8 0#8,nilS,u16 r,nilS,nilS,nilS]:=⟨nilS,nilS,nilS,nilS,rfl,⟨[],Rows.nil _ _ none,rfl,fun i h=>by simp [awkS] at h⟩,Rows.nil _ _ none,Rows.nil _ _ none,Rows.nil _ _ none,by simp [awkS],by simp [awkS],by simp [awkS],by simp [awkS]⟩
  simp only [F.f56_l1,i64_lss,hjl',decide_true,p2.1,p2.2,hbv,stdZ,Nat.zero_add,Nat.add_zero,List.getElem?_cons_zero,List.getElem?_cons_succ,Bool.not_true,Bool.not_false,List.toList_toArray]
  refine S.f45 hE (awkS r) _ hsm fun H5 cp e5 hp =>?_
  refine S.f41 hE fun H6 e6 =>?_
  have h6:=(h4.mono e5).mono e6
  have hset:(PolX.set (Tr.new 9) tab0 ⟨0,1#16⟩ (awkS r).pol)=(⟨r,[],[]⟩,0):=by
   show (SetD.mk (r&&&51199#16) [] [],(0:Int))=_
   rw [hr2]
  refine S.f88 hE h6.at_ (Tr.new_wf 9) (Tr.KD.lt (Tr.KD.new 9)) (awkS r).pol cp (hp.mono e6) ⟨by show (0:Nat)<_; omega,by show (0:Nat)<_; omega⟩ (fun b hb=>by simp [awkS,Small.pol,Small.pathsTo] at hb) ⟨0,1#16⟩ (fun hbad=>by rw [hset] at hbad; exact (hbad rfl).elim) fun _ s H7 e7 _ hs =>?_
  rw [hset] at hs
  simp only [stdZ,Nat.zero_add,Nat.add_zero,List.getElem?_cons_zero,List.getElem?_cons_succ,Bool.not_true,Bool.not_false,List.toList_toArray]
  refine S.f5 hE (hd.mono (e5.trans (e6.trans e7))) hs (by omega) (fun hb=>by omega) fun _ b' H8 e8 _ hd8 =>?_
  simp only [hjj,stdZ,Nat.zero_add,Nat.add_zero,List.getElem?_cons_zero,List.getElem?_cons_succ,Bool.not_true,Bool.not_false,List.toList_toArray]
  refine hX _ _ ⟨_,l++[(s,⟨r,[],[]⟩)],rfl,e4.trans (e5.trans (e6.trans (e7.trans e8))),hd8,?_⟩
  rw [htk]
  simp [hm]
 ·have:j=2:=by omega
  subst this
  have hlt:¬ (((2:Nat):Int)<((2:Nat):Int)):=by omega
  have hm:l.map Prod.snd=[⟨4#16,[],[]⟩,⟨2#16,[],[]⟩]:=hm
  have hll:(l.length:Int)=2:=by
   have:=congrArg List.length hm
   simp at this
   omega
  simp only [F.f56_l1,i64_lss,hlt,decide_false,stdZ,Nat.zero_add,Nat.add_zero,List.getElem?_cons_zero,List.getElem?_cons_succ,Bool.not_true,Bool.not_false,List.toList_toArray]
  refine S.f2 hE hd ?_
  simp only [hll,i64_eql,decide_true,stdZ,Nat.zero_add,Nat.add_zero,List.getElem?_cons_zero,List.getElem?_cons_succ,Bool.not_true,Bool.not_false,List.toList_toArray]
  refine S.f41 hE fun H5 e5 =>?_
  have n7:(.int .u16 7:Value)=u16 7#16:=rfl
  have n1:(.int .u16 1:Value)=u16 1#16:=rfl
  have n6:(.int .u16 6:Value)=u16 6#16:=rfl
  simp only [n7,n1,stdZ,Nat.zero_add,Nat.add_zero,List.getElem?_cons_zero,List.getElem?_cons_succ,Bool.not_true,Bool.not_false,List.toList_toArray]
  refine S.f0 hE (hd.mono e5) (h4.mono e5).at_ tab0_atOk (by omega) 7#16 1#16 ⟨0,1#16⟩ fun H6 e6 =>?_
  have hden:domDenied l 7#16 1#16 (aboveW (Tr.new 9) tab0 ⟨0,1#16⟩)=6#16:=by
   rw [SetL.two hm]
   unfold SetD.denied
   rw [granted_none,granted_none]; rfl
  simp only [hden,n6,u16_eql,decide_true,stdZ,Nat.zero_add,Nat.add_zero,List.getElem?_cons_zero,List.getElem?_cons_succ,Bool.not_true,Bool.not_false,List.toList_toArray]
  exact hQ _ (e1.trans (h4.ext.trans (e5.trans e6)))
end
end Go.AM
end
section
namespace Go.AM
set_option maxRecDepth 20000
def hasR (a b:BitVec 16):Bool:=decide (b &&& ~~~ a=0#16)
def gainR (d:SetD) (n:BitVec 16) (dir:Bool) (A B:List PlaceD):BitVec 16:=((d.granted n B &&& ~~~ d.granted n A)&&&d.h)&&&fitsR dir 2047#16
def badS (d:SetD) (n:BitVec 16) (dir:Bool) (A B:List PlaceD):Bool := !(hasR d.h 512#16)||decide (d.denied 512#16 0#16 A≠0#16)||decide (d.denied 512#16 0#16 B≠0#16)||decide (gainR d n dir A B≠0#16)
def referE (T:Tr) (M:List MntD) (l:SetL) (n:BitVec 16) (a b:PlaceD):Int :=
 if l=[]∨a=b then 0 else if (T.node n).kind=0#8 then 2 else if l.any (fun x=>badS x.2 n (decide ((T.node n).kind=2#8)) (aboveW T M a) (aboveW T M b)) then 18 else 0
section
variable {X:List Res} {E:Sy} {H0 H H' H'':AH} {Q:Value→AH→Prop} {w t s:Nat} {T T':Tr} {M M':List MntD} {nx nx' k:Int} {d:SetD} {v dv:Value} {l:SetL}
theorem S.f87 (hE:Fold E) (a b:BitVec 16) (hQ:Q (vb (hasR a b)) H):E.call (E.fid i.f87) [u16 a,u16 b] H Q:=by
 apply hE.f87
 have n0:(.int .u16 0:Value)=u16 0#16:=rfl
 simp only [F.f87,u16_andNot,n0,u16_eql,stdZ,Nat.zero_add,Nat.add_zero,List.getElem?_cons_zero,List.getElem?_cons_succ,Bool.not_true,Bool.not_false,List.toList_toArray]
 exact hQ
theorem refer_l1 (hE:Fold E) (h3:SetsAt H v l) (hl:l.length<2 ^ 62) (n:BitVec 16) {kb:Nat} {kd:BitVec 8} (hk:∀ H',Ext H H'→(H'.get kb).cell 1=some (u8 kd)) {va vb:Value} {A B:List PlaceD} (ra:Rows H 2 va (placeR A)) (rb:Rows H 2 vb (placeR B)) (hA:A.length<2 ^ 62) (hB:B.length<2 ^ 62)
  (hQ:∀ H',Ext H H'→Q (vi (if l.any (fun x=>badS x.2 n (decide (kd=2#8)) A B) then 18 else 0)) H') :
  LoopL (fun l H X0=>F.f4_l1 E Q (nth l 0) (nth l 1) (nth l 2) (nth l 3) (nth l 4) (nth l 5) (nth l 6) H X0) [u16 n,ptr kb 0,va,vb,v,vi l.length,(.int .i64 0)] H:=by
 have i0:(.int .i64 0:Value)=vi ((0:Nat):Int):=rfl
 rw [i0]
 refine LoopL.count l.length (fun j ls H'=>ls=[u16 n,ptr kb 0,va,vb,v,vi l.length,vi j]∧Ext H H'∧(l.take j).any (fun x=>badS x.2 n (decide (kd=2#8)) A B)=false) ?_ ⟨rfl,Ext.refl _,rfl⟩
 rintro j _ H1 X hj hX ⟨rfl,e1,hno⟩
 rcases Nat.lt_or_ge j l.length with hjl | hjl
 rotate_left
 ·have hjl':¬ (j:Int)<l.length:=by omega
  rw [List.take_of_length_le hjl] at hno
  have hQ:=hQ _ e1
  rw [hno] at hQ
  simp only [F.f4_l1,i64_lss,hjl',decide_false,stdZ,Nat.zero_add,Nat.add_zero,List.getElem?_cons_zero,List.getElem?_cons_succ,Bool.not_true,Bool.not_false,List.toList_toArray]
  exact hQ
 have hX:=hX hjl
 have hjl':(j:Int)<l.length:=by omega
 have hjj:=i64_inc (i:=j) (by omega)
 obtain ⟨b',o',p1,p2,p3⟩:=(h3.mono e1).elem hjl
 have hyes:badS (l[j]).2 n (decide (kd=2#8)) A B=true→∀ H',Ext H1 H'→Q (vi 18) H':=fun hb H' e=>by
  have:=hQ H' (e1.trans e)
  rw [List.any_eq_true.2 ⟨l[j],List.getElem_mem hjl,hb⟩] at this
  exact this
 have hnot:badS (l[j]).2 n (decide (kd=2#8)) A B=false→∀ H',Ext H1 H'→X [u16 n,ptr kb 0,va,vb,v,vi l.length,vi ((j+1:Nat):Int)] H':=fun hb H' e=>by
  refine hX _ _ ⟨rfl,e1.trans e,?_⟩
  rw [List.take_succ,List.getElem?_eq_getElem hjl,List.any_append,hno]
  simp [hb]
 generalize l[j]=y at *
 have n512:(.int .u16 512:Value)=u16 512#16:=rfl
 have n0:(.int .u16 0:Value)=u16 0#16:=rfl
 have n2047:(.int .u16 2047:Value)=u16 2047#16:=rfl
 simp only [F.f4_l1,i64_lss,hjl',decide_true,p1,p2,stdZ,Nat.zero_add,Nat.add_zero,List.getElem?_cons_zero,List.getElem?_cons_succ,Bool.not_true,Bool.not_false,List.toList_toArray]
 refine S.f92 hE p3 ?_
 simp only [n512,stdZ,Nat.zero_add,Nat.add_zero,List.getElem?_cons_zero,List.getElem?_cons_succ,Bool.not_true,Bool.not_false,List.toList_toArray]
 refine S.f87 hE _ _ ?_
 unfold badS at hyes hnot
 cases hh:hasR y.2.h 512#16 with
 | false =>
  simp only [stdZ,Nat.zero_add,Nat.add_zero,List.getElem?_cons_zero,List.getElem?_cons_succ,Bool.not_true,Bool.not_false,List.toList_toArray]
  exact hyes (by simp [hh]) _ (Ext.refl _)
 | true =>
 simp only [n0,stdZ,Nat.zero_add,Nat.add_zero,List.getElem?_cons_zero,List.getElem?_cons_succ,Bool.not_true,Bool.not_false,List.toList_toArray]
 refine S.f90 hE p3 512#16 0#16 va A (ra.mono e1) (by omega) fun H2 e2 =>?_
 by_cases hd1:y.2.denied 512#16 0#16 A=0#16
 rotate_left
 ·simp only [n0,u16_neq,hd1,ne_eq,not_false_eq_true,decide_true,stdZ,Nat.zero_add,Nat.add_zero,List.getElem?_cons_zero,List.getElem?_cons_succ,Bool.not_true,Bool.not_false,List.toList_toArray]
  exact hyes (by simp [hd1]) _ e2
 simp only [n0,n512,u16_neq,hd1,ne_eq,not_true,decide_false,stdZ,Nat.zero_add,Nat.add_zero,List.getElem?_cons_zero,List.getElem?_cons_succ,Bool.not_true,Bool.not_false,List.toList_toArray]
 refine S.f90 hE (p3.mono e2) 512#16 0#16 vb B (rb.mono (e1.trans e2)) (by omega) fun H3 e3 =>?_
 by_cases hd2:y.2.denied 512#16 0#16 B=0#16
 rotate_left
 ·simp only [n0,u16_neq,hd2,ne_eq,not_false_eq_true,decide_true,stdZ,Nat.zero_add,Nat.add_zero,List.getElem?_cons_zero,List.getElem?_cons_succ,Bool.not_true,Bool.not_false,List.toList_toArray]
  exact hyes (by simp [hd2]) _ (e2.trans e3)
 have e13:=e2.trans e3
 have hkk:=hk H3 (e1.trans e13)
 have e2k:binInt .eql (u8 kd) (.int .u8 2)=some (AM.vb (decide (kd=2#8))):=u8_eql kd 2#8
 simp only [n0,n2047,u16_neq,hd2,ne_eq,not_true,decide_false,hkk,e2k,stdZ,Nat.zero_add,Nat.add_zero,List.getElem?_cons_zero,List.getElem?_cons_succ,Bool.not_true,Bool.not_false,List.toList_toArray]
 refine S.f86 hE _ _ ?_
 refine S.f91 hE (p3.mono e13) n vb B (rb.mono (e1.trans e13)) (by omega) fun H4 e4 =>?_
 have e14:=e13.trans e4
 refine S.f91 hE (p3.mono e14) n va A (ra.mono (e1.trans e14)) (by omega) fun H5 e5 =>?_
 have e15:=e14.trans e5
 simp only [u16_andNot,stdZ,Nat.zero_add,Nat.add_zero,List.getElem?_cons_zero,List.getElem?_cons_succ,Bool.not_true,Bool.not_false,List.toList_toArray]
 refine S.f92 hE (p3.mono e15) ?_
 by_cases hg:gainR y.2 n (decide (kd=2#8)) A B=0#16
 ·have hg':=hg
  unfold gainR at hg'
  simp only [u16_and,hg',n0,u16_neq,ne_eq,not_true,decide_false,hjj,stdZ,Nat.zero_add,Nat.add_zero,List.getElem?_cons_zero,List.getElem?_cons_succ,Bool.not_true,Bool.not_false,List.toList_toArray]
  exact hnot (by simp [hh,hd1,hd2,hg]) _ e15
 ·have hg':=hg
  unfold gainR at hg'
  simp only [u16_and,hg',n0,u16_neq,ne_eq,not_false_eq_true,decide_true,stdZ,Nat.zero_add,Nat.add_zero,List.getElem?_cons_zero,List.getElem?_cons_succ,Bool.not_true,Bool.not_false,List.toList_toArray]
  exact hyes (by simp [hg]) _ e15
theorem S.f4 (hE:Fold E) (h:DomAt H dv l) (ht:WkAt H t T M) (ao:AtOk T M) (hl:l.length<2 ^ 62) (n:BitVec 16) (a b:PlaceD) (hQ:∀ H',Ext H H'→Q (vi (referE T M l n a b)) H'):E.call (E.fid i.f4) [dv,ptr t 0,u16 n,a.v,b.v] H Q:=by
 apply hE.f4
 have x1:Ext H (H.new (.cells a.cells none)):=(Ext.refl H).new _
 have x2:Ext H ((H.new (.cells a.cells none)).new (.cells b.cells none)):=x1.new _
 have hb1:((H.new (.cells a.cells none)).new (.cells b.cells none)).get H.next = .cells a.cells none:=by simp [AH.get_new]
 have hb2:((H.new (.cells a.cells none)).new (.cells b.cells none)).get (H.next+1) = .cells b.cells none:=by simp [AH.get_new]
 simp only [F.f4,stdZ,Nat.zero_add,Nat.add_zero,List.getElem?_cons_zero,List.getElem?_cons_succ,Bool.not_true,Bool.not_false,List.toList_toArray]
 have h1:=h.mono x2
 have ht1:=ht.mono x2
 generalize (H.new (.cells a.cells none)).new (.cells b.cells none)=H1 at *
 have lo1:∀ {H'},Ext H1 H'→loadN 2 (ptr H.next 0) H'=some a.v:=fun e=>by rw [loadN_ptr,e.cells hb1]; rfl
 have lo2:∀ {H'},Ext H1 H'→loadN 2 (ptr (H.next+1) 0) H'=some b.v:=fun e=>by rw [loadN_ptr,e.cells hb2]; rfl
 refine S.f2 hE h1 ?_
 unfold referE at hQ
 by_cases h0:l=[]
 ·subst h0
  rw [if_pos (.inl rfl)] at hQ
  simp only [i64_eql,List.length_nil,Int.ofNat_zero,Int.natCast_zero,decide_true,stdZ,Nat.zero_add,Nat.add_zero,List.getElem?_cons_zero,List.getElem?_cons_succ,Bool.not_true,Bool.not_false,List.toList_toArray]
  exact hQ _ x2
 have h0':¬ (l.length:Int)=0:=by
  have:=List.length_pos_iff.2 h0
  omega
 simp only [i64_eql,h0',decide_false,lo1 (Ext.refl _),lo2 (Ext.refl _),place_agg,stdZ,Nat.zero_add,Nat.add_zero,List.getElem?_cons_zero,List.getElem?_cons_succ,Bool.not_true,Bool.not_false,List.toList_toArray]
 by_cases hab:a=b
 ·rw [if_pos (.inr hab)] at hQ
  simp only [hab,decide_true,stdZ,Nat.zero_add,Nat.add_zero,List.getElem?_cons_zero,List.getElem?_cons_succ,Bool.not_true,Bool.not_false,List.toList_toArray]
  exact hQ _ x2
 rw [if_neg (by rintro (h | h); exact h0 h; exact hab h)] at hQ
 obtain ⟨⟨p,m,L,q,nx',q1,q2,q3⟩,ho⟩:=ht1
 simp only [hab,decide_false,q1,stdZ,Nat.zero_add,Nat.add_zero,List.getElem?_cons_zero,List.getElem?_cons_succ,Bool.not_true,Bool.not_false,List.toList_toArray]
 refine S.f12 hE q2 n ?_
 rcases q2.get n with ⟨k0,_⟩ | ⟨kk,yy,k0,k1,k2,k3,k4⟩
 ·rw [if_pos k0] at hQ
  simp only [nodeP_none q2.cov k0,nilD,stdZ,Nat.zero_add,Nat.add_zero,List.getElem?_cons_zero,List.getElem?_cons_succ,Bool.not_true,Bool.not_false,List.toList_toArray]
  exact hQ _ x2
 rw [if_neg k0] at hQ
 have ht1:WkAt H1 t T M:=⟨⟨p,m,L,q,nx',q1,q2,q3⟩,ho⟩
 simp only [nodeP_some q2.cov.nd k1,nilq_p,lo1 (Ext.refl _),lo2 (Ext.refl _),stdZ,Nat.zero_add,Nat.add_zero,List.getElem?_cons_zero,List.getElem?_cons_succ,Bool.not_true,Bool.not_false,List.toList_toArray]
 refine S.f107 hE ht1 ao a fun va H2 e2 ra =>?_
 refine ⟨(lo2 e2).trans (lo2 (Ext.refl _)).symm,?_⟩
 refine S.f107 hE (ht1.mono e2) ao b fun vb H3 e3 rb =>?_
 have e13:=e2.trans e3
 rcases h1.mono e13 with ⟨_,rfl⟩ | ⟨bb,sv,rfl,g2,g3⟩
 ·exact (h0 rfl).elim
 simp only [g2,g3.len,stdZ,Nat.zero_add,Nat.add_zero,List.getElem?_cons_zero,List.getElem?_cons_succ,Bool.not_true,Bool.not_false,List.toList_toArray]
 rw [nodeP_some q2.cov.nd k1]
 refine refer_l1 hE g3 hl n (kd:=(T.node n).kind) (fun H' e =>?_) (ra.mono e3) rb (by have:=aboveW_len T M a; omega) (by have:=aboveW_len T M b; omega) fun H' e=>hQ _ (x2.trans (e13.trans e))
 rw [(e13.trans e).cells k3]
 rfl
end
end Go.AM
end
section
namespace Go.AM
set_option maxRecDepth 20000
section
variable {X:List Res} {E:Sy} {H0 H H' H'':AH} {Q:Value→AH→Prop} {w t s:Nat} {T T':Tr} {M M':List MntD} {nx nx' k:Int} {d:SetD} {v dv:Value} {l:SetL}
theorem ArgSV.smalls {H:AH} {v:Value} (h:ArgSV H (.slice 8 smallSh) v):∃ rows,Rows H 8 v rows∧rows.length<2 ^ 63∧∀ r∈rows,∃ x:Small,SmallAt H x r:=by
 obtain ⟨w,rows,e,h1,h2,h3⟩:=(show SV H (.slice 8 smallSh) [v] from h)
 obtain rfl:v=w:=by simpa using e
 exact ⟨rows,h1,by omega,fun r hr=>SV.small (h3 r hr)⟩
end
end Go.AM
end
section
namespace Go.AM
set_option maxRecDepth 20000
theorem domDenied_bit (l:SetL) (want n:BitVec 16) (A:List PlaceD) (i:Nat):(domDenied l want n A).getLsbD i=l.any fun x=>(x.2.denied want n A).getLsbD i:=by
 unfold domDenied
 have:∀ (l:SetL) (r:BitVec 16),(l.foldl (fun r x=>r|||x.2.denied want n A) r).getLsbD i=(r.getLsbD i||l.any fun x=>(x.2.denied want n A).getLsbD i):=by
  intro l
  induction l with
  | nil=>intro r; simp
  | cons x l ih=>intro r; rw [List.foldl_cons,ih]; simp [Bool.or_assoc]
 rw [this]
 simp
theorem domDenied_same {l l':SetL} (h:∀ p:Nat×SetD→Bool,l.any p=l'.any p) (want n:BitVec 16) (A:List PlaceD):domDenied l want n A=domDenied l' want n A:=by
 apply BitVec.eq_of_getLsbD_eq
 intro i _
 rw [domDenied_bit,domDenied_bit,h]
theorem any_same_nil {l l':SetL} (h:∀ p:Nat×SetD→Bool,l.any p=l'.any p):l=[]↔l'=[]:=by
 have:=h fun _=>true
 cases l <;> cases l' <;> simp at this ⊢
theorem referE_same {T:Tr} {M:List MntD} {l l':SetL} (h:∀ p:Nat×SetD→Bool,l.any p=l'.any p) (n:BitVec 16) (a b:PlaceD):referE T M l n a b=referE T M l' n a b:=by
 unfold referE
 have h1:=any_same_nil h
 simp only [h1,h]
theorem all_same {l l':SetL} (h:∀ p:Nat×SetD→Bool,l.any p=l'.any p) (p:Nat×SetD→Bool):l.all p=l'.all p:=by
 rw [List.all_eq_not_any_not,List.all_eq_not_any_not,h]
theorem any_reverse (l:SetL) (p:Nat×SetD→Bool):l.any p=l.reverse.any p:=by simp
theorem any_twice (l:SetL) (p:Nat×SetD→Bool):l.any p=(l++l.reverse).any p:=by simp
section
variable {X:List Res} {E:Sy} {H0 H H' H'':AH} {Q:Value→AH→Prop} {w t s:Nat} {T T':Tr} {M M':List MntD} {nx nx' k:Int} {d:SetD} {v dv:Value} {l:SetL}
theorem order_l2 (hE:Fold E) {da db dc:Value} {la lb lc:SetL} (ha:DomAt H da la) (hb:DomAt H db lb) (hc:DomAt H dc lc) (ht:WkAt H t T M) (ao:AtOk T M) (ll:la.length<2 ^ 62∧lb.length<2 ^ 62∧lc.length<2 ^ 62)
  (sb:∀ p:Nat×SetD→Bool,la.any p=lb.any p) (sc:∀ p:Nat×SetD→Bool,la.any p=lc.any p) (want:BitVec 16) (n to:BitVec 8) (number:BitVec 16) (hQ:∀ H',Q (vb true) H') :
  LoopL (fun l H X0=>F.f57_l2 E Q (nth l 0) (nth l 1) (nth l 2) (nth l 3) (nth l 4) (nth l 5) (nth l 6) (nth l 7) (nth l 8) H X0) [u16 want,u8 n,u8 to,u16 number,ptr t 0,da,db,dc,(.int .u16 0)] H:=by
 have n0:(.int .u16 0:Value)=u16 (BitVec.ofNat 16 0):=rfl
 rw [n0]
 refine LoopL.count 9 (fun m ls H'=>ls=[u16 want,u8 n,u8 to,u16 number,ptr t 0,da,db,dc,u16 (BitVec.ofNat 16 m)]∧Ext H H') ?_ ⟨rfl,Ext.refl _⟩
 rintro m _ H1 X hm hX ⟨rfl,e1⟩
 have n9:(.int .u16 9:Value)=u16 9#16:=rfl
 have n80:(.int .u16 80:Value)=u16 80#16:=rfl
 have n1:(.int .u16 1:Value)=u16 1#16:=rfl
 have hmm:(BitVec.ofNat 16 m).toNat=m:=by rw [BitVec.toNat_ofNat,Nat.mod_eq_of_lt (by omega)]
 have hbe:∀ a:Bool,binBool .eql (vb a) (vb a)=some (vb true):=fun a=>by cases a <;> rfl
 rcases Nat.lt_or_ge m 9 with hm9 | hm9
 rotate_left
 ·have hlt:¬ ((BitVec.ofNat 16 m).toNat<(9#16).toNat):=by rw [hmm]; simp; omega
  simp only [F.f57_l2,n9,u16_lss,hlt,decide_false,stdZ,Nat.zero_add,Nat.add_zero,List.getElem?_cons_zero,List.getElem?_cons_succ,Bool.not_true,Bool.not_false,List.toList_toArray]
  refine S.f3 hE (ha.mono e1) ll.1 want number ?_
  refine S.f3 hE (hb.mono e1) ll.2.1 want number ?_
  rw [all_same sb]
  simp only [hbe,n80,stdZ,Nat.zero_add,Nat.add_zero,List.getElem?_cons_zero,List.getElem?_cons_succ,Bool.not_true,Bool.not_false,List.toList_toArray]
  refine S.f3 hE (ha.mono e1) ll.1 want 80#16 ?_
  simp only [n80,stdZ,Nat.zero_add,Nat.add_zero,List.getElem?_cons_zero,List.getElem?_cons_succ,Bool.not_true,Bool.not_false,List.toList_toArray]
  refine S.f3 hE (hc.mono e1) ll.2.2 want 80#16 ?_
  rw [all_same sc]
  simp only [hbe,stdZ,Nat.zero_add,Nat.add_zero,List.getElem?_cons_zero,List.getElem?_cons_succ,Bool.not_true,Bool.not_false,List.toList_toArray]
  exact hQ _
 have hX:=hX hm9
 have hlt:(BitVec.ofNat 16 m).toNat<(9#16).toNat:=by rw [hmm]; simp; omega
 have hadd:BitVec.ofNat 16 m+1#16=BitVec.ofNat 16 (m+1):=by apply BitVec.eq_of_toNat_eq; simp
 rw [← hadd] at hX
 generalize BitVec.ofNat 16 m=mv at *
 have r9:∀ x:BitVec 8,binInt .rem (u8 x) (.int .u8 9)=some (u8 (x % 9#8)):=fun x=>u8_rem _ 9#8 (by decide)
 generalize hA:PlaceD.mk 0 ((n % 9#8).setWidth 16)=a
 generalize hB:PlaceD.mk 0 ((to % 9#8).setWidth 16)=b
 have hz2:([(.int .i64 0),(.int .u16 0)]:List Value)=PlaceD.zero.cells:=rfl
 have hbv1:buildV [(0,1),(1,1)] PlaceD.zero.cells.toArray [(1,u16 ((n % 9#8).setWidth 16))]=some a.v:=by subst hA; rfl
 have hbv2:buildV [(0,1),(1,1)] PlaceD.zero.cells.toArray [(1,u16 ((to % 9#8).setWidth 16))]=some b.v:=by subst hB; rfl
 have hst1:storeN 2 (ptr H1.next 0) a.v (H1.new (.cells PlaceD.zero.cells none))=some (H1.new (.cells a.cells none)):=two_store rfl rfl rfl
 have x2:Ext H1 (H1.new (.cells a.cells none)):=(Ext.refl _).new _
 have hb2:=AH.get_new_self H1 (.cells a.cells none)
 simp only [F.f57_l2,n9,u16_lss,hlt,decide_true,r9,u8_to_u16,hz2,hbv1,hbv2,allocW_eq,hst1,stdZ,Nat.zero_add,Nat.add_zero,List.getElem?_cons_zero,List.getElem?_cons_succ,Bool.not_true,Bool.not_false,List.toList_toArray]
 have hn2:(H1.new (.cells a.cells none)).next=H1.next+1:=AH.next_new _ _
 generalize H1.new (.cells a.cells none)=H2 at *
 generalize H1.next=ba at *
 have hst2:storeN 2 (ptr H2.next 0) b.v (H2.new (.cells PlaceD.zero.cells none))=some (H2.new (.cells b.cells none)):=two_store rfl rfl rfl
 have x3:Ext H2 (H2.new (.cells b.cells none)):=(Ext.refl _).new _
 have hb3:=AH.get_new_self H2 (.cells b.cells none)
 rw [hn2] at hst2
 simp only [hst2,stdZ,Nat.zero_add,Nat.add_zero,List.getElem?_cons_zero,List.getElem?_cons_succ,Bool.not_true,Bool.not_false,List.toList_toArray]
 generalize H2.new (.cells b.cells none)=H3 at *
 have e13:=e1.trans (x2.trans x3)
 have hA3:∀ {H'},Ext H3 H'→loadN 2 (ptr ba 0) H'=some a.v:=fun e=>by rw [loadN_ptr,e.cells (x3.cells hb2)]; rfl
 have hB3:∀ {H'},Ext H3 H'→loadN 2 (ptr H2.next 0) H'=some b.v:=fun e=>by rw [loadN_ptr,e.cells hb3]; rfl
 simp only [hA3 (Ext.refl _),stdZ,Nat.zero_add,Nat.add_zero,List.getElem?_cons_zero,List.getElem?_cons_succ,Bool.not_true,Bool.not_false,List.toList_toArray]
 refine S.f0 hE (ha.mono e13) (ht.mono e13) ao ll.1 want mv a fun H4 e4 =>?_
 simp only [hA3 e4,stdZ,Nat.zero_add,Nat.add_zero,List.getElem?_cons_zero,List.getElem?_cons_succ,Bool.not_true,Bool.not_false,List.toList_toArray]
 have e14:=e13.trans e4
 refine S.f0 hE (hb.mono e14) (ht.mono e14) ao ll.2.1 want mv a fun H5 e5 =>?_
 have e15:=e14.trans e5
 have f5:=e4.trans e5
 rw [domDenied_same sb]
 simp only [u16_neq,ne_eq,not_true,decide_false,hA3 f5,stdZ,Nat.zero_add,Nat.add_zero,List.getElem?_cons_zero,List.getElem?_cons_succ,Bool.not_true,Bool.not_false,List.toList_toArray]
 refine S.f0 hE (hc.mono e15) (ht.mono e15) ao ll.2.2 want mv a fun H6 e6 =>?_
 have e16:=e15.trans e6
 have f6:=f5.trans e6
 rw [← domDenied_same sb,domDenied_same sc]
 simp only [u16_neq,ne_eq,not_true,decide_false,hA3 f6,hB3 f6,stdZ,Nat.zero_add,Nat.add_zero,List.getElem?_cons_zero,List.getElem?_cons_succ,Bool.not_true,Bool.not_false,List.toList_toArray]
 refine S.f4 hE (ha.mono e16) (ht.mono e16) ao ll.1 mv a b fun H7 e7 =>?_
 have e17:=e16.trans e7
 have f7:=f6.trans e7
 simp only [hA3 f7,hB3 f7,stdZ,Nat.zero_add,Nat.add_zero,List.getElem?_cons_zero,List.getElem?_cons_succ,Bool.not_true,Bool.not_false,List.toList_toArray]
 refine S.f4 hE (hb.mono e17) (ht.mono e17) ao ll.2.1 mv a b fun H8 e8 =>?_
 have e18:=e17.trans e8
 have f8:=f7.trans e8
 rw [referE_same sb]
 simp only [i64_neq,ne_eq,not_true,decide_false,hA3 f8,hB3 f8,stdZ,Nat.zero_add,Nat.add_zero,List.getElem?_cons_zero,List.getElem?_cons_succ,Bool.not_true,Bool.not_false,List.toList_toArray]
 refine S.f4 hE (hc.mono e18) (ht.mono e18) ao ll.2.2 mv a b fun H9 e9 =>?_
 rw [← referE_same sb,referE_same sc]
 simp only [i64_neq,ne_eq,not_true,decide_false,n1,u16_add,stdZ,Nat.zero_add,Nat.add_zero,List.getElem?_cons_zero,List.getElem?_cons_succ,Bool.not_true,Bool.not_false,List.toList_toArray]
 exact hX _ _ ⟨rfl,e18.trans e9⟩
theorem S.f57 (hE:Fold E) (av:Value) (acts:List GActD) (hv:Rows H 14 av (acts.map GActD.cells)) (hll:acts.length≤9223372036854775807) (hok:∀ x∈acts,x.act.ok H) (sv:Value) (rows:List (List Value)) (hsv:Rows H 8 sv rows) (hsn:rows.length<2 ^ 63) (hsm:∀ r∈rows,∃ x:Small,SmallAt H x r)
  (want:BitVec 16) (n to:BitVec 8) (number:BitVec 16) (hQ:∀ H',Q (vb true) H'):E.call (E.fid i.f57) [av,sv,u16 want,u8 n,u8 to,u16 number] H Q:=by
 apply hE.f57
 simp only [F.f57,stdZ,Nat.zero_add,Nat.add_zero,List.getElem?_cons_zero,List.getElem?_cons_succ,Bool.not_true,Bool.not_false,List.toList_toArray]
 refine S.f56 hE fun H1 e1 =>?_
 simp only [stdZ,Nat.zero_add,Nat.add_zero,List.getElem?_cons_zero,List.getElem?_cons_succ,Bool.not_true,Bool.not_false,List.toList_toArray]
 refine S.f51 hE av acts (hv.mono e1) hll (fun x hx=>(hok x hx).mono e1) fun H2 e2 =>?_
 have e12:=e1.trans e2
 cases hl:lightL acts with
 | false =>
  simp only [stdZ,Nat.zero_add,Nat.add_zero,List.getElem?_cons_zero,List.getElem?_cons_succ,Bool.not_true,Bool.not_false,List.toList_toArray]
  exact hQ _
 | true =>
 simp only [stdZ,Nat.zero_add,Nat.add_zero,List.getElem?_cons_zero,List.getElem?_cons_succ,Bool.not_true,Bool.not_false,List.toList_toArray]
 refine S.f55 hE av acts (hv.mono e12) hll (fun x hx=>(hok x hx).mono e12) hl fun w t T M nx H3 h3 g =>?_
 have e13:=e12.trans h3.ext
 simp only [stdZ,Nat.zero_add,Nat.add_zero,List.getElem?_cons_zero,List.getElem?_cons_succ,Bool.not_true,Bool.not_false,List.toList_toArray]
 refine S.f59 hE h3.at_ g.wf (Tr.KD.lt g.kd) sv rows (hsv.mono e13) hsn (fun r hr=>by obtain ⟨x,hx⟩:=hsm r hr; exact ⟨x,hx.sub e13.sub⟩) fun v l H4 e4 hl8 hs4 =>?_
 have ht4:=(h3.mono e4).at_
 have g0:Has H4 H4 H4 [growR 1 nilS [],growR 1 nilS []]:=((Has.start (Ext.refl H4)).nils 1).nils 1
 have i0:(.int .i64 0:Value)=vi ((0:Nat):Int):=rfl
 simp only [hs4.len,i0,stdZ,Nat.zero_add,Nat.add_zero,List.getElem?_cons_zero,List.getElem?_cons_succ,Bool.not_true,Bool.not_false,List.toList_toArray]
 refine LoopL.count l.length (fun j ls H'=>∃ u,ls=[u16 want,u8 n,u8 to,u16 number,ptr w 0,v,u,nilS,vi l.length,vi j]∧Has H4 H4 H' [growR 1 u (setR (l.reverse.take j)),growR 1 nilS []]) ?_ ⟨nilS,rfl,g0⟩
 rintro j _ H5 X hj hX ⟨u,rfl,g5⟩
 have hs5:=hs4.mono g5.ext
 rcases Nat.lt_or_ge j l.length with hjl | hjl
 ·have hX:=hX hjl
  have hjl':(j:Int)<l.length:=by omega
  have hjj:=i64_inc (i:=j) (by omega)
  have s1:binInt .sub (vi l.length) (vi 1)=some (vi ((l.length - 1:Nat):Int)):=by
   rw [i64_sub (by omega) (by omega)]; congr 2; omega
  have s2:binInt .sub (vi ((l.length - 1:Nat):Int)) (vi j)=some (vi ((l.length - 1 - j:Nat):Int)):=by
   rw [i64_sub (by omega) (by omega)]; congr 2; omega
  obtain ⟨b,o,p1,p2,p3⟩:=hs5.elem (i:=l.length - 1 - j) (by omega)
  have htk:l.reverse.take (j+1)=l.reverse.take j++[l[l.length - 1 - j]]:=by
   rw [List.take_succ,List.getElem?_reverse hjl,List.getElem?_eq_getElem (by omega)]; rfl
  rw [htk] at hX
  generalize l[l.length - 1 - j]=y at *
  have hbS:buildS 1 1 #[(.pointer none)] [(0,ptr y.1 0)]=some (.cells [ptr y.1 0] none,mkSlc 1 1):=buildS_one 1 [.pointer none] [ptr y.1 0] rfl rfl
  obtain ⟨u',H6,a1,a2,g6⟩:=g5.app1 (k:=0) (bytes:=8) rfl [ptr y.1 0] rfl rfl (by decide) (by decide) (by rw [setR_length,List.length_take]; omega)
  have hs:∀ l:SetL,setR l++[[ptr y.1 0]]=setR (l++[y]):=fun l=>by simp [setR]
  rw [hs] at g6
  simp only [F.f57_l1,i64_lss,hjl',decide_true,hs5.len,s1,s2,p1,p2,hbS,a1,hjj,stdZ,Nat.zero_add,Nat.add_zero,List.getElem?_cons_zero,List.getElem?_cons_succ,Bool.not_true,Bool.not_false,List.toList_toArray]
  exact hX _ _ ⟨u',rfl,g6⟩
 ·have hjl':¬ (j:Int)<l.length:=by omega
  rw [List.take_of_length_le (by simpa using hjl)] at g5
  obtain ⟨u1,H6,a1,_,g6⟩:=g5.app (k:=1) (bytes:=8) rfl hs5.rows (setR_plain l) (by decide) (by decide) (by rw [setR_length]; simp; omega) (by rw [setR_length]; simp; omega)
  rw [List.nil_append] at g6
  have g6:Has H4 H4 H6 [growR 1 u (setR l.reverse),growR 1 u1 (setR l)]:=g6
  obtain ⟨u2,H7,b1,_,g7⟩:=g6.app (k:=1) (bytes:=8) rfl (g6.rows (k:=0) rfl) (setR_plain _) (by decide) (by decide) (by rw [setR_length,setR_length]; simp; omega) (by rw [setR_length,setR_length]; simp; omega)
  have hs:setR l++setR l.reverse=setR (l++l.reverse):=by simp [setR]
  rw [hs] at g7
  have g7:Has H4 H4 H7 [growR 1 u (setR l.reverse),growR 1 u2 (setR (l++l.reverse))]:=g7
  have hs7:=hs4.mono g7.ext
  have sr:SetsAt H7 u l.reverse:=⟨g7.rows (k:=0) rfl,fun x hx=>hs7.sets x (List.mem_reverse.1 hx)⟩
  have st:SetsAt H7 u2 (l++l.reverse):=⟨g7.rows (k:=1) rfl,fun x hx=>hs7.sets x (by simpa using hx)⟩
  simp only [F.f57_l1,i64_lss,hjl',decide_false,a1,b1,stdZ,Nat.zero_add,Nat.add_zero,List.getElem?_cons_zero,List.getElem?_cons_succ,Bool.not_true,Bool.not_false,List.toList_toArray]
  refine S.f58 hE hs7 (by omega) fun da H8 e8 ha =>?_
  refine S.f58 hE (sr.mono e8) (by rw [List.length_reverse]; omega) fun db H9 e9 hb =>?_
  refine S.f58 hE (st.mono (e8.trans e9)) (by rw [List.length_append,List.length_reverse]; omega) fun dc H10 e10 hc =>?_
  refine order_l2 hE (ha.mono (e9.trans e10)) (hb.mono e10) hc (ht4.mono (g7.ext.trans (e8.trans (e9.trans e10)))) g.atOk ⟨by omega,by rw [List.length_reverse]; omega,by rw [List.length_append,List.length_reverse]; omega⟩ (any_reverse l) (any_twice l) want n to number hQ
theorem S.law_DomainOrder (hE:Fold E) (args:List Value) (ha:ArgsSV H [.slice 14 gactSh,.slice 8 smallSh,.int .u16,.int .u8,.int .u8,.int .u16] args) (hQ:∀ H',Q (vb true) H'):E.call (E.fid i.f57) args H Q:=by
 obtain ⟨v1,_,rfl,h1,ha⟩:=ha.cons_inv
 obtain ⟨v2,_,rfl,h2,ha⟩:=ha.cons_inv
 obtain ⟨v3,_,rfl,h3,ha⟩:=ha.cons_inv
 obtain ⟨v4,_,rfl,h4,ha⟩:=ha.cons_inv
 obtain ⟨v5,_,rfl,h5,ha⟩:=ha.cons_inv
 obtain ⟨v6,_,rfl,h6,ha⟩:=ha.cons_inv
 obtain rfl:=ha.nil_inv
 obtain ⟨l,q1,q2,q3⟩:=ArgSV.gacts h1
 obtain ⟨rows,r1,r2,r3⟩:=ArgSV.smalls h2
 obtain ⟨x3,rfl⟩:=h3.u16
 obtain ⟨x4,rfl⟩:=h4.u8
 obtain ⟨x5,rfl⟩:=h5.u8
 obtain ⟨x6,rfl⟩:=h6.u16
 exact S.f57 hE v1 l q1 q2 q3 v2 rows r1 r2 r3 x3 x4 x5 x6 hQ
end
end Go.AM
end
