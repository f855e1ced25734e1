/- CONTRACTS ON THE PRINTED FUNCTIONS. -/
import Derived.Test.YtdionecknmcdhaaGreatDoorW2139C1
set_option linter.all false
section
namespace Go.AM
def Tr.dead (T:Tr) (n:BitVec 16):Prop:=(T.node n).kind=2#8/\(T.node n).links=0
structure Tr.Order (T:Tr):Prop where
 rank:∃ (r:BitVec 16->Nat) (B:Nat),(∀ n,r n<B)/\∀ n,T.dead n->T.dead (T.node n).parent->r n<r (T.node n).parent
 par:∀ n,(T.node n).kind≠2#8->(T.node n).parent=0#16
def Tr.DAt (T T':Tr) (n:BitVec 16):Prop:=(T'.dead n->(T'.node n).parent=(T.node n).parent/\(T.dead n\/¬ T'.dead (T'.node n).parent))/\((T'.node n).kind≠2#8->(T'.node n).parent=0#16\/((T.node n).kind≠2#8/\(T'.node n).parent=(T.node n).parent))
def Tr.DStep (T T':Tr):Prop:=∀ n,T.DAt T' n
section
variable {T T' T'':Tr}
open Classical in
theorem Tr.Order.step (h:T.Order) (d:T.DStep T'):T'.Order:=by
 obtain ⟨r,B,hr,ho⟩:=h.rank
 refine ⟨⟨fun n=>if T.dead n then r n else B,B+1,fun n =>?_,fun n hn hp =>?_⟩,fun n hk =>?_⟩
 ·have:=hr n
  simp only
  split <;> omega
 ·obtain ⟨e,h1⟩:=(d n).1 hn
  rcases h1 with h1 | h1
  ·simp only [if_pos h1]
   split
   ·rename_i h2
    rw [e] at h2 ⊢
    exact ho n h1 h2
   ·exact hr n
  ·exact (h1 hp).elim
 ·rcases (d n).2 hk with e | ⟨a,b⟩
  ·exact e
  ·rw [b]; exact h.par n a
theorem Tr.DAt.same {n:BitVec 16} (h1:(T'.node n).kind=(T.node n).kind) (h2:(T'.node n).parent=(T.node n).parent) (h3:(T'.node n).links=(T.node n).links):T.DAt T' n :=
 ⟨fun h=>⟨h2,.inl ⟨by rw [<- h1]; exact h.1,by rw [<- h3]; exact h.2⟩⟩,fun h => .inr ⟨by rw [<- h1]; exact h,h2⟩⟩
theorem Tr.DAt.none {n:BitVec 16} (h:T'.node n=Nd.none):T.DAt T' n :=
 ⟨fun hd=>by have:=hd.1; rw [h] at this; simp [Nd.none] at this,fun _ => .inl (by rw [h]; rfl)⟩
theorem Tr.DAt.file {n:BitVec 16} (h:(T'.node n).kind≠2#8) (h1:(T.node n).kind≠2#8) (h2:(T'.node n).parent=(T.node n).parent):T.DAt T' n :=
 ⟨fun hd=>(h hd.1).elim,fun _ => .inr ⟨h1,h2⟩⟩
theorem Tr.DAt.live {n:BitVec 16} (h:(T'.node n).kind=2#8) (h1:(T'.node n).links≠0):T.DAt T' n :=
 ⟨fun hd=>(h1 hd.2).elim,fun hk=>(hk h).elim⟩
theorem Tr.DStep.refl:T.DStep T:=fun _ => .same rfl rfl rfl
theorem Tr.DStep.upd (n:BitVec 16) (f:Nd->Nd) (hf:∀ x:Nd,(f x).kind=x.kind/\(f x).parent=x.parent/\(f x).links=x.links):T.DStep (T.upd n f):=fun k=>by
 rcases T.upd_or n k f with e | e
 ·exact .same (by rw [e]) (by rw [e]) (by rw [e])
 ·obtain ⟨a,b,c⟩:=hf (T.node k)
  exact .same (by rw [e,a]) (by rw [e,b]) (by rw [e,c])
theorem Tr.DStep.make (w:T.WF) (inn:BitVec 16) (s:NameL) (kd:BitVec 8) (text:List UInt8):T.DStep (T.make inn s kd text).1:=by
 rcases w.make_node inn s kd text with e | ⟨_,_,A,_,hA,hi,hn⟩
 ·rw [e]; exact .refl
 ·intro n
  have hn:=hn n
  generalize (T.make inn s kd text).1=T' at *
  by_cases e:n=inn
  ·subst e
   rw [if_pos rfl] at hn
   exact .same (by rw [hn]; rfl) (by rw [hn]; rfl) (by rw [hn]; rfl)
  rw [if_neg e] at hn
  by_cases e2:n=A
  ·subst e2
   rw [if_pos rfl] at hn
   by_cases hk:kd=2#8
   ·exact .live (by rw [hn]; exact hk) (by rw [hn]; exact Int.one_ne_zero)
   ·exact ⟨fun hd=>by have:=hd.1; rw [hn] at this; exact (hk this).elim,fun _ => .inl (by rw [hn]; exact if_neg hk)⟩
  ·rw [if_neg e2] at hn
   exact .same (by rw [hn]) (by rw [hn]) (by rw [hn])
theorem Tr.DStep.add (inn:BitVec 16) (s:NameL) (v:BitVec 16):T.DStep (T.add inn s v).1:=by
 unfold Tr.add
 split
 ·exact .refl
 split
 ·exact .refl
 split
 ·exact .refl
 split
 ·exact .refl
 split
 ·exact .refl
 rename_i h2 _ _ _
 intro k
 have hV:((T.upd inn (Nd.addE s v)).node k).kind=(T.node k).kind/\((T.upd inn (Nd.addE s v)).node k).parent=(T.node k).parent/\((T.upd inn (Nd.addE s v)).node k).links=(T.node k).links:=by
  rcases T.upd_or inn k (Nd.addE s v) with e | e <;> rw [e] <;> exact ⟨rfl,rfl,rfl⟩
 obtain ⟨a,b,c⟩:=hV
 by_cases e:k=v
 ·subst e
  have:(((T.upd inn (Nd.addE s k)).upd k (Nd.addL 1)).node k).kind=(T.node k).kind/\(((T.upd inn (Nd.addE s k)).upd k (Nd.addL 1)).node k).parent=(T.node k).parent:=by
   rcases (T.upd inn (Nd.addE s k)).upd_or k k (Nd.addL 1) with e | e <;> rw [e] <;> exact ⟨a,b⟩
  exact .file (by show ¬ _=_; rw [Tr.bump_node,this.1]; exact h2) h2 this.2
 ·have hn:(((T.upd inn (Nd.addE s v)).upd v (Nd.addL 1)).bump.node k)=(T.upd inn (Nd.addE s v)).node k:=Tr.node_upd_ne e _
  exact .same (by rw [hn,a]) (by rw [hn,b]) (by rw [hn,c])
theorem Tr.DStep.hold (n:BitVec 16) (up:Bool):T.DStep (T.hold n up).1:=by
 unfold Tr.hold
 split
 ·exact .refl
 split
 ·exact .upd n _ fun _=>⟨rfl,rfl,rfl⟩
 split
 ·exact .refl
 intro k
 have hV:((T.upd n (Nd.addH (-1))).node k).kind=(T.node k).kind/\((T.upd n (Nd.addH (-1))).node k).parent=(T.node k).parent/\((T.upd n (Nd.addH (-1))).node k).links=(T.node k).links:=by
  rcases T.upd_or n k (Nd.addH (-1)) with e | e <;> rw [e] <;> exact ⟨rfl,rfl,rfl⟩
 obtain ⟨a,b,c⟩:=hV
 unfold Tr.tidy
 split
 ·rcases (T.upd n (Nd.addH (-1))).upd_or n k (fun _=>Nd.none) with e | e
  ·exact .same (by rw [e,a]) (by rw [e,b]) (by rw [e,c])
  ·exact .none e
 ·exact .same a b c
theorem Tr.DStep.drop (w:T.WF) (inn:BitVec 16) (s:NameL) (d:Bool):T.DStep (T.drop inn s d).1:=by
 unfold Tr.drop
 split
 ·exact .refl
 split
 ·exact .refl
 split
 ·exact .refl
 split
 ·exact .refl
 rename_i c1 _ _ _
 have c1:(T.look inn s).2=0:=by simpa using c1
 obtain ⟨k1,k2⟩:=Tr.look_ok c1
 generalize (T.look inn s).1=y at *
 obtain ⟨e1,e2,e3,o0,o1,e6⟩:=w.pos k2
 have hyi:inn≠y:=by rintro rfl; exact w.no_self (alook_mem k2)
 intro k
 have hV:∀ k,((T.upd inn (Nd.delE s)).node k).kind=(T.node k).kind/\((T.upd inn (Nd.delE s)).node k).parent=(T.node k).parent/\((T.upd inn (Nd.delE s)).node k).links=(T.node k).links:=fun k=>by
  rcases T.upd_or inn k (Nd.delE s) with e | e <;> rw [e] <;> exact ⟨rfl,rfl,rfl⟩
 have hW:∀ k,k≠y->((((T.upd inn (Nd.delE s)).upd y (Nd.addL (-1))).bump).tidy y).node k=(T.upd inn (Nd.delE s)).node k:=fun k e=>by
  unfold Tr.tidy
  split
  ·rw [Tr.node_upd_ne e,Tr.bump_node,Tr.node_upd_ne e]
  ·rw [Tr.bump_node,Tr.node_upd_ne e]
 by_cases e:k=y
 ·subst e
  have hin:¬ ((((T.upd inn (Nd.delE s)).upd k (Nd.addL (-1))).bump).tidy k).dead inn:=fun hd=>by
   have h2:=hd.2
   rw [hW inn hyi,(hV inn).2.2] at h2
   exact e2 h2
  have hk:(((T.upd inn (Nd.delE s)).upd k (Nd.addL (-1))).node k).kind=(T.node k).kind/\(((T.upd inn (Nd.delE s)).upd k (Nd.addL (-1))).node k).parent=(T.node k).parent:=by
   rcases (T.upd inn (Nd.delE s)).upd_or k k (Nd.addL (-1)) with e | e <;> rw [e] <;> exact ⟨(hV k).1,(hV k).2.1⟩
  unfold Tr.tidy at hin ⊢
  split at hin
  ·rename_i hc
   rw [if_pos hc]
   have hz:((((T.upd inn (Nd.delE s)).upd k (Nd.addL (-1))).bump).upd k (fun _=>Nd.none)).node k=Nd.none:=by
    rw [Tr.node_upd (by rw [Tr.bump_node,hk.1]; exact o0),if_pos rfl]
   exact .none hz
  ·rename_i hc
   rw [if_neg hc]
   by_cases h2:(T.node k).kind=2#8
   ·refine ⟨fun _=>⟨hk.2,.inr ?_⟩,fun h=>(h (hk.1.trans h2)).elim⟩
    have:(((T.upd inn (Nd.delE s)).upd k (Nd.addL (-1))).bump.node k).parent=inn:=hk.2.trans (e6 h2)
    rw [this]
    exact hin
   ·exact .file (fun h=>h2 (hk.1.symm.trans h)) h2 hk.2
 ·obtain ⟨a,b,c⟩:=hV k
  have hn:=hW k e
  exact .same (by rw [hn,a]) (by rw [hn,b]) (by rw [hn,c])
theorem Tr.node_upd_lt {n:BitVec 16} (h:n.toNat<T.N.length) (f:Nd->Nd):(T.upd n f).node n=f (T.node n):=by
 unfold Tr.upd Tr.node
 simp [List.getD_eq_getElem?_getD,List.getElem?_modify,h]
theorem Tr.len_upd (n:BitVec 16) (f:Nd->Nd):(T.upd n f).N.length=T.N.length:=by simp [Tr.upd]
theorem Tr.len_tidy (n:BitVec 16):(T.tidy n).N.length=T.N.length:=by
 unfold Tr.tidy
 split
 ·exact Tr.len_upd _ _
 ·rfl
theorem Tr.len_drop (inn:BitVec 16) (s:NameL) (d:Bool):(T.drop inn s d).1.N.length=T.N.length:=by
 unfold Tr.drop
 repeat' split
 all_goals try rfl
 rw [Tr.len_tidy]
 show ((T.upd _ _).upd _ _).N.length=_
 rw [Tr.len_upd,Tr.len_upd]
theorem Tr.DStep.moved {U:Tr} {fr to n:BitVec 16} {s other:NameL} (hl:to.toNat<U.N.length) (w:(Tr.moved U fr s to other n).WF):U.DStep (Tr.moved U fr s to other n):=by
 have hV:∀ m,(((U.upd fr (Nd.delE s)).upd to (Nd.addE other n)).node m).kind=(U.node m).kind/\(((U.upd fr (Nd.delE s)).upd to (Nd.addE other n)).node m).parent=(U.node m).parent/\(((U.upd fr (Nd.delE s)).upd to (Nd.addE other n)).node m).links=(U.node m).links:=fun m=>by
  have h1:((U.upd fr (Nd.delE s)).node m).kind=(U.node m).kind/\((U.upd fr (Nd.delE s)).node m).parent=(U.node m).parent/\((U.upd fr (Nd.delE s)).node m).links=(U.node m).links:=by
   rcases U.upd_or fr m (Nd.delE s) with e | e <;> rw [e] <;> exact ⟨rfl,rfl,rfl⟩
  rcases (U.upd fr (Nd.delE s)).upd_or to m (Nd.addE other n) with e | e <;> rw [e] <;> exact h1
 have hm:(other,n)∈(((U.upd fr (Nd.delE s)).upd to (Nd.addE other n)).node to).ents:=by
  rw [Tr.node_upd_lt (by rw [Tr.len_upd]; exact hl)]
  exact mem_insertE.2 (.inl rfl)
 unfold Tr.moved at w ⊢
 simp only at w ⊢
 split at w
 ·rename_i hk
  rw [if_pos hk]
  intro m
  by_cases e:m=n
  ·subst e
   have hk':((((U.upd fr (Nd.delE s)).upd to (Nd.addE other m)).upd m (fun x=>{ x with parent:=to })).bump.node m).kind=2#8:=by
    rw [Tr.bump_node]
    rcases ((U.upd fr (Nd.delE s)).upd to (Nd.addE other m)).upd_or m m (fun x=>{ x with parent:=to }) with e | e <;> rw [e] <;> exact (hV m).1.trans hk
   have hm':(other,m)∈((((U.upd fr (Nd.delE s)).upd to (Nd.addE other m)).upd m (fun x=>{ x with parent:=to })).bump.node to).ents:=by
    rw [Tr.bump_node]
    rcases ((U.upd fr (Nd.delE s)).upd to (Nd.addE other m)).upd_or m to (fun x=>{ x with parent:=to }) with e | e <;> rw [e] <;> exact hm
   have:=w.live_of hm' hk'
   exact .live this.1 this.2
  ·obtain ⟨a,b,c⟩:=hV m
   have hn:((((U.upd fr (Nd.delE s)).upd to (Nd.addE other n)).upd n (fun x=>{ x with parent:=to })).bump.node m)=((U.upd fr (Nd.delE s)).upd to (Nd.addE other n)).node m:=Tr.node_upd_ne e _
   exact .same (by rw [hn,a]) (by rw [hn,b]) (by rw [hn,c])
 ·rename_i hk
  rw [if_neg hk]
  intro m
  obtain ⟨a,b,c⟩:=hV m
  exact .same a b c
theorem Tr.Order.move (h:T.Order) (w:T.WF) (fr:BitVec 16) (s:NameL) (to:BitVec 16) (other:NameL):(T.move fr s to other).1.Order:=by
 have w':=w.move fr s to other
 unfold Tr.move at w' ⊢
 split
 ·exact h
 rename_i c1
 split
 ·exact h
 rename_i c2
 split
 ·exact h
 rename_i c3
 split
 ·exact h
 rename_i c4
 split
 ·exact h
 rename_i c5
 simp only [if_neg c1,if_neg c2,if_neg c3,if_neg c4,if_neg c5] at w'
 have hto:to.toNat<T.N.length:=by
  have c2:T.dir to=0:=by simpa using c2
  exact Tr.node_lt (by rw [Tr.dir_zero.1 c2]; decide)
 refine Tr.Order.step (T:=if (alook other (T.node to).ents).isSome then (T.drop to other (decide ((T.node (T.look fr s).1).kind=2#8))).1 else T) ?_ (Tr.DStep.moved ?_ w')
 ·split
  ·exact h.step (.drop w _ _ _)
  ·exact h
 ·split
  ·rw [Tr.len_drop]; exact hto
  ·exact hto
theorem Tr.Did.order {up:Bool} (h:T.Did up T') (w:T.WF) (o:T.Order):T'.Order:=by
 cases h
 ·exact o.step (.make w _ _ _ _)
 ·exact o.step (.add _ _ _)
 ·exact o.step (.drop w _ _ _)
 ·exact o.move w _ _ _ _
 ·exact o.step (.hold _ _)
 ·unfold Tr.write
  repeat' split
  all_goals try exact o
  exact o.step (.upd _ _ fun _=>⟨rfl,rfl,rfl⟩)
 ·unfold Tr.cut
  repeat' split
  all_goals try exact o
  exact o.step (.upd _ _ fun _=>⟨rfl,rfl,rfl⟩)
 ·exact o
theorem Tr.Order.new (limit:Int):(Tr.new limit).Order:=by
 have hp:∀ n,((Tr.new limit).node n).kind≠2#8->((Tr.new limit).node n).parent=0#16:=by
  intro n hk
  unfold Tr.new Tr.node at hk ⊢
  simp only [List.getD_eq_getElem?_getD] at hk ⊢
  by_cases e0:n.toNat=0
  ·rw [e0]; rfl
  ·by_cases e1:n.toNat=1
   ·rw [e1] at hk; exact (hk rfl).elim
   ·rw [List.getElem?_eq_none (by simp; omega)]; rfl
 refine ⟨⟨fun _=>0,1,fun _=>Nat.zero_lt_one,fun n hd _ =>?_⟩,hp⟩
 obtain ⟨a,b⟩:=hd
 unfold Tr.new Tr.node at a b
 simp only [List.getD_eq_getElem?_getD] at a b
 by_cases e0:n.toNat=0
 ·rw [e0] at a; exact absurd a (by decide)
 ·by_cases e1:n.toNat=1
  ·rw [e1] at b; exact absurd b (by decide)
  ·rw [List.getElem?_eq_none (by simp; omega)] at a; exact absurd a (by decide)
end
end Go.AM
end
section
namespace Go.AM
def Nd.Kept (x:Nd):Prop:=x.kind≠0#8->x.links≠0\/x.held≠0
def Tr.Tidy (T:Tr):Prop:=∀ n,(T.node n).Kept
def Tr.TidyX (T:Tr) (a:BitVec 16):Prop:=∀ n,n≠a->(T.node n).Kept
section
variable {T T':Tr} {n:BitVec 16} {f:Nd->Nd}
theorem Nd.Kept.none:Nd.none.Kept:=fun h=>(h rfl).elim
theorem kept_delE (s:NameL) (x:Nd) (h:x.Kept):(Nd.delE s x).Kept:=h
theorem kept_addE (s:NameL) (k:BitVec 16) (x:Nd) (h:x.Kept):(Nd.addE s k x).Kept:=h
theorem kept_par (q:BitVec 16) (x:Nd) (h:x.Kept):({ x with parent:=q }:Nd).Kept:=h
theorem kept_data (d:List (BitVec 8)) (x:Nd) (h:x.Kept):({ x with data:=d }:Nd).Kept:=h
theorem Tr.Tidy.upd (h:T.Tidy) (hf:∀ x:Nd,x.Kept->(f x).Kept):(T.upd n f).Tidy:=fun k=>by
 rcases T.upd_or n k f with e | e
 ·rw [e]; exact h k
 ·rw [e]; exact hf _ (h k)
theorem Tr.Tidy.updX (h:T.Tidy):(T.upd n f).TidyX n:=fun k hk=>by
 rw [Tr.node_upd_ne hk]; exact h k
theorem Tr.Tidy.updAt (h:T.Tidy) (hf:(f (T.node n)).Kept):(T.upd n f).Tidy:=fun k=>by
 by_cases e:k=n
 ·subst e
  rcases T.upd_or k k f with e | e
  ·rw [e]; exact h k
  ·rw [e]; exact hf
 ·rw [Tr.node_upd_ne e]; exact h k
theorem Tr.TidyX.tidy (h:T.TidyX n):(T.tidy n).Tidy:=by
 intro k
 unfold Tr.tidy
 split
 ·by_cases e:k=n
  ·subst e
   rcases Nat.lt_or_ge k.toNat T.N.length with hl | hl
   ·rw [Tr.node_upd_lt hl]; exact Nd.Kept.none
   ·have:(T.upd k fun _=>Nd.none).node k=Nd.none:=by
     unfold Tr.node
     rw [List.getD_eq_getElem?_getD,List.getElem?_eq_none (by rw [Tr.len_upd]; exact hl)]; rfl
    rw [this]; exact Nd.Kept.none
  ·rw [Tr.node_upd_ne e]; exact h k e
 ·rename_i hz
  by_cases e:k=n
  ·subst e
   intro _
   exact Classical.byContradiction fun hc=>hz ⟨Classical.byContradiction fun a=>hc (.inl a),Classical.byContradiction fun a=>hc (.inr a)⟩
  ·exact h k e
theorem Tr.Tidy.bump (h:T.Tidy):T.bump.Tidy:=h
theorem Tr.TidyX.bump (h:T.TidyX n):T.bump.TidyX n:=h
theorem Tr.Tidy.put (h:T.Tidy) (a:Nat) (x:Nd) (hx:x.Kept):(T.put a x).Tidy:=by
 intro k
 unfold Tr.put Tr.node
 simp only [List.getD_eq_getElem?_getD]
 have hk:=h k
 unfold Tr.node at hk
 simp only [List.getD_eq_getElem?_getD] at hk
 split
 ·rw [List.getElem?_set]
  split
  ·exact hx
  ·exact hk
 ·rw [List.getElem?_append]
  split
  ·exact hk
  ·cases hz:([x][k.toNat - T.N.length]? : Option Nd) with
   | none=>exact Nd.Kept.none
   | some y =>
    have:=List.mem_of_getElem? hz
    simp at this
    subst this
    exact hx
theorem Tr.Tidy.drop (h:T.Tidy) (a:BitVec 16) (s:NameL) (d:Bool):(T.drop a s d).1.Tidy:=by
 unfold Tr.drop
 repeat' split
 all_goals try exact h
 exact (Tr.Tidy.updX (h.upd (kept_delE s))).bump.tidy
theorem Tr.Tidy.moved (h:T.Tidy) (fr:BitVec 16) (s:NameL) (to:BitVec 16) (o:NameL) (m:BitVec 16):(Tr.moved T fr s to o m).Tidy:=by
 unfold Tr.moved
 have h2:((T.upd fr (Nd.delE s)).upd to (Nd.addE o m)).Tidy:=(h.upd (kept_delE s)).upd (kept_addE o m)
 simp only
 split
 ·exact (h2.upd (kept_par to)).bump
 ·exact h2.bump
theorem Tr.Tidy.make (h:T.Tidy) (a:BitVec 16) (s:NameL) (k:BitVec 8) (text:List UInt8):(T.make a s k text).1.Tidy:=by
 unfold Tr.make
 repeat' split
 all_goals try exact h
 exact ((h.put _ (Nd.made a k text) fun _ => .inl (by show (1:Int)≠0; decide)).upd (kept_addE _ _)).bump
theorem Tr.Tidy.hold (h:T.Tidy) (w:T.WF) (a:BitVec 16) (b:Bool):(T.hold a b).1.Tidy:=by
 unfold Tr.hold
 repeat' split
 all_goals try exact h
 ·refine h.updAt fun _ => .inr ?_
  have:=w.held a
  show (T.node a).held+1≠0
  omega
 ·exact h.updX.tidy
theorem Tr.Tidy.move (h:T.Tidy) (a:BitVec 16) (s:NameL) (b:BitVec 16) (o:NameL):(T.move a s b o).1.Tidy:=by
 unfold Tr.move
 split
 ·exact h
 split
 ·exact h
 split
 ·exact h
 split
 ·exact h
 split
 ·exact h
 refine Tr.Tidy.moved ?_ _ _ _ _ _
 split
 ·exact h.drop _ _ _
 ·exact h
theorem Tr.Tidy.add (h:T.Tidy) (w:T.WF) (a:BitVec 16) (s:NameL) (b:BitVec 16):(T.add a s b).1.Tidy:=by
 unfold Tr.add
 repeat' split
 all_goals try exact h
 rename_i h0 h2 _ hl _
 refine Tr.Tidy.bump (Tr.Tidy.updAt (h.upd (kept_addE s b)) fun _ => .inl ?_)
 have hb:b≠1#16:=fun e=>h2 (by rw [e]; exact w.root.1)
 have hln:=w.links b hb h0
 have hm:((T.upd a (Nd.addE s b)).node b).links=(T.node b).links:=by
  rcases T.upd_or a b (Nd.addE s b) with e | e <;> rw [e]
  rfl
 show ((T.upd a (Nd.addE s b)).node b).links+1≠0
 rw [hm,hln]
 omega
theorem Tr.Did.tidy {up:Bool} (d:T.Did up T') (h:T.Tidy) (w:T.WF):T'.Tidy:=by
 cases d
 ·exact h.make _ _ _ _
 ·exact h.add w _ _ _
 ·exact h.drop _ _ _
 ·exact h.move _ _ _ _
 ·exact h.hold w _ _
 ·unfold Tr.write
  repeat' split
  all_goals try exact h
  exact (h.upd fun x hx=>kept_data _ x hx).bump
 ·unfold Tr.cut
  repeat' split
  all_goals try exact h
  exact (h.upd fun x hx=>kept_data _ x hx).bump
 ·exact h
theorem Tr.Tidy.new (limit:Int):(Tr.new limit).Tidy:=by
 intro n
 unfold Tr.node Tr.new
 simp only [List.getD_eq_getElem?_getD]
 cases hz:([Nd.none,{ Nd.none with kind:=2#8,parent:=1#16,links:=1 }][n.toNat]? : Option Nd) with
 | none=>exact Nd.Kept.none
 | some y =>
  have:=List.mem_of_getElem? hz
  simp at this
  rcases this with rfl | rfl
  ·exact Nd.Kept.none
  ·exact fun _ => .inl (by decide)
end
end Go.AM
end
section
namespace Go.AM
variable {E:Sy} {H:AH} {Q:Value->AH->Prop}
def RefAt (H:AH) (p:Nat) (t:TreeI) (M:List MntI):Prop:=H.get p = .cells t.cells none/\M.length<2 ^ 62/\Rows H 5 t.m (M.map MntI.cells)
theorem RefAt.mono {H H':AH} {p:Nat} {t:TreeI} {M:List MntI} (h:RefAt H p t M) (e:Ext H H'):RefAt H' p t M:=⟨e.cells h.1,h.2.1,h.2.2.mono e⟩
theorem RefAt.len {H:AH} {p:Nat} {t:TreeI} {M:List MntI} (h:RefAt H p t M):lenSlc t.m=some (vi M.length):=by
 have:=h.2.2.lenSlc
 simpa using this
theorem S.f69 (hE:Fold E) (p:Nat) (t:TreeI) (M:List MntI) (hT:RefAt H p t M) (id:Int) (hQ:Q (vi (ixOf (fun m:MntI=>decide (m.id=id)) M)) H):E.call (E.fid i.f69) [ptr p 0,vi id] H Q:=by
 apply hE.f69
 have hl:=hT.len
 have h0:=hT.2.1
 simp [F.f69]
 refine LoopL.count M.length (fun j s H'=>s=[ptr p 0,vi id,vi j]/\H'=H/\∀ i (hi:i<M.length),i<j->¬ M[i].id=id) ?_ ⟨rfl,rfl,fun i _ h=>by omega⟩
 rintro j _ _ X hj hX ⟨rfl,rfl,hn⟩
 simp only [F.f69_l1,nth_0,nth_s]
 simp [hT.1,hl]
 refine ifB_split (fun h =>?_) (fun h =>?_)
 ·have hjl:j<M.length:=by omega
  obtain ⟨b,o,f1,f2,f3,_⟩:=MntI.elem hT.2.2 hjl
  simp [hT.1,f1,f3]
  refine ifB_split (fun h =>?_) (fun h =>?_)
  ·have:ixOf (fun m:MntI=>decide (m.id=id)) M=(j:Int):=by
    have:M.findIdx? (fun m:MntI=>decide (m.id=id))=some j:=List.findIdx?_eq_some_iff_getElem.2 ⟨hjl,by simpa using h,fun i hi=>by simpa using hn i (by omega) hi⟩
    simp [ixOf,this]
   rw [<- this]
   exact hQ
  ·rw [i64_inc (by omega),opt_some]
   refine hX hjl _ _ ⟨rfl,rfl,fun i hi hij =>?_⟩
   by_cases e:i=j
   ·subst e; exact h
   ·exact hn i hi (by omega)
 ·have:j=M.length:=by omega
  subst this
  have:ixOf (fun m:MntI=>decide (m.id=id)) M = -1:=by
   have:M.findIdx? (fun m:MntI=>decide (m.id=id))=none:=by
    rw [List.findIdx?_eq_none_iff]
    intro x hx
    obtain ⟨i,hi,rfl⟩:=List.getElem_of_mem hx
    simpa using hn i hi hi
   simp [ixOf,this]
  rw [<- this]
  exact hQ
def standsI (p:PlaceI) (m:MntI):Bool:=decide (m.id≠0)&&decide (m.at_=p)
def lastIx {α:Type} (P:α->Bool) (l:List α):Int:=match (List.range l.length).reverse.find? (fun i=>(l[i]?).any P) with | some i=>(i:Int) | none => -1
theorem lastIx_snoc {α:Type} (P:α->Bool) (l:List α) (x:α):lastIx P (l++[x])=if P x then (l.length:Int) else lastIx P l:=by
 unfold lastIx
 rw [List.length_append,List.length_singleton,List.range_succ,List.reverse_append,List.reverse_singleton,List.singleton_append,List.find?_cons]
 have h0:((l++[x])[l.length]?).any P=P x:=by simp
 rw [h0]
 cases P x with
 | true=>simp
 | false =>
  simp only [Bool.false_eq_true,if_false]
  have:∀ (L:List Nat),(∀ i∈L,i<l.length)->L.find? (fun i=>((l++[x])[i]?).any P)=L.find? (fun i=>(l[i]?).any P):=by
   intro L hL
   induction L with
   | nil=>rfl
   | cons a L ih =>
    have ha:=hL a (by simp)
    rw [List.find?_cons,List.find?_cons,List.getElem?_append_left ha,ih fun i hi=>hL i (by simp [hi])]
  rw [this _ (fun i hi=>by simpa using hi)]
theorem lastIx_cases {α:Type} (P:α->Bool) (l:List α):(lastIx P l = -1/\∀ x∈l,P x=false)\/∃ (i:Nat) (hi:i<l.length),lastIx P l=i/\P l[i]=true:=by
 unfold lastIx
 cases h:(List.range l.length).reverse.find? (fun i=>(l[i]?).any P) with
 | none =>
  refine .inl ⟨rfl,fun x hx =>?_⟩
  obtain ⟨i,hi,rfl⟩:=List.getElem_of_mem hx
  have:=List.find?_eq_none.1 h i (by simpa using hi)
  simpa [hi] using this
 | some i =>
  have h1:=List.find?_some h
  have h2:=List.mem_of_find?_eq_some h
  have hi:i<l.length:=by simpa using h2
  exact .inr ⟨i,hi,rfl,by simpa [hi] using h1⟩
def seenI (M:List MntI):Nat->PlaceI->PlaceI
 | 0,p=>p
 | n+1,p=>if h:0<=lastIx (standsI p) M/\(lastIx (standsI p) M).toNat<M.length then seenI M n ⟨(M[(lastIx (standsI p) M).toNat]'h.2).id,(M[(lastIx (standsI p) M).toNat]'h.2).root⟩ else p
theorem S.f64 (hE:Fold E) (p:Nat) (t:TreeI) (M:List MntI) (hT:RefAt H p t M) (q:PlaceI) (hQ:∀ H',Ext H H'->Q (seenI M 20 q).v H'):E.call (E.fid i.f64) [ptr p 0,q.v] H Q:=by
 apply hE.f64
 have hl:=hT.len
 have h0:=hT.2.1
 simp [F.f64]
 generalize hH2:(H.new _).new _=H2
 have x2:Ext H H2:=by subst hH2; exact ((Ext.refl H).new _).new _
 have k1:H2.get H.next = .cells q.cells none:=by subst hH2; simp [AH.get_new]
 have k2:H2.get (H.next+1) = .cells [vi 0,vi 0] none:=by subst hH2; simp [AH.get_new]
 clear hH2
 refine LoopL.count 20 (fun k s H'=>∃ r,s=[ptr p 0,ptr H.next 0,ptr (H.next+1) 0,vi k]/\Ext H H'/\seenI M (20 - k) r=seenI M 20 q/\H'.get H.next = .cells r.cells none/\H'.get (H.next+1) = .cells [vi 0,vi 0] none) ?_ ⟨q,rfl,x2,rfl,k1,k2⟩
 rintro k _ H' X hk hX ⟨r,rfl,e1,hs,m1,m2⟩
 have hT1:=hT.mono e1
 have l1:=AH.lt_cells m1
 have l2:=AH.lt_cells m2
 have leave:seenI M 20 q=r->Q (seenI M 20 q).v (H'.put (H.next+1) (.cells r.cells none)):=by
  intro h
  exact hQ _ (e1.put (b:=H.next+1) (by omega) _)
 simp only [F.f64_l1,nth_0,nth_s]
 simp
 by_cases hk20:(k:Int)<20
 ·simp [hk20]
  refine LoopL.count M.length (fun j s H''=>s=[ptr p 0,ptr H.next 0,ptr (H.next+1) 0,vi k,vi (lastIx (standsI r) (M.take j)),vi j]/\H''=H') ?_ ⟨rfl,rfl⟩
  rintro j _ _ X1 hj hX1 ⟨rfl,rfl⟩
  simp only [F.f64_l2,nth_0,nth_s]
  simp [hT1.1,hl]
  refine ifB_split (fun h =>?_) (fun h =>?_)
  ·have hjl:j<M.length:=by omega
   obtain ⟨b,o,f1,f2,f3,f4,f5,f6,f7,f8⟩:=MntI.elem hT1.2.2 hjl
   have htk:M.take (j+1)=M.take j++[M[j]]:=by rw [List.take_succ,List.getElem?_eq_getElem hjl]; rfl
   have hln:(M.take j).length=j:=by rw [List.length_take]; omega
   by_cases hid:M[j].id=0
   ·simp [hT1.1,f1,f3,hid]
    rw [i64_inc (by omega),opt_some]
    refine hX1 hjl _ _ ⟨?_,rfl⟩
    rw [htk,lastIx_snoc]
    simp [standsI,hid]
   ·by_cases hat:M[j].at_=r
    ·simp [hT1.1,f1,f3,hid,m1,f8,hat]
     rw [i64_inc (by omega),opt_some]
     refine hX1 hjl _ _ ⟨?_,rfl⟩
     rw [htk,lastIx_snoc,hln]
     simp [standsI,hid,hat]
    ·simp [hT1.1,f1,f3,hid,m1,f8,hat]
     rw [i64_inc (by omega),opt_some]
     refine hX1 hjl _ _ ⟨?_,rfl⟩
     rw [htk,lastIx_snoc]
     simp [standsI,hid,hat]
  ·have:j=M.length:=by omega
   subst this
   rw [List.take_length]
   have hstep:seenI M (20 - k) r=if h:0<=lastIx (standsI r) M/\(lastIx (standsI r) M).toNat<M.length then seenI M (20 - (k+1)) ⟨(M[(lastIx (standsI r) M).toNat]'h.2).id,(M[(lastIx (standsI r) M).toNat]'h.2).root⟩ else r:=by
    rw [show 20 - k=(20 - (k+1))+1 by omega]
    rfl
   rcases lastIx_cases (standsI r) M with ⟨h1,_⟩ | ⟨i,hi,h1,_⟩
   ·rw [h1] at hstep
    simp at hstep
    simp [h1,m1,m2]
    have:=leave (by rw [<- hs,hstep])
    rw [<- hs,hstep] at this
    simpa [l2] using this
   ·rw [h1] at hstep
    simp [hi] at hstep
    have hneg:¬ ((i:Int)<0):=by omega
    obtain ⟨b,o,f1,f2,f3,f4,f5,f6,f7,f8⟩:=MntI.elem hT1.2.2 hi
    simp [hT1.1,h1,hneg,f1,f3,f4,m1]
    rw [i64_inc (by omega),opt_some]
    refine hX (by omega) _ _ ⟨⟨M[i].id,M[i].root⟩,rfl,e1.put (b:=H.next) (by omega) _,by rw [<- hs,hstep,show 20 - (k+1)=19 - k by omega],?_,?_⟩
    ·simp [l1]
    ·rw [AH.get_put_ne _ _ (by omega)]; exact m2
 ·have:k=20:=by omega
  subst this
  simp at hs
  simp [m1,m2]
  have:=leave (by rw [<- hs]; rfl)
  rw [<- hs] at this
  simpa [l2,seenI] using this
end Go.AM
end
section
namespace Go.AM
variable {E:Sy} {H:AH} {Q:Value->AH->Prop}
def refMR (p:Nat) (t:TreeI) (N:List NodeI) (M:List MntI):Res:=⟨p :: (blkL t.n++blkL t.m),fun H=>H.get p = .cells t.cells none/\Grow zH H 7 t.n (N.map NodeI.cells)/\Grow zH H 5 t.m (M.map MntI.cells),
 fun h e=>⟨by rw [e _ (by simp)]; exact h.1,h.2.1.keep fun b hb _=>e b (by simp [mem_blkL.2 hb]),h.2.2.keep fun b hb _=>e b (by simp [mem_blkL.2 hb])⟩⟩
section
variable {p:Nat} {t:TreeI} {N:List NodeI} {M M':List MntI} {H1:AH} {v':Value}
theorem refMR.at_ (h:(refMR p t N M).P H) (hn:M.length<2 ^ 62):RefAt H p t M:=⟨h.1,hn,h.2.2.toRows⟩
theorem refMR.nodup (hnd:(refMR p t N M).fp.Nodup):p ∉ blkL t.n/\p ∉ blkL t.m/\∀ b∈blkL t.n,b ∉ blkL t.m:=by
 simp only [refMR,List.nodup_cons,List.mem_append,List.nodup_append,not_or] at hnd
 obtain ⟨⟨h1,h2⟩,h3,h4,h5⟩:=hnd
 exact ⟨h1,h2,fun b hb hm=>h5 b hb b hm rfl⟩
theorem refMR.fp_lt (hr:(refMR p t N M).P H):∀ b∈(refMR p t N M).fp,b<H.next:=by
 intro b hb
 simp only [refMR,List.mem_cons,List.mem_append] at hb
 rcases hb with rfl | hb | hb
 ·exact AH.lt_cells hr.1
 ·exact hr.2.1.blk_lt (mem_blkL.1 hb)
 ·exact hr.2.2.blk_lt (mem_blkL.1 hb)
theorem refMR.updM (h:(refMR p t N M).P H) (hnd:(refMR p t N M).fp.Nodup) (o:Only (p :: blkL t.m) H H1) (g:Grow zH H1 5 v' (M'.map MntI.cells)) (hb:∀ b,blk v'=some b->blk t.m=some b\/H.next<=b) (nx:Int) :
  Upd (refMR p t N M) (refMR p { t with m:=v',next:=nx } N M') H (H1.put p (.cells ({ t with m:=v',next:=nx }:TreeI).cells none)):=by
 obtain ⟨n1,n2,n3⟩:=refMR.nodup hnd
 have hlt:p<H.next:=AH.lt_cells h.1
 have hpb:p ∉ blkL v':=fun k=>by
  rcases hb p (mem_blkL.1 k) with k | k
  ·exact n2 (mem_blkL.2 k)
  ·omega
 have hN:∀ b,blk t.n=some b->b<H.next:=fun b hb=>h.2.1.blk_lt hb
 have hNn:∀ b,blk t.n=some b->b ∉ blkL v':=fun b hbn k=>by
  rcases hb b (mem_blkL.1 k) with k | k
  ·exact n3 b (mem_blkL.2 hbn) (mem_blkL.2 k)
  ·have:=hN b hbn; omega
 refine ⟨(o.put (.inl (by simp)) _).mono fun b hb => .inl ?_,⟨AH.get_put_self _ _ (Nat.lt_of_lt_of_le hlt o.1),?_,?_⟩,fun b hb' =>?_,?_⟩
 ·simp only [List.mem_cons,refMR,List.mem_append] at hb ⊢
  exact hb.imp id .inr
 ·refine h.2.1.keep fun b hb _ =>?_
  have hbp:b≠p:=by rintro rfl; exact n1 (mem_blkL.2 hb)
  rw [AH.get_put_ne _ _ hbp]
  exact o.get (hN b hb) (by simp only [List.mem_cons,not_or]; exact ⟨hbp,n3 b (mem_blkL.2 hb)⟩)
 ·exact g.keep fun b hb _=>AH.get_put_ne _ _ (by rintro rfl; exact hpb (mem_blkL.2 hb))
 ·simp only [refMR,List.mem_cons,List.mem_append] at hb' ⊢
  rcases hb' with rfl | hb' | hb'
  ·exact ⟨.inl (by simp),Nat.lt_of_lt_of_le hlt o.1⟩
  ·exact ⟨.inl (by simp [hb']),Nat.lt_of_lt_of_le (hN b (mem_blkL.1 hb')) o.1⟩
  ·exact ⟨(hb b (mem_blkL.1 hb')).imp (fun k=>by simp [mem_blkL.2 k]) id,g.blk_lt (mem_blkL.1 hb')⟩
 ·simp only [refMR,List.nodup_cons,List.mem_append,not_or,List.nodup_append]
  exact ⟨⟨n1,hpb⟩,blkL_nodup _,blkL_nodup _,fun a ha b hb' e=>hNn a (mem_blkL.1 ha) (e▸hb')⟩
end
end Go.AM
end
section
namespace Go.AM
variable {E:Sy} {H:AH} {Q:Value->AH->Prop}
structure BoundI where
 M:List MntI
 nx:Int
 n:Int
 e:Int
def bindI (M:List MntI) (nx root:Int) (q:PlaceI):BoundI :=
 if ixOf (fun m:MntI=>decide (m.id=q.mount)) M<0 then ⟨M,nx,0,22⟩ else if seenI M 20 q≠q then ⟨M,nx,0,16⟩ else if 16<=M.length then ⟨M,nx,0,28⟩ else ⟨M++[⟨nx,root,q,0⟩],nx+1,nx,0⟩
theorem S.f55 (hE:Fold E) (p:Nat) (t:TreeI) (N:List NodeI) (M:List MntI) (hr:(refMR p t N M).P H) (hnd:(refMR p t N M).fp.Nodup) (hn:M.length<2 ^ 20) (hx:0<=t.next/\t.next<2 ^ 61) (root:Int) (q:PlaceI)
  (hQ:∀ t' H',t'.next=(bindI M t.next root q).nx/\t'.n=t.n/\t'.limit=t.limit/\t'.change=t.change->Upd (refMR p t N M) (refMR p t' N (bindI M t.next root q).M) H H'->Q (.tuple #[vi (bindI M t.next root q).n,vi (bindI M t.next root q).e]) H'):E.call (E.fid i.f55) [ptr p 0,vi root,q.v] H Q:=by
 apply hE.f55
 have hT:=refMR.at_ hr (by omega)
 have same:∀ H',Ext H H'->Upd (refMR p t N M) (refMR p t N M) H H':=fun H' e=>(Upd.refl hr (refMR.fp_lt hr) hnd).ext e
 have x1:Ext H (H.new (.cells q.cells none)):=(Ext.refl H).new _
 have k1:(H.new (.cells q.cells none)).get H.next = .cells q.cells none:=AH.get_new_self _ _
 obtain ⟨n1,n2,n3⟩:=refMR.nodup hnd
 have hlp:=AH.lt_cells hr.1
 simp [F.f55]
 refine S.f69 hE p t M (hT.mono x1) q.mount ?_
 unfold bindI at hQ
 by_cases hf:ixOf (fun m:MntI=>decide (m.id=q.mount)) M<0
 ·simp only [hf,if_true] at hQ
  simp [hf]
  exact hQ t _ ⟨rfl,rfl,rfl,rfl⟩ (same _ x1)
 ·simp only [hf,if_false] at hQ
  simp [hf]
  refine S.f64 hE p t M (hT.mono x1) q fun H3 e3 =>?_
  have x3:=x1.trans e3
  have k3:=e3.cells k1
  simp [k3]
  by_cases hs:seenI M 20 q=q
  ·simp only [hs,ne_eq,not_true,if_false] at hQ
   have hT3:=hT.mono x3
   simp [hs,hT3.1,hT3.len]
   by_cases h16:16<=M.length
   ·simp only [h16,if_true] at hQ
    have h16':(16:Int)<=M.length:=by omega
    simp [h16']
    exact hQ t _ ⟨rfl,rfl,rfl,rfl⟩ (same _ x3)
   ·simp only [h16,if_false] at hQ
    have h16':¬ (16:Int)<=M.length:=by omega
    have l3:=AH.lt_cells hT3.1
    simp [h16',hT3.1]
    rw [i64_add (by omega) (by omega),opt_some]
    simp [hT3.1,l3]
    have hpk:H.next≠p:=by omega
    have k4:(H3.put p (.cells ({ t with next:=t.next+1 }:TreeI).cells none)).get H.next = .cells q.cells none:=by rw [AH.get_put_ne _ _ hpk]; exact k3
    have hg3:=hr.2.2.ext x3
    have hg4:Grow zH (H3.put p (.cells ({ t with next:=t.next+1 }:TreeI).cells none)) 5 t.m (M.map MntI.cells):=hg3.keep fun b hb _=>AH.get_put_ne _ _ (by rintro rfl; exact n2 (mem_blkL.2 hb))
    obtain ⟨v',H6,a1,a2,a3,a4⟩:=hg4.app1 (Nat.zero_le _) (bytes:=40) (MntI.cells ⟨t.next,root,q,0⟩) rfl rfl (by omega) (by omega) (by simp; omega)
    have hpv6:H6.get p = .cells ({ t with next:=t.next+1 }:TreeI).cells none:=a3.cells (AH.get_put_self _ _ l3) n2
    have l6:=AH.lt_cells hpv6
    simp only [AH.next_put] at a1
    simp [k4]
    rw [a1]
    simp [a2.plain,hpv6]
    refine hQ { t with m:=v',next:=t.next+1 } _ ⟨rfl,rfl,rfl,rfl⟩ ?_
    have hO:Only (p :: blkL t.m) H H6:=by
     refine ((x3.only (F:=p :: blkL t.m)).put (.inl (by simp)) _).trans a3 fun b hb => .inl (by simp [hb])
    exact refMR.updM hr hnd hO (by simpa using a2) (fun b hb=>(a4 b hb).imp id fun h=>by have:=x3.1; simp at h; omega) _
  ·simp only [hs,ne_eq,not_false_eq_true,if_true] at hQ
   simp [hs]
   exact hQ t _ ⟨rfl,rfl,rfl,rfl⟩ (same _ x3)
end Go.AM
end
section
namespace Go.AM
variable {E:Sy} {H0 Z H:AH} {L:List Res} {Q:Value->AH->Prop}
def PlaceD.toI (p:PlaceD):PlaceI:=⟨p.m,p.i.toNat⟩
def MntD.toI (m:MntD):MntI:=⟨m.id,m.root.toNat,m.at_.toI,m.held⟩
theorem toI_inj (p q:PlaceD):p.toI=q.toI↔p=q:=by
 simp only [PlaceD.toI,PlaceI.ext_iff,PlaceD.ext_iff]
 constructor
 ·rintro ⟨h1,h2⟩; exact ⟨h1,BitVec.eq_of_toNat_eq (by omega)⟩
 ·rintro ⟨h1,h2⟩; rw [h2]; exact ⟨h1,rfl⟩
theorem S.f44 (hE:Fold E) (q:PlaceD) (hQ:∀ H',Ext H H'->Q q.toI.v H'):E.call (E.fid i.f44) [q.v] H Q:=by
 apply hE.f44
 simp [F.f44,AH.get_new,PlaceD.cells]
 exact hQ _ (((Ext.refl H).new _).new _)
theorem ix_toI (T:List MntD) (k:Int):ixOf (fun m:MntI=>decide (m.id=k)) (T.map MntD.toI)=findT T k:=by
 unfold findT ixOf
 rw [List.findIdx?_map]; rfl
theorem stands_toI (p:PlaceD) (m:MntD):standsI p.toI m.toI=standsAt p m:=by
 simp only [standsI,standsAt,MntD.toI,toI_inj]
 congr
structure PInv (T:List MntD) (nx k:Int):Prop where
 older:Older T
 uniq:∀ a∈T,∀ b∈T,a.id≠0->b.id≠0->a.at_=b.at_->a.id=b.id
 nodup:(T.map MntD.id).Nodup
 len:T.length<=16
 ids:∀ m∈T,0<=m.id/\m.id<nx
 nx0:1<=nx
 nx1:nx<=1+k
 held:∀ m∈T,0<=m.held/\m.held<=k
theorem PInv.ok {T:List MntD} {nx k:Int} (h:PInv T nx k) (hk:k<=1000):TabOk T nx :=
 ⟨h.older,h.len,by have:=h.nx0; omega,by have:=h.nx1; omega,fun m hm=>by have:=h.held m hm; omega⟩
theorem PInv.mono {T:List MntD} {nx k k':Int} (h:PInv T nx k) (hk:k<=k'):PInv T nx k' :=
 { h with nx1:=by have:=h.nx1; omega,held:=fun m hm=>by have:=h.held m hm; omega }
theorem pinv0:PInv tab0 1 0:=⟨by unfold Older; simp [tab0],by simp [tab0],by simp [tab0],by simp [tab0],by simp [tab0],by omega,by omega,by simp [tab0]⟩
theorem PInv.inj {T:List MntD} {nx k:Int} (h:PInv T nx k) {i j:Nat} (hi:i<T.length) (hj:j<T.length) (e:T[i].id=T[j].id):i=j:=by
 have h1:i<(T.map MntD.id).length:=by simpa using hi
 have h2:j<(T.map MntD.id).length:=by simpa using hj
 have key:=List.pairwise_iff_getElem.1 h.nodup
 rcases Nat.lt_trichotomy i j with g | g | g
 ·exact absurd (by simpa using e) (key i j h1 h2 g)
 ·exact g
 ·exact absurd (by simpa using e.symm) (key j i h2 h1 g)
theorem last_toI {T:List MntD} {nx k:Int} (h:PInv T nx k) (p:PlaceD):lastIx (standsI p.toI) (T.map MntD.toI)=ixOf (standsAt p) T:=by
 have hs:∀ i (hi:i<T.length),standsI p.toI ((T.map MntD.toI)[i]'(by simpa using hi))=standsAt p T[i]:=fun i hi=>by rw [List.getElem_map,stands_toI]
 rcases lastIx_cases (standsI p.toI) (T.map MntD.toI) with ⟨h1,h2⟩ | ⟨i,hi,h1,h2⟩ <;> rcases ixOf_cases (standsAt p) T with ⟨g1,g2⟩ | ⟨j,hj,g1,_,g3,_⟩
 ·rw [h1,g2]
 ·have:=h2 _ (List.getElem_mem (by simpa using hj))
  rw [hs j hj,g3] at this
  simp at this
 ·have hi':i<T.length:=by simpa using hi
  rw [hs i hi'] at h2
  have:=List.find?_eq_none.1 g1 _ (List.getElem_mem hi')
  exact absurd h2 this
 ·have hi':i<T.length:=by simpa using hi
  rw [hs i hi'] at h2
  simp only [standsAt,Bool.and_eq_true,decide_eq_true_eq] at h2 g3
  have:=h.inj hi' hj (h.uniq _ (List.getElem_mem hi') _ (List.getElem_mem hj) h2.1 g3.1 (h2.2.trans g3.2.symm))
  subst this
  rw [h1,g1]
theorem seenI_toI {T:List MntD} {nx k:Int} (h:PInv T nx k):∀ (n:Nat) (p:PlaceD),seenI (T.map MntD.toI) n p.toI=(seenN T n p).toI
 | 0,p=>rfl
 | n+1,p=>by
  simp only [seenI,seenN,last_toI h]
  rcases ixOf_cases (standsAt p) T with ⟨g1,g2⟩ | ⟨j,hj,g1,g2,g3,_⟩
  ·simp [g2,g1]
  ·simp only [g1,g2,List.length_map]
   rw [dif_pos ⟨by omega,by simpa using hj⟩]
   have:=seenI_toI h n ⟨T[j].id,T[j].root⟩
   simp only [List.getElem_map]
   exact this
theorem seen20 {T:List MntD} {nx k:Int} (h:PInv T nx k) (p:PlaceD):seenI (T.map MntD.toI) 20 p.toI=(seen T p).toI:=by
 rw [seenI_toI h]
 have h1:=h.len
 have h2:=above_le T p
 have:=seenN_enough h.older p (20 - T.length) T.length h2
 rw [show T.length+(20 - T.length)=20 by omega] at this
 rw [this]; rfl
theorem seenN_ge {T:List MntD} (h:Older T):∀ (n:Nat) (p:PlaceD),p.m<=(seenN T n p).m
 | 0,p=>by simp [seenN]
 | n+1,p=>by
  rw [seenN]
  cases hf:T.find? (standsAt p) with
  | none=>simp
  | some m =>
   have h1:=List.find?_some hf
   have h2:=List.mem_of_find?_eq_some hf
   simp only [standsAt,Bool.and_eq_true,decide_eq_true_eq] at h1
   have h3:=h m h2 h1.1
   have h4:=seenN_ge h n ⟨m.id,m.root⟩
   rw [h1.2] at h3
   simp only at h4 ⊢
   omega
theorem seen_fix {T:List MntD} (h:Older T) {p:PlaceD} (e:seen T p=p):T.find? (standsAt p)=none:=by
 cases hf:T.find? (standsAt p) with
 | none=>rfl
 | some m =>
  have h1:=List.find?_some hf
  have h2:=List.mem_of_find?_eq_some hf
  simp only [standsAt,Bool.and_eq_true,decide_eq_true_eq] at h1
  have h3:=h m h2 h1.1
  have h4:=seenN_ge h T.length ⟨m.id,m.root⟩
  have h5:=seen_some h hf
  rw [e] at h5
  unfold seen at h5
  rw [<- h5] at h4
  rw [h1.2] at h3
  simp only at h4
  omega
theorem bind_toI {T:List MntD} {nx k:Int} (h:PInv T nx k) (r:BitVec 16) (p:PlaceD):(bindI (T.map MntD.toI) nx r.toNat p.toI).M=(bindT T nx r p).T.map MntD.toI/\(bindI (T.map MntD.toI) nx r.toNat p.toI).nx=(bindT T nx r p).nx /\
  (bindI (T.map MntD.toI) nx r.toNat p.toI).n=(bindT T nx r p).n/\(bindI (T.map MntD.toI) nx r.toNat p.toI).e=(bindT T nx r p).e:=by
 unfold bindI bindT
 have h0:p.toI.mount=p.m:=rfl
 rw [h0,ix_toI,seen20 h,List.length_map]
 simp only [ne_eq,toI_inj]
 split
 ·simp
 ·split
  ·simp
  ·split
   ·simp
   ·simp [MntD.toI]
theorem PInv.bind {T:List MntD} {nx k:Int} (h:PInv T nx k) (r:BitVec 16) (p:PlaceD):PInv (bindT T nx r p).T (bindT T nx r p).nx (k+1):=by
 have hk:PInv T nx (k+1):=h.mono (by omega)
 unfold bindT
 split
 ·exact hk
 ·rename_i hf
  split
  ·exact hk
  ·rename_i hs
   split
   ·exact hk
   ·rename_i hl
    have hs:seen T p=p:=Classical.not_not.1 hs
    have hno:=seen_fix h.older hs
    have hpm:p.m<nx:=by
     rcases ixOf_cases (fun m:MntD=>decide (m.id=p.m)) T with ⟨h1,h2⟩ | ⟨j,hj,h1,h2,h3,_⟩
     ·have h2:findT T p.m = -1:=h2
      omega
     ·have:=(h.ids _ (List.getElem_mem hj)).2
      simp only [decide_eq_true_eq] at h3
      omega
    have hnx:=h.nx0
    refine ⟨fun m hm h0 =>?_,fun a ha b hb a0 b0 e =>?_,?_,by simp; omega,fun m hm =>?_,by simp only; omega,by have:=h.nx1; simp only; omega,fun m hm =>?_⟩
    ·rcases List.mem_append.1 hm with hm | hm
     ·exact h.older m hm h0
     ·simp only [List.mem_singleton] at hm; subst hm; exact hpm
    ·rcases List.mem_append.1 ha with ha | ha <;> rcases List.mem_append.1 hb with hb | hb
     ·exact h.uniq a ha b hb a0 b0 e
     ·simp only [List.mem_singleton] at hb; subst hb
      exact absurd (by simp only [standsAt,Bool.and_eq_true,decide_eq_true_eq]; exact ⟨a0,e⟩) (List.find?_eq_none.1 hno a ha)
     ·simp only [List.mem_singleton] at ha; subst ha
      exact absurd (by simp only [standsAt,Bool.and_eq_true,decide_eq_true_eq]; exact ⟨b0,e.symm⟩) (List.find?_eq_none.1 hno b hb)
     ·simp only [List.mem_singleton] at ha hb; subst ha hb; rfl
    ·rw [List.map_append,List.nodup_append]
     refine ⟨h.nodup,by simp,fun a ha b hb =>?_⟩
     obtain ⟨m,hm,rfl⟩:=List.mem_map.1 ha
     simp at hb; subst hb
     have:=(h.ids m hm).2
     omega
    ·rcases List.mem_append.1 hm with hm | hm
     ·have:=h.ids m hm; simp only; omega
     ·simp only [List.mem_singleton] at hm; subst hm; simp only; omega
    ·rcases List.mem_append.1 hm with hm | hm
     ·have:=h.held m hm; omega
     ·simp only [List.mem_singleton] at hm; subst hm; simp only; have:=h.nx1; omega
end Go.AM
end
section
namespace Go.AM
theorem Upd.congr {r r' s s':Res} {H H':AH} (h:Upd r r' H H') (f:r.fp=s.fp) (f':r'.fp=s'.fp) (p':∀ H,r'.P H->s'.P H):Upd s s' H H':=by
 obtain ⟨a,b,c,d⟩:=h
 exact ⟨f▸a,p' _ b,by rw [<- f,<- f']; exact c,f'▸d⟩
def nodesI (T:Tr) (Y:List RLy):List NodeI:=(T.N.zip Y).map fun p=>refI p.1 p.2
theorem nodesI_rows (T:Tr) (Y:List RLy):(nodesI T Y).map NodeI.cells=nodeRows T Y:=by simp [nodesI,nodeRows]
def mntI (M:List MntD):List (List Value):=(M.map MntD.toI).map MntI.cells
section
variable {E:Sy} {H H':AH} {Q:Value->AH->Prop} {t:Nat} {nv mv mv':Value} {nx nx':Int} {Y:List RLy} {T:Tr} {M M':List MntI}
def restR (Y:List RLy) (T:Tr):List Res:=(T.N.zip Y).map fun p=>nodeRR p.1 p.2
theorem refR_fp:(refR t nv mv nx (M.map MntI.cells) Y T).fp=(joinR (refMR t ⟨nv,T.limit,mv,nx,T.change⟩ (nodesI T Y) M :: restR Y T)).fp:=by
 simp [refR,refRs,joinR,refMR,restR,boxR,growR]
theorem refR_holds (H:AH):(refR t nv mv nx (M.map MntI.cells) Y T).P H↔(joinR (refMR t ⟨nv,T.limit,mv,nx,T.change⟩ (nodesI T Y) M :: restR Y T)).P H:=by
 simp only [refR,refRs,joinR,restR,List.mem_cons,forall_eq_or_imp]
 constructor
 ·rintro ⟨a,b,c,d⟩
  exact ⟨⟨a,by rw [nodesI_rows]; exact b,c⟩,d⟩
 ·rintro ⟨⟨a,b,c⟩,d⟩
  exact ⟨a,by rw [nodesI_rows] at b; exact b,c,d⟩
theorem refR_toM (h:Ow (refR t nv mv nx (M.map MntI.cells) Y T) H):Ow (joinR (refMR t ⟨nv,T.limit,mv,nx,T.change⟩ (nodesI T Y) M :: restR Y T)) H :=
 ⟨(refR_holds H).1 h.holds,by rw [<- refR_fp]; exact h.lt,by rw [<- refR_fp]; exact h.nd⟩
theorem refR_upd (h:Ow (refR t nv mv nx (M.map MntI.cells) Y T) H) (u:Upd (refMR t ⟨nv,T.limit,mv,nx,T.change⟩ (nodesI T Y) M) (refMR t ⟨nv,T.limit,mv',nx',T.change⟩ (nodesI T Y) M') H H') :
  Upd (refR t nv mv nx (M.map MntI.cells) Y T) (refR t nv mv' nx' (M'.map MntI.cells) Y T) H H' :=
 ((refR_toM h).set (k:=0) rfl u).congr refR_fp.symm refR_fp.symm fun H h=>(refR_holds H).2 h
theorem S.pinfoldref16_Tree_BindT (hE:Fold E) (h:Ow (refR t nv mv nx (M.map MntI.cells) Y T) H) (hn:M.length<2 ^ 20) (hx:0<=nx/\nx<2 ^ 61) (root:Int) (q:PlaceI)
  (hQ:∀ mv' H',Upd (refR t nv mv nx (M.map MntI.cells) Y T) (refR t nv mv' (bindI M nx root q).nx ((bindI M nx root q).M.map MntI.cells) Y T) H H'->Q (.tuple #[vi (bindI M nx root q).n,vi (bindI M nx root q).e]) H') :
  E.call (E.fid i.f55) [ptr t 0,vi root,q.v] H Q:=by
 have o:=(refR_toM h).part (k:=0) rfl
 refine S.f55 hE t ⟨nv,T.limit,mv,nx,T.change⟩ (nodesI T Y) M o.holds o.nd hn hx root q fun t' H' ht u =>?_
 obtain ⟨a,b,c,d⟩:=ht
 obtain ⟨n',l',m',x',c'⟩:=t'
 simp only at a b c d
 subst a b c d
 exact hQ m' H' (refR_upd h u)
end
end Go.AM
end
section
namespace Go.AM
def topP:PlaceD:=⟨0,1#16⟩
def dirP (T:Tr) (M:List MntD) (p:PlaceD):Bool:=(getT M p.m).isSome&&decide ((T.node p.i).kind=2#8)
def downsN (M:List MntD):Nat->PlaceD->PlaceD
 | 0,p=>p
 | n+1,p=>match downT M p with
  | none=>p
  | some q=>downsN M n q
def downs (M:List MntD) (p:PlaceD):PlaceD:=downsN M M.length p
def upP (T:Tr) (M:List MntD) (p:PlaceD):PlaceD :=
 if dirP T M p=true then if (T.node (downs M p).i).kind=0#8 then topP else seen M ⟨(downs M p).m,(T.node (downs M p).i).parent⟩ else topP
def splitF (cur:NameL):List UInt8->List NameL
 | []=>[cur]
 | c :: s=>if c=47 then cur :: splitF [] s else splitF (cur++[c]) s
def okPart (x:NameL):Bool:=decide (x≠[])&&decide (x≠[46])
def partsL (s:List UInt8):List NameL:=(splitF [] s).filter okPart
structure WayD where
 at_:PlaceD
 left:List NameL
 links:Nat
 deriving DecidableEq
def stepY (T:Tr) (M:List MntD) (w:WayD) (follow:Bool):WayD×Int :=
 match w.left with
 | []=>(w,0)
 | name :: left =>
  if dirP T M w.at_=false then (⟨w.at_,left,w.links⟩,20)
  else if name=[46,46] then
   if (T.node (upP T M w.at_).i).kind≠0#8/\dirP T M (upP T M w.at_)=false then (⟨upP T M w.at_,left,w.links⟩,2) else (⟨upP T M w.at_,left,w.links⟩,0)
  else if 14<name.length then (⟨w.at_,left,w.links⟩,36)
  else if (T.look w.at_.i name).2≠0 then (⟨w.at_,left,w.links⟩,(T.look w.at_.i name).2)
  else
   let n:=(T.look w.at_.i name).1
   if (T.node n).kind=3#8/\(follow=true\/left≠[]) then
    if 8<w.links+1 then (⟨w.at_,left,w.links+1⟩,40)
    else (⟨if (T.node n).text.head? = some 47 then seen M topP else w.at_,partsL (T.node n).text++left,w.links+1⟩,0)
   else if (T.node n).kind=2#8 then (⟨seen M ⟨w.at_.m,n⟩,left,w.links⟩,0)
   else (⟨⟨w.at_.m,n⟩,left,w.links⟩,0)
def walkN (T:Tr) (M:List MntD) (follow:Bool):Nat->WayD->WayD×Int
 | 0,w=>(w,0)
 | f+1,w=>if w.left=[] then (w,0) else if (stepY T M w follow).2≠0 then stepY T M w follow else walkN T M follow f (stepY T M w follow).1
def WayD.need (w:WayD):Nat:=w.left.length+(9 - w.links)*121
def walkW (T:Tr) (M:List MntD) (follow:Bool) (w:WayD):WayD×Int:=walkN T M follow w.need w
def beginW (M:List MntD) (cwd:PlaceD) (path:List UInt8):WayD×Int :=
 if path=[] then (⟨cwd,[],0⟩,2) else if 120<path.length then (⟨cwd,[],0⟩,36)
 else (⟨if path.head? = some 47 then seen M topP else cwd,partsL path,0⟩,0)
def endsSlash (path:List UInt8):Bool:=decide (path.getLast? = some 47)
def findW (T:Tr) (M:List MntD) (cwd:PlaceD) (path:List UInt8) (follow:Bool):PlaceD×Int :=
 if (beginW M cwd path).2≠0 then (PlaceD.zero,(beginW M cwd path).2)
 else
  let r:=walkW T M (follow||endsSlash path) (beginW M cwd path).1
  if r.2≠0 then (PlaceD.zero,r.2)
  else if (T.node r.1.at_.i).kind=0#8 then (PlaceD.zero,2)
  else if endsSlash path=true/\dirP T M r.1.at_=false then (PlaceD.zero,20)
  else (r.1.at_,0)
def nextA (T:Tr) (M:List MntD) (p:PlaceD):Option PlaceD :=
 match downT M p with
 | some q=>some q
 | none=>if (⟨p.m,(T.node p.i).parent⟩:PlaceD)=p\/(T.node (T.node p.i).parent).kind=0#8 then none else some ⟨p.m,(T.node p.i).parent⟩
def aboveN (T:Tr) (M:List MntD):Nat->PlaceD->List PlaceD
 | 0,_=>[]
 | f+1,p=>p :: match nextA T M p with
  | none=>[]
  | some q=>aboveN T M f q
def aboveW (T:Tr) (M:List MntD) (p:PlaceD):List PlaceD:=if dirP T M p=true then aboveN T M 289 p else []
def nameOf (T:Tr) (inn n:BitVec 16):Option NameL:=((T.node inn).ents.find? fun e=>decide (e.2=n)).map Prod.fst
def namesUp (T:Tr):List PlaceD->Option (List NameL)
 | []=>some []
 | [_]=>some []
 | p :: q :: l=>match namesUp T (q :: l) with
  | none=>none
  | some ns=>if q.m≠p.m then some ns else match nameOf T q.i p.i with
   | none=>none
   | some s=>some (ns++[s])
def joinSl:List NameL->List UInt8
 | []=>[]
 | [s]=>s
 | s :: l=>s++[47]++joinSl l
def pathW (T:Tr) (M:List MntD) (p:PlaceD):Option (List UInt8) :=
 if (aboveW T M p).getLast? = some topP then (namesUp T (aboveW T M p)).map fun ns=>47 :: joinSl ns else none
end Go.AM
end
section
namespace Go.AM
section
variable {E:Sy} {H:AH} {Q:Value->AH->Prop}
def cutSl:List UInt8->Option (List UInt8×List UInt8)
 | []=>none
 | c :: s=>if c=47 then some ([],s) else (cutSl s).map fun p=>(c :: p.1,p.2)
theorem splitF_cut:∀ (s cur:List UInt8),splitF cur s=match cutSl s with
  | none=>[cur++s]
  | some p=>(cur++p.1) :: splitF [] p.2
 | [],cur=>by simp [splitF,cutSl]
 | c :: s,cur=>by
  by_cases h:c=47
  ·simp [splitF,cutSl,h]
  ·simp only [splitF,cutSl,h,if_false]
   rw [splitF_cut s (cur++[c])]
   cases cutSl s <;> simp
theorem cutSl_index:∀ s:List UInt8,Lib.indexByte s 47=match cutSl s with | none => -1 | some p=>(p.1.length:Int)
 | []=>rfl
 | c :: s=>by
  have ih:=cutSl_index s
  by_cases h:c=47
  ·subst h; simp [Lib.indexByte,cutSl]
  ·have h':(c == 47)=false:=by simpa using h
   simp only [Lib.indexByte,h',cutSl,h,if_false,ih]
   cases hc:cutSl s with
   | none=>simp
   | some p=>simp
theorem cutSl_eq:∀ {s:List UInt8} {p:List UInt8×List UInt8},cutSl s=some p->s=p.1++47 :: p.2
 | [],p,h=>by simp [cutSl] at h
 | c :: s,p,h=>by
  by_cases k:c=47
  ·subst k; simp [cutSl] at h; subst h; rfl
  ·simp only [cutSl,k,if_false,Option.map_eq_some_iff] at h
   obtain ⟨q,h1,rfl⟩:=h
   simp [cutSl_eq h1]
theorem splitF_count:∀ (s cur:List UInt8),(splitF cur s).length=s.count 47+1
 | [],_=>rfl
 | c :: s,cur=>by
  by_cases h:c=47
  ·subst h; simp [splitF,splitF_count s []]
  ·simp [splitF,h,splitF_count s (cur++[c])]
theorem count_le (s:List UInt8):s.count 47<=s.length:=List.count_le_length
theorem S.f93 (hE:Fold E) (s:List UInt8) (hQ:Q (vi (s.count 47:Nat)) H):E.call (E.fid i.f93) [str s,str [47]] H Q:=by
 apply hE.f93
 have h1:ixStr (str [47]) (.int .i64 0)=some (.int .u8 47):=rfl
 simp [F.f93,h1]
 apply hE.f22
 exact hQ
theorem S.f95 (hE:Fold E) (s:List UInt8) (hQ:Q (vi (Lib.indexByte s 47)) H):E.call (E.fid i.f95) [str s,str [47]] H Q:=by
 apply hE.f95
 simp only [F.f95]
 apply hE.f28
 have h1:ixStr (str [47]) (.int .i64 0)=some (.int .u8 47):=rfl
 by_cases hs:[47]=s
 ·subst hs
  simp [F.f28]
  exact hQ
 ·simp [F.f28,h1,hs]
  apply hE.f29
  simp only [F.f29]
  apply hE.f24
  exact hQ
theorem str_extract (l:List UInt8) (a b:Nat):(⟨l.toArray⟩:ByteArray).extract a b=⟨((l.take b).drop a).toArray⟩:=by
 apply ByteArray.ext
 rw [ByteArray.data_extract]
 simp [List.extract_eq_take_drop,List.drop_take]
theorem slStr_take (l:List UInt8) (n:Nat) (h:n<=l.length):slStr (str l) none (some (vi n))=some (str (l.take n)):=by
 have h':n<=(⟨l.toArray⟩:ByteArray).size:=h
 simp only [str,slStr,bnd]
 rw [if_pos ⟨by omega,by exact_mod_cast h'⟩]
 simp [str_extract]
theorem slStr_drop (l:List UInt8) (n:Nat) (h:n<=l.length):slStr (str l) (some (vi n)) none=some (str (l.drop n)):=by
 have h':n<=(⟨l.toArray⟩:ByteArray).size:=h
 have hz:(⟨l.toArray⟩:ByteArray).size=l.length:=rfl
 simp only [str,slStr,bnd,Option.bind_some]
 rw [if_pos ⟨by omega,by rw [hz]; exact_mod_cast h⟩]
 simp [str_extract,hz]
def fillS (done:List NameL) (n:Nat):List (List Value):=strR done++List.replicate n [str []]
theorem fillS_set (done:List NameL) (n:Nat) (s:NameL):(fillS done (n+1)).set done.length [str s]=fillS (done++[s]) n:=by
 have h:(strR done).length=done.length:=strR_length done
 unfold fillS
 rw [<- h,List.set_append_right _ _ (Nat.le_refl _),Nat.sub_self,List.replicate_succ,List.set_cons_zero]
 simp [strR]
theorem fillS_length (done:List NameL) (n:Nat):(fillS done n).length=done.length+n:=by simp [fillS,strR]
theorem S.f98 (hE:Fold E) (s:List UInt8) (hs:s.length<2 ^ 40) (hQ:∀ v H',Ext H H'->Rows H' 1 v (strR (splitF [] s))->Q v H'):E.call (E.fid i.f98) [str s,str [47]] H Q:=by
 apply hE.f98
 simp only [F.f98]
 apply hE.f100
 have hc:=count_le s
 have hn1:binInt .add (vi (s.count 47:Nat)) (.int .i64 1)=some (vi ((s.count 47+1:Nat):Int)):=i64_inc (by omega)
 have hl1:binInt .add (vi (s.length:Nat)) (.int .i64 1)=some (vi ((s.length+1:Nat):Int)):=i64_inc (by omega)
 simp [F.f100]
 refine S.f93 hE s ?_
 have hcnt:=splitF_count s []
 generalize hN:s.count 47=c at *
 have hmin:fold2 min2 [vi ((c+1:Nat):Int),vi ((s.length+1:Nat):Int)]=some (vi ((c+1:Nat):Int)):=by
  rw [i64_min]
  rw [if_neg (by omega)]
 have hsub:binInt .sub (vi ((c+1:Nat):Int)) (.int .i64 1)=some (vi (c:Nat)):=by
  rw [i64_sub (by omega) (by omega)]; simp
 have hmk:=makeS_all 1 16 (c+1) [str []] rfl (by omega) (by omega)
 simp only [F.f100_j1,hn1,lenStr_s,hl1,hmin,tk_eq,opt_some]
 rw [show (#[(.string ⟨#[]⟩)]:Array Value)=[str []].toArray from rfl,hmk]
 simp only [AM.mk_some,hsub,tk_eq,opt_some]
 have g0:Grow zH (H.new (.cells (List.replicate (c+1) [str []]).flatten none)) 1 (slc H.next 0 (c+1) (c+1)) (fillS [] (c+1)) :=
  Grow.made (f:=none) (zH_get _) (by rw [AH.get_new_self]; simp [fillS,strR]) (.inl rfl) (by simp [fillS,strR]) (by
   intro r hr
   simp [fillS,strR] at hr
   subst hr
   exact ⟨rfl,rfl⟩)
 refine LoopL.count c (fun j ls H'=>∃ done rest,ls=[str rest,str [47],vi 0,vi c,slc H.next 0 (c+1) (c+1),vi j]/\done.length=j/\splitF [] s=done++splitF [] rest/\rest.length<=s.length/\Ext H H'/\Grow zH H' 1 (slc H.next 0 (c+1) (c+1)) (fillS done (c+1 - j))) ?_ ⟨[],s,rfl,rfl,rfl,Nat.le_refl _,(Ext.refl H).new _,g0⟩
 rintro j _ H1 X hj hX ⟨done,rest,rfl,hd,hsp,hrl,e1,g1⟩
 have hrc:rest.count 47+j=c:=by
  have h1:=congrArg List.length hsp
  rw [hcnt,List.length_append,splitF_count,hd] at h1
  omega
 by_cases hjc:j<c
 ·have hX:=hX hjc
  have hjc':(j:Int)<c:=by omega
  have hjj:=i64_inc (i:=j) (by omega)
  have hix:=cutSl_index rest
  have hcut:=splitF_cut rest []
  cases hcs:cutSl rest with
  | none =>
   rw [hcs] at hcut
   have h1:=splitF_count rest []
   rw [hcut] at h1
   simp at h1
   omega
  | some p =>
   rw [hcs] at hix hcut
   have hre:=cutSl_eq hcs
   have hpl:p.1.length+p.2.length+1=rest.length:=by rw [hre]; simp; omega
   have hge:¬ ((p.1.length:Int)<0):=by omega
   have hadd0:binInt .add (vi (p.1.length:Nat)) (vi 0)=some (vi (p.1.length:Nat)):=by rw [i64_add (by omega) (by omega)]; simp
   have hadd1:binInt .add (vi (p.1.length:Nat)) (vi 1)=some (vi ((p.1.length+1:Nat):Int)):=i64_inc (by omega)
   have hsl1:slStr (str rest) none (some (vi (p.1.length:Nat)))=some (str p.1):=by
    rw [slStr_take _ _ (by omega),hre,List.take_left' rfl]
   have hsl2:slStr (str rest) (some (vi ((p.1.length+1:Nat):Int))) none=some (str p.2):=by
    rw [slStr_drop _ _ (by omega),hre]
    congr 2
    rw [show p.1++47 :: p.2=(p.1++[47])++p.2 by simp,show p.1.length+1=(p.1++[47]).length by simp,List.drop_left' rfl]
   obtain ⟨b,o,H2,q1,q2,q3,q4,q5⟩:=g1.store (i:=j) (k:=0) (by rw [fillS_length]; omega) (by omega) (str p.1) rfl
   have hlast:(fillS done (c+1 - j)).set j (((fillS done (c+1 - j))[j]'(by rw [fillS_length]; omega)).set 0 (str p.1))=fillS (done++[p.1]) (c+1 - (j+1)):=by
    have e:c+1 - j=(c+1 - (j+1))+1:=by omega
    have h2:(fillS done (c+1 - j))[j]'(by rw [fillS_length]; omega)=[str []]:=by
     subst hd
     simp [fillS,strR]
    rw [h2]
    subst hd
    rw [e]
    exact fillS_set done _ p.1
   rw [hlast] at q4
   simp [F.f100_l1,hjc']
   refine S.f95 hE rest ?_
   rw [hix]
   have q3':store1 (ptr b o) (str p.1) H1=some H2:=by simpa using q3
   simp [-Int.natCast_add,hge,hadd0,hadd1,hsl1,hsl2,q1,q3',hjj]
   refine hX _ _ ⟨done++[p.1],p.2,rfl,by simp [hd],by rw [hsp,hcut]; simp,by omega,?_,q4⟩
   exact q5.ext e1 fun b hb=>by rw [mem_blkL] at hb; simp [blk] at hb; omega
 ·have hjc':¬ (j:Int)<c:=by omega
  have hje:j=c:=by omega
  have hrest:splitF [] rest=[rest]:=by
   have hcut:=splitF_cut rest []
   cases hcs:cutSl rest with
   | none=>rw [hcs] at hcut; simpa using hcut
   | some p =>
    have:=cutSl_eq hcs
    rw [this] at hrc
    simp at hrc
    omega
  have hjj:binInt .add (vi (j:Nat)) (vi 1)=some (vi ((j+1:Nat):Int)):=i64_inc (by omega)
  obtain ⟨b,o,H2,q1,q2,q3,q4,q5⟩:=g1.store (i:=j) (k:=0) (by rw [fillS_length]; omega) (by omega) (str rest) rfl
  have hlast:(fillS done (c+1 - j)).set j (((fillS done (c+1 - j))[j]'(by rw [fillS_length]; omega)).set 0 (str rest))=fillS (done++[rest]) (c+1 - (j+1)):=by
   have e:c+1 - j=(c+1 - (j+1))+1:=by omega
   have h2:(fillS done (c+1 - j))[j]'(by rw [fillS_length]; omega)=[str []]:=by
    subst hd
    simp [fillS,strR]
   rw [h2]
   subst hd
   rw [e]
   exact fillS_set done _ rest
  rw [hlast] at q4
  have q3':store1 (ptr b o) (str rest) H1=some H2:=by simpa using q3
  have e2:Ext H H2:=q5.ext e1 fun b hb=>by rw [mem_blkL] at hb; simp [blk] at hb; omega
  have hrows:Rows H2 1 (slc H.next 0 (c+1) (c+1)) (strR (splitF [] s)):=by
   have:=q4.toRows
   have h0:c+1 - (j+1)=0:=by omega
   rw [h0] at this
   rw [hsp,hrest]
   simpa [fillS] using this
  have hlen:(strR (splitF [] s)).length=j+1:=by rw [strR_length,hcnt]; omega
  obtain ⟨hsl,hrows2⟩:=hrows.slice' (lo:=none) (hi:=some (vi ((j+1:Nat):Int))) (i:=0) (j:=j+1) (.inr ⟨rfl,rfl⟩) (.inl rfl) (by omega) (by omega)
  rw [List.take_of_length_le (by omega),List.drop_zero] at hrows2
  simp [-Int.natCast_add,F.f100_l1,hjc',F.f100_j2,q1,q3',hjj,hsl]
  exact hQ _ _ e2 hrows2
theorem ix_strR {v:Value} {l:List NameL} (h:Rows H 1 v (strR l)) {i:Nat} (hi:i<l.length):∃ b o,ixSlc 1 v (vi i)=some (ptr b o)/\(H.get b).cell o=some (str l[i])/\(H.get b).row o 1=some [str l[i]]:=by
 obtain ⟨b,o,h1,h2⟩:=h.ix (i:=i) (by rw [strR_length]; exact hi)
 have hrow:(strR l)[i]'(by rw [strR_length]; exact hi)=[str l[i]]:=by simp [strR]
 rw [hrow] at h2
 exact ⟨b,o,h1,by have:=row_at h2 (j:=0) (by omega); simpa using this,h2⟩
theorem strR_lenSlc {v:Value} {l:List NameL} (h:Rows H 1 v (strR l)):AM.lenSlc v=some (vi l.length):=by
 have:=h.lenSlc
 rwa [strR_length] at this
theorem filter_take_succ {α:Type} (P:α->Bool) (l:List α) {j:Nat} (hj:j<l.length):(l.take (j+1)).filter P=(l.take j).filter P++if P l[j] then [l[j]] else []:=by
 rw [List.take_succ_eq_append_getElem hj,List.filter_append]
 congr 1
 by_cases h:P l[j] <;> simp [h]
theorem splitF_len (s:List UInt8):(splitF [] s).length<=s.length+1:=by
 rw [splitF_count]
 have:=count_le s
 omega
theorem partsL_le (s:List UInt8):(partsL s).length<=s.length+1:=Nat.le_trans (List.length_filter_le _ _) (splitF_len s)
theorem S.f114 (hE:Fold E) (s:List UInt8) (hs:s.length<2 ^ 40) (hQ:∀ v H',Ext H H'->Grow zH H' 1 v (strR (partsL s))->(∀ b,blk v=some b->H.next<=b)->Q v H'):E.call (E.fid i.f114) [str s] H Q:=by
 apply hE.f114
 simp only [F.f114]
 refine S.f98 hE s hs fun v H1 e1 r1 =>?_
 have hl:=strR_lenSlc r1
 have hlen:=splitF_len s
 simp only [hl,opt_some]
 unfold partsL at hQ
 generalize splitF [] s=l at *
 refine LoopL.count l.length (fun j ls H'=>∃ w,ls=[w,v,vi l.length,vi j]/\Ext H1 H'/\Grow zH H' 1 w (strR ((l.take j).filter okPart))/\FreshV H1.next w) ?_ ⟨nilS,rfl,Ext.refl _,by simpa [strR] using Grow.nil zH H1 1,by simp [blk,FreshV]⟩
 rintro j _ H2 X hj hX ⟨w,rfl,e2,g2,f2⟩
 by_cases hjl:j<l.length
 ·have hX:=hX hjl
  have hjl':(j:Int)<l.length:=by omega
  have hjj:=i64_inc (i:=j) (by omega)
  obtain ⟨b,o,q1,q2,_⟩:=ix_strR (r1.mono e2) hjl
  have hst:=filter_take_succ okPart l hjl
  have hle:((l.take j).filter okPart).length<=j:=Nat.le_trans (List.length_filter_le _ _) (by rw [List.length_take]; omega)
  generalize hx:l[j]=x at *
  by_cases h1:x=[]
  ·have h2:okPart x=false:=by simp [okPart,h1]
   rw [h2] at hst
   simp [-Int.natCast_add,F.f114_l1,hjl',q1,q2,h1,hjj]
   exact hX _ _ ⟨w,rfl,e2,by rw [hst]; simpa using g2,f2⟩
  ·by_cases h3:x=[46]
   ·have h2:okPart x=false:=by simp [okPart,h3]
    rw [h2] at hst
    simp [-Int.natCast_add,F.f114_l1,hjl',q1,q2,h3,hjj]
    exact hX _ _ ⟨w,rfl,e2,by rw [hst]; simpa using g2,f2⟩
   ·have h2:okPart x=true:=by simp [okPart,h1,h3]
    rw [h2] at hst
    obtain ⟨w',H3,a1,a2,a3⟩:=g2.app1 (Nat.zero_le _) (bytes:=16) [str x] rfl rfl (by decide) (by decide) (by rw [strR_length]; omega)
    have hb:=buildS_val (str []) (str x) rfl rfl
    simp [-Int.natCast_add,-buildS_eq,F.f114_l1,hjl',q1,q2,h1,h3,hb,a1,hjj]
    obtain ⟨k1,k2⟩:=grew_ext a3 e2 (H0:=H1) f2
    refine hX _ _ ⟨w',rfl,k1,by rw [hst]; simpa [strR] using a2,k2⟩
 ·have hjl':¬ (j:Int)<l.length:=by omega
  simp [F.f114_l1,hjl']
  refine hQ w H2 (e1.trans e2) (by rw [List.take_of_length_le (by omega)] at g2; exact g2) fun b hb=>Nat.le_trans e1.1 (f2 b hb)
end
end Go.AM
end
section
namespace Go.AM
structure WkAt (H:AH) (t:Nat) (T:Tr) (M:List MntD):Prop where
 at_:∃ p m L q nx,H.get t = .cells [ptr p 0,ptr q 0] none/\Ino H p m L T/\TabAt H q M nx
 older:Older M
theorem WkAt.mono {H H':AH} {t:Nat} {T:Tr} {M:List MntD} (h:WkAt H t T M) (e:Ext H H'):WkAt H' t T M:=by
 obtain ⟨⟨p,m,L,q,nx,h1,h2,h3⟩,h4⟩:=h
 exact ⟨⟨p,m,L,q,nx,e.cells h1,h2.mono e,h3.mono e⟩,h4⟩
section
variable {E:Sy} {H:AH} {Q:Value->AH->Prop} {t:Nat} {T:Tr} {M:List MntD}
theorem nilp_p (b o:Nat):binNil eqPtr .neq (ptr b o) (.pointer none)=some (.bool true):=rfl
theorem nilq_p (b o:Nat):binNil eqPtr .eql (ptr b o) (.pointer none)=some (.bool false):=rfl
theorem S.f113 (hE:Fold E) (h:WkAt H t T M) (hQ:Q (vb true) H):E.call (E.fid i.f113) [ptr t 0] H Q:=by
 apply hE.f113
 obtain ⟨⟨p,m,L,q,nx,h1,h2,h3⟩,h4⟩:=h
 simp [F.f113,nilp_p,h1]
 exact hQ
theorem S.f107 (hE:Fold E) (h:WkAt H t T M) (c:PlaceD) (hQ:∀ H',Ext H H'->Q (vb (dirP T M c)) H'):E.call (E.fid i.f107) [ptr t 0,c.v] H Q:=by
 apply hE.f107
 have x1:Ext H (H.new (.cells c.cells none)):=(Ext.refl H).new _
 have hb:=AH.get_new_self H (.cells c.cells none)
 generalize hH1:H.new (.cells c.cells none)=H1 at *
 simp [F.f107,hH1]
 refine S.f113 hE (h.mono x1) ?_
 obtain ⟨⟨p,m,L,q,nx,h1,h2,h3⟩,h4⟩:=h.mono x1
 simp [h1,hb,PlaceD.cells]
 refine S.f9 hE h2 c.i ?_
 simp [h1,hb,PlaceD.cells]
 have x2:Ext H1 (H1.new (.cells [vi 0,vi 0,u16 0#16,u16 0#16,vi 0] none)):=(Ext.refl _).new _
 have hb2:=AH.get_new_self H1 (.cells [vi 0,vi 0,u16 0#16,u16 0#16,vi 0] none)
 refine S.f36 hE q M nx c.m (h3.mono x2) fun H5 e5 =>?_
 have hb5:=e5.cells hb2
 refine ⟨by rw [hb5,hb2],?_⟩
 have hst:storeN 5 (ptr H1.next 0) (optM (getT M c.m)).v H5=some (H5.put H1.next (.cells (optM (getT M c.m)).cells none)):=by
  rw [storeN_ptr,hb5]; rfl
 have x3:Ext H (H5.put H1.next (.cells (optM (getT M c.m)).cells none)):=(x1.trans (x2.trans e5)).put (b:=H1.next) x1.1 _
 have hQ:=hQ _ x3
 have hg:∀ b cs,H1.get b = .cells cs none->(H5.put H1.next (.cells (optM (getT M c.m)).cells none)).get b = .cells cs none:=fun b cs hh=>by
  rw [AH.get_put_ne _ _ (Nat.ne_of_lt (AH.lt_cells hh))]; exact (x2.trans e5).cells hh
 generalize H5.put H1.next (.cells (optM (getT M c.m)).cells none)=H6 at *
 unfold dirP at hQ
 cases hs:(getT M c.m).isSome with
 | false =>
  rw [hs] at hQ
  simp at hQ
  simp [hst]
  exact hQ
 | true =>
  rw [hs] at hQ
  rcases h2.get c.i with ⟨k0,_⟩ | ⟨kk,yy,k0,k1,k2,k3,k4⟩
  ·simp [k0] at hQ
   simp [hst,nodeP_none h2.cov k0]
   exact hQ
  ·have hk:=hg _ _ k3
   have he:binInt .eql (u8 (T.node c.i).kind) (.int .u8 2)=some (vb (decide ((T.node c.i).kind=2#8))):=by simp
   simp at hQ
   simp [hst,nodeP_some h2.cov.nd k1,nilp_p,hk,inC,he]
   exact hQ
def belowM (M:List MntD) (p:PlaceD):Nat:=(M.filter fun m=>decide (m.id<=p.m)).length
theorem getT_some {id:Int} {m:MntD} (h:getT M id=some m):m∈M/\m.id=id:=⟨List.mem_of_find?_eq_some h,by simpa using List.find?_some h⟩
theorem downT_some {p q:PlaceD} (h:downT M p=some q):∃ m,getT M p.m=some m/\m.id≠0/\m.root=p.i/\m.at_=q:=by
 unfold downT at h
 split at h
 ·simp at h
 ·rename_i m hm
  split at h
  ·simp at h
  ·rename_i hc
   simp only [not_or,Decidable.not_not] at hc
   exact ⟨m,hm,hc.1,hc.2,by simpa using h⟩
theorem below_step (ho:Older M) {p q:PlaceD} (h:downT M p=some q):belowM M q<belowM M p:=by
 obtain ⟨m,h1,h2,h3,rfl⟩:=downT_some h
 obtain ⟨hm,hi⟩:=getT_some h1
 have:=ho m hm h2
 refine filter_lt _ _ M (fun x _ hx =>?_) m hm (by simpa using this) (by simpa using Int.le_of_eq hi)
 simp only [decide_eq_true_eq] at hx ⊢
 omega
theorem downsN_stable (ho:Older M):∀ (n:Nat) (p:PlaceD),belowM M p<=n->downsN M n p=downsN M (n+1) p
 | 0,p,h=>by
  cases hf:downT M p with
  | none=>simp [downsN,hf]
  | some q=>have:=below_step ho hf; omega
 | n+1,p,h=>by
  cases hf:downT M p with
  | none=>simp [downsN,hf]
  | some q =>
   have:=below_step ho hf
   have ih:=downsN_stable ho n q (by omega)
   rw [downsN,downsN,hf]
   exact ih
theorem below_le (M:List MntD) (p:PlaceD):belowM M p<=M.length:=List.length_filter_le _ _
theorem downs_none {p:PlaceD} (h:downT M p=none):downs M p=p:=by
 unfold downs
 cases M.length <;> simp [downsN,h]
theorem downs_some (ho:Older M) {p q:PlaceD} (h:downT M p=some q):downs M p=downs M q:=by
 have h1:=below_step ho h
 have h2:=below_le M p
 unfold downs
 obtain ⟨n,hn⟩:∃ n,M.length=n+1:=⟨M.length - 1,by omega⟩
 rw [hn,downsN,h]
 exact downsN_stable ho n _ (by omega)
theorem mkPlace (a:Int) (b:BitVec 16):buildV [(0,1),(1,1)] #[(.int .i64 0),(.int .u16 0)] [(0,vi a),(1,u16 b)]=some (PlaceD.v ⟨a,b⟩):=rfl
theorem mkPlace0:buildV [(0,1),(1,1)] #[(.int .i64 0),(.int .u16 0)] []=some PlaceD.zero.v:=rfl
theorem S.f110 (hE:Fold E) (h:WkAt H t T M) (c:PlaceD) (hQ:∀ H',Ext H H'->Q (upP T M c).v H'):E.call (E.fid i.f110) [ptr t 0,c.v] H Q:=by
 apply hE.f110
 simp [F.f110]
 generalize hH2:(H.new _).new _=H2
 have x2:Ext H H2:=by subst hH2; exact ((Ext.refl H).new _).new _
 have k1:H2.get H.next = .cells c.cells none:=by subst hH2; simp [AH.get_new]
 have k2:H2.get (H.next+1) = .cells [vi 0,u16 0#16] none:=by subst hH2; simp [AH.get_new]
 clear hH2
 have hl:loadN 2 (ptr H.next 0) H2=some c.v:=by rw [loadN_ptr,k1]; rfl
 simp [hl]
 refine S.f107 hE (h.mono x2) c fun H3 e3 =>?_
 have st:∀ (z:PlaceD) (H':AH),H'.get (H.next+1) = .cells [vi 0,u16 0#16] none->storeN 2 (ptr (H.next+1) 0) z.v H'=some (H'.put (H.next+1) (.cells z.cells none))/\loadN 2 (ptr (H.next+1) 0) (H'.put (H.next+1) (.cells z.cells none))=some z.v:=by
  intro z H' hh
  constructor
  ·rw [storeN_ptr,hh]; rfl
  ·rw [loadN_ptr,AH.get_put_self _ _ (AH.lt_cells hh)]; rfl
 unfold upP at hQ
 cases hd:dirP T M c with
 | false =>
  rw [hd] at hQ
  simp at hQ
  simp
  refine S.f41 hE fun H4 e4 =>?_
  obtain ⟨s1,s2⟩:=st ⟨0,1#16⟩ H4 (e4.cells (e3.cells k2))
  simp [s1,s2]
  exact hQ _ ((x2.trans (e3.trans e4)).put (b:=H.next+1) (by omega) _)
 | true =>
  rw [hd] at hQ
  simp at hQ
  simp
  refine LoopL.ind (fun n s H'=>∃ r,n=belowM M r/\s=[ptr t 0,ptr H.next 0,ptr (H.next+1) 0]/\Ext H H'/\downs M r=downs M c/\H'.get H.next = .cells r.cells none/\H'.get (H.next+1) = .cells [vi 0,u16 0#16] none) ?_ (belowM M c) ⟨c,rfl,rfl,x2.trans e3,rfl,e3.cells k1,e3.cells k2⟩
  rintro n _ H4 X hX ⟨r,rfl,rfl,e4,hs,m1,m2⟩
  obtain ⟨⟨p,m,L,q,nx,h1,h2,h3⟩,ho⟩:=h.mono e4
  have l1:=AH.lt_cells m1
  have l2:=AH.lt_cells m2
  have hl:loadN 2 (ptr H.next 0) H4=some r.v:=by rw [loadN_ptr,m1]; rfl
  simp [F.f110_l1,h1,hl]
  have x5:Ext H4 (H4.new (.cells [vi 0,u16 0#16] none)):=(Ext.refl _).new _
  have hb5:=AH.get_new_self H4 (.cells [vi 0,u16 0#16] none)
  refine S.f35 hE q M nx r (h3.mono x5) fun H5 e5 =>?_
  have hb5':=e5.cells hb5
  refine ⟨by rw [hb5',hb5],?_⟩
  have hst:storeN 2 (ptr H4.next 0) (optP (downT M r)).v H5=some (H5.put H4.next (.cells (optP (downT M r)).cells none)):=by rw [storeN_ptr,hb5']; rfl
  have hg:∀ b cs,H4.get b = .cells cs none->(H5.put H4.next (.cells (optP (downT M r)).cells none)).get b = .cells cs none:=fun b cs hh=>by
   rw [AH.get_put_ne _ _ (Nat.ne_of_lt (AH.lt_cells hh))]; exact (x5.trans e5).cells hh
  have x6:Ext H4 (H5.put H4.next (.cells (optP (downT M r)).cells none)):=(x5.trans e5).put (b:=H4.next) (Nat.le_refl _) _
  have hb6:(H5.put H4.next (.cells (optP (downT M r)).cells none)).get H4.next = .cells (optP (downT M r)).cells none:=AH.get_put_self _ _ (AH.lt_cells hb5')
  simp [hst]
  generalize H5.put H4.next (.cells (optP (downT M r)).cells none)=H6 at *
  cases hdn:downT M r with
  | none =>
   have hdr:=downs_none hdn
   rw [<- hs,hdr] at hQ
   simp [hg _ _ h1,hg _ _ m1,PlaceD.cells]
   refine S.f9 hE (h2.mono x6) r.i ?_
   rcases (h2.mono x6).get r.i with ⟨k0,_⟩ | ⟨kk,yy,k0,k1,k2,k3,k4⟩
   ·simp [nodeP_none h2.cov k0]
    refine S.f41 hE fun H7 e7 =>?_
    obtain ⟨s1,s2⟩:=st ⟨0,1#16⟩ H7 (e7.cells (hg _ _ m2))
    simp [s1,s2]
    simp [k0] at hQ
    exact hQ _ ((e4.trans (x6.trans e7)).put (b:=H.next+1) (by omega) _)
   ·simp [nodeP_some h2.cov.nd k1,nilq_p,hg _ _ h1,hg _ _ m1,PlaceD.cells,k3,inC,mkPlace]
    refine S.f37 hE q M nx ⟨r.m,(T.node r.i).parent⟩ (h3.mono x6) ho fun H7 e7 =>?_
    obtain ⟨s1,s2⟩:=st (seen M ⟨r.m,(T.node r.i).parent⟩) H7 (e7.cells (hg _ _ m2))
    simp [s1,s2]
    simp [k0] at hQ
    exact hQ _ ((e4.trans (x6.trans e7)).put (b:=H.next+1) (by omega) _)
  | some q' =>
   have hdr:=downs_some ho hdn
   have hlt:=below_step ho hdn
   rw [hdn] at hb6
   have hl6:loadN 2 (ptr H4.next 0) H6=some q'.v:=by rw [loadN_ptr,hb6]; rfl
   have hs6:storeN 2 (ptr H.next 0) q'.v H6=some (H6.put H.next (.cells q'.cells none)):=by rw [storeN_ptr,hg _ _ m1]; rfl
   simp [hl6,hs6]
   refine hX (belowM M q') hlt _ _ ⟨q',rfl,rfl,(e4.trans x6).put (b:=H.next) (Nat.le_refl _) _,by rw [<- hdr]; exact hs,AH.get_put_self _ _ (AH.lt_cells (hg _ _ m1)),?_⟩
   rw [AH.get_put_ne _ _ (by omega)]
   exact hg _ _ m2
end
end Go.AM
end
section
namespace Go.AM
def wayC (t:Nat) (w:WayD) (lv:Value):List Value:=[ptr t 0,vi w.at_.m,u16 w.at_.i,lv,vi (w.links:Nat)]
abbrev wayV (t:Nat) (w:WayD) (lv:Value):Value := .agg (wayC t w lv).toArray
theorem Rows.plainV {H:AH} {v:Value} {rows:List (List Value)} {sz:Nat} (h:Rows H sz v rows):plain1 v=true:=by
 rcases h.at_ with ⟨_,c,rfl⟩ | ⟨b,o,c,rfl,_⟩
 ·cases c <;> rfl
 ·rfl
section
variable {E:Sy} {H H0 Z:AH} {Q:Value->AH->Prop} {t:Nat} {T:Tr} {M:List MntD} {L:List Res}
theorem wayC_plain (t:Nat) (w:WayD) {lv:Value} (h:plain1 lv=true):(wayC t w lv).all plain1=true:=by
 simp only [wayC,List.all_cons,List.all_nil,h]; rfl
theorem way_store (t:Nat) (w:WayD) {lv:Value} (h:plain1 lv=true) {b:Nat} {cs:List Value} (hl:cs.length=5) {H:AH} (hg:H.get b = .cells cs none):storeN 5 (ptr b 0) (wayV t w lv) H=some (H.put b (.cells (wayC t w lv) none)):=by
 rw [storeN_ptr,hg]
 have h5:(wayC t w lv).length=5:=rfl
 have:AM.splice cs 0 (wayC t w lv)=wayC t w lv:=by simp [splice,hl,h5]
 simp only [List.size_toArray,List.toList_toArray,wayC_plain t w h,h5,hl,Nat.zero_add,Nat.le_refl,and_self,if_true,this]
theorem way_load (t:Nat) (w:WayD) {lv:Value} {b:Nat} {H:AH} (hg:H.get b = .cells (wayC t w lv) none):loadN 5 (ptr b 0) H=some (wayV t w lv):=by
 rw [loadN_ptr,hg]; rfl
theorem S.f112 (hE:Fold E) (h:WkAt H t T M) (c:PlaceD) (path:List UInt8) (hp:path.length<2 ^ 63) (hQ:∀ lv H',Ext H H'->Rows H' 1 lv (strR (beginW M c path).1.left)->FreshV H.next lv->Q (.tuple #[wayV t (beginW M c path).1 lv,vi (beginW M c path).2]) H'):E.call (E.fid i.f112) [ptr t 0,c.v,str path] H Q:=by
 apply hE.f112
 have hz:([.pointer none,vi 0,u16 0#16,nilS,vi 0]:List Value).length=5:=rfl
 have hbv:buildV [(0,1),(1,2),(3,1),(4,1)] #[(.pointer none),(.int .i64 0),u16 0#16,(.slice none 0 0),(.int .i64 0)] [(0,ptr t 0),(1,c.v)]=some (wayV t ⟨c,[],0⟩ nilS):=rfl
 simp only [F.f112,boxO_agg_z,AM.mk_some,mkPtr_eq_z,allocW_eq,AH.next_new_z,u16_lit0_z,tk_eq]
 generalize hH2:(H.new _).new _=H2
 have x2:Ext H H2:=by subst hH2; exact ((Ext.refl H).new _).new _
 have k1:H2.get H.next = .cells c.cells none:=by subst hH2; simp [AH.get_new]
 have k2:H2.get (H.next+1) = .cells [.pointer none,vi 0,u16 0#16,nilS,vi 0] none:=by subst hH2; simp [AH.get_new]
 have n2:H2.next=H.next+2:=by subst hH2; simp
 clear hH2
 have hl:loadN 2 (ptr H.next 0) H2=some c.v:=by rw [loadN_ptr,k1]; rfl
 have x3:Ext H2 (H2.new (.cells [.pointer none,vi 0,u16 0#16,nilS,vi 0] none)):=(Ext.refl _).new _
 have k3:=AH.get_new_self H2 (.cells [.pointer none,vi 0,u16 0#16,nilS,vi 0] none)
 have s3:=way_store t ⟨c,[],0⟩ (lv:=nilS) rfl hz k3
 simp only [AH.next_new_z,hl,hbv,allocW_eq,u16_lit0_z,s3,tk_eq,opt_some]
 have x4:Ext H2 ((H2.new (.cells [.pointer none,vi 0,u16 0#16,nilS,vi 0] none)).put H2.next (.cells (wayC t ⟨c,[],0⟩ nilS) none)):=x3.put (b:=H2.next) (Nat.le_refl _) _
 have k4:((H2.new (.cells [.pointer none,vi 0,u16 0#16,nilS,vi 0] none)).put H2.next (.cells (wayC t ⟨c,[],0⟩ nilS) none)).get H2.next = .cells (wayC t ⟨c,[],0⟩ nilS) none:=AH.get_put_self _ _ (AH.lt_cells k3)
 generalize (H2.new (.cells [.pointer none,vi 0,u16 0#16,nilS,vi 0] none)).put H2.next (.cells (wayC t ⟨c,[],0⟩ nilS) none)=H4 at *
 refine S.f113 hE (h.mono (x2.trans x4)) ?_
 have fin:∀ (w:WayD) (lv:Value) (e:Int) (H':AH) (R:Value->AH->Prop),H'.get H2.next = .cells (wayC t w lv) none->H'.get (H.next+1) = .cells [.pointer none,vi 0,u16 0#16,nilS,vi 0] none->plain1 lv=true ->
   R (.tuple #[wayV t w lv,vi e]) (H'.put (H.next+1) (.cells (wayC t w lv) none)) ->
   opt (loadN 5 (ptr H2.next 0) H') fun v8=>opt (storeN 5 (ptr (H.next+1) 0) v8 H') fun H6=>opt (loadN 5 (ptr (H.next+1) 0) H6) fun v9=>R (.tuple #[v9,vi e]) H6:=by
  intro w lv e H' R g1 g2 hpl hR
  simp only [way_load t w g1,way_store t w hpl hz g2,way_load t w (AH.get_put_self _ _ (AH.lt_cells g2)),tk_eq,opt_some]
  exact hR
 simp only [un_not_z,Bool.not_true,tk_eq,opt_some,ifB_false]
 unfold beginW at hQ
 have k24:=x4.cells k2
 have x24:=x2.trans x4
 by_cases h0:path=[]
 ·subst h0
  simp only [show binStr .eql (str []) (.string ⟨#[]⟩)=some (vb true) from binStr_eql [] [],AH.next_new_z,tk_eq,opt_some,ifB_true]
  refine fin ⟨c,[],0⟩ nilS 2 H4 Q k4 k24 rfl (hQ nilS _ (x24.put (b:=H.next+1) (by omega) _) ?_ (by simp [FreshV,blk]))
  simpa [strR] using Rows.nil _ 1 none
 have h0':binStr .eql (str path) (.string ⟨#[]⟩)=some (vb false):=by
  show binStr .eql (str path) (str [])=_
  rw [binStr_eql]; simp [h0]
 by_cases h1:120<path.length
 ·have h1':(120:Int)<path.length:=by omega
  simp only [h0',lenStr_s,i64_gtr,gt_iff_lt,h1',decide_true,tk_eq,opt_some,ifB_true,ifB_false]
  simp only [h0,h1,if_false,if_true] at hQ
  refine fin ⟨c,[],0⟩ nilS 36 H4 Q k4 k24 rfl (hQ nilS _ (x24.put (b:=H.next+1) (by omega) _) ?_ (by simp [FreshV,blk]))
  simpa [strR] using Rows.nil _ 1 none
 have h1':¬ (120:Int)<path.length:=by omega
 simp only [h0,h1,if_false] at hQ
 have join:∀ (a:PlaceD) (H':AH),Ext H H'->H'.get H2.next = .cells (wayC t ⟨a,[],0⟩ nilS) none->H'.get (H.next+1) = .cells [.pointer none,vi 0,u16 0#16,nilS,vi 0] none ->
   (∀ lv H',Ext H H'->Rows H' 1 lv (strR (partsL path))->FreshV H.next lv->Q (.tuple #[wayV t ⟨a,partsL path,0⟩ lv,vi 0]) H')->F.f112_j1 E Q (str path) (ptr (H.next+1) 0) (ptr H2.next 0) H':=by
  intro a H' e g1 g2 hQ'
  simp only [F.f112_j1]
  refine S.f114 hE path (by omega) fun lv H5 e5 g5 f5 =>?_
  have m1:=e5.cells g1
  have m2:=e5.cells g2
  have hpl:=g5.plain
  have hst:store1 (ptr H2.next 3) lv H5=some (H5.put H2.next (.cells (wayC t ⟨a,partsL path,0⟩ lv) none)):=by
   rw [store1_ptr,if_pos hpl,m1]; rfl
  simp only [addOff_ptr,Nat.zero_add,hst,tk_eq,opt_some]
  have l1:=AH.lt_cells m1
  refine fin ⟨a,partsL path,0⟩ lv 0 _ Q (AH.get_put_self _ _ l1) (by rw [AH.get_put_ne _ _ (by omega)]; exact m2) hpl (hQ' lv _ (((e.trans e5).put (b:=H2.next) (by omega) _).put (b:=H.next+1) (by omega) _) ?_ (fun b hb=>Nat.le_trans e.1 (f5 b hb)))
  have hb:∀ b,blk lv=some b->b≠H2.next/\b≠H.next+1:=fun b hb=>by
   have:=f5 b hb
   have:=AH.lt_cells g1
   have:=AH.lt_cells g2
   omega
  exact (g5.keep fun b hb' _=>by rw [AH.get_put_ne _ _ (hb b hb').2,AH.get_put_ne _ _ (hb b hb').1]).toRows
 obtain ⟨ch,tl,rfl⟩:∃ ch tl,path=ch :: tl:=by
  cases path with
  | nil=>exact (h0 rfl).elim
  | cons ch tl=>exact ⟨ch,tl,rfl⟩
 have hix:ixStr (str (ch :: tl)) (.int .i64 0)=some (.int .u8 ch.toNat):=rfl
 by_cases hc:ch=47
 ·subst hc
  have hc':binInt .eql (.int .u8 (UInt8.toNat 47)) (.int .u8 47)=some (vb true):=rfl
  obtain ⟨⟨p,m,L,q,nx,h1,h2,h3⟩,ho⟩:=h.mono x24
  simp only [h0',lenStr_s,i64_gtr,gt_iff_lt,h1',decide_false,hix,hc',nilCk_p,addOff_ptr,load1_ptr,Nat.zero_add,h1,cell_cells_z,List.getElem?_cons_succ,List.getElem?_cons_zero,tk_eq,opt_some,ifB_true,ifB_false]
  refine S.f41 hE fun H5 e5 =>?_
  refine ⟨by rw [load1_ptr,load1_ptr,e5.cells h1,h1],?_⟩
  refine S.f37 hE q M nx ⟨0,1#16⟩ (h3.mono e5) ho fun H6 e6 =>?_
  have m1:=e6.cells (e5.cells k4)
  have hst:storeN 2 (ptr H2.next 1) (seen M ⟨0,1#16⟩).v H6=some (H6.put H2.next (.cells (wayC t ⟨seen M ⟨0,1#16⟩,[],0⟩ nilS) none)):=by
   rw [storeN_ptr,m1]; rfl
  simp only [addOff_ptr,Nat.zero_add,hst,AH.next_new_z,tk_eq,opt_some]
  refine join (seen M ⟨0,1#16⟩) _ ((x24.trans (e5.trans e6)).put (b:=H2.next) (by omega) _) (AH.get_put_self _ _ (AH.lt_cells m1)) (by rw [AH.get_put_ne _ _ (by omega)]; exact e6.cells (e5.cells k24)) ?_
  simpa [topP] using hQ
 ·have hc':binInt .eql (.int .u8 ch.toNat) (.int .u8 47)=some (vb false):=by
   have:¬ ch.toNat=47:=fun e=>hc (UInt8.toNat_inj.1 e)
   show some (vb (((ch.toNat:Int)) == 47))=_
   congr 2
   simp; omega
  simp only [h0',lenStr_s,i64_gtr,gt_iff_lt,h1',decide_false,hix,hc',tk_eq,opt_some,ifB_false]
  refine join c _ x24 k4 k24 ?_
  simpa [hc] using hQ
theorem set_last {α:Type} (L:List α) (r r':α):(L++[r]).set L.length r'=L++[r']:=by
 rw [List.set_append_right _ _ (Nat.le_refl _),Nat.sub_self]; rfl
theorem erase_last {α:Type} (L:List α) (r:α):(L++[r]).eraseIdx L.length=L:=by
 rw [List.eraseIdx_append_of_length_le (Nat.le_refl _),Nat.sub_self]; simp
theorem setL_snoc {α:Type} (L:List α) (r x:α) {k:Nat} (hk:k<L.length):(L++[r]).set k x=L.set k x++[r]:=List.set_append_left _ _ hk
theorem getE_lt {α:Type} {L:List α} {k:Nat} {r:α} (h:L[k]? = some r):k<L.length:=(List.getElem?_eq_some_iff.1 h).1
theorem getE_set {α:Type} {L:List α} {k:Nat} {r:α} (h:L[k]? = some r) (x:α):(L.set k x)[k]? = some x:=by
 have:=getE_lt h
 simp [this]
theorem getE_snoc {α:Type} {L:List α} {k:Nat} {r:α} (h:L[k]? = some r) (x:α):(L++[x])[k]? = some r:=by
 rw [List.getElem?_append_left (getE_lt h)]; exact h
def followY (M:List MntD) (w:WayD) (text:List UInt8):WayD×Int :=
 if 8<w.links+1 then (⟨w.at_,w.left,w.links+1⟩,40) else (⟨if text.head? = some 47 then seen M topP else w.at_,partsL text++w.left,w.links+1⟩,0)
theorem S.f115 (hE:Fold E) (h:WkAt H0 t T M) {w:WayD} {lv:Value} {k b:Nat} (hs:Has H0 Z H L) (hk:L[k]? = some (boxR b (wayC t w lv))) (hl:Rows Z 1 lv (strR w.left)) (hn:w.left.length<2 ^ 40) (hlk:w.links<=100) (text:List UInt8) (ht:text≠[]/\text.length<=120)
  (hQ:∀ lv' Z' H',Fz H0.next Z Z'->Has H0 Z' H' (L.set k (boxR b (wayC t (followY M w text).1 lv')))->Rows Z' 1 lv' (strR (followY M w text).1.left)->Q (vi (followY M w text).2) H'):E.call (E.fid i.f115) [ptr b 0,str text] H Q:=by
 apply hE.f115
 have hb:=hs.box hk
 have hadd:binInt .add (vi (w.links:Nat)) (.int .i64 1)=some (vi ((w.links+1:Nat):Int)):=i64_inc (by omega)
 have hst:store1 (ptr b 4) (vi ((w.links+1:Nat):Int)) H=some (H.put b (.cells (wayC t ⟨w.at_,w.left,w.links+1⟩ lv) none)):=by
  rw [store1_ptr,if_pos (show plain1 (vi ((w.links+1:Nat):Int))=true from rfl),hb]; rfl
 have h1:=hs.put hk (wayC t ⟨w.at_,w.left,w.links+1⟩ lv)
 have hk1:=getE_set hk (boxR b (wayC t ⟨w.at_,w.left,w.links+1⟩ lv))
 have c4:(wayC t w lv)[4]? = some (vi (w.links:Nat)):=rfl
 simp only [F.f115,nilCk_p,addOff_ptr,load1_ptr,Nat.zero_add,hb,cell_cells_z,c4,hadd,hst,tk_eq,opt_some]
 generalize H.put b (.cells (wayC t ⟨w.at_,w.left,w.links+1⟩ lv) none)=H1 at *
 have hb1:=h1.box hk1
 have c41:(wayC t ⟨w.at_,w.left,w.links+1⟩ lv)[4]? = some (vi ((w.links+1:Nat):Int)):=rfl
 unfold followY at hQ
 by_cases h8:8<w.links+1
 ·have h8':(8:Int)<((w.links+1:Nat):Int):=by omega
  simp only [hb1,cell_cells_z,c41,i64_gtr,gt_iff_lt,h8',decide_true,tk_eq,opt_some,ifB_true]
  rw [if_pos h8] at hQ
  exact hQ lv Z H1 (Fz.refl _ _) h1 hl
 rw [if_neg h8] at hQ
 have h8':¬ (8:Int)<((w.links+1:Nat):Int):=by omega
 obtain ⟨ch,tl,rfl⟩:∃ ch tl,text=ch :: tl:=by
  cases text with
  | nil=>exact (ht.1 rfl).elim
  | cons ch tl=>exact ⟨ch,tl,rfl⟩
 have hix:ixStr (str (ch :: tl)) (.int .i64 0)=some (.int .u8 ch.toNat):=rfl
 have join:∀ (a:PlaceD) (H':AH),Has H0 Z H' (L.set k (boxR b (wayC t ⟨a,w.left,w.links+1⟩ lv))) ->
   (∀ lv' Z' H',Fz H0.next Z Z'->Has H0 Z' H' (L.set k (boxR b (wayC t ⟨a,partsL (ch :: tl)++w.left,w.links+1⟩ lv')))->Rows Z' 1 lv' (strR (partsL (ch :: tl)++w.left))->Q (vi 0) H')->F.f115_j1 E Q (ptr b 0) (str (ch :: tl)) H':=by
  intro a H' g hQ'
  have hkk:=getE_set hk (boxR b (wayC t ⟨a,w.left,w.links+1⟩ lv))
  have gb:=g.box hkk
  have c3:(wayC t ⟨a,w.left,w.links+1⟩ lv)[3]? = some lv:=rfl
  simp only [F.f115_j1,nilCk_p,addOff_ptr,load1_ptr,Nat.zero_add,gb,cell_cells_z,c3,tk_eq,opt_some]
  refine S.f114 hE _ (by omega) fun v H5 e5 g5 f5 =>?_
  have hpl:=partsL_le (ch :: tl)
  have g1:Has H0 Z H5 (L.set k (boxR b (wayC t ⟨a,w.left,w.links+1⟩ lv))++[growR 1 v (strR (partsL (ch :: tl)))]) :=
   g.add _ e5 g5 (fun x hx=>⟨f5 x (mem_blkL.1 hx),g5.blk_lt (mem_blkL.1 hx)⟩) (blkL_nodup v)
  generalize hLL:L.set k (boxR b (wayC t ⟨a,w.left,w.links+1⟩ lv))=LL at *
  have gb5:=g1.box (getE_snoc hkk _)
  refine ⟨by rw [load1_ptr,load1_ptr,gb5,gb],?_⟩
  have hx:=hl.sub g1.sub
  have hkl:(LL++[growR 1 v (strR (partsL (ch :: tl)))])[LL.length]? = some (growR 1 v (strR (partsL (ch :: tl)))):=by simp
  simp only [List.length_cons] at ht hpl
  obtain ⟨v',H6,a1,a2,a3⟩:=g1.app hkl (bytes:=16) hx (by intro r hr; simp only [strR,List.mem_map] at hr; obtain ⟨_,_,rfl⟩:=hr; rfl) (by decide) (by decide) (by rw [strR_length,strR_length]; omega) (by rw [strR_length,strR_length]; omega)
  rw [set_last] at a3
  have gb6:=a3.box (getE_snoc hkk _)
  have hst2:store1 (ptr b 3) v' H6=some (H6.put b (.cells (wayC t ⟨a,partsL (ch :: tl)++w.left,w.links+1⟩ v') none)):=by
   rw [store1_ptr,if_pos a2,gb6]; rfl
  have a4:=a3.put (getE_snoc hkk _) (wayC t ⟨a,partsL (ch :: tl)++w.left,w.links+1⟩ v')
  rw [setL_snoc _ _ _ (getE_lt hkk)] at a4
  have hlen:(LL.set k (boxR b (wayC t ⟨a,partsL (ch :: tl)++w.left,w.links+1⟩ v'))).length=LL.length:=by simp
  obtain ⟨Z',z1,z2,z3⟩:=a4.freeze (k:=LL.length) (r:=growR 1 v' (strR (partsL (ch :: tl))++strR w.left)) (by rw [<- hlen]; simp)
  rw [<- hlen,erase_last] at z3
  subst hLL
  rw [List.set_set] at z3
  simp only [a1,nilCk_p,addOff_ptr,Nat.zero_add,hst2,tk_eq,opt2_some,opt_some]
  refine hQ' v' Z' _ z1 z3 ?_
  have:=Grow.toRows z2
  rw [<- show strR (partsL (ch :: tl))++strR w.left=strR (partsL (ch :: tl)++w.left) by simp [strR]]
  exact this
 by_cases hc:ch=47
 ·subst hc
  have hc':binInt .eql (.int .u8 (UInt8.toNat 47)) (.int .u8 47)=some (vb true):=rfl
  obtain ⟨⟨p,m,L',q,nx,q1,q2,q3⟩,ho⟩:=h.mono h1.ext
  have c0:(wayC t ⟨w.at_,w.left,w.links+1⟩ lv)[0]? = some (ptr t 0):=rfl
  simp only [hb1,cell_cells_z,c41,i64_gtr,gt_iff_lt,h8',decide_false,hix,hc',c0,nilCk_p,addOff_ptr,load1_ptr,Nat.zero_add,Nat.add_zero,q1,List.getElem?_cons_succ,List.getElem?_cons_zero,tk_eq,opt_some,ifB_true,ifB_false]
  refine S.f41 hE fun H5 e5 =>?_
  have h5:=h1.grow e5
  refine ⟨by rw [load1_ptr,load1_ptr,e5.cells q1,q1],by rw [load1_ptr,load1_ptr,h5.box hk1,hb1],?_⟩
  refine S.f37 hE q M nx ⟨0,1#16⟩ (q3.mono e5) ho fun H6 e6 =>?_
  have h6:=h5.grow e6
  have hb6:=h6.box hk1
  have hst3:storeN 2 (ptr b 1) (seen M ⟨0,1#16⟩).v H6=some (H6.put b (.cells (wayC t ⟨seen M ⟨0,1#16⟩,w.left,w.links+1⟩ lv) none)):=by
   rw [storeN_ptr,hb6]; rfl
  have h7:=h6.put hk1 (wayC t ⟨seen M ⟨0,1#16⟩,w.left,w.links+1⟩ lv)
  rw [List.set_set] at h7
  simp only [nilCk_p,addOff_ptr,Nat.zero_add,hst3,tk_eq,opt_some]
  refine join _ _ h7 ?_
  simpa [topP] using hQ
 ·have hc':binInt .eql (.int .u8 ch.toNat) (.int .u8 47)=some (vb false):=by
   have:¬ ch.toNat=47:=fun e=>hc (UInt8.toNat_inj.1 e)
   show some (vb (((ch.toNat:Int)) == 47))=_
   congr 2
   simp; omega
  simp only [hb1,cell_cells_z,c41,i64_gtr,gt_iff_lt,h8',decide_false,hix,hc',tk_eq,opt_some,ifB_false]
  refine join _ _ h1 ?_
  simpa [hc] using hQ
end
end Go.AM
end
section
namespace Go.AM
def Tr.LT (T:Tr):Prop:=∀ n,(T.node n).kind=3#8->(T.node n).text≠[]/\(T.node n).text.length<=120
section
variable {E:Sy} {H H0 Z:AH} {Q:Value->AH->Prop} {t:Nat} {T:Tr} {M:List MntD} {L:List Res}
theorem S.f116 (hE:Fold E) (h:WkAt H0 t T M) (wf:T.WF) (lt:T.LT) {w:WayD} {lv:Value} {k b:Nat} (hs:Has H0 Z H L) (hk:L[k]? = some (boxR b (wayC t w lv))) (hl:Rows Z 1 lv (strR w.left)) (hn:w.left.length<2 ^ 40) (hlk:w.links<=100) (hne:w.left≠[]) (follow:Bool)
  (hQ:∀ lv' Z' H',Fz H0.next Z Z'->Has H0 Z' H' (L.set k (boxR b (wayC t (stepY T M w follow).1 lv')))->Rows Z' 1 lv' (strR (stepY T M w follow).1.left)->Q (vi (stepY T M w follow).2) H'):E.call (E.fid i.f116) [ptr b 0,vb follow] H Q:=by
 apply hE.f116
 obtain ⟨a0,left,links⟩:=w
 cases left with
 | nil=>exact (hne rfl).elim
 | cons name left =>
 have hb:=hs.box hk
 have hl1:=hl.sub hs.sub
 obtain ⟨b1,o1,p1,p2,_⟩:=ix_strR hl1 (i:=0) (by simp)
 have p1:ixSlc 1 lv (vi 0)=some (ptr b1 o1):=p1
 have p2:(H.get b1).cell o1=some (str name):=p2
 have hlenL:(strR (name :: left)).length=left.length+1:=by simp [strR]
 obtain ⟨s1,_⟩:=hl1.slice' (lo:=some (vi (1:Nat))) (hi:=none) (i:=1) (j:=left.length+1) (.inl rfl) (.inr ⟨rfl,by rw [hlenL]⟩) (by omega) (by rw [hlenL]; exact Nat.le_refl _)
 obtain ⟨_,s2⟩:=hl.slice' (lo:=some (vi (1:Nat))) (hi:=none) (i:=1) (j:=left.length+1) (.inl rfl) (.inr ⟨rfl,by rw [hlenL]⟩) (by omega) (by rw [hlenL]; exact Nat.le_refl _)
 rw [List.take_of_length_le (by rw [hlenL]; exact Nat.le_refl _)] at s2
 have s2:Rows Z 1 (sliceV 1 lv 1 (left.length+1)) (strR left):=by simpa [strR] using s2
 have s1:slSlc 1 lv (some (vi 1)) none none H=some (sliceV 1 lv 1 (left.length+1)):=s1
 have hpl:=s2.plainV
 generalize sliceV 1 lv 1 (left.length+1)=lv1 at *
 have hst:store1 (ptr b 3) lv1 H=some (H.put b (.cells (wayC t ⟨a0,left,links⟩ lv1) none)):=by
  rw [store1_ptr,if_pos hpl,hb]; rfl
 have h1:=hs.put hk (wayC t ⟨a0,left,links⟩ lv1)
 have hk1:=getE_set hk (boxR b (wayC t ⟨a0,left,links⟩ lv1))
 have c3:(wayC t ⟨a0,name :: left,links⟩ lv)[3]? = some lv:=rfl
 simp only [F.f116,hb,c3,p1,p2,s1,hst,stdZ]
 generalize H.put b (.cells (wayC t ⟨a0,left,links⟩ lv1) none)=H1 at *
 have hb1:=h1.box hk1
 have c0:(wayC t ⟨a0,left,links⟩ lv1)[0]? = some (ptr t 0):=rfl
 have hlo:loadN 2 (ptr b 1) H1=some a0.v:=by rw [loadN_ptr,hb1]; rfl
 simp only [hb1,c0,hlo,stdZ]
 refine S.f107 hE (h.mono h1.ext) a0 fun H2 e2 =>?_
 have h2:=h1.grow e2
 have hb2:=h2.box hk1
 have fin:∀ (a:PlaceD) (e:Int) (H':AH),Has H0 Z H' (L.set k (boxR b (wayC t ⟨a,left,links⟩ lv1)))->(stepY T M ⟨a0,name :: left,links⟩ follow)=(⟨a,left,links⟩,e)->Q (vi e) H':=by
  intro a e H' g he
  rw [he] at hQ
  exact hQ lv1 Z H' (Fz.refl _ _) g s2
 simp only [un_not_z,stdZ]
 cases hd:dirP T M a0 with
 | false =>
  simp only [Bool.not_false,ifB_true]
  refine fin a0 20 _ h2 ?_
  simp [stepY,hd]
 | true =>
 simp only [Bool.not_true,ifB_false]
 by_cases hdd:name=[46,46]
 ·have hdd':binStr .eql (str name) (.string ⟨#[46,46]⟩)=some (vb true):=by
   show binStr .eql (str name) (str [46,46])=_
   rw [binStr_eql]; simp [hdd]
  have hlo2:loadN 2 (ptr b 1) H2=some a0.v:=by rw [loadN_ptr,hb2]; rfl
  simp only [hdd',hb2,c0,hlo2,stdZ]
  refine S.f110 hE (h.mono h2.ext) a0 fun H3 e3 =>?_
  have h3:=h2.grow e3
  have hb3:=h3.box hk1
  have hst3:storeN 2 (ptr b 1) (upP T M a0).v H3=some (H3.put b (.cells (wayC t ⟨upP T M a0,left,links⟩ lv1) none)):=by
   rw [storeN_ptr,hb3]; rfl
  have h4:=h3.put hk1 (wayC t ⟨upP T M a0,left,links⟩ lv1)
  rw [List.set_set] at h4
  have hk4:=getE_set hk (boxR b (wayC t ⟨upP T M a0,left,links⟩ lv1))
  generalize hu:upP T M a0=u at *
  simp only [hst3,stdZ]
  generalize H3.put b (.cells (wayC t ⟨u,left,links⟩ lv1) none)=H4 at *
  have hb4:=h4.box hk4
  obtain ⟨⟨p,m,L',q,nx,q1,q2,q3⟩,ho⟩:=h.mono h4.ext
  have c04:(wayC t ⟨u,left,links⟩ lv1)[0]? = some (ptr t 0):=rfl
  have c24:(wayC t ⟨u,left,links⟩ lv1)[2]? = some (u16 u.i):=rfl
  simp only [hb4,c04,c24,q1,stdZ]
  refine S.f9 hE q2 u.i ?_
  have hlo4:loadN 2 (ptr b 1) H4=some u.v:=by rw [loadN_ptr,hb4]; rfl
  rcases q2.get u.i with ⟨k0,_⟩ | ⟨kk,yy,k0,k1,k2,k3,k4⟩
  ·simp [nodeP_none q2.cov k0]
   refine fin u 0 _ h4 ?_
   simp [stepY,hd,hdd,hu,k0]
  ·simp [-loadN_ptr,nodeP_some q2.cov.nd k1,nilp_p,hb4,c04,hlo4]
   refine S.f107 hE (h.mono h4.ext) u fun H5 e5 =>?_
   have h5:=h4.grow e5
   cases hdu:dirP T M u with
   | false =>
    simp
    refine fin u 2 _ h5 ?_
    simp [stepY,hd,hdd,hu,k0,hdu]
   | true =>
    simp
    refine fin u 0 _ h5 ?_
    simp [stepY,hd,hdd,hu,k0,hdu]
 have hdd':binStr .eql (str name) (.string ⟨#[46,46]⟩)=some (vb false):=by
  show binStr .eql (str name) (str [46,46])=_
  rw [binStr_eql]; simp [hdd]
 by_cases h14:14<name.length
 ·have h14':(14:Int)<name.length:=by omega
  simp only [hdd',lenStr_s,i64_gtr,gt_iff_lt,h14',decide_true,stdZ]
  refine fin a0 36 _ h2 ?_
  simp [stepY,hd,hdd,h14]
 have h14':¬ (14:Int)<name.length:=by omega
 obtain ⟨⟨p,m,L',q,nx,q1',q2',q3'⟩,ho⟩:=id h
 have q1:=h2.ext.cells q1'
 have q2:=q2'.mono h2.ext
 have q3:=q3'.mono h2.ext
 have c2:(wayC t ⟨a0,left,links⟩ lv1)[2]? = some (u16 a0.i):=rfl
 simp only [hdd',lenStr_s,i64_gtr,gt_iff_lt,h14',decide_false,hb2,c0,c2,q1,stdZ]
 refine S.f11 hE q2 a0.i name ?_
 have hstep:stepY T M ⟨a0,name :: left,links⟩ follow=if (T.look a0.i name).2≠0 then (⟨a0,left,links⟩,(T.look a0.i name).2) else
   if (T.node (T.look a0.i name).1).kind=3#8/\(follow=true\/left≠[]) then followY M ⟨a0,left,links⟩ (T.node (T.look a0.i name).1).text
   else if (T.node (T.look a0.i name).1).kind=2#8 then (⟨seen M ⟨a0.m,(T.look a0.i name).1⟩,left,links⟩,0) else (⟨⟨a0.m,(T.look a0.i name).1⟩,left,links⟩,0):=by
  simp [stepY,hd,hdd,h14,followY]
 rw [hstep] at fin hQ
 have hlook:(T.look a0.i name).2=0->(T.node (T.look a0.i name).1).kind≠0#8:=fun e=>(wf.pos (Tr.look_ok e).2).2.2.2.1
 generalize T.look a0.i name=lk at *
 simp only [ext_tuple,i64_neq,stdZ]
 by_cases he:lk.2=0
 rotate_left
 ·simp only [ne_eq,he,not_false_eq_true,decide_true,ifB_true]
  refine fin a0 lk.2 _ h2 ?_
  simp [he]
 rw [if_neg (by simpa using he)] at fin hQ
 simp only [ne_eq,he,not_true,decide_false,hb2,c0,q1,stdZ]
 refine S.f9 hE q2 lk.1 ?_
 rcases q2'.get lk.1 with ⟨k0,_⟩ | ⟨kk,yy,k0,k1,k2,k3',k4⟩
 ·exact (hlook he k0).elim
 have k3:=h2.ext.cells k3'
 simp only [nodeP_some q2.cov.nd k1,k3,inC,stdZ]
 have hl2:=strR_lenSlc (s2.sub h2.sub)
 have c3':(wayC t ⟨a0,left,links⟩ lv1)[3]? = some lv1:=rfl
 have c1':(wayC t ⟨a0,left,links⟩ lv1)[1]? = some (vi a0.m):=rfl
 have hnp:=nodeP_some q2.cov.nd k1
 have hnl:left.length<2 ^ 40:=by simp only [List.length_cons] at hn; omega
 have stay:¬ ((T.node lk.1).kind=3#8/\(follow=true\/left≠[])) -> 
   opt (nilCk (ptr b 0)) fun v94=>opt (addOff v94 1) fun v95=>opt (addOff v95 0) fun v96=>opt (load1 v96 H2) fun v97 =>
    opt (buildV [(0,1),(1,1)] #[(.int .i64 0),(.int .u16 0)] [(0,v97),(1,u16 lk.1)]) fun v98 =>
    opt (nilCk (ptr b 0)) fun v99=>opt (addOff v99 1) fun v100=>opt (storeN 2 v100 v98 H2) fun H28 =>
    opt (nilCk (nodeP L' lk.1)) fun v101=>opt (addOff v101 1) fun v102=>opt (load1 v102 H28) fun v103=>opt (binInt .eql v103 (.int .u8 2)) fun v104 =>
    ifB v104 (opt (nilCk (ptr b 0)) fun v105=>opt (addOff v105 0) fun v106=>opt (load1 v106 H28) fun v107=>opt (nilCk v107) fun v108=>opt (addOff v108 1) fun v109=>opt (load1 v109 H28) fun v110 =>
     opt (nilCk (ptr b 0)) fun v111=>opt (addOff v111 1) fun v112=>opt (loadN 2 v112 H28) fun v113 =>
     E.call (E.fid i.f37) [v110,v113] H28 fun v114 H29=>opt (nilCk (ptr b 0)) fun v115=>opt (addOff v115 1) fun v116=>opt (storeN 2 v116 v114 H29) fun H30=>Q (.int .i64 0) H30) (Q (.int .i64 0) H28):=by
  intro hnf
  rw [if_neg hnf] at fin
  have hst5:storeN 2 (ptr b 1) (PlaceD.v ⟨a0.m,lk.1⟩) H2=some (H2.put b (.cells (wayC t ⟨⟨a0.m,lk.1⟩,left,links⟩ lv1) none)):=by
   rw [storeN_ptr,hb2]; rfl
  have h5:=h2.put hk1 (wayC t ⟨⟨a0.m,lk.1⟩,left,links⟩ lv1)
  rw [List.set_set] at h5
  have hk5:=getE_set hk (boxR b (wayC t ⟨⟨a0.m,lk.1⟩,left,links⟩ lv1))
  simp only [hb2,c1',mkPlace,hst5,stdZ]
  generalize H2.put b (.cells (wayC t ⟨⟨a0.m,lk.1⟩,left,links⟩ lv1) none)=H5 at *
  have hb5:=h5.box hk5
  have w1:=h5.ext.cells q1'
  have w3:=q3'.mono h5.ext
  have c05:(wayC t ⟨⟨a0.m,lk.1⟩,left,links⟩ lv1)[0]? = some (ptr t 0):=rfl
  have hk:load1 (ptr yy.blk 1) H5=some (u8 (T.node lk.1).kind):=by
   rw [load1_ptr,h5.ext.cells k3']; rfl
  simp only [hnp,hk,stdZ]
  by_cases h2k:(T.node lk.1).kind=2#8
  ·have e2:binInt .eql (u8 (T.node lk.1).kind) (.int .u8 2)=some (vb true):=by
    show binInt .eql (u8 (T.node lk.1).kind) (u8 2#8)=_
    rw [u8_eql]; simp [h2k]
   have hlo5:loadN 2 (ptr b 1) H5=some (PlaceD.v ⟨a0.m,lk.1⟩):=by rw [loadN_ptr,hb5]; rfl
   simp only [e2,hb5,c05,w1,hlo5,stdZ]
   refine S.f37 hE q M nx ⟨a0.m,lk.1⟩ w3 ho fun H6 e6 =>?_
   have h6:=h5.grow e6
   have hb6:=h6.box hk5
   have hst6:storeN 2 (ptr b 1) (seen M ⟨a0.m,lk.1⟩).v H6=some (H6.put b (.cells (wayC t ⟨seen M ⟨a0.m,lk.1⟩,left,links⟩ lv1) none)):=by
    rw [storeN_ptr,hb6]; rfl
   have h7:=h6.put hk5 (wayC t ⟨seen M ⟨a0.m,lk.1⟩,left,links⟩ lv1)
   rw [List.set_set] at h7
   simp only [hst6,stdZ]
   exact fin _ 0 _ h7 (by rw [if_pos h2k])
  ·have e2:binInt .eql (u8 (T.node lk.1).kind) (.int .u8 2)=some (vb false):=by
    show binInt .eql (u8 (T.node lk.1).kind) (u8 2#8)=_
    rw [u8_eql]; simp [h2k]
   simp only [e2,stdZ]
   exact fin _ 0 _ h5 (by rw [if_neg h2k])
 by_cases hk3:(T.node lk.1).kind=3#8
 ·have ht:=lt lk.1 hk3
  by_cases hf:follow=true\/left≠[]
  ·rw [if_pos ⟨hk3,hf⟩] at hQ
   have hfol:=S.f115 (Q:=fun v H=>Q v H) hE h h2 hk1 s2 hnl hlk (T.node lk.1).text ht (fun lv' Z' H' z1 z2 z3=>hQ lv' Z' H' z1 (by rwa [List.set_set] at z2) z3)
   cases follow with
   | true =>
    simp [hk3,hnp,k3,inC]
    exact hfol
   | false =>
    have hpos:0<left.length:=List.length_pos_iff.2 (by simpa using hf)
    simp [hk3,hnp,k3,inC,hb2,c3',hl2,hpos]
    exact hfol
  ·have hf1:follow=false:=by cases follow <;> simp_all
   have hf2:left=[]:=by
    refine Classical.byContradiction fun hc=>hf (.inr hc)
   have st2:=stay fun hc=>hf hc.2
   subst hf1
   subst hf2
   have e3:binInt .eql (u8 (T.node lk.1).kind) (.int .u8 3)=some (vb true):=by
    show binInt .eql (u8 (T.node lk.1).kind) (u8 3#8)=_
    rw [u8_eql]; simp [hk3]
   have hl3:AM.lenSlc lv1=some (vi 0):=hl2
   simp only [e3,gd_tt,gd_ff,hb2,c3',hl3,i64_gtr,gt_iff_lt,Int.lt_irrefl,decide_false,pick_true_z,pick_false_z,stdZ]
   simp only [hb2,stdZ] at st2
   exact st2
 ·have st2:=stay fun hc=>hk3 hc.1
  have e3:binInt .eql (u8 (T.node lk.1).kind) (.int .u8 3)=some (vb false):=by
   show binInt .eql (u8 (T.node lk.1).kind) (u8 3#8)=_
   rw [u8_eql]; simp [hk3]
  simp only [e3,gd_ft,gd_skip,pick_false_z,hb2,stdZ]
  simp only [hb2,stdZ] at st2
  exact st2
end
end Go.AM
end
section
namespace Go.AM
section
variable {E:Sy} {H H' H0 Z:AH} {Q:Value->AH->Prop} {t:Nat} {T:Tr} {M:List MntD} {L:List Res}
theorem Has.callee (h:Has H0 Z H L) (e:Ext H H'):∃ Z',Fz H.next Z Z'/\Has H0 Z' H' L/\∀ sz v rows,Rows H' sz v rows->FreshV H.next v->Rows Z' sz v rows:=by
 have hg:∀ b,(AH.mk H'.next fun b=>if b<H.next then Z.get b else H'.get b).get b=if b<H.next then Z.get b else H'.get b:=by
  intro b
  simp only [AH.get]
  by_cases hb:b<H'.next
  ·rw [if_pos hb]
  ·have h1:¬ b<H.next:=fun hb'=>hb (Nat.lt_of_lt_of_le hb' e.1)
   have h2:¬ b<H'.next:=hb
   simp [h1,h2]
 refine ⟨⟨H'.next,fun b=>if b<H.next then Z.get b else H'.get b⟩,⟨⟨Nat.le_trans h.sub.1 e.1,fun b hb =>?_⟩,fun b hb=>by rw [hg,if_pos hb]⟩,?_,?_⟩
 ·rw [hg]
  split
  ·rfl
  ·rename_i hn
   exact (hb (AH.get_ge _ (Nat.le_trans h.sub.1 (by omega)))).elim
 ·refine h.refreeze e ⟨⟨Nat.le_trans h.sub.1 e.1,fun b hb =>?_⟩,fun b hb=>by rw [hg,if_pos hb]⟩ ⟨Nat.le_refl _,fun b hb =>?_⟩
  ·rw [hg]
   split
   ·rfl
   ·rename_i hn
    exact (hb (AH.get_ge _ (Nat.le_trans h.sub.1 (by omega)))).elim
  ·rw [hg] at hb ⊢
   split
   ·rename_i hlt
    rw [if_pos hlt] at hb
    rw [e.get hlt]
    exact h.sub.2 b hb
   ·rfl
 ·intro sz v rows hr hf
  refine ⟨hr.len,?_⟩
  rcases hr.at_ with g | ⟨b,o,c,g1,g2,g3,g4⟩
  ·exact .inl g
  ·by_cases hrn:rows=[]
   ·have hz:¬ b<H.next:=by
     have:=hf b (by rw [g1]; rfl)
     omega
    exact .inr ⟨b,o,c,g1,g2,by rw [hg,if_neg hz]; exact g3,by rw [hg,if_neg hz]; exact g4⟩
   ·have hz:¬ b<H.next:=by
     have:=hf b (by rw [g1]; rfl)
     omega
    exact .inr ⟨b,o,c,g1,g2,by rw [hg,if_neg hz]; exact g3,by rw [hg,if_neg hz]; exact g4⟩
theorem stepY_need (lt:T.LT) {w:WayD} (follow:Bool) (hne:w.left≠[]) (hlk:w.links<=8) (h0:(stepY T M w follow).2=0):(stepY T M w follow).1.need<w.need/\(stepY T M w follow).1.links<=8:=by
 obtain ⟨a,left,links⟩:=w
 cases left with
 | nil=>exact (hne rfl).elim
 | cons name left =>
  have hlk:links<=8:=hlk
  have stay:∀ a':PlaceD,(WayD.mk a' left links).need<(WayD.mk a (name :: left) links).need/\(WayD.mk a' left links).links<=8:=by
   intro a'
   refine ⟨?_,hlk⟩
   simp only [WayD.need,List.length_cons]
   omega
  revert h0
  unfold stepY
  simp only
  split
  ·intro h; simp at h
  split
  ·split
   ·intro h; simp at h
   ·intro _; exact stay _
  split
  ·intro h; simp at h
  split
  ·rename_i h4
   intro h; exact (h4 h).elim
  split
  ·rename_i h5
   split
   ·intro h; simp at h
   ·rename_i h6
    intro _
    have ht:=(lt _ h5.1).2
    have hp:=partsL_le (T.node (T.look a.i name).1).text
    refine ⟨?_,by show links+1<=8; omega⟩
    simp only [WayD.need,List.length_cons,List.length_append]
    omega
  ·split
   ·intro _; exact stay _
   ·intro _; exact stay _
theorem walkN_stable (lt:T.LT) (follow:Bool):∀ (n:Nat) (w:WayD),w.need<=n->w.links<=8->walkN T M follow n w=walkN T M follow (n+1) w
 | 0,w,h,hl=>by
  have:w.left=[]:=List.eq_nil_of_length_eq_zero (by unfold WayD.need at h; omega)
  simp [walkN,this]
 | n+1,w,h,hl=>by
  rw [walkN,walkN]
  split
  ·rfl
  ·rename_i hne
   split
   ·rfl
   ·rename_i h0
    have:=stepY_need (M:=M) lt follow hne hl (by simpa using h0)
    exact walkN_stable lt follow n _ (by omega) this.2
theorem walkN_enough (lt:T.LT) (follow:Bool) (w:WayD) (hl:w.links<=8):∀ (d n:Nat),w.need<=n->walkN T M follow (n+d) w=walkN T M follow n w
 | 0,_,_=>rfl
 | d+1,n,h=>by rw [<- Nat.add_assoc,<- walkN_stable lt follow (n+d) w (by omega) hl,walkN_enough lt follow w hl d n h]
theorem walkW_nil (follow:Bool) {w:WayD} (h:w.left=[]):walkW T M follow w=(w,0):=by
 unfold walkW
 cases w.need <;> simp [walkN,h]
theorem walkW_step (lt:T.LT) (follow:Bool) {w:WayD} (h:w.left≠[]) (hl:w.links<=8):walkW T M follow w=if (stepY T M w follow).2≠0 then stepY T M w follow else walkW T M follow (stepY T M w follow).1:=by
 have hpos:0<w.need:=by
  have:=List.length_pos_iff.2 h
  unfold WayD.need; omega
 unfold walkW
 obtain ⟨n,hn⟩:∃ n,w.need=n+1:=⟨w.need - 1,by omega⟩
 rw [hn,walkN,if_neg h]
 split
 ·rfl
 ·rename_i h0
  have:=stepY_need (M:=M) lt follow h hl (by simpa using h0)
  obtain ⟨d,hd⟩:∃ d,n=(stepY T M w follow).1.need+d:=⟨n - (stepY T M w follow).1.need,by omega⟩
  rw [hd]
  exact walkN_enough lt follow _ this.2 d _ (Nat.le_refl _)
theorem S.f94 (hE:Fold E) (s:List UInt8) (hs:s.length<2 ^ 63) (hQ:Q (vb (endsSlash s)) H):E.call (E.fid i.f94) [str s,str [47]] H Q:=by
 apply hE.f94
 simp only [F.f94]
 apply hE.f27
 unfold endsSlash at hQ
 cases hs0:s.reverse with
 | nil =>
  obtain rfl:s=[]:=by simpa using hs0
  simp [F.f27]
  simpa using hQ
 | cons c l =>
  obtain rfl:s=l.reverse++[c]:=by
   have:=congrArg List.reverse hs0
   simpa using this
  have hl:((l.reverse++[c]).length:Int)=(l.length:Int)+1:=by simp
  have h1:(1:Int)<=(l.length:Int)+1:=by omega
  simp only [List.length_append,List.length_reverse,List.length_cons,List.length_nil] at hs
  have hsub:binInt .sub (vi ((l.length:Int)+1)) (vi 1)=some (vi (l.length:Nat)):=by
   rw [i64_sub (by omega) (by omega)]; simp
  have hsl:slStr (str (l.reverse++[c])) (some (vi (l.length:Nat))) none=some (str [c]):=by
   rw [slStr_drop _ _ (by simp)]
   congr 2
   rw [List.drop_append]
   simp
  simp [F.f27,h1,hsub,hsl]
  simpa using hQ
end
end Go.AM
end
section
namespace Go.AM
section
variable {E:Sy} {H H' H0 Z:AH} {Q:Value->AH->Prop} {t:Nat} {T:Tr} {M:List MntD} {L:List Res}
theorem beginW_links (M:List MntD) (c:PlaceD) (path:List UInt8):(beginW M c path).1.links=0/\(beginW M c path).1.left.length<=121:=by
 unfold beginW
 split
 ·exact ⟨rfl,by simp⟩
 ·split
  ·exact ⟨rfl,by simp⟩
  ·exact ⟨rfl,by have:=partsL_le path; show (partsL path).length<=121; omega⟩
theorem answer {rb:Nat} {z:PlaceD} (hz:H.get rb = .cells z.cells none) (p:PlaceD) {R:Value->AH->Prop} (hR:R p.v (H.put rb (.cells p.cells none))) :
  opt (storeN 2 (ptr rb 0) p.v H) fun H3=>opt (loadN 2 (ptr rb 0) H3) fun v10=>R v10 H3:=by
 have h1:storeN 2 (ptr rb 0) p.v H=some (H.put rb (.cells p.cells none)):=by rw [storeN_ptr,hz]; rfl
 have h2:loadN 2 (ptr rb 0) (H.put rb (.cells p.cells none))=some p.v:=by rw [loadN_ptr,AH.get_put_self _ _ (AH.lt_cells hz)]; rfl
 simp only [h1,h2,tk_eq,opt_some]
 exact hR
theorem S.f108 (hE:Fold E) (h:WkAt H t T M) (wf:T.WF) (lt:T.LT) (c:PlaceD) (path:List UInt8) (hp:path.length<2 ^ 63) (follow:Bool)
  (hQ:∀ H',Ext H H'->Q (.tuple #[(findW T M c path follow).1.v,vi (findW T M c path follow).2]) H'):E.call (E.fid i.f108) [ptr t 0,c.v,str path,vb follow] H Q:=by
 apply hE.f108
 have g0:Has H H H []:=Has.start (Ext.refl H)
 have g1:=g0.newbox c.cells
 have g2:=g1.newbox PlaceD.zero.cells
 have hz2:([(.int .i64 0),(.int .u16 0)]:List Value)=PlaceD.zero.cells:=rfl
 simp only [F.f108,boxO_agg_z,AM.mk_some,mkPtr_eq_z,allocW_eq,hz2,List.toList_toArray,tk_eq]
 have hb1:=g2.box (k:=0) rfl
 have hl1:loadN 2 (ptr H.next 0) ((H.new (.cells c.cells none)).new (.cells PlaceD.zero.cells none))=some c.v:=by rw [loadN_ptr,hb1]; rfl
 generalize hrb:(H.new (.cells c.cells none)).next=rb at *
 simp only [hl1,stdZ]
 generalize (H.new (.cells c.cells none)).new (.cells PlaceD.zero.cells none)=H2 at *
 refine S.f112 hE (h.mono g2.ext) c path hp fun lv H3 e3 r3 f3 =>?_
 obtain ⟨Z3,z1,g3,z3⟩:=g2.callee e3
 have rz:=z3 1 lv _ r3 f3
 have hlv:=rz.plainV
 have hbg:=beginW_links M c path
 unfold findW at hQ
 generalize hbw:beginW M c path=bw at *
 have hz5:([(.pointer none),(.int .i64 0),(.int .u16 0),(.slice none 0 0),(.int .i64 0)]:List Value).length=5:=rfl
 have g4:=g3.newbox [(.pointer none),(.int .i64 0),(.int .u16 0),(.slice none 0 0),(.int .i64 0)]
 have hb4:=g4.box (k:=2) (b:=H3.next) rfl
 have hst:=way_store t bw.1 hlv hz5 hb4
 have g5:=g4.put (k:=2) (b:=H3.next) rfl (wayC t bw.1 lv)
 simp only [ext_tuple,allocW_eq,hst,stdZ]
 generalize hwb:H3.next=wb at *
 generalize (H3.new (.cells [(.pointer none),(.int .i64 0),(.int .u16 0),(.slice none 0 0),(.int .i64 0)] none)).put wb (.cells (wayC t bw.1 lv) none)=H5 at *
 have g5:Has H Z3 H5 [boxR H.next c.cells,boxR rb PlaceD.zero.cells,boxR wb (wayC t bw.1 lv)]:=g5
 simp only [i64_neq,stdZ]
 by_cases he:bw.2=0
 rotate_left
 ·simp only [ne_eq,he,not_false_eq_true,decide_true,mkPlace0,stdZ]
  rw [if_pos (by simpa using he)] at hQ
  refine answer (R:=fun v H=>Q (.tuple #[v,vi bw.2]) H) (g5.box (k:=1) rfl) PlaceD.zero ?_
  exact hQ _ (g5.put (k:=1) (b:=rb) rfl PlaceD.zero.cells).ext
 rw [if_neg (by simpa using he)] at hQ
 simp only [ne_eq,he,not_true,decide_false,stdZ]
 refine S.f94 hE path hp ?_
 generalize endsSlash path=slash at *
 refine LoopL.ind (fun n ls H'=>∃ w lv Z',n=w.need/\ls=[ptr t 0,vb follow,ptr rb 0,ptr wb 0,vb slash]/\Has H Z' H' [boxR H.next c.cells,boxR rb PlaceD.zero.cells,boxR wb (wayC t w lv)]/\Rows Z' 1 lv (strR w.left)/\w.links<=8/\w.need<=5000/\walkW T M (follow||slash) w=walkW T M (follow||slash) bw.1) ?_ bw.1.need ⟨bw.1,lv,Z3,rfl,rfl,g5,rz,by omega,by unfold WayD.need; omega,rfl⟩
 rintro n _ H6 X hX ⟨w,lv,Z',rfl,rfl,g6,r6,hlk,hnd,hww⟩
 have hb6:=g6.box (k:=2) (b:=wb) rfl
 have c3:(wayC t w lv)[3]? = some lv:=rfl
 have hl6:=strR_lenSlc (r6.sub g6.sub)
 have hneed:w.left.length<=w.need:=by unfold WayD.need; omega
 by_cases hne:w.left=[]
 ·rw [<- hww,walkW_nil _ hne] at hQ
  simp only [ne_eq,not_true,if_false] at hQ
  have hl0:AM.lenSlc lv=some (vi 0):=by rw [hl6,hne]; rfl
  obtain ⟨⟨p,m,L',q,nx,q1,q2,q3⟩,ho⟩:=h.mono g6.ext
  have c2:(wayC t w lv)[2]? = some (u16 w.at_.i):=rfl
  simp only [F.f108_l1,nth_0,nth_1,nth_2,nth_3,nth_4,hb6,c3,hl0,i64_gtr,gt_iff_lt,Int.lt_irrefl,decide_false,q1,c2,stdZ]
  refine S.f9 hE q2 w.at_.i ?_
  have hz6:=g6.box (k:=1) rfl
  rcases q2.get w.at_.i with ⟨k0,_⟩ | ⟨kk,yy,k0,k1,k2,k3,k4⟩
  ·rw [if_pos k0] at hQ
   simp only [nodeP_none q2.cov k0,nilp_none_z,mkPlace0,stdZ]
   refine answer (R:=fun v H=>Q (.tuple #[v,vi 2]) H) hz6 PlaceD.zero ?_
   exact hQ _ (g6.put (k:=1) (b:=rb) rfl PlaceD.zero.cells).ext
  ·rw [if_neg k0] at hQ
   simp only [nodeP_some q2.cov.nd k1,nilq_p,stdZ]
   have hlo6:loadN 2 (ptr wb 1) H6=some w.at_.v:=by rw [loadN_ptr,hb6]; rfl
   cases slash with
   | false =>
    simp only [Bool.false_eq_true,false_and,if_false] at hQ
    simp only [gd_ft,gd_skip,pick_false_z,hlo6,stdZ]
    refine answer (R:=fun v H=>Q (.tuple #[v,vi 0]) H) hz6 w.at_ ?_
    exact hQ _ (g6.put (k:=1) (b:=rb) rfl w.at_.cells).ext
   | true =>
    simp only [gd_tt,hlo6,stdZ]
    refine S.f107 hE (h.mono g6.ext) w.at_ fun H7 e7 =>?_
    have g7:=g6.grow e7
    have hz7:=g7.box (k:=1) rfl
    have hlo7:loadN 2 (ptr wb 1) H7=some w.at_.v:=by rw [loadN_ptr,g7.box (k:=2) (b:=wb) rfl]; rfl
    cases hd:dirP T M w.at_ with
    | false =>
     simp only [hd,and_self,if_true] at hQ
     simp only [gd_tt,un_not_z,Bool.not_false,pick_true_z,mkPlace0,stdZ]
     refine answer (R:=fun v H=>Q (.tuple #[v,vi 20]) H) hz7 PlaceD.zero ?_
     exact hQ _ (g7.put (k:=1) (b:=rb) rfl PlaceD.zero.cells).ext
    | true =>
     simp only [hd,Bool.true_eq_false,and_false,if_false] at hQ
     simp only [gd_tt,un_not_z,Bool.not_true,pick_true_z,hlo7,stdZ]
     refine answer (R:=fun v H=>Q (.tuple #[v,vi 0]) H) hz7 w.at_ ?_
     exact hQ _ (g7.put (k:=1) (b:=rb) rfl w.at_.cells).ext
 ·have hpos:(0:Int)<(w.left.length:Nat):=by have:=List.length_pos_iff.2 hne; omega
  simp only [F.f108_l1,nth_0,nth_1,nth_2,nth_3,nth_4,hb6,c3,hl6,i64_gtr,gt_iff_lt,hpos,decide_true,stdZ]
  have hpk:∀ (K:Value->AH->Prop),K (vb (follow||slash)) H6->gd (vb follow) false (fun k=>k (vb slash) H6) H6 fun v5 H1=>opt (pick (vb follow) (.bool true) v5) fun v6=>K v6 H1:=by
   intro K hK
   cases follow <;> simpa using hK
  refine hpk _ ?_
  refine S.f116 hE h wf lt (k:=2) (b:=wb) g6 rfl r6 (by omega) (by omega) hne (follow||slash) fun lv' Z7 H7 y1 y2 y3 =>?_
  have hst7:=walkW_step (M:=M) lt (follow||slash) hne hlk
  have hnd7:=stepY_need (M:=M) lt (follow||slash) hne hlk
  have y2:Has H Z7 H7 [boxR H.next c.cells,boxR rb PlaceD.zero.cells,boxR wb (wayC t (stepY T M w (follow||slash)).1 lv')]:=y2
  generalize stepY T M w (follow||slash)=st at *
  simp only [i64_neq,stdZ]
  by_cases h0:st.2=0
  ·rw [if_neg (by simpa using h0)] at hst7
   obtain ⟨n1,n2⟩:=hnd7 h0
   simp only [ne_eq,h0,not_true,decide_false,stdZ]
   exact hX _ n1 _ _ ⟨st.1,lv',Z7,rfl,rfl,y2,y3,n2,by omega,by rw [<- hww,hst7]⟩
  ·rw [if_pos (by simpa using h0)] at hst7
   rw [<- hww,hst7,if_pos (by simpa using h0)] at hQ
   simp only [ne_eq,h0,not_false_eq_true,decide_true,mkPlace0,stdZ]
   refine answer (R:=fun v H=>Q (.tuple #[v,vi st.2]) H) (y2.box (k:=1) rfl) PlaceD.zero ?_
   exact hQ _ (y2.put (k:=1) (b:=rb) rfl PlaceD.zero.cells).ext
end
end Go.AM
end
section
namespace Go.AM
set_option maxRecDepth 20000
def placeR (l:List PlaceD):List (List Value):=l.map PlaceD.cells
def AtOk (T:Tr) (M:List MntD):Prop:=∀ m∈M,m.id≠0->(T.node m.at_.i).kind≠0#8
section
variable {E:Sy} {H H' H0 Z:AH} {Q:Value->AH->Prop} {t:Nat} {T:Tr} {M:List MntD} {L:List Res}
theorem placeR_length (l:List PlaceD):(placeR l).length=l.length:=by simp [placeR]
theorem place_agg (p q:PlaceD):binAgg [0,0] .eql p.v q.v=some (vb (decide (p=q))):=by
 obtain ⟨a,b⟩:=p
 obtain ⟨c,d⟩:=q
 simp [binAgg,PlaceD.cells,place_eq]
theorem above_loop (hE:Fold E) (h:WkAt H t T M) (ao:AtOk T M) (c:PlaceD) {N:Nat} (hN:N=289) {H2:AH} (g3:Has H H H2 [boxR H.next c.cells,growR 2 nilS []]) (hk0:(T.node c.i).kind≠0#8) (hQ:∀ v H',Ext H H'->Rows H' 2 v (placeR (aboveN T M N c))->Q v H') :
  LoopL (fun l H X0=>F.f106_l1 E Q (nth l 0) (nth l 1) (nth l 2) (nth l 3) H X0) [ptr t 0,ptr H.next 0,(.slice none 0 0),(.int .i64 0)] H2:=by
 refine LoopL.count N (fun j ls H'=>∃ p v done,ls=[ptr t 0,ptr H.next 0,v,vi j]/\Has H H H' [boxR H.next p.cells,growR 2 v (placeR done)]/\done.length=j/\aboveN T M N c=done++aboveN T M (N - j) p/\(T.node p.i).kind≠0#8) ?_ ⟨c,nilS,[],rfl,g3,rfl,rfl,hk0⟩
 intro j ls H4 X hj hX hI
 obtain ⟨p,hI⟩:=hI
 obtain ⟨v,done,els,g4,hdn,hab,hkp⟩:=hI
 subst els
 rcases Nat.lt_or_ge j N with hjl | hjl
 rotate_left
 ·have hjl':¬ (j:Int)<289:=by omega
  have hje:N - j=0:=by omega
  rw [hje] at hab
  simp only [aboveN,List.append_nil] at hab
  rw [hab] at hQ
  simp only [F.f106_l1,i64_lss,hjl',decide_false,stdZ]
  exact hQ _ _ g4.ext (g4.rows (k:=1) rfl)
 have hX:=hX hjl
 have hjl':(j:Int)<289:=by omega
 have hjj:=i64_inc (i:=j) (by omega)
 have hstep:aboveN T M (N - j) p=p :: (match nextA T M p with | none=>[] | some q=>aboveN T M (N - (j+1)) q):=by
  rw [show N - j=(N - (j+1))+1 by omega]; rfl
 rw [hstep] at hab
 have hb4:=g4.box (k:=0) (b:=H.next) rfl
 have hl4:loadN 2 (ptr H.next 0) H4=some p.v:=by rw [loadN_ptr,hb4]; rfl
 obtain ⟨v',H5,a1,a2,g5⟩:=g4.app1 (k:=1) (bytes:=16) rfl p.cells rfl rfl (by decide) (by decide) (by rw [placeR_length]; omega)
 have g5:Has H H H5 [boxR H.next p.cells,growR 2 v' (placeR (done++[p]))]:=by simpa [placeR] using g5
 have hbS:=buildS_one 2 [vi 0,u16 0#16] p.cells rfl rfl
 have hab:aboveN T M N c=(done++[p])++(match nextA T M p with | none=>[] | some q=>aboveN T M (N - (j+1)) q):=by rw [hab]; simp
 obtain ⟨⟨q,m,L',q',nx,q1,q2,q3⟩,ho⟩:=h.mono g5.ext
 have hb5:=g5.box (k:=0) (b:=H.next) rfl
 have hl5:loadN 2 (ptr H.next 0) H5=some p.v:=by rw [loadN_ptr,hb5]; rfl
 have hz2:([(.int .i64 0),(.int .u16 0)]:List Value)=PlaceD.zero.cells:=rfl
 have g6:=g5.newbox PlaceD.zero.cells
 have hbS':buildS 1 2 PlaceD.zero.cells.toArray [(0,p.v)]=some (.cells p.cells none,mkSlc 1 1):=hbS
 simp only [F.f106_l1,i64_lss,hjl',decide_true,hl4,hbS',AM.mk_some,mkSlc_eq,a1,opt2_some,q1,hl5,allocW_eq,hz2,stdZ]
 have hz6:=AH.get_new_self H5 (.cells PlaceD.zero.cells none)
 have x6:Ext H5 (H5.new (.cells PlaceD.zero.cells none)):=(Ext.refl _).new _
 refine S.f35 hE q' M nx p (q3.mono x6) fun H7 e7 =>?_
 have g7:=g6.grow e7
 have hb7:=g7.box (k:=2) (b:=H5.next) rfl
 refine ⟨by rw [hb7,hz6],?_⟩
 have hst:storeN 2 (ptr H5.next 0) (optP (downT M p)).v H7=some (H7.put H5.next (.cells (optP (downT M p)).cells none)):=by rw [storeN_ptr,hb7]; rfl
 have g8:=g7.put (k:=2) (b:=H5.next) rfl (optP (downT M p)).cells
 simp only [hst,stdZ]
 generalize H7.put H5.next (.cells (optP (downT M p)).cells none)=H8 at *
 have g8:Has H H H8 [boxR H.next p.cells,growR 2 v' (placeR (done++[p])),boxR H5.next (optP (downT M p)).cells]:=g8
 have hb8:=g8.box (k:=0) (b:=H.next) rfl
 have hb8':=g8.box (k:=2) (b:=H5.next) rfl
 cases hdn':downT M p with
 | some r =>
  have hna:nextA T M p=some r:=by simp [nextA,hdn']
  rw [hna] at hab
  rw [hdn'] at hb8'
  have hl8:loadN 2 (ptr H5.next 0) H8=some r.v:=by rw [loadN_ptr,hb8']; rfl
  have hs8:storeN 2 (ptr H.next 0) r.v H8=some (H8.put H.next (.cells r.cells none)):=by rw [storeN_ptr,hb8]; rfl
  have g9:=(g8.put (k:=0) (b:=H.next) rfl r.cells).drop 2
  obtain ⟨m',w1,w2,w3,rfl⟩:=downT_some hdn'
  simp only [Option.isSome_some,hl8,hs8,hjj,stdZ]
  exact hX _ _ ⟨m'.at_,v',done++[p],rfl,g9,by simp [hdn],hab,ao m' (getT_some w1).1 w2⟩
 | none =>
  rw [hdn'] at hb8'
  obtain ⟨⟨qq,mm,LL,qq',nnx,p1,p2,p3⟩,_⟩:=h.mono g8.ext
  have c0:p.cells[0]? = some (vi p.m):=rfl
  have c1:p.cells[1]? = some (u16 p.i):=rfl
  have g9:=g8.newbox PlaceD.zero.cells
  have x9:Ext H8 (H8.new (.cells PlaceD.zero.cells none)):=(Ext.refl _).new _
  have hb9:=g9.box (k:=0) (b:=H.next) rfl
  have hz9:=g9.box (k:=3) (b:=H8.next) rfl
  simp only [Option.isSome_none,hb8,c0,c1,p1,allocW_eq,hz2,stdZ]
  refine S.f9 hE (p2.mono x9) p.i ?_
  refine ⟨rfl,by rw [load1_ptr,load1_ptr,hb9,hb8],?_⟩
  rcases (p2.mono x9).get p.i with ⟨k0,_⟩ | ⟨kk,yy,k0,k1,k2,k3,k4⟩
  ·exact (hkp k0).elim
  have hst9:storeN 2 (ptr H8.next 0) (PlaceD.v ⟨p.m,(T.node p.i).parent⟩) (H8.new (.cells PlaceD.zero.cells none))=some ((H8.new (.cells PlaceD.zero.cells none)).put H8.next (.cells (PlaceD.cells ⟨p.m,(T.node p.i).parent⟩) none)):=by rw [storeN_ptr,hz9]; rfl
  have g10:=g9.put (k:=3) (b:=H8.next) rfl (PlaceD.cells ⟨p.m,(T.node p.i).parent⟩)
  simp only [nodeP_some p2.cov.nd k1,k3,inC,mkPlace,hst9,stdZ]
  generalize (H8.new (.cells PlaceD.zero.cells none)).put H8.next (.cells (PlaceD.cells ⟨p.m,(T.node p.i).parent⟩) none)=H10 at *
  have g10:Has H H H10 [boxR H.next p.cells,growR 2 v' (placeR (done++[p])),boxR H5.next (optP (downT M p)).cells,boxR H8.next (PlaceD.cells ⟨p.m,(T.node p.i).parent⟩)]:=g10
  have hbp:=g10.box (k:=0) (b:=H.next) rfl
  have hbu:=g10.box (k:=3) (b:=H8.next) rfl
  have hlp:loadN 2 (ptr H.next 0) H10=some p.v:=by rw [loadN_ptr,hbp]; rfl
  have hlu:loadN 2 (ptr H8.next 0) H10=some (PlaceD.v ⟨p.m,(T.node p.i).parent⟩):=by rw [loadN_ptr,hbu]; rfl
  simp only [hlp,hlu,place_agg,stdZ]
  by_cases hup:(⟨p.m,(T.node p.i).parent⟩:PlaceD)=p
  ·have hna:nextA T M p=none:=by simp [nextA,hdn',hup]
   rw [hna,List.append_nil] at hab
   rw [hab] at hQ
   simp only [hup,decide_true,stdZ]
   exact hQ _ _ g10.ext (g10.rows (k:=1) rfl)
  obtain ⟨⟨qz,mz,Lz,qz',nz,z1,z2,z3⟩,_⟩:=h.mono g10.ext
  have cu:(PlaceD.cells ⟨p.m,(T.node p.i).parent⟩)[1]? = some (u16 (T.node p.i).parent):=rfl
  simp only [hup,decide_false,z1,hbu,cu,stdZ]
  refine S.f9 hE z2 (T.node p.i).parent ?_
  rcases z2.get (T.node p.i).parent with ⟨n0,_⟩ | ⟨nn,ny,n0,n1,n2,n3,n4⟩
  ·have hna:nextA T M p=none:=by simp [nextA,hdn',n0]
   rw [hna,List.append_nil] at hab
   rw [hab] at hQ
   simp only [nodeP_none z2.cov n0,nilp_none_z,hup,decide_false,stdZ]
   exact hQ _ _ g10.ext (g10.rows (k:=1) rfl)
  ·have hna:nextA T M p=some ⟨p.m,(T.node p.i).parent⟩:=by simp [nextA,hdn',hup,n0]
   rw [hna] at hab
   have hs10:storeN 2 (ptr H.next 0) (PlaceD.v ⟨p.m,(T.node p.i).parent⟩) H10=some (H10.put H.next (.cells (PlaceD.cells ⟨p.m,(T.node p.i).parent⟩) none)):=by rw [storeN_ptr,hbp]; rfl
   have g11:=((g10.put (k:=0) (b:=H.next) rfl (PlaceD.cells ⟨p.m,(T.node p.i).parent⟩)).drop 3).drop 2
   simp only [nodeP_some z2.cov.nd n1,nilq_p,hup,decide_false,hlu,hs10,hjj,stdZ]
   exact hX _ _ ⟨_,v',done++[p],rfl,g11,by simp [hdn],hab,n0⟩
theorem S.f106 (hE:Fold E) (h:WkAt H t T M) (ao:AtOk T M) (c:PlaceD) (hQ:∀ v H',Ext H H'->Rows H' 2 v (placeR (aboveW T M c))->Q v H'):E.call (E.fid i.f106) [ptr t 0,c.v] H Q:=by
 apply hE.f106
 have g0:Has H H H []:=Has.start (Ext.refl H)
 have g1:=g0.newbox c.cells
 have hb1:=g1.box (k:=0) rfl
 have hl1:loadN 2 (ptr H.next 0) (H.new (.cells c.cells none))=some c.v:=by rw [loadN_ptr,hb1]; rfl
 simp only [F.f106,boxO_agg_z,AM.mk_some,mkPtr_eq_z,List.toList_toArray,hl1,stdZ]
 generalize H.new (.cells c.cells none)=H1 at *
 refine S.f107 hE (h.mono g1.ext) c fun H2 e2 =>?_
 have g2:=g1.grow e2
 unfold aboveW at hQ
 cases hd:dirP T M c with
 | false =>
  rw [hd] at hQ
  simp only [stdZ]
  exact hQ _ _ g2.ext (by simpa [placeR] using Rows.nil _ 2 none)
 | true =>
 rw [hd] at hQ
 simp only [if_true] at hQ
 simp only [stdZ]
 have hk0:(T.node c.i).kind≠0#8:=by
  unfold dirP at hd
  simp only [Bool.and_eq_true,decide_eq_true_eq] at hd
  rw [hd.2]; decide
 have g3:=g2.nils 2
 have g3:Has H H H2 [boxR H.next c.cells,growR 2 nilS []]:=g3
 exact above_loop hE h ao c rfl g3 hk0 hQ
end
end Go.AM
end
section
namespace Go.AM
section
variable {E:Sy} {H H' H0 Z:AH} {Q:Value->AH->Prop} {t:Nat} {T:Tr} {M:List MntD} {L:List Res}
def optS (o:Option (List UInt8)):List UInt8:=o.getD []
theorem find_take {α:Type} (P:α->Bool) (l:List α) {j:Nat} (hj:j<l.length) (hn:∀ x∈l.take j,P x=false) (h:P l[j]=true):l.find? P=some l[j]:=by
 rw [List.find?_eq_some_iff_getElem]
 refine ⟨h,j,hj,rfl,fun i hi =>?_⟩
 have:l[i]∈l.take j:=by
  rw [List.mem_take_iff_getElem]
  exact ⟨i,by omega,rfl⟩
 simp [hn _ this]
theorem S.f111 (hE:Fold E) (h:WkAt H t T M) (wf:T.WF) (a n:BitVec 16) (hQ:∀ H',Ext H H'->Q (.tuple #[str (optS (nameOf T a n)),vb (nameOf T a n).isSome]) H'):E.call (E.fid i.f111) [ptr t 0,u16 a,u16 n] H Q:=by
 apply hE.f111
 obtain ⟨⟨p,m,L',q,nx,q1,q2,q3⟩,ho⟩:=id h
 have hsz:=wf.size a
 simp only [F.f111,q1,stdZ]
 refine S.f8 hE q2 a (wf.rising a) (by omega) fun v H1 e1 g1 _ =>?_
 have r1:=g1.toRows
 have hl:=strR_lenSlc r1
 have hen:T.entries a=(T.node a).ents.map Prod.fst:=by
  unfold Tr.entries
  split
  ·rfl
  ·rename_i hd
   cases he:(T.node a).ents with
   | nil=>rfl
   | cons x l =>
    have:=(wf.ents a x.1 x.2 (by rw [he]; exact List.mem_cons_self)).1
    exact (hd (by unfold Tr.dir; rw [this]; simp)).elim
 rw [hen] at r1 hl
 rw [List.length_map] at hl
 simp only [hl,stdZ]
 unfold nameOf at hQ
 refine LoopL.count (T.node a).ents.length (fun j ls H'=>ls=[ptr t 0,u16 a,u16 n,v,vi (T.node a).ents.length,vi j]/\Ext H1 H'/\∀ x∈(T.node a).ents.take j,decide (x.2=n)=false) ?_ ⟨rfl,Ext.refl _,by simp⟩
 rintro j _ H2 X hj hX ⟨rfl,e2,hno⟩
 rcases Nat.lt_or_ge j (T.node a).ents.length with hjl | hjl
 ·have hX:=hX hjl
  have hjl':(j:Int)<(T.node a).ents.length:=by omega
  have hjj:=i64_inc (i:=j) (by omega)
  obtain ⟨b,o,f1,f2,_⟩:=ix_strR (r1.mono e2) (i:=j) (by simpa using hjl)
  rw [List.getElem_map] at f2
  have hmem:=List.getElem_mem hjl
  have hal:alook (T.node a).ents[j].1 (T.node a).ents=some (T.node a).ents[j].2:=alook_of_mem (wf.rising a).nodup hmem
  have hk:=(wf.ents a (T.node a).ents[j].1 (T.node a).ents[j].2 hmem).1
  have hlook:T.look a (T.node a).ents[j].1=((T.node a).ents[j].2,0):=by
   unfold Tr.look
   have hd:T.dir a=0:=by unfold Tr.dir; rw [hk]; simp
   rw [if_neg (by simp [hd]),hal]
  have hft:=find_take (fun e:NameL×BitVec 16=>decide (e.2=n)) (T.node a).ents hjl hno
  have hx':∀ x∈(T.node a).ents.take (j+1),x∈(T.node a).ents.take j\/x=(T.node a).ents[j]:=by
   intro x hx
   rw [List.take_succ_eq_append_getElem hjl,List.mem_append,List.mem_singleton] at hx
   exact hx
  generalize (T.node a).ents[j]=en at *
  have q1':=(e1.trans e2).cells q1
  have q2':=q2.mono (e1.trans e2)
  simp only [F.f111_l1,i64_lss,hjl',decide_true,f1,f2,q1',stdZ]
  refine S.f11 hE q2' a en.1 ?_
  rw [hlook]
  simp only [u16_eql,stdZ]
  by_cases hn:en.2=n
  ·rw [hft (by simpa using hn)] at hQ
   simp only [hn,decide_true,stdZ]
   exact hQ _ (e1.trans e2)
  ·simp only [hn,decide_false,hjj,stdZ]
   refine hX _ _ ⟨rfl,e2,fun x hx =>?_⟩
   rcases hx' x hx with h1 | rfl
   ·exact hno x h1
   ·simpa using hn
 ·have hjl':¬ (j:Int)<(T.node a).ents.length:=by omega
  rw [List.take_of_length_le hjl] at hno
  have hnone:(T.node a).ents.find? (fun e=>decide (e.2=n))=none:=by
   rw [List.find?_eq_none]
   intro x hx
   simpa using hno x hx
  rw [hnone] at hQ
  simp only [F.f111_l1,i64_lss,hjl',decide_false,stdZ]
  exact hQ _ (e1.trans e2)
theorem namesUp_drop (T:Tr):∀ (l:List PlaceD) (k:Nat) (hk:k+1<l.length),namesUp T (l.drop k)=match namesUp T (l.drop (k+1)) with
  | none=>none
  | some ns=>if l[k+1].m≠l[k].m then some ns else match nameOf T l[k+1].i l[k].i with
   | none=>none
   | some s=>some (ns++[s])
 | [],k,hk=>by simp at hk
 | [_],k,hk=>by simp at hk
 | p :: q :: l,0,_=>rfl
 | p :: q :: l,k+1,hk=>by
  have:=namesUp_drop T (q :: l) k (by simpa using hk)
  simpa using this
def Joins (E:Sy) (ns:List NameL):Prop:=∀ (v:Value) (H:AH) (R:Value->AH->Prop),Rows H 1 v (strR ns)->(∀ H',Ext H H'->R (str (joinSl ns)) H')->E.call (E.fid i.f97) [v,str [47]] H R
theorem join_sl:∀ (ns:List NameL),Lib.join ns [47]=joinSl ns
 | []=>rfl
 | [s]=>by simp [Lib.join_one,joinSl]
 | s :: t :: ns=>by
  have ih:=join_sl (t :: ns)
  rw [Lib.join_cons] at ih ⊢
  show s++Lib.joinTail [47] (t :: ns)=s++[47]++joinSl (t :: ns)
  rw [<- ih]
  simp [Lib.joinTail]
theorem strR_flatten:∀ ns:List NameL,(strR ns).flatten=ns.map str
 | []=>rfl
 | x :: ns=>by
  have ih:=strR_flatten ns
  unfold strR at ih ⊢
  simp only [List.map_cons,List.flatten_cons,ih,List.singleton_append]
theorem joins_any (hE:Fold E) {ns:List NameL} (h:ns.length<=100000) (hl:(joinSl ns).length<=140737488355328):Joins E ns:=by
 intro v H R hv hR
 apply hE.f97
 rcases hv.at_ with ⟨h0,a,rfl⟩ | ⟨b,o,c,rfl,h2,_,h4⟩
 ·have h0:ns=[]:=by simpa [strR] using h0
  subst h0
  exact ⟨[],rfl,Nat.le_refl _,by decide,by decide,.inl rfl,hR _ (Ext.refl _)⟩
 ·rw [strR_length] at h2
  refine ⟨ns,(strR_length ns).symm,by rw [strR_length]; exact h2,by rw [strR_length]; omega,?_,.inr ⟨b,o,rfl,fun j s hs =>?_⟩,?_⟩
  ·show (Lib.join ns [47]).length<=_
   rw [join_sl]; exact hl
  ·have hj:j<ns.length:=(List.getElem?_eq_some_iff.1 hs).1
   have hf:=strR_flatten ns
   have:=row_at h4 (j:=j) (by rw [strR_length]; omega)
   rw [this,hf,List.getElem?_map,hs]
   rfl
  ·show R (.string ⟨(Lib.join ns [47]).toArray⟩) H
   rw [join_sl]
   exact hR _ (Ext.refl _)
theorem aboveN_le (T:Tr) (M:List MntD):∀ (n:Nat) (c:PlaceD),(aboveN T M n c).length<=n
 | 0,_=>Nat.zero_le _
 | n+1,c=>by
  simp only [aboveN,List.length_cons]
  cases nextA T M c with
  | none=>simp
  | some q=>have:=aboveN_le T M n q; simp only; omega
theorem namesUp_none (T:Tr) (l:List PlaceD):∀ (k:Nat),k<l.length->namesUp T (l.drop k)=none->namesUp T l=none
 | 0,_,h=>h
 | k+1,hk,h=>namesUp_none T l k (by omega) (by rw [namesUp_drop T l k hk,h])
theorem S.f109 (hE:Fold E) (h:WkAt H t T M) (wf:T.WF) (ao:AtOk T M) (c:PlaceD) (hJ:∀ ns,namesUp T (aboveW T M c)=some ns->Joins E ns/\(joinSl ns).length<2 ^ 40)
  (hQ:∀ H',Ext H H'->Q (.tuple #[str (optS (pathW T M c)),vb (pathW T M c).isSome]) H'):E.call (E.fid i.f109) [ptr t 0,c.v] H Q:=by
 apply hE.f109
 have x1:Ext H (H.new (.cells c.cells none)):=(Ext.refl H).new _
 have hl1:loadN 2 (ptr H.next 0) (H.new (.cells c.cells none))=some c.v:=by rw [loadN_ptr,AH.get_new_self]; rfl
 simp only [F.f109,boxO_agg_z,AM.mk_some,mkPtr_eq_z,List.toList_toArray,hl1,stdZ]
 refine S.f106 hE (h.mono x1) ao c fun v H2 e2 r2 =>?_
 have x2:=x1.trans e2
 have hl2:=r2.lenSlc
 rw [placeR_length] at hl2
 unfold pathW at hQ
 have hlen:(aboveW T M c).length<=289:=by
  unfold aboveW
  split
  ·exact aboveN_le T M 289 c
  ·simp
 generalize aboveW T M c=l at *
 by_cases hnil:l=[]
 ·subst hnil
  simp only [List.getLast?_nil] at hQ
  simp only [hl2,i64_eql,List.length_nil,show ((0:Nat):Int)=0 from rfl,decide_true,stdZ]
  refine ⟨by simp,?_⟩
  simpa [optS] using hQ _ x2
 have hpos:0<l.length:=List.length_pos_iff.2 hnil
 have hne:((l.length:Int)=0)=False:=by simp; omega
 have hsub:binInt .sub (vi (l.length:Nat)) (.int .i64 1)=some (vi ((l.length - 1:Nat):Int)):=by
  rw [i64_sub (by omega) (by omega)]; congr 2; omega
 obtain ⟨b,o,f1,f2⟩:=r2.ix (i:=l.length - 1) (by rw [placeR_length]; omega)
 have hrow:(placeR l)[l.length - 1]'(by rw [placeR_length]; omega)=(l[l.length - 1]).cells:=by simp [placeR]
 rw [hrow] at f2
 have hlo:∀ {H3},Ext H2 H3->loadN 2 (ptr b o) H3=some (l[l.length - 1]).v:=fun e=>by
  rw [loadN_ptr,e.get (AH.lt_of_get (row_notdead f2)),f2]; rfl
 have hlast:l.getLast? = some l[l.length - 1]:=by rw [List.getLast?_eq_getElem?,List.getElem?_eq_getElem]
 simp only [hl2,i64_eql,hne,decide_false,hsub,f1,hlo (Ext.refl _),stdZ]
 refine S.f41 hE fun H3 e3 =>?_
 have hcmp:binAgg [0,0] .neq (l[l.length - 1]).v (PlaceD.v ⟨0,1#16⟩)=some (vb (!decide (l[l.length - 1]=topP))):=by
  generalize l[l.length - 1]=z
  obtain ⟨z1,z2⟩:=z
  simp [binAgg,PlaceD.cells,topP,place_eq]
 refine ⟨by rw [gdC_bool,hlo e3,hlo (Ext.refl _)]; simp,?_⟩
 simp only [hcmp,stdZ]
 rw [hlast] at hQ
 have x3:=x2.trans e3
 by_cases htop:l[l.length - 1]=topP
 rotate_left
 ·rw [if_neg (by simpa using htop)] at hQ
  simp only [htop,decide_false,stdZ]
  exact hQ _ x3
 rw [if_pos (by rw [htop])] at hQ
 simp only [htop,decide_true,hl2,hsub,stdZ]
 refine LoopL.ind (fun k ls H'=>∃ w ns Z',k<l.length/\ls=[ptr t 0,v,w,vi k]/\Has H3 Z' H' [growR 1 w (strR ns)]/\namesUp T (l.drop k)=some ns/\ns.length<=289 - k) ?_ (l.length - 1) ⟨nilS,[],H3,by omega,rfl,(Has.start (Ext.refl H3)).nils 1,?_,by simp⟩
 rotate_left
 ·rw [List.drop_eq_getElem_cons (by omega),List.drop_of_length_le (by omega)]
  rfl
 rintro k _ H4 X hX ⟨w,ns,Z',hkl,rfl,g4,hns,hnl⟩
 rcases Nat.eq_zero_or_pos k with rfl | hk0
 ·rw [List.drop_zero] at hns
  rw [hns] at hQ
  obtain ⟨hj1,hj2⟩:=hJ ns hns
  simp only [F.f109_l1,i64_gtr,gt_iff_lt,show ((0:Nat):Int)=0 from rfl,Int.lt_irrefl,decide_false,stdZ]
  refine hj1 w H4 _ (g4.rows (k:=0) rfl) fun H5 e5 =>?_
  have hadd:=binStr_add [47] (joinSl ns) (by simp; omega)
  have hadd:binStr .add (.string ⟨#[47]⟩) (str (joinSl ns))=some (str (47 :: joinSl ns)):=hadd
  simp only [hadd,stdZ]
  exact hQ _ (x3.trans (g4.ext.trans e5))
 have hk0':(0:Int)<(k:Nat):=by omega
 have hk1:binInt .sub (vi (k:Nat)) (.int .i64 1)=some (vi ((k - 1:Nat):Int)):=by
  rw [i64_sub (by omega) (by omega)]; congr 2; omega
 have r4:=r2.mono (e3.trans g4.ext)
 obtain ⟨b1,o1,u1,u2⟩:=r4.ix (i:=k) (by rw [placeR_length]; omega)
 obtain ⟨b2,o2,v1,v2⟩:=r4.ix (i:=k - 1) (by rw [placeR_length]; omega)
 have hr1:(placeR l)[k]'(by rw [placeR_length]; omega)=(l[k]).cells:=by simp [placeR]
 have hr2:(placeR l)[k - 1]'(by rw [placeR_length]; omega)=(l[k - 1]).cells:=by simp [placeR]
 rw [hr1] at u2
 rw [hr2] at v2
 have lo1:loadN 2 (ptr b1 o1) H4=some (l[k]).v:=by rw [loadN_ptr,u2]; rfl
 have lo2:∀ {H5},Ext H4 H5->loadN 2 (ptr b2 o2) H5=some (l[k - 1]).v:=fun e=>by rw [loadN_ptr,e.get (AH.lt_of_get (row_notdead v2)),v2]; rfl
 have hnd:=namesUp_drop T l (k - 1) (by omega)
 have hkk:k - 1+1=k:=by omega
 simp only [hkk] at hnd
 rw [hns] at hnd
 have hnone:=namesUp_none T l (k - 1) (by omega)
 simp only at hnd
 generalize l[k]=up at *
 generalize l[k - 1]=at_ at *
 have hz2:([(.int .i64 0),(.int .u16 0)]:List Value)=PlaceD.zero.cells:=rfl
 have g5:=g4.newbox PlaceD.zero.cells
 have g6:=g5.newbox PlaceD.zero.cells
 have g7:=g6.put (k:=1) (b:=H4.next) rfl up.cells
 have hz6:=g6.box (k:=1) (b:=H4.next) rfl
 have hst1:storeN 2 (ptr H4.next 0) up.v ((H4.new (.cells PlaceD.zero.cells none)).new (.cells PlaceD.zero.cells none))=some (((H4.new (.cells PlaceD.zero.cells none)).new (.cells PlaceD.zero.cells none)).put H4.next (.cells up.cells none)):=by rw [storeN_ptr,hz6]; rfl
 have x7:Ext H4 (((H4.new (.cells PlaceD.zero.cells none)).new (.cells PlaceD.zero.cells none)).put H4.next (.cells up.cells none)):=(((Ext.refl _).new _).new _).put (b:=H4.next) (Nat.le_refl _) _
 simp only [F.f109_l1,i64_gtr,gt_iff_lt,hk0',decide_true,u1,lo1,hk1,v1,lo2 (Ext.refl _),allocW_eq,hz2,hst1,stdZ]
 refine ⟨lo2 x7,?_⟩
 generalize ((H4.new (.cells PlaceD.zero.cells none)).new (.cells PlaceD.zero.cells none)).put H4.next (.cells up.cells none)=H7 at *
 have g7:Has H3 Z' H7 [growR 1 w (strR ns),boxR H4.next up.cells,boxR (H4.next+1) PlaceD.zero.cells]:=g7
 have g8:=g7.put (k:=2) (b:=H4.next+1) rfl at_.cells
 have hst2:storeN 2 (ptr (H4.next+1) 0) at_.v H7=some (H7.put (H4.next+1) (.cells at_.cells none)):=by rw [storeN_ptr,g7.box (k:=2) (b:=H4.next+1) rfl]; rfl
 simp only [AH.next_new_z,hst2,stdZ]
 generalize H7.put (H4.next+1) (.cells at_.cells none)=H8 at *
 have g8:Has H3 Z' H8 [growR 1 w (strR ns),boxR H4.next up.cells,boxR (H4.next+1) at_.cells]:=g8
 have c0:up.cells[0]? = some (vi up.m):=rfl
 have c1:up.cells[1]? = some (u16 up.i):=rfl
 have d0:at_.cells[0]? = some (vi at_.m):=rfl
 have d1:at_.cells[1]? = some (u16 at_.i):=rfl
 simp only [g8.box (k:=1) (b:=H4.next) rfl,g8.box (k:=2) (b:=H4.next+1) rfl,c0,c1,d0,d1,i64_neq,stdZ]
 by_cases hm:up.m=at_.m
 rotate_left
 ·rw [if_pos (by simpa using hm)] at hnd
  simp only [ne_eq,hm,not_false_eq_true,decide_true,hk1,stdZ]
  exact hX (k - 1) (by omega) _ _ ⟨w,ns,Z',by omega,rfl,(g8.drop 2).drop 1,hnd,by omega⟩
 rw [if_neg (by simpa using hm)] at hnd
 simp only [ne_eq,hm,not_true,decide_false,g8.box (k:=1) (b:=H4.next) rfl,g8.box (k:=2) (b:=H4.next+1) rfl,c1,d1,stdZ]
 refine S.f111 hE (h.mono (x3.trans g8.ext)) wf up.i at_.i fun H9 e9 =>?_
 have g9:=((g8.grow e9).drop 2).drop 1
 have g9:Has H3 Z' H9 [growR 1 w (strR ns)]:=g9
 cases hnm:nameOf T up.i at_.i with
 | none =>
  rw [hnm] at hnd
  rw [hnone hnd] at hQ
  simp only [Option.isSome_none,stdZ]
  exact hQ _ (x3.trans g9.ext)
 | some s =>
  rw [hnm] at hnd
  obtain ⟨w',H10,a1,a2,g10⟩:=g9.app1 (k:=0) (bytes:=16) rfl [str s] rfl rfl (by decide) (by decide) (by rw [strR_length]; omega)
  have hb:=buildS_val (str []) (str s) rfl rfl
  have hb:buildS 1 1 #[(.string ⟨#[]⟩)] [(0,str s)]=some (.cells [str s] none,mkSlc 1 1):=hb
  have hos:optS (some s)=s:=rfl
  simp only [Option.isSome_some,hos,hb,AM.mk_some,mkSlc_eq,a1,opt2_some,hk1,stdZ]
  have g10:Has H3 Z' H10 [growR 1 w' (strR (ns++[s]))]:=by simpa [strR] using g10
  exact hX (k - 1) (by omega) _ _ ⟨w',ns++[s],Z',by omega,rfl,g10,hnd,by simp; omega⟩
end
end Go.AM
end
section
namespace Go.AM
theorem Ow.perm {rs rs':List Res} {H:AH} (h:Ow (joinR rs) H) (hp:rs.Perm rs'):Ow (joinR rs') H :=
 ⟨fun r hr=>h.holds r (hp.mem_iff.2 hr),fun b hb=>h.lt b ((hp.flatMap_right Res.fp).mem_iff.2 hb),(hp.flatMap_right Res.fp).nodup_iff.1 h.nd⟩
def wkRs (p m:Nat) (L:LyL) (T:Tr) (q:Nat) (v:Value) (M:List MntD) (nx:Int) (w:Nat) (X:List Res):List Res:=inoR p m L T :: tabR q v M nx :: boxR w [ptr p 0,ptr q 0] :: X
def WkO (X:List Res) (H0 H:AH) (w:Nat) (T:Tr) (M:List MntD) (nx:Int):Prop :=
 ∃ p m L q v,Ext H0 H/\Ow (joinR (wkRs p m L T q v M nx w X)) H/\(∀ b∈(joinR (wkRs p m L T q v M nx w X)).fp,H0.next<=b)/\Cov L T/\TabOk M nx
section
variable {E:Sy} {X:List Res} {H H' H0 Z:AH} {Q:Value->AH->Prop} {w:Nat} {T T':Tr} {M M':List MntD} {nx nx':Int} {L:List Res}
theorem WkO.ext (h:WkO X H0 H w T M nx):Ext H0 H:=by obtain ⟨_,_,_,_,_,h,_⟩:=h; exact h
theorem WkO.tab (h:WkO X H0 H w T M nx):TabOk M nx:=by obtain ⟨_,_,_,_,_,_,_,_,_,h⟩:=h; exact h
theorem own_upd {r r':Res} (e:Ext H0 H) (o:Ow r H) (own:∀ b∈r.fp,H0.next<=b) (u:Upd r r' H H'):Ext H0 H'/\Ow r' H'/\∀ b∈r'.fp,H0.next<=b :=
 ⟨u.only.ext e own,o.upd u,fun b hb=>(u.fp b hb).1.elim (own b) fun k=>Nat.le_trans e.1 k⟩
theorem WkO.open_ (h:WkO X H0 H w T M nx):∃ p q,H.get w = .cells [ptr p 0,ptr q 0] none /\
  (∃ m L,Ino H p m L T/\∀ L' T' H',UpdI p m L T L' T' H H'->WkO X H0 H' w T' M nx) /\
  (∃ v,(tabR q v M nx).P H/\(tabR q v M nx).fp.Nodup/\∀ v' M' nx' H',Upd (tabR q v M nx) (tabR q v' M' nx') H H'->TabOk M' nx'->WkO X H0 H' w T M' nx'):=by
 obtain ⟨p,m,L,q,v,e,o,own,cov,tab⟩:=h
 refine ⟨p,q,o.holds (boxR w [ptr p 0,ptr q 0]) (by simp [wkRs]),⟨m,L,⟨o.part (k:=0) rfl,cov⟩,fun L' T' H' u =>?_⟩,⟨v,o.holds (tabR q v M nx) (by simp [wkRs]),(o.part (k:=1) rfl).nd,fun v' M' nx' H' u ok =>?_⟩⟩
 ·obtain ⟨a,b,c⟩:=own_upd e o own (o.set (k:=0) rfl u.upd)
  exact ⟨p,m,L',q,v,a,b,c,u.cov,tab⟩
 ·obtain ⟨a,b,c⟩:=own_upd e o own (o.set (k:=1) rfl u)
  exact ⟨p,m,L,q,v',a,b,c,cov,ok⟩
theorem WkO.openX (h:WkO X H0 H w T M nx) {k:Nat} {r:Res} (hk:X[k]? = some r):Ow r H/\∀ r' H',Upd r r' H H'->WkO (X.set k r') H0 H' w T M nx:=by
 obtain ⟨p,m,L,q,v,e,o,own,cov,tab⟩:=h
 have hk':(wkRs p m L T q v M nx w X)[k+3]? = some r:=by simpa [wkRs] using hk
 refine ⟨o.part hk',fun r' H' u =>?_⟩
 obtain ⟨a,b,c⟩:=own_upd e o own (o.set hk' u)
 exact ⟨p,m,L,q,v,a,b,c,cov,tab⟩
theorem WkO.mono (h:WkO X H0 H w T M nx) (e:Ext H H'):WkO X H0 H' w T M nx:=by
 obtain ⟨p,m,L,q,v,e0,o,own,cov,tab⟩:=h
 exact ⟨p,m,L,q,v,e0.trans e,o.mono e,own,cov,tab⟩
theorem WkO.add (h:WkO X H0 H w T M nx) {r:Res} (n:NewRes r H H'):WkO (X++[r]) H0 H' w T M nx:=by
 obtain ⟨p,m,L,q,v,e0,o,own,cov,tab⟩:=h
 obtain ⟨a,b,c⟩:=own_upd e0 o own (o.add r n.1 n.2.1 n.2.2.1 n.2.2.2)
 exact ⟨p,m,L,q,v,a,b,c,cov,tab⟩
theorem newbox (H:AH) (c:List Value):NewRes (boxR H.next c) H (H.new (.cells c none)):=⟨(Ext.refl H).new _,AH.get_new_self _ _,fun b hb=>by simp [boxR] at hb; subst hb; simp,by simp [boxR]⟩
theorem WkO.box (h:WkO X H0 H w T M nx) (c:List Value):WkO (X++[boxR H.next c]) H0 (H.new (.cells c none)) w T M nx:=h.add (newbox H c)
theorem WkO.drop {r:Res} (h:WkO (X++[r]) H0 H w T M nx):WkO X H0 H w T M nx:=by
 obtain ⟨p,m,L,q,v,e0,o,own,cov,tab⟩:=h
 have u:=o.erase (X.length+3)
 have e:(wkRs p m L T q v M nx w (X++[r])).eraseIdx (X.length+3)=wkRs p m L T q v M nx w X:=by simp [wkRs,List.eraseIdx_append]
 rw [e] at u
 obtain ⟨a,b,c⟩:=own_upd e0 o own u
 exact ⟨p,m,L,q,v,a,b,c,cov,tab⟩
theorem WkO.held {k:Nat} {c:List Value} (h:WkO (X++[boxR k c]) H0 H w T M nx):H.get k = .cells c none:=(h.openX (k:=X.length) (r:=boxR k c) (by simp)).1.holds
theorem WkO.put {k:Nat} {c:List Value} (h:WkO (X++[boxR k c]) H0 H w T M nx) (c':List Value):WkO (X++[boxR k c']) H0 (H.put k (.cells c' none)) w T M nx:=by
 have:=(h.openX (k:=X.length) (r:=boxR k c) (by simp)).2 _ _ (boxR.put h.held c')
 rwa [set_last] at this
theorem WkO.at_ (h:WkO X H0 H w T M nx):WkAt H w T M:=by
 obtain ⟨p,q,hw,⟨m,L,hi,_⟩,⟨v,ht,_,_⟩⟩:=h.open_
 have:=h.tab.len
 exact ⟨⟨p,m,L,q,nx,hw,hi,tabR.at_ ht (by omega)⟩,h.tab.older⟩
theorem WkO.two {t:Nat} {nv mv:Value} {mr:List (List Value)} {Y:List RLy} {T2:Tr} {rx:Int} (h:WkO (refR t nv mv rx mr Y T2 :: X) H0 H w T M nx) (hl:Y.length=T2.N.length) (hf:T2.N.length<=60000) :
  ∃ p q v m L,TwoX (tabR q v M nx :: boxR w [ptr p 0,ptr q 0] :: X) H0 H p m L T t nv mv rx mr Y T2 /\
   ∀ L' T' nv' Y' T2' H',TwoX (tabR q v M nx :: boxR w [ptr p 0,ptr q 0] :: X) H0 H' p m L' T' t nv' mv rx mr Y' T2'->WkO (refR t nv' mv rx mr Y' T2' :: X) H0 H' w T' M nx:=by
 obtain ⟨p,m,L,q,v,e0,o,own,cov,tab⟩:=h
 have perm:∀ (a b c d:Res),(a :: b :: c :: d :: X).Perm (a :: d :: b :: c :: X):=fun a b c d=>by
  refine .cons _ ?_
  exact (List.Perm.cons _ (.swap _ _ _)).trans (.swap _ _ _)
 refine ⟨p,q,v,m,L,⟨e0,o.perm (perm _ _ _ _),fun b hb=>own b (((perm _ _ _ _).flatMap_right Res.fp).mem_iff.2 hb),cov,hl,hf⟩,fun L' T' nv' Y' T2' H' h2 =>?_⟩
 exact ⟨p,m,L',q,v,h2.ext,h2.ow.perm (perm _ _ _ _).symm,fun b hb=>h2.own b (((perm _ _ _ _).flatMap_right Res.fp).mem_iff.1 hb),h2.cov,tab⟩
theorem S.f105 (hE:Fold E) (limit:Int) (hQ:∀ w H',WkO [] H H' w (Tr.new limit) tab0 1->Q (ptr w 0) H'):E.call (E.fid i.f105) [vi limit] H Q:=by
 apply hE.f105
 simp only [F.f105]
 refine S.f4' hE limit fun p m L H1 h1 =>?_
 refine S.f33 hE fun q v H2 n2 =>?_
 have hb:buildV [(0,1),(1,1)] #[(.pointer none),(.pointer none)] [(0,ptr p 0),(1,ptr q 0)]=some (.agg #[ptr p 0,ptr q 0]):=rfl
 simp only [hb,boxO_agg_z,AM.mk_some,mkPtr_eq_z,stdZ]
 refine hQ H2.next _ ⟨p,m,L,q,v,?_⟩
 have o1:Ow (joinR [inoR p m L (Tr.new limit)]) H1:=by
  refine ⟨fun r hr=>by rw [List.mem_singleton] at hr; rw [hr]; exact h1.ino.ow.holds,?_,?_⟩
  ·intro b hb; exact h1.ino.ow.lt b (by simpa [joinR] using hb)
  ·simpa [joinR] using h1.ino.ow.nd
 have own1:∀ b∈(joinR [inoR p m L (Tr.new limit)]).fp,H.next<=b:=fun b hb=>h1.own b (by simpa [joinR] using hb)
 obtain ⟨a2,b2,c2⟩:=own_upd h1.ext o1 own1 (o1.add _ n2.1 n2.2.1 n2.2.2.1 n2.2.2.2)
 have n3:=newbox H2 [ptr p 0,ptr q 0]
 obtain ⟨a3,b3,c3⟩:=own_upd a2 b2 c2 (b2.add _ n3.1 n3.2.1 n3.2.2.1 n3.2.2.2)
 exact ⟨a3,b3,c3,h1.ino.cov,tabOk0⟩
end
end Go.AM
end
section
namespace Go.AM
section
variable {E:Sy} {X:List Res} {H H' H0 Z:AH} {Q:Value->AH->Prop} {w p m:Nat} {T T':Tr} {M M':List MntD} {nx nx':Int} {L:LyL}
abbrev Tr.CO (T:Tr):Prop := -9223372036854775808<=T.change/\T.change<9223372036854775806
theorem Ino.cMake (hE:Fold E) (h:Ino H p m L T) (wf:T.WF) (n:BitVec 16) (s:NameL) (hs:s.length<2 ^ 63) (k:BitVec 8) (text:List UInt8) (ht:text.length<2 ^ 63) (hc:T.CO)
  (hQ:∀ L' H',UpdI p m L T L' (T.make n s k text).1 H H'->Q (.tuple #[u16 (T.make n s k text).2.1,vi (T.make n s k text).2.2]) H'):E.call (E.fid i.f12) [ptr p 0,u16 n,str s,u8 k,str text] H Q:=by
 have hlen:=wf.len16
 have hl2:=wf.len.1
 exact S.f12 hE h n s hs k text ht ⟨hc.1,by have:=hc.2; omega⟩ ⟨by omega,by omega⟩ (fun _ r=>wf.chain ⟨(Tr.room_ok r).1,(Tr.room_ok r).2.2.1⟩ 17) fun L1 H1 _ u1=>hQ _ _ u1
theorem Tr.KD.lt (h:T.KD):T.LT:=fun n hk=>(h n).text hk
theorem tab0_atOk:AtOk T tab0:=by
 intro m hm h
 simp [tab0] at hm
 subst hm
 exact (h rfl).elim
theorem S.f45 (hE:Fold E) (hQ:∀ H',Ext H H'->Q (vb true) H'):E.call (E.fid i.f45) [] H Q:=by
 apply hE.f45
 simp only [F.f45,str_lit_z,stdZ]
 refine S.f105 hE 9 fun w H1 h1 =>?_
 obtain ⟨p,q,hw,⟨m,L,hi,ki⟩,_⟩:=h1.open_
 have s97:(.string ⟨#[97]⟩:Value)=str [97]:=rfl
 have s102:(.string ⟨#[102]⟩:Value)=str [102]:=rfl
 have s0:(.string ⟨#[]⟩:Value)=str []:=rfl
 have n1:(.int .u16 1:Value)=u16 1#16:=rfl
 have k1:(.int .u8 1:Value)=u8 1#8:=rfl
 have k2:(.int .u8 2:Value)=u8 2#8:=rfl
 simp only [nilq_p,hw,s97,s0,n1,k2,stdZ]
 have f1:((Tr.new 9).make 1#16 [97] 2#8 []).2=(2#16,0):=by decide +kernel
 refine Ino.cMake hE hi (Tr.new_wf 9) 1#16 [97] (by decide) 2#8 [] (by decide) (by decide) fun L2 H2 u2 =>?_
 have h2:=ki _ _ _ u2
 have w2:=(Tr.new_wf 9).make 1#16 [97] 2#8 []
 have d2:=(Tr.KD.new 9).make keeps_KD 1#16 [97] 2#8 []
 rw [f1]
 generalize hT2:((Tr.new 9).make 1#16 [97] 2#8 []).1=T2 at *
 obtain ⟨p,q,hw2,⟨m,L,hi2,ki2⟩,_⟩:=h2.open_
 simp only [hw2,s102,s0,k1,stdZ]
 have f2:(T2.make 2#16 [102] 1#8 []).2=(3#16,0):=by subst hT2; decide +kernel
 refine Ino.cMake hE hi2 w2 2#16 [102] (by decide) 1#8 [] (by decide) (by subst hT2; decide +kernel) fun L3 H3 u3 =>?_
 have h3:=ki2 _ _ _ u3
 have w3:=w2.make 2#16 [102] 1#8 []
 have d3:=d2.make keeps_KD 2#16 [102] 1#8 []
 rw [f2]
 generalize hT3:(T2.make 2#16 [102] 1#8 []).1=T3 at *
 simp only [stdZ]
 refine S.f41 hE fun H4 e4 =>?_
 have h4:=h3.mono e4
 have s9:(.string ⟨#[47,97,47,46,46,47,97,47,102]⟩:Value)=str [47,97,47,46,46,47,97,47,102]:=rfl
 simp only [s9,stdZ]
 have f3:findW T3 tab0 ⟨0,1#16⟩ [47,97,47,46,46,47,97,47,102] true=(⟨0,3#16⟩,0):=by subst hT3; subst hT2; decide +kernel
 refine S.f108 hE h4.at_ w3 (Tr.KD.lt d3) ⟨0,1#16⟩ [47,97,47,46,46,47,97,47,102] (by decide) true fun H5 e5 =>?_
 rw [f3]
 have h5:=h4.mono e5
 have h6:=h5.box PlaceD.zero.cells
 have hz2:([(.int .i64 0),(.int .u16 0)]:List Value)=PlaceD.zero.cells:=rfl
 have hst:storeN 2 (ptr H5.next 0) (PlaceD.v ⟨0,3#16⟩) (H5.new (.cells PlaceD.zero.cells none))=some ((H5.new (.cells PlaceD.zero.cells none)).put H5.next (.cells (PlaceD.cells ⟨0,3#16⟩) none)):=by rw [storeN_ptr,AH.get_new_self]; rfl
 have h7:=h6.put (PlaceD.cells ⟨0,3#16⟩)
 have hbv:buildV [(0,1),(1,1)] #[(.int .i64 0),(.int .u16 0)] [(1,u16 2#16)]=some (PlaceD.v ⟨0,2#16⟩):=rfl
 have hbv:buildV [(0,1),(1,1)] PlaceD.zero.cells.toArray [(1,u16 2#16)]=some (PlaceD.v ⟨0,2#16⟩):=rfl
 simp only [allocW_eq,hz2,hbv,hst,stdZ]
 generalize (H5.new (.cells PlaceD.zero.cells none)).put H5.next (.cells (PlaceD.cells ⟨0,3#16⟩) none)=H7 at *
 have f4:namesUp T3 (aboveW T3 tab0 ⟨0,2#16⟩)=some [[97]]:=by subst hT3; subst hT2; decide +kernel
 have f5:pathW T3 tab0 ⟨0,2#16⟩=some [47,97]:=by subst hT3; subst hT2; decide +kernel
 refine S.f109 hE h7.at_ w3 tab0_atOk ⟨0,2#16⟩ (fun ns hns =>?_) fun H8 e8 =>?_
 ·rw [f4] at hns
  obtain rfl:=Option.some.inj hns
  exact ⟨joins_any hE (by decide) (by decide),by decide⟩
 rw [f5]
 have h8:=h7.mono e8
 have hb8:=h8.held
 have s2:(.string ⟨#[47,97]⟩:Value)=str [47,97]:=rfl
 have c1:(PlaceD.cells ⟨0,3#16⟩)[1]? = some (u16 3#16):=rfl
 simp only [i64_eql,decide_true,hb8,c1,u16_eql,Option.isSome_some,optS,Option.getD_some,s2,binStr_eql,stdZ]
 exact hQ _ h8.ext
end
end Go.AM
end
section
namespace Go.AM
theorem Tr.Did.limit {up:Bool} {T T':Tr} (h:T.Did up T'):T'.limit=T.limit:=by
 have htd:∀ (U:Tr) (n:BitVec 16),(U.tidy n).limit=U.limit:=fun U n=>by unfold Tr.tidy; split <;> rfl
 have hdr:∀ (U:Tr) (n:BitVec 16) (s:NameL) (d:Bool),(U.drop n s d).1.limit=U.limit:=fun U n s d=>by
  unfold Tr.drop
  repeat' split
  all_goals try rfl
  rw [htd]; rfl
 have hmv:∀ (U:Tr) (fr to n:BitVec 16) (s o:NameL),(Tr.moved U fr s to o n).limit=U.limit:=fun U fr to n s o=>by
  unfold Tr.moved
  simp only
  split <;> rfl
 cases h
 ·unfold Tr.make
  repeat' split
  all_goals rfl
 ·unfold Tr.add
  repeat' split
  all_goals rfl
 ·exact hdr _ _ _ _
 ·unfold Tr.move
  split
  ·rfl
  split
  ·rfl
  split
  ·rfl
  split
  ·rfl
  split
  ·rfl
  rw [hmv]
  split
  ·exact hdr _ _ _ _
  ·rfl
 ·unfold Tr.hold
  repeat' split
  all_goals try rfl
  exact htd _ _
 ·unfold Tr.write
  repeat' split
  all_goals rfl
 ·unfold Tr.cut
  repeat' split
  all_goals rfl
 ·rfl
def topM:MntD:=⟨0,⟨0,0#16⟩,1#16,0⟩
structure GI (k:Int) (T:Tr) (M:List MntD) (nx l:Int):Prop where
 k0:0<=k
 k1:k<=900
 wf:T.WF
 kd:T.KD
 ord:T.Order
 tidy:T.Tidy
 lim:T.limit<=l
 hb:T.HB (2*k)
 c0:0<=T.change
 c1:T.change<=2*k
 pin:PInv M nx k
 top:getT M 0=some topM
 mnt:∀ m∈M,(T.node m.root).kind=2#8/\(m.id=0->m=topM)/\(m.id≠0->1<=(T.node m.root).held/\(T.node m.at_.i).kind=2#8/\1<=(T.node m.at_.i).held/\0<=m.at_.m/\m.at_.m<=2)
section
variable {T T':Tr} {M:List MntD} {nx k l:Int}
theorem GI.atOk (g:GI k T M nx l):AtOk T M:=fun m hm h0=>by rw [((g.mnt m hm).2.2 h0).2.1]; decide
theorem GI.mono (g:GI k T M nx l) {k':Int} (h:k<=k') (h1:k'<=900):GI k' T M nx l :=
 { g with k0:=by have:=g.k0; omega,k1:=h1,hb:=g.hb.mono (by omega),c1:=by have:=g.c1; omega,pin:=g.pin.mono h }
theorem GI.stay (g:GI k T M nx l) (s:T.Stay T') (wf:T'.WF) (kd:T'.KD) (ord:T'.Order) (ti:T'.Tidy) (lim:T'.limit<=l) {k':Int} (hk:k<=k') (h1:k'<=900) (hb:T'.HB (2*k')) (c0:0<=T'.change) (c1:T'.change<=2*k'):GI k' T' M nx l where
 k0:=by have:=g.k0; omega
 k1:=h1
 wf:=wf
 kd:=kd
 ord:=ord
 tidy:=ti
 lim:=lim
 hb:=hb
 c0:=c0
 c1:=c1
 pin:=g.pin.mono hk
 top:=g.top
 mnt:=fun m hm=>by
  obtain ⟨a,b,c⟩:=g.mnt m hm
  refine ⟨?_,b,fun h0 =>?_⟩
  ·by_cases h0:m.id=0
   ·rw [b h0]; exact wf.root.1
   ·obtain ⟨c1,_⟩:=c h0
    rw [(s m.root (by rw [a]; decide) c1).1]; exact a
  ·obtain ⟨c1,c2,c3,c4⟩:=c h0
   have h1:=s m.root (by rw [a]; decide) c1
   have h2:=s m.at_.i (by rw [c2]; decide) c3
   exact ⟨by omega,by rw [h2.1]; exact c2,by omega,c4⟩
theorem GI.did (g:GI k T M nx l) (d:T.Did true T') (wf:T'.WF) (cb:T.CB T') (hb:T'.HB (2*k+1)) (h1:k+1<=900):GI (k+1) T' M nx l:=by
 have hc0:=g.c0
 have hc1:=g.c1
 exact g.stay (d.stay g.wf) wf (d.kd g.kd) (d.order g.wf g.ord) (d.tidy g.tidy g.wf) (by rw [d.limit]; exact g.lim) (by omega) h1 (hb.mono (by omega)) (by have:=cb.1; omega) (by have:=cb.2; omega)
theorem getT_append {l:List MntD} {x:MntD} {id:Int} {m:MntD} (h:getT l id=some m):getT (l++[x]) id=some m:=by
 unfold getT at h ⊢
 rw [List.find?_append,h]; rfl
theorem GI.new (limit l:Int) (hl:1<=l/\limit<=l):GI 0 (Tr.new limit) tab0 1 l where
 k0:=Int.le_refl _
 k1:=by decide
 wf:=Tr.new_wf limit
 kd:=Tr.KD.new limit
 ord:=Tr.Order.new limit
 tidy:=Tr.Tidy.new limit
 lim:=by show min (max limit 1) 256<=l; omega
 hb:=Tr.HB.new limit
 c0:=Int.le_refl _
 c1:=Int.le_refl _
 pin:=pinv0
 top:=rfl
 mnt:=fun m hm=>by
  simp [tab0] at hm
  subst hm
  exact ⟨(Tr.new_wf limit).root.1,fun _=>rfl,fun h=>(h rfl).elim⟩
theorem GI.bind (g:GI k T M nx l) (h1:k+1<=900) (root:BitVec 16) (p:PlaceD) (hp:0<=p.m/\p.m<=2) (hr:(T.node root).kind=2#8) (ha:(T.node p.i).kind=2#8) (ok:(bindT M nx root p).e=0) :
  GI (k+1) ((T.hold root true).1.hold p.i true).1 (bindT M nx root p).T (bindT M nx root p).nx l:=by
 have s1:T.Stay (T.hold root true).1 := .hold root
 have s2:(T.hold root true).1.Stay ((T.hold root true).1.hold p.i true).1 := .hold p.i
 have w1:=g.wf.hold root true
 have w2:=w1.hold p.i true
 have hk0:=g.k0
 have hc0:=g.c0
 have hc1:=g.c1
 have b1:=g.hb.hold (by omega) root true
 have b2:=b1.hold (by omega) p.i true
 have e1:(T.hold root true).1=T.upd root (Nd.addH 1):=by
  unfold Tr.hold
  rw [if_neg (by rw [hr]; decide),if_pos rfl]
 have n1:∀ m,(T.hold root true).1.node m=if m=root then Nd.addH 1 (T.node root) else T.node m:=fun m=>by
  rw [e1,Tr.node_upd (by rw [hr]; decide)]
 have ha1:((T.hold root true).1.node p.i).kind=2#8:=by
  rw [n1]; split
  ·exact hr
  ·exact ha
 have e2:((T.hold root true).1.hold p.i true).1=(T.hold root true).1.upd p.i (Nd.addH 1):=by
  show (Tr.hold _ _ _).1=_
  rw [Tr.hold,if_neg (by rw [ha1]; decide),if_pos rfl]
 have n2:∀ m,((T.hold root true).1.hold p.i true).1.node m=if m=p.i then Nd.addH 1 ((T.hold root true).1.node p.i) else (T.hold root true).1.node m:=fun m=>by
  rw [e2,Tr.node_upd (by rw [ha1]; decide)]
 have q1:=g.wf.held root
 have q2:=g.wf.held p.i
 have hr2:(((T.hold root true).1.hold p.i true).1.node root).kind=2#8/\1<=(((T.hold root true).1.hold p.i true).1.node root).held:=by
  rw [n2]
  split
  ·rename_i e
   refine ⟨ha1,?_⟩
   show 1<=((T.hold root true).1.node p.i).held+1
   have:=w1.held p.i
   omega
  ·rw [n1,if_pos rfl]
   refine ⟨hr,?_⟩
   show 1<=(T.node root).held+1
   omega
 have ha2:(((T.hold root true).1.hold p.i true).1.node p.i).kind=2#8/\1<=(((T.hold root true).1.hold p.i true).1.node p.i).held:=by
  rw [n2,if_pos rfl]
  refine ⟨ha1,?_⟩
  show 1<=((T.hold root true).1.node p.i).held+1
  have:=w1.held p.i
  omega
 have c1:(T.hold root true).1.change=T.change:=by rw [e1]; rfl
 have c2:((T.hold root true).1.hold p.i true).1.change=T.change:=by rw [e2]; exact c1
 have l1:(T.hold root true).1.limit=T.limit:=by rw [e1]; rfl
 have l2:((T.hold root true).1.hold p.i true).1.limit=T.limit:=by rw [e2]; exact l1
 have kd:=(g.kd.hold keeps_KD root true).hold keeps_KD p.i true
 have o2:=(g.ord.step (.hold root true)).step (.hold p.i true)
 have pin:=g.pin.bind root p
 have base:=g.stay (s1.trans s2) w2 kd o2 ((g.tidy.hold g.wf root true).hold w1 p.i true) (by rw [l2]; exact g.lim) (k':=k+1) (by omega) h1 (b2.mono (by omega)) (by rw [c2]; exact hc0) (by rw [c2]; omega)
 have hT:(bindT M nx root p).T=M++[⟨nx,p,root,0⟩]:=by
  unfold bindT at ok ⊢
  split at ok
  ·simp at ok
  ·rename_i h
   rw [if_neg h]
   split at ok
   ·simp at ok
   ·rename_i h
    rw [if_neg h]
    split at ok
    ·simp at ok
    ·rename_i h
     rw [if_neg h]
 refine { base with pin:=pin,top :=?_,mnt:=fun m hm =>?_ }
 ·rw [hT]; exact getT_append g.top
 ·rw [hT] at hm
  rcases List.mem_append.1 hm with hm | hm
  ·exact base.mnt m hm
  ·simp only [List.mem_singleton] at hm
   subst hm
   have:=g.pin.nx0
   exact ⟨hr2.1,fun h=>by simp only at h; omega,fun _=>⟨hr2.2,ha2.1,ha2.2,hp⟩⟩
end
end Go.AM
end
section
namespace Go.AM
set_option maxRecDepth 20000
structure GActD where
 kind:BitVec 8
 act:ActD
 root:BitVec 8
 seen:BitVec 8
 link:BitVec 8
def GActD.cells (x:GActD):List Value:=u8 x.kind :: (x.act.cells++[u8 x.root,u8 x.seen,u8 x.link])
abbrev gactSh:Sh := .struct [.int .u8,actSh,.int .u8,.int .u8,.int .u8]
theorem SV.gact {H:AH} {cs:List Value} (h:SV H gactSh cs):∃ x:GActD,cs=x.cells/\x.act.ok H:=by
 obtain ⟨c0,e0,rfl,h0,c1,e1,rfl,h1,c2,e2,rfl,h2,c3,e3,rfl,h3,c4,e4,rfl,h4,rfl⟩:=h
 obtain ⟨x0,rfl⟩:=h0.u8
 obtain ⟨x1,rfl,ok⟩:=SV.act h1
 obtain ⟨x2,rfl⟩:=h2.u8
 obtain ⟨x3,rfl⟩:=h3.u8
 obtain ⟨x4,rfl⟩:=h4.u8
 exact ⟨⟨x0,x1,x2,x3,x4⟩,by simp [GActD.cells],ok⟩
theorem ArgSV.gacts {H:AH} {v:Value} (h:ArgSV H (.slice 14 gactSh) v):∃ l:List GActD,Rows H 14 v (l.map GActD.cells)/\l.length<=9223372036854775807/\∀ x∈l,x.act.ok H:=ArgSV.rowsOf (fun _ h=>SV.gact h) h
theorem gactZero:([(.int .u8 0),(.int .u8 0),(.int .u8 0),(.int .u8 0),(.int .u8 0),(.int .u8 0),(.string ⟨#[]⟩),(.int .i64 0),(.slice none 0 0),(.bool false),(.bool false),(.int .u8 0),(.int .u8 0),(.int .u8 0)]:List Value)=(GActD.mk 0#8 (ActD.mk 0#8 0#8 0#8 0#8 0#8 [] 0 nilS [] false false) 0#8 0#8 0#8).cells:=rfl
theorem GActD.len (x:GActD):x.cells.length=14:=rfl
theorem GActD.all_plain (x:GActD) (h:plain1 x.act.bytes=true):x.cells.all plain1=true:=by
 have:=x.act.all_plain h
 simp only [GActD.cells,List.all_cons,List.all_append,this,List.all_nil,Bool.and_true,Bool.true_and]; rfl
theorem gact_store {H:AH} {x:GActD} (hp:plain1 x.act.bytes=true) (z:GActD):storeN 14 (ptr H.next 0) (.agg x.cells.toArray) (H.new (.cells z.cells none))=some (H.new (.cells x.cells none)):=by
 rw [storeN_ptr,AH.get_new_self]
 have hs:AM.splice z.cells 0 x.cells=x.cells:=rfl
 simp only [List.size_toArray,List.toList_toArray,GActD.len,GActD.all_plain x hp,Nat.zero_add,Nat.le_refl,and_self,if_true,hs,AH.new_put]
section
variable {X:List Res} {E:Sy} {H0 H H' H'':AH} {Q:Value->AH->Prop} {w t:Nat} {T T':Tr} {M M':List MntD} {nx nx' k l:Int}
def lightL (l:List GActD):Bool:=l.all fun x=>decide (x.act.any.length<=200)&&decide (x.act.bl.length<=200)
theorem S.f47 (hE:Fold E) (v:Value) (l:List GActD) (hv:Rows H 14 v (l.map GActD.cells)) (hll:l.length<=9223372036854775807) (hok:∀ x∈l,x.act.ok H)
  (hQ:∀ H',Ext H H'->Q (vb (lightL l)) H'):E.call (E.fid i.f47) [v] H Q:=by
 apply hE.f47
 have hl:=hv.lenSlc
 rw [List.length_map] at hl
 simp only [F.f47,hl,tk_eq,opt_some]
 refine LoopL.count l.length (fun j ls H'=>ls=[v,vi l.length,vi j]/\Ext H H'/\lightL (l.take j)=true) ?_ ⟨rfl,Ext.refl H,rfl⟩
 rintro j _ H1 X hj hX ⟨rfl,e1,hn⟩
 by_cases hjl:j<l.length
 ·have hjl':(j:Int)<l.length:=by omega
  have hX:=hX hjl
  have hjj:=i64_inc (i:=j) (by omega)
  obtain ⟨b,o,p1,p2⟩:=(hv.mono e1).ix (i:=j) (by simpa using hjl)
  rw [List.getElem_map] at p2
  have hmem:=List.getElem_mem hjl
  have hx:=(hok l[j] hmem).mono e1
  have htk:l.take (j+1)=l.take j++[l[j]]:=by rw [List.take_succ,List.getElem?_eq_getElem hjl]; rfl
  have hno:¬ (l[j].act.any.length<=200/\l[j].act.bl.length<=200)->lightL l=false:=by
   intro h
   unfold lightL
   rw [List.all_eq_false]
   refine ⟨l[j],hmem,?_⟩
   simpa using h
  have hyes:l[j].act.any.length<=200->l[j].act.bl.length<=200->lightL (l.take (j+1))=true:=by
   intro h1 h2
   unfold lightL at hn ⊢
   rw [htk,List.all_append,hn]
   simp [h1,h2]
  generalize l[j]=x at *
  generalize hj1:j+1=j1 at *
  have hlo:loadN 14 (ptr b o) H1=some (.agg x.cells.toArray):=by rw [loadN_ptr,p2]; rfl
  have hst:=gact_store (H:=H1) (rows_plain hx.bytes) (GActD.mk 0#8 (ActD.mk 0#8 0#8 0#8 0#8 0#8 [] 0 nilS [] false false) 0#8 0#8 0#8)
  have hx2:Ext H1 (H1.new (.cells x.cells none)):=(Ext.refl H1).new _
  have hb2:=AH.get_new_self H1 (.cells x.cells none)
  have c6:x.cells[6]? = some (str x.act.any):=rfl
  have c8:x.cells[8]? = some x.act.bytes:=rfl
  have hbl:=hx.bytes.lenSlc
  rw [byteR_length] at hbl
  by_cases a1:200<x.act.any.length
  ·have a1':(200:Int)<x.act.any.length:=by omega
   have hQ:=hQ _ (e1.trans hx2)
   rw [hno (by omega)] at hQ
   simp only [F.f47_l1,i64_lss,hjl',decide_true,p1,hlo,allocW_eq,gactZero,hst,hb2,c6,lenStr_s,i64_gtr,gt_iff_lt,a1',stdZ]
   exact hQ
  have a1':¬ (200:Int)<x.act.any.length:=by omega
  by_cases a2:200<x.act.bl.length
  ·have a2':(200:Int)<x.act.bl.length:=by omega
   have hQ:=hQ _ (e1.trans hx2)
   rw [hno (by omega)] at hQ
   simp only [F.f47_l1,i64_lss,hjl',decide_true,p1,hlo,allocW_eq,gactZero,hst,hb2,c6,c8,lenStr_s,i64_gtr,gt_iff_lt,a1',a2',decide_false,hbl,stdZ]
   exact hQ
  have a2':¬ (200:Int)<x.act.bl.length:=by omega
  simp only [F.f47_l1,i64_lss,hjl',decide_true,p1,hlo,allocW_eq,gactZero,hst,hb2,c6,c8,lenStr_s,i64_gtr,gt_iff_lt,a1',a2',decide_false,hbl,hjj,stdZ]
  exact hX _ _ ⟨rfl,e1.trans hx2,hyes (by omega) (by omega)⟩
 ·have hjl':¬ (j:Int)<l.length:=by omega
  have:j=l.length:=by omega
  subst this
  rw [List.take_length] at hn
  have hQ:=hQ _ e1
  rw [hn] at hQ
  simp only [F.f47_l1,i64_lss,hjl',decide_false,stdZ]
  exact hQ
def linkTexts:List NameL:=[[97],[47,97],[46,46,47,98],[98,47,99],[47],[46],[46,46],[47,98,47,46,46,47,97],[102],[97,47],[110,111,116,104,105,110,103],[47,97,47,98,47,99]]
theorem S.f50 (hE:Fold E) (hQ:∀ v H',Ext H H'->Rows H' 1 v (strR linkTexts)->Q v H'):E.call (E.fid i.f50) [] H Q:=by
 apply hE.f50
 have hb:=buildS_full 12 1 [str []] [(0,str [97]),(1,str [47,97]),(2,str [46,46,47,98]),(3,str [98,47,99]),(4,str [47]),(5,str [46]),(6,str [46,46]),(7,str [47,98,47,46,46,47,97]),(8,str [102]),(9,str [97,47]),(10,str [110,111,116,104,105,110,103]),(11,str [47,97,47,98,47,99])] (linkTexts.map str) rfl rfl rfl rfl (by
   intro v hv
   obtain ⟨s,_,rfl⟩:=List.mem_map.1 hv
   rfl)
 have hb:buildS 12 1 #[(.string ⟨#[]⟩)] [(0,(.string ⟨#[97]⟩)),(1,(.string ⟨#[47,97]⟩)),(2,(.string ⟨#[46,46,47,98]⟩)),(3,(.string ⟨#[98,47,99]⟩)),(4,(.string ⟨#[47]⟩)),(5,(.string ⟨#[46]⟩)),(6,(.string ⟨#[46,46]⟩)),(7,(.string ⟨#[47,98,47,46,46,47,97]⟩)),(8,(.string ⟨#[102]⟩)),(9,(.string ⟨#[97,47]⟩)),(10,(.string ⟨#[110,111,116,104,105,110,103]⟩)),(11,(.string ⟨#[47,97,47,98,47,99]⟩))]=some (.cells (linkTexts.map str) none,mkSlc 12 12):=by
  simpa [linkTexts] using hb
 simp only [F.f50,hb,AM.mk_some,mkSlc_eq,tk_eq]
 refine hQ _ _ ((Ext.refl H).new _) (Rows.made (f:=none) (by rw [AH.get_new_self]; rfl) (.inl rfl) rfl ?_)
 intro r hr
 obtain ⟨s,_,rfl⟩:=List.mem_map.1 hr
 rfl
def GwO (X:List Res) (H0 H:AH) (w t:Nat) (T:Tr) (M:List MntD) (nx:Int):Prop:=∃ nv mv Y,WkO (refR t nv mv nx (mntI M) Y T :: X) H0 H w T M nx/\Y.length=T.N.length/\T.N.length<=60000
theorem GwO.ext (h:GwO X H0 H w t T M nx):Ext H0 H:=by obtain ⟨_,_,_,h,_⟩:=h; exact h.ext
theorem GwO.mono (h:GwO X H0 H w t T M nx) (e:Ext H H'):GwO X H0 H' w t T M nx:=by obtain ⟨nv,mv,Y,h,a,b⟩:=h; exact ⟨nv,mv,Y,h.mono e,a,b⟩
theorem GwO.at_ (h:GwO X H0 H w t T M nx):WkAt H w T M:=by obtain ⟨nv,mv,Y,h,a,b⟩:=h; exact h.at_
theorem GwO.box (h:GwO X H0 H w t T M nx) (c:List Value):GwO (X++[boxR H.next c]) H0 (H.new (.cells c none)) w t T M nx:=by obtain ⟨nv,mv,Y,h,a,b⟩:=h; exact ⟨nv,mv,Y,h.box c,a,b⟩
theorem GwO.drop {r:Res} (h:GwO (X++[r]) H0 H w t T M nx):GwO X H0 H w t T M nx:=by obtain ⟨nv,mv,Y,h,a,b⟩:=h; exact ⟨nv,mv,Y,WkO.drop (X:=refR t nv mv nx (mntI M) Y T :: X) h,a,b⟩
theorem GwO.held {b:Nat} {c:List Value} (h:GwO (X++[boxR b c]) H0 H w t T M nx):H.get b = .cells c none:=by obtain ⟨nv,mv,Y,h,_⟩:=h; exact WkO.held (X:=refR t nv mv nx (mntI M) Y T :: X) h
theorem GwO.put {b:Nat} {c:List Value} (h:GwO (X++[boxR b c]) H0 H w t T M nx) (c':List Value):GwO (X++[boxR b c']) H0 (H.put b (.cells c' none)) w t T M nx:=by obtain ⟨nv,mv,Y,h,a,b⟩:=h; exact ⟨nv,mv,Y,WkO.put (X:=refR t nv mv nx (mntI M) Y T :: X) h c',a,b⟩
theorem more_j2 (hE:Fold E) {c:Nat} {x:ActD} (h:GwO (X++[boxR c x.cells]) H0 H w t T M nx) (g:GI k T M nx l) (hk:k+1<=900) (hx:x.ok H0) (hl:x.any.length<=200/\x.bl.length<=200) (hraw:x.raw=false) (hup:x.kind % 15#8=11#8->x.flag=true)
  {av nv:Value} {j:Nat} (hj:j<2 ^ 62) {X0:List Value->AH->Prop} (next:∀ T' H',GwO X H0 H' w t T' M nx->GI (k+1) T' M nx l->X0 [ptr w 0,ptr t 0,av,nv,vi ((j+1:Nat):Int)] H') :
  F.f48_j2 E Q X0 (ptr w 0) (ptr t 0) (ptr c 0) av nv (vi j) H:=by
 have hb:=h.held
 have hlo:loadN 10 (ptr c 0) H=some (.agg x.cells.toArray):=by rw [loadN_ptr,hb,row_all _ _ 10 rfl]; rfl
 obtain ⟨rv,mv,Y,h,hyl,hyf⟩:=h
 obtain ⟨p,q,hw,_⟩:=h.open_
 obtain ⟨p',q',v,m,L,h2,back⟩:=h.two hyl hyf
 have hw2:=h2.ow.holds (boxR w [ptr p' 0,ptr q' 0]) (by simp)
 have hw2:H.get w = .cells [ptr p' 0,ptr q' 0] none:=hw2
 have hjj:=i64_inc (i:=j) (by omega)
 have hk0:=g.k0
 have hc0:=g.c0
 have hc1:=g.c1
 generalize hj1:j+1=j1 at *
 simp only [F.f48_j2,hw2,hlo,stdZ]
 refine S.f42 hE h2 g.wf g.hb ⟨by omega,by omega⟩ ⟨by omega,by omega⟩ hx hl hraw hup fun L' nv' Y' T' H' ha hd =>?_
 simp only [hjj,stdZ]
 have ho:=back _ _ _ _ _ _ ha.two
 have hg:GwO (X++[boxR c x.cells]) H0 H' w t T' M nx:=⟨nv',mv,Y',ho,ha.two.len,ha.two.fit⟩
 exact next T' H' hg.drop (g.did hd ha.wf ha.cb ha.hb hk)
end
end Go.AM
end
section
namespace Go.AM
set_option maxRecDepth 20000
section
variable {X:List Res} {E:Sy} {H0 H H' H'':AH} {Q:Value->AH->Prop} {w t:Nat} {T T':Tr} {M M':List MntD} {nx nx' k l:Int}
theorem bindT_not {root:BitVec 16} {p:PlaceD} (h:(bindT M nx root p).e≠0):(bindT M nx root p).T=M/\(bindT M nx root p).nx=nx:=by
 unfold bindT at h ⊢
 split
 ·exact ⟨rfl,rfl⟩
 ·rename_i h1
  rw [if_neg h1] at h
  split
  ·exact ⟨rfl,rfl⟩
  ·rename_i h2
   rw [if_neg h2] at h
   split
   ·exact ⟨rfl,rfl⟩
   ·rename_i h3
    rw [if_neg h3] at h
    exact (h rfl).elim
theorem more_j1 (hE:Fold E) {a c:Nat} {z:GActD} {x:ActD} (h:GwO ((X++[boxR a z.cells])++[boxR c x.cells]) H0 H w t T M nx) (g:GI k T M nx l) (hk:k+1<=900) (hx:x.ok H0) (hl:x.any.length<=200/\x.bl.length<=200) (hraw:x.raw=false) (hup:x.kind % 15#8=11#8->x.flag=true)
  {av nv:Value} {j:Nat} (hj:j<2 ^ 62) {X0:List Value->AH->Prop} (next:∀ T' H',GwO X H0 H' w t T' M nx->GI (k+1) T' M nx l->X0 [ptr w 0,ptr t 0,av,nv,vi ((j+1:Nat):Int)] H') :
  F.f48_j1 E Q X0 (ptr w 0) (ptr t 0) (ptr a 0) (ptr c 0) av nv (vi j) H:=by
 have hb:=h.held
 have ha:=h.drop.held
 have c0:x.cells[0]? = some (u8 x.kind):=rfl
 have z13:z.cells[13]? = some (u8 z.link):=rfl
 have r1:binInt .rem (u8 x.kind) (.int .u8 15)=some (u8 (x.kind % 15#8)):=u8_rem _ 15#8 (by decide)
 have e1:binInt .eql (u8 (x.kind % 15#8)) (.int .u8 3)=some (vb (decide (x.kind % 15#8=3#8))):=u8_eql _ 3#8
 simp only [F.f48_j1,hb,c0,r1,e1,stdZ]
 by_cases h3:x.kind % 15#8=3#8
 ·simp only [h3,decide_true,ha,z13,u8_to_i64,stdZ]
  refine S.f50 hE fun v1 H1 x1 s1 =>?_
  refine ⟨by rw [load1_ptr,load1_ptr,x1.cells ha,ha],?_⟩
  refine S.f50 hE fun v2 H2 x2 s2 =>?_
  refine ⟨by rw [load1_ptr,load1_ptr,x2.cells (x1.cells ha),ha],?_⟩
  have l2:AM.lenSlc v2=some (vi ((12:Nat):Int)):=s2.lenSlc
  have hlen:(strR linkTexts).length=12:=rfl
  have hlt:z.link.toNat % 12<(strR linkTexts).length:=by rw [hlen]; exact Nat.mod_lt _ (by omega)
  obtain ⟨b,o,p1,p2⟩:=(s1.mono x2).ix hlt
  obtain ⟨s,hs,he⟩:=List.mem_map.1 (List.getElem_mem hlt)
  rw [<- he] at p2
  have p3:(H2.get b).cell o=some (str s):=by
   have:=row_at p2 (j:=0) (by omega)
   simpa using this
  have hsl:s.length<=120:=by
   have:∀ s∈linkTexts,s.length<=120:=by decide
   exact this s hs
  have h2:=(h.mono x1).mono x2
  have hst:store1 (ptr c 5) (str s) H2=some (H2.put c (.cells ({ x with any:=s }:ActD).cells none)):=by
   rw [store1_ptr,if_pos (show plain1 (str s)=true from rfl),h2.held]
   have q1:x.cells.length=10:=rfl
   have q2:x.cells.set 5 (str s)=({ x with any:=s }:ActD).cells:=rfl
   simp only [q1,q2,show (5<10)=True from by simp,if_true]
  simp only [l2,i64_rem_nat z.link.toNat 12 (by omega),p1,p3,hst,stdZ]
  exact more_j2 hE (h2.put ({ x with any:=s }:ActD).cells) g hk ⟨by show s.length<=_; omega,hx.n,hx.bytes,hx.bl⟩ ⟨by show s.length<=200; omega,hl.2⟩ hraw hup hj fun T' H' h' g'=>next T' H' h'.drop g'
 ·simp only [h3,decide_false,stdZ]
  exact more_j2 hE h g hk hx hl hraw hup hj fun T' H' h' g'=>next T' H' h'.drop g'
theorem more_l2 (hE:Fold E) {a b:BitVec 16} {c:Nat} (h:GwO (X++[boxR c [vi a.toNat,vi b.toNat]]) H0 H w t T M nx) (wf:T.WF) {B:Int} (hb:T.HB B) (hB:0<=B/\B<1000000)
  {av nv:Value} {j:Nat} (hj:j<2 ^ 62) {X0:List Value->AH->Prop} (next:∀ H',GwO X H0 H' w t ((T.hold a true).1.hold b true).1 M nx->X0 [ptr w 0,ptr t 0,av,nv,vi ((j+1:Nat):Int)] H') :
  LoopL (fun l H X1=>F.f48_l2 E Q X0 (nth l 0) (nth l 1) (nth l 2) (nth l 3) (nth l 4) (nth l 5) (nth l 6) (nth l 7) H X1) [ptr w 0,ptr t 0,av,nv,vi j,slc c 0 2 2,vi 2,(.int .i64 0)] H:=by
 have hjj:=i64_inc (i:=j) (by omega)
 generalize hj1:j+1=j1 at *
 have one:∀ {T:Tr} {H:AH} {B:Int} (n:BitVec 16) (Q1:Value->AH->Prop),GwO (X++[boxR c [vi a.toNat,vi b.toNat]]) H0 H w t T M nx->T.WF->T.HB B->B<1100000->(∀ H',GwO (X++[boxR c [vi a.toNat,vi b.toNat]]) H0 H' w t (T.hold n true).1 M nx->Q1 (.tuple #[]) H') ->
   ∃ p q,H.get w = .cells [ptr p 0,ptr q 0] none/\E.call (E.fid i.f10) [ptr p 0,u16 n,vb true] H fun _ H1=>E.call (E.fid i.f58) [ptr t 0,vi (n.toNat:Int),vb true] H1 fun _ H2=>Q1 (.tuple #[]) H2:=by
  intro T H B n Q1 h wf hb hB hQ1
  obtain ⟨rv,mv,Y,h,hyl,hyf⟩:=h
  obtain ⟨p',q',v,m,L,h2,back⟩:=h.two hyl hyf
  have hw2:=h2.ow.holds (boxR w [ptr p' 0,ptr q' 0]) (by simp)
  have hn:=hb n
  refine ⟨p',q',hw2,?_⟩
  refine TwoX.cHold hE h2 wf n true (by omega) fun L1 H1 h3 =>?_
  refine TwoX.rHold hE h3 wf n true (by omega) fun Y2 H2 h4 =>?_
  exact hQ1 _ ⟨rv,mv,Y2,back _ _ _ _ _ _ h4,h4.len,h4.fit⟩
 have conv:∀ x:BitVec 16,convInt .u16 (vi (x.toNat:Int))=some (u16 x):=fun x=>by
  rw [i64_to_u16]
  congr 2
  rw [BitVec.ofInt_natCast,BitVec.ofNat_toNat,BitVec.setWidth_eq]
 have i0:(.int .i64 0:Value)=vi ((0:Nat):Int):=rfl
 rw [i0]
 refine LoopL.count 2 (fun i ls H'=>ls=[ptr w 0,ptr t 0,av,nv,vi j,slc c 0 2 2,vi 2,vi i]/\((i=0/\GwO (X++[boxR c [vi a.toNat,vi b.toNat]]) H0 H' w t T M nx)\/(i=1/\GwO (X++[boxR c [vi a.toNat,vi b.toNat]]) H0 H' w t (T.hold a true).1 M nx)\/(i=2/\GwO (X++[boxR c [vi a.toNat,vi b.toNat]]) H0 H' w t ((T.hold a true).1.hold b true).1 M nx))) ?_ ⟨rfl,.inl ⟨rfl,h⟩⟩
 rintro i _ H1 X1 hi hX ⟨rfl,(⟨rfl,h1⟩ | ⟨rfl,h1⟩ | ⟨rfl,h1⟩)⟩
 ·have hX:=hX (by omega)
  have p1:ixSlc 1 (slc c 0 2 2) (vi ((0:Nat):Int))=some (ptr c 0):=rfl
  have p2:=h1.held
  obtain ⟨p,q,hw,hc⟩:=one a (fun v H=>X1 [ptr w 0,ptr t 0,av,nv,vi j,slc c 0 2 2,vi 2,vi ((1:Nat):Int)] H) h1 wf hb (by omega) fun H' h'=>hX _ _ ⟨rfl,.inr (.inl ⟨rfl,h'⟩)⟩
  have hlt:(((0:Nat):Int)<2)=True:=by simp
  have inc:binInt .add (vi ((0:Nat):Int)) (vi 1)=some (vi ((1:Nat):Int)):=i64_inc (i:=0) (by omega)
  simp only [F.f48_l2,i64_lss,hlt,decide_true,p1,p2,hw,conv,inc,stdZ]
  exact hc
 ·have hX:=hX (by omega)
  have p1:ixSlc 1 (slc c 0 2 2) (vi ((1:Nat):Int))=some (ptr c 1):=rfl
  have p2:=h1.held
  obtain ⟨p,q,hw,hc⟩:=one b (fun v H=>X1 [ptr w 0,ptr t 0,av,nv,vi j,slc c 0 2 2,vi 2,vi ((2:Nat):Int)] H) h1 (wf.hold a true) (hb.hold hB.1 a true) (by omega) fun H' h'=>hX _ _ ⟨rfl,.inr (.inr ⟨rfl,h'⟩)⟩
  have hlt:(((1:Nat):Int)<2)=True:=by simp
  have inc:binInt .add (vi ((1:Nat):Int)) (vi 1)=some (vi ((2:Nat):Int)):=i64_inc (i:=1) (by omega)
  simp only [F.f48_l2,i64_lss,hlt,decide_true,p1,p2,hw,conv,inc,stdZ]
  exact hc
 ·have hlt:(((2:Nat):Int)<2)=False:=by simp
  simp only [F.f48_l2,i64_lss,hlt,decide_false,hjj,stdZ]
  exact next _ h1.drop
end
end Go.AM
end
section
namespace Go.AM
set_option maxRecDepth 20000
section
variable {X:List Res} {E:Sy} {H0 H H' H'':AH} {Q:Value->AH->Prop} {w t:Nat} {T T':Tr} {M M':List MntD} {nx nx' k l:Int}
theorem dirP_kind {p:PlaceD} (h:dirP T M p=true):(T.node p.i).kind=2#8:=by
 unfold dirP at h
 simp only [Bool.and_eq_true,decide_eq_true_eq] at h
 exact h.2
theorem more_bind (hE:Fold E) {b:Nat} {p:PlaceD} (h:GwO (X++[boxR b p.cells]) H0 H w t T M nx) (g:GI k T M nx l) (hk:k+1<=900) (root:BitVec 16) (hp:0<=p.m/\p.m<=2) (hr:(T.node root).kind=2#8) (ha:(T.node p.i).kind=2#8)
  {av nv:Value} {j:Nat} (hj:j<2 ^ 62) {X0:List Value->AH->Prop} (next:∀ T' M' nx' H',GwO X H0 H' w t T' M' nx'->GI (k+1) T' M' nx' l->X0 [ptr w 0,ptr t 0,av,nv,vi ((j+1:Nat):Int)] H') :
  opt (nilCk (ptr w 0)) fun v42=>opt (addOff v42 1) fun v43=>opt (load1 v43 H) fun v44=>opt (convInt .u16 (vi (root.toNat:Int))) fun v45=>opt (loadN 2 (ptr b 0) H) fun v46 =>
  E.call (E.fid i.f34) [v44,v45,v46] H fun v47 H13 =>
  opt (ext v47 0) fun v48=>opt (ext v47 1) fun v49=>opt (binInt .eql v49 (.int .i64 0)) fun v50 =>
  ifB v50 (
  opt (loadN 2 (ptr b 0) H13) fun v51 =>
  E.call (E.fid i.f44) [v51] H13 fun v52 H14 =>
  E.call (E.fid i.f55) [(ptr t 0),(vi (root.toNat:Int)),v52] H14 fun v53 H15 =>
  opt (addOff (ptr b 0) 1) fun v54=>opt (load1 v54 H15) fun v55=>opt (convInt .i64 v55) fun v56 =>
  mk (buildS 2 1 #[(.int .i64 0)] [(0,(vi (root.toNat:Int))),(1,v56)]) H15 fun v57 H16 =>
  opt (lenSlc v57) fun v58 =>
  LoopL (fun l H X1=>F.f48_l2 E Q X0 (nth l 0) (nth l 1) (nth l 2) (nth l 3) (nth l 4) (nth l 5) (nth l 6) (nth l 7) H X1) [(ptr w 0),(ptr t 0),av,nv,(vi j),v57,v58,(.int .i64 0)] H16) (
  opt (binInt .add (vi j) (.int .i64 1)) fun v59 =>
  X0 [(ptr w 0),(ptr t 0),av,nv,v59] H13):=by
 have hb:=h.held
 have hlo:∀ {H':AH},H'.get b = .cells p.cells none->loadN 2 (ptr b 0) H'=some p.v:=fun hh=>by rw [loadN_ptr,hh]; rfl
 have conv:convInt .u16 (vi (root.toNat:Int))=some (u16 root):=by
  rw [i64_to_u16]
  congr 2
  rw [BitVec.ofInt_natCast,BitVec.ofNat_toNat,BitVec.setWidth_eq]
 have hjj:=i64_inc (i:=j) (by omega)
 have hk0:=g.k0
 generalize hj1:j+1=j1 at *
 obtain ⟨rv,mv,Y,h,hyl,hyf⟩:=h
 obtain ⟨pp,q,hw,_,⟨v,ht,hnd,back⟩⟩:=h.open_
 simp only [hw,conv,hlo hb,stdZ]
 have ok':=(g.pin.bind root p).ok (by omega)
 refine S.f34 hE q v M nx ht hnd h.tab root p fun v' H1 u1 =>?_
 have h1:=back _ _ _ _ u1 ok'
 obtain ⟨g1,g2,g3,g4⟩:=bind_toI g.pin root p
 have hb1:=WkO.held (X:=refR t rv mv nx (mntI M) Y T :: X) h1
 by_cases he:(bindT M nx root p).e=0
 ·have gb:=g.bind hk root p hp hr ha he
  simp only [he,i64_eql,decide_true,hlo hb1,stdZ]
  refine S.f44 hE p fun H2 e2 =>?_
  have h2:=h1.mono e2
  obtain ⟨o2,back2⟩:=WkO.openX (k:=0) h2 (r:=refR t rv mv nx (mntI M) Y T) rfl
  have hnx:=g.pin.nx0
  have hnx1:=g.pin.nx1
  have hlen:=g.pin.len
  refine S.pinfoldref16_Tree_BindT hE (M:=M.map MntD.toI) o2 (by rw [List.length_map]; omega) (by omega) _ _ fun mv' H3 u3 =>?_
  rw [g1,g2] at u3
  have h3:=back2 _ _ u3
  have h3:WkO ((refR t rv mv' (bindT M nx root p).nx (mntI (bindT M nx root p).T) Y T :: X)++[boxR b p.cells]) H0 H3 w T (bindT M nx root p).T (bindT M nx root p).nx:=h3
  have hb3:=h3.held
  have c1:p.cells[1]? = some (u16 p.i):=rfl
  have hbs:buildS 2 1 #[(.int .i64 0)] [(0,vi (root.toNat:Int)),(1,vi (p.i.toNat:Int))]=some (.cells [vi (root.toNat:Int),vi (p.i.toNat:Int)] none,mkSlc 2 2):=buildS_full 2 1 [vi 0] [(0,vi (root.toNat:Int)),(1,vi (p.i.toNat:Int))] [vi (root.toNat:Int),vi (p.i.toNat:Int)] rfl rfl rfl rfl (by
   intro v hv
   simp only [List.mem_cons,List.not_mem_nil,or_false] at hv
   rcases hv with rfl | rfl <;> rfl)
  have l2:AM.lenSlc (slc H3.next 0 2 2)=some (vi 2):=rfl
  simp only [hb3,c1,u16_to_i64,hbs,l2,stdZ]
  have h4:GwO (X++[boxR H3.next [vi (root.toNat:Int),vi (p.i.toNat:Int)]]) H0 (H3.new (.cells [vi (root.toNat:Int),vi (p.i.toNat:Int)] none)) w t T (bindT M nx root p).T (bindT M nx root p).nx:=⟨rv,mv',Y,WkO.box (X:=refR t rv mv' (bindT M nx root p).nx (mntI (bindT M nx root p).T) Y T :: X) (WkO.drop (X:=refR t rv mv' (bindT M nx root p).nx (mntI (bindT M nx root p).T) Y T :: X) h3) _,hyl,hyf⟩
  refine more_l2 hE h4 g.wf g.hb ⟨by omega,by have:=g.k1; omega⟩ hj fun H5 h5 =>?_
  rw [hj1]
  exact next _ _ _ _ h5 gb
 ·obtain ⟨t1,t2⟩:=bindT_not he
  rw [t1,t2] at h1
  simp only [he,i64_eql,decide_false,hjj,stdZ]
  exact next T M nx _ ⟨rv,mv,Y,WkO.drop (X:=refR t rv mv nx (mntI M) Y T :: X) h1,hyl,hyf⟩ (g.mono (by omega) hk)
end
end Go.AM
end
section
namespace Go.AM
section
variable {E:Sy} {X:List Res} {H H' H0 Z:AH} {Q:Value->AH->Prop} {t w:Nat} {T T':Tr} {M M':List MntD} {nx nx':Int} {L:List Res} {s:Nat}
theorem two_store {H:AH} {z c:List Value} (hz:z.length=2) (hc:c.length=2) (hp:c.all plain1=true):storeN 2 (ptr H.next 0) (.agg c.toArray) (H.new (.cells z none))=some (H.new (.cells c none)):=by
 rw [storeN_ptr,AH.get_new_self]
 have:AM.splice z 0 c=c:=by simp [splice,hz,hc]
 simp only [List.size_toArray,List.toList_toArray,hc,hz,hp,Nat.zero_add,Nat.le_refl,and_self,if_true,this,AH.new_put]
end
end Go.AM
end
section
namespace Go.AM
set_option maxRecDepth 20000
section
variable {X:List Res} {E:Sy} {H0 H H' H'':AH} {Q:Value->AH->Prop} {w t:Nat} {T T':Tr} {M M':List MntD} {nx nx' k l:Int}
theorem more_act (hE:Fold E) {a:Nat} {z:GActD} (h:GwO (X++[boxR a z.cells]) H0 H w t T M nx) (g:GI k T M nx l) (hk:k+1<=900) (hx:z.act.ok H0) (hl:z.act.any.length<=200/\z.act.bl.length<=200)
  {av nv:Value} {j:Nat} (hj:j<2 ^ 62) {X0:List Value->AH->Prop} (next:∀ T' H',GwO X H0 H' w t T' M nx->GI (k+1) T' M nx l->X0 [ptr w 0,ptr t 0,av,nv,vi ((j+1:Nat):Int)] H') :
  opt (addOff (ptr a 0) 1) fun v10=>opt (loadN 10 v10 H) fun v11 =>
  allocW [(.int .u8 0),(.int .u8 0),(.int .u8 0),(.int .u8 0),(.int .u8 0),(.string ⟨#[]⟩),(.int .i64 0),(.slice none 0 0),(.bool false),(.bool false)] H fun v12 H3 =>
  opt (storeN 10 v12 v11 H3) fun H4=>opt (addOff v12 9) fun v13=>opt (store1 v13 (.bool false) H4) fun H5 =>
  opt (addOff v12 0) fun v14=>opt (load1 v14 H5) fun v15=>opt (binInt .rem v15 (.int .u8 15)) fun v16=>opt (binInt .eql v16 (.int .u8 11)) fun v17 =>
  ifB v17 (
  opt (addOff v12 8) fun v18=>opt (store1 v18 (.bool true) H5) fun H6 =>
  F.f48_j1 E Q X0 (ptr w 0) (ptr t 0) (ptr a 0) v12 av nv (vi j) H6) (
  F.f48_j1 E Q X0 (ptr w 0) (ptr t 0) (ptr a 0) v12 av nv (vi j) H5):=by
 have ha:=h.held
 have hlo:loadN 10 (ptr a 1) H=some (.agg z.act.cells.toArray):=by
  have hr:AObj.row (.cells z.cells none) 1 10=some z.act.cells:=by
   have h0:=row_all z.cells none 14 rfl
   exact row_part h0 (j:=1) (m:=10) (by omega)
  rw [loadN_ptr,ha,hr]; rfl
 have hst:=act_store (H:=H) (rows_plain hx.bytes) (ActD.mk 0#8 0#8 0#8 0#8 0#8 [] 0 nilS [] false false)
 have hs1:store1 (ptr H.next 9) (.bool false) (H.new (.cells z.act.cells none))=some (H.new (.cells ({ z.act with raw:=false }:ActD).cells none)):=by
  rw [store1_ptr,if_pos (show plain1 (.bool false)=true from rfl),AH.get_new_self]
  have h1:z.act.cells.length=10:=rfl
  have h2:z.act.cells.set 9 (.bool false)=({ z.act with raw:=false }:ActD).cells:=rfl
  simp only [h1,h2,show (9<10)=True from by simp,if_true,AH.new_put]
 have h5:=h.box ({ z.act with raw:=false }:ActD).cells
 have hb5:=h5.held
 have c0:({ z.act with raw:=false }:ActD).cells[0]? = some (u8 z.act.kind):=rfl
 have r1:binInt .rem (u8 z.act.kind) (.int .u8 15)=some (u8 (z.act.kind % 15#8)):=u8_rem _ 15#8 (by decide)
 have e1:binInt .eql (u8 (z.act.kind % 15#8)) (.int .u8 11)=some (vb (decide (z.act.kind % 15#8=11#8))):=u8_eql _ 11#8
 simp only [hlo,allocW_eq,actZero,hst,hs1,hb5,c0,r1,e1,stdZ]
 by_cases h11:z.act.kind % 15#8=11#8
 ·have hs2:store1 (ptr H.next 8) (.bool true) (H.new (.cells ({ z.act with raw:=false }:ActD).cells none))=some ((H.new (.cells ({ z.act with raw:=false }:ActD).cells none)).put H.next (.cells ({ z.act with raw:=false,flag:=true }:ActD).cells none)):=by
   rw [store1_ptr,if_pos (show plain1 (.bool true)=true from rfl),AH.get_new_self]
   have h1:({ z.act with raw:=false }:ActD).cells.length=10:=rfl
   have h2:({ z.act with raw:=false }:ActD).cells.set 8 (.bool true)=({ z.act with raw:=false,flag:=true }:ActD).cells:=rfl
   simp only [h1,h2,show (8<10)=True from by simp,if_true]
  have h6:=h5.put ({ z.act with raw:=false,flag:=true }:ActD).cells
  simp only [h11,decide_true,hs2,stdZ]
  exact more_j1 hE (x:={ z.act with raw:=false,flag:=true }) h6 g hk ⟨hx.any,hx.n,hx.bytes,hx.bl⟩ hl rfl (fun _=>rfl) hj next
 ·simp only [h11,decide_false,stdZ]
  exact more_j1 hE (x:={ z.act with raw:=false }) h5 g hk ⟨hx.any,hx.n,hx.bytes,hx.bl⟩ hl rfl (fun h=>(h11 h).elim) hj next
def GActD.rootN (z:GActD):BitVec 16:=BitVec.ofNat 16 (1+z.root.toNat % 8)
def GActD.atP (z:GActD):PlaceD:=⟨((z.link % 3#8).toNat:Int),(1#8+z.seen % 8#8).setWidth 16⟩
theorem S.f48 (hE:Fold E) (h:GwO X H0 H w t T M nx) (g:GI k T M nx l) (hk:k+60<=900) (av:Value) (acts:List GActD) (hv:Rows H0 14 av (acts.map GActD.cells)) (hll:acts.length<=9223372036854775807) (hok:∀ x∈acts,x.act.ok H0) (hlt:lightL acts=true)
  (hQ:∀ T' M' nx' H',GwO X H0 H' w t T' M' nx'->GI (k+60) T' M' nx' l->Q (.tuple #[]) H'):E.call (E.fid i.f48) [ptr w 0,ptr t 0,av] H Q:=by
 apply hE.f48
 have hl:=hv.mono h.ext
 have hl:=hl.lenSlc
 rw [List.length_map] at hl
 simp only [F.f48,hl,stdZ]
 have i0:(.int .i64 0:Value)=vi ((0:Nat):Int):=rfl
 rw [i0]
 refine LoopL.count acts.length (fun j ls H'=>j<=60/\∃ T' M' nx',ls=[ptr w 0,ptr t 0,av,vi acts.length,vi j]/\GwO X H0 H' w t T' M' nx'/\GI (k+j) T' M' nx' l) ?_ ⟨by omega,T,M,nx,rfl,h,by simpa using g⟩
 rintro j _ H1 X1 hj hX ⟨hj60,T,M,nx,rfl,h,g⟩
 by_cases hjl:j<acts.length
 rotate_left
 ·have hjl':¬ (j:Int)<acts.length:=by omega
  simp only [F.f48_l1,i64_lss,hjl',decide_false,stdZ]
  exact hQ _ _ _ _ h (g.mono (by omega) hk)
 have hjl':(j:Int)<acts.length:=by omega
 have hX:=hX hjl
 obtain ⟨b,o,p1,p2⟩:=(hv.mono h.ext).ix (i:=j) (by simpa using hjl)
 rw [List.getElem_map] at p2
 have hx:=hok acts[j] (List.getElem_mem hjl)
 have hxl:acts[j].act.any.length<=200/\acts[j].act.bl.length<=200:=by
  unfold lightL at hlt
  have:=List.all_eq_true.1 hlt _ (List.getElem_mem hjl)
  simpa using this
 generalize acts[j]=z at *
 have hlo:loadN 14 (ptr b o) H1=some (.agg z.cells.toArray):=by rw [loadN_ptr,p2]; rfl
 have hst:=gact_store (H:=H1) (rows_plain hx.bytes) (GActD.mk 0#8 (ActD.mk 0#8 0#8 0#8 0#8 0#8 [] 0 nilS [] false false) 0#8 0#8 0#8)
 have h2:=h.box z.cells
 have hb2:=h2.held
 by_cases h60:j<60
 rotate_left
 ·have h60':(60:Int)<=j:=by omega
  simp only [F.f48_l1,i64_lss,i64_geq,hjl',h60',ge_iff_le,decide_true,p1,hlo,allocW_eq,gactZero,hst,stdZ]
  exact hQ _ _ _ _ h2.drop (g.mono (by omega) hk)
 have h60':¬ (60:Int)<=j:=by omega
 have next:∀ T' M' nx' H',GwO X H0 H' w t T' M' nx'->GI (k+j+1) T' M' nx' l->X1 [ptr w 0,ptr t 0,av,vi acts.length,vi ((j+1:Nat):Int)] H':=fun T' M' nx' H' h' g' =>
  hX _ _ ⟨by omega,T',M',nx',rfl,h',g'.mono (by omega) (by omega)⟩
 have c0:z.cells[0]? = some (u8 z.kind):=rfl
 have r1:binInt .rem (u8 z.kind) (.int .u8 12)=some (u8 (z.kind % 12#8)):=u8_rem _ 12#8 (by decide)
 have e1:binInt .lss (u8 (z.kind % 12#8)) (.int .u8 10)=some (vb (decide (z.kind % 12#8<10#8))):=u8_lss _ 10#8
 by_cases h10:z.kind % 12#8<10#8
 ·have ha:=more_act (Q:=Q) hE h2 g (by omega) hx hxl (av:=av) (nv:=vi acts.length) (j:=j) (by omega) (X0:=X1) fun T' H' h' g'=>next T' M nx H' h' g'
  simp only [F.f48_l1,i64_lss,i64_geq,hjl',h60',ge_iff_le,decide_true,decide_false,p1,hlo,allocW_eq,gactZero,hst,hb2,c0,r1,e1,h10,stdZ] at ha ⊢
  exact ha
 generalize H1.new (.cells z.cells none)=H2 at *
 have c11:z.cells[11]? = some (u8 z.root):=rfl
 have c12:z.cells[12]? = some (u8 z.seen):=rfl
 have c13:z.cells[13]? = some (u8 z.link):=rfl
 have hr8:(z.rootN.toNat:Int)=((1+z.root.toNat % 8:Nat):Int):=by
  unfold GActD.rootN
  rw [BitVec.toNat_ofNat,Nat.mod_eq_of_lt (by omega)]
 have a1:binInt .add (.int .i64 1) (vi ((z.root.toNat % 8:Nat):Int))=some (vi (z.rootN.toNat:Int)):=by
  rw [hr8]
  have:=i64_add (a:=1) (b:=((z.root.toNat % 8:Nat):Int)) (by omega) (by omega)
  rw [show ((1+z.root.toNat % 8:Nat):Int)=1+((z.root.toNat % 8:Nat):Int) by omega]
  exact this
 have r8:binInt .rem (vi (z.root.toNat:Int)) (.int .i64 8)=some (vi ((z.root.toNat % 8:Nat):Int)):=i64_rem_nat z.root.toNat 8 (by omega)
 have r3:binInt .rem (u8 z.link) (.int .u8 3)=some (u8 (z.link % 3#8)):=u8_rem _ 3#8 (by decide)
 have r8':binInt .rem (u8 z.seen) (.int .u8 8)=some (u8 (z.seen % 8#8)):=u8_rem _ 8#8 (by decide)
 have a2:binInt .add (.int .u8 1) (u8 (z.seen % 8#8))=some (u8 (1#8+z.seen % 8#8)):=u8_add 1#8 _
 have hbv:buildV [(0,1),(1,1)] PlaceD.zero.cells.toArray [(0,vi ((z.link % 3#8).toNat:Int)),(1,u16 ((1#8+z.seen % 8#8).setWidth 16))]=some z.atP.v:=rfl
 have hz2:([(.int .i64 0),(.int .u16 0)]:List Value)=PlaceD.zero.cells:=rfl
 have hbv2:∀ n:BitVec 16,buildV [(0,1),(1,1)] PlaceD.zero.cells.toArray [(1,u16 n)]=some (PlaceD.v ⟨0,n⟩):=fun n=>rfl
 have conv:convInt .u16 (vi (z.rootN.toNat:Int))=some (u16 z.rootN):=by
  rw [i64_to_u16]
  congr 2
  rw [BitVec.ofInt_natCast,BitVec.ofNat_toNat,BitVec.setWidth_eq]
 have hst2:storeN 2 (ptr H2.next 0) z.atP.v (H2.new (.cells PlaceD.zero.cells none))=some (H2.new (.cells z.atP.cells none)):=two_store rfl rfl rfl
 have h3:=h2.drop.box z.atP.cells
 have hpm:0<=z.atP.m/\z.atP.m<=2:=by
  have:(z.link % 3#8).toNat=z.link.toNat % 3:=by simp
  unfold GActD.atP
  simp only
  omega
 generalize z.rootN=root at *
 generalize hp:z.atP=p at *
 have hjj:=i64_inc (i:=j) (by omega)
 simp only [F.f48_l1,i64_lss,i64_geq,hjl',h60',ge_iff_le,decide_true,decide_false,p1,hlo,allocW_eq,gactZero,hst,hb2,c0,r1,e1,h10,c11,c12,c13,u8_to_i64,r8,a1,r3,r8',a2,u8_to_u16,hz2,hbv,hst2,conv,stdZ]
 simp only [hz2,hst2,conv,hbv2,stdZ]
 have hlo3:∀ {H':AH},H'.get H2.next = .cells p.cells none->loadN 2 (ptr H2.next 0) H'=some p.v:=fun hh=>by rw [loadN_ptr,hh]; rfl
 generalize H2.new (.cells p.cells none)=H3 at *
 generalize H2.next=b3 at *
 refine S.f107 hE h3.at_ ⟨0,root⟩ fun H4 e4 =>?_
 have h4:=h3.mono e4
 cases hd:dirP T M ⟨0,root⟩ with
 | false =>
  simp only [hjj,stdZ]
  exact next T M nx _ h4.drop (g.mono (by omega) (by omega))
 | true =>
  simp only [hlo3 h4.held,stdZ]
  refine S.f107 hE h4.at_ p fun H5 e5 =>?_
  have h5:=h4.mono e5
  cases hd2:dirP T M p with
  | false =>
   simp only [hjj,stdZ]
   exact next T M nx _ h5.drop (g.mono (by omega) (by omega))
  | true =>
   have hf:=more_bind (Q:=Q) hE h5 g (by omega) root hpm (dirP_kind hd) (dirP_kind hd2) (av:=av) (nv:=vi acts.length) (j:=j) (by omega) (X0:=X1) fun T' M' nx' H' h' g'=>next T' M' nx' H' h' g'
   simp only [stdZ] at hf ⊢
   exact hf
theorem grow_new (hE:Fold E) (l:Int) {Q:Value->Value->AH->Prop} (hQ:∀ w t H',GwO [] H H' w t (Tr.new l) tab0 1->Q (ptr w 0) (ptr t 0) H') :
  E.call (E.fid i.f105) [vi l] H fun v1 H1=>E.call (E.fid i.f53) [vi l] H1 fun v2 H2=>Q v1 v2 H2:=by
 refine S.f105 hE l fun w H1 h1 =>?_
 refine S.f53 hE l fun t nv mv Y H2 e2 h2 f2 =>?_
 refine hQ w t H2 ⟨nv,mv,Y,?_,h2.len,h2.fit⟩
 obtain ⟨p,m,L,q,v,e,o,own,cov,tab⟩:=h1
 have o2:=o.ext e2
 have hm:mntI tab0=mntTop:=rfl
 rw [hm]
 have perm:(refR t nv mv 1 mntTop Y (Tr.new l) :: wkRs p m L (Tr.new l) q v tab0 1 w []).Perm (wkRs p m L (Tr.new l) q v tab0 1 w (refR t nv mv 1 mntTop Y (Tr.new l) :: [])):=by
  show List.Perm (_ :: ([_,_,_]++[])) ([_,_,_]++_ :: [])
  exact List.perm_middle.symm
 have ho:Ow (joinR (refR t nv mv 1 mntTop Y (Tr.new l) :: wkRs p m L (Tr.new l) q v tab0 1 w [])) H2:=by
  refine ⟨fun r hr =>?_,fun b hb =>?_,?_⟩
  ·rcases List.mem_cons.1 hr with rfl | hr
   ·exact h2.ow.holds
   ·exact o2.holds r hr
  ·have hb:b∈(refR t nv mv 1 mntTop Y (Tr.new l)).fp++(wkRs p m L (Tr.new l) q v tab0 1 w []).flatMap Res.fp:=hb
   rcases List.mem_append.1 hb with hb | hb
   ·exact h2.ow.lt b hb
   ·exact (o2.fp b hb).2
  ·show ((refR t nv mv 1 mntTop Y (Tr.new l)).fp++(wkRs p m L (Tr.new l) q v tab0 1 w []).flatMap Res.fp).Nodup
   rw [List.nodup_append]
   refine ⟨h2.ow.nd,o2.nd,fun a ha b hb =>?_⟩
   have h3:=f2 a ha
   have h4:=o.lt b hb
   omega
 refine ⟨p,m,L,q,v,e.trans e2,ho.perm perm,fun b hb =>?_,cov,tab⟩
 have hb:=((perm.flatMap_right Res.fp).mem_iff).2 hb
 rw [List.flatMap_cons,List.mem_append] at hb
 rcases hb with hb | hb
 ·exact Nat.le_trans e.1 (f2 b hb)
 ·exact own b hb
theorem S.f46 (hE:Fold E) (av:Value) (acts:List GActD) (hv:Rows H 14 av (acts.map GActD.cells)) (hll:acts.length<=9223372036854775807) (hok:∀ x∈acts,x.act.ok H) (hlt:lightL acts=true)
  (hQ:∀ w t T' M' nx' H',GwO [] H H' w t T' M' nx'->GI 60 T' M' nx' 60->Q (.tuple #[ptr w 0,ptr t 0]) H'):E.call (E.fid i.f46) [av] H Q:=by
 apply hE.f46
 simp only [F.f46,stdZ]
 refine grow_new (Q:=fun v1 v2 H2=>E.call (E.fid i.f48) [v1,v2,av] H2 fun v3 H3=>Q (.tuple #[v1,v2]) H3) hE 60 fun w t H1 h1 =>?_
 refine S.f48 hE h1 (GI.new 60 60 ⟨by omega,by omega⟩) (by omega) av acts hv hll hok hlt fun T' M' nx' H' h' g' =>?_
 exact hQ w t T' M' nx' H' h' g'
end
end Go.AM
end
section
namespace Go.AM
section
variable {T:Tr} {M:List MntD} {nx k l:Int}
open Classical in
noncomputable def potN (T:Tr) (r:BitVec 16->Nat) (B:Nat) (n:BitVec 16):Nat:=if T.dead n then 100+(B - r n) else if (T.node n).kind=2#8 then T.deepF 17 n+1 else 0
theorem potN_lt (T:Tr) (r:BitVec 16->Nat) (B:Nat) (n:BitVec 16):potN T r B n<B+200:=by
 unfold potN
 have:=Tr.deepF_le' T 17 n
 split
 ·omega
 ·split <;> omega
theorem potN_par (w:T.WF) (o:T.Order) {r:BitVec 16->Nat} {B:Nat} (hr:∀ n,r n<B) (ho:∀ n,T.dead n->T.dead (T.node n).parent->r n<r (T.node n).parent) {n:BitVec 16} (hk:(T.node n).kind≠0#8)
  (hq:(T.node (T.node n).parent).kind≠0#8) (hne:(T.node n).parent≠n):potN T r B (T.node n).parent<potN T r B n:=by
 by_cases h2:(T.node n).kind=2#8
 rotate_left
 ·rw [o.par n h2,w.n0] at hq
  exact (hq rfl).elim
 by_cases hd:T.dead n
 ·have hn:potN T r B n=100+(B - r n):=by unfold potN; rw [if_pos hd]
  by_cases hd2:T.dead (T.node n).parent
  ·have hn2:potN T r B (T.node n).parent=100+(B - r (T.node n).parent):=by unfold potN; rw [if_pos hd2]
   have:=ho n hd hd2
   have:=hr n
   have:=hr (T.node n).parent
   omega
  ·have:=Tr.deepF_le' T 17 (T.node n).parent
   have hn2:potN T r B (T.node n).parent<=18:=by
    unfold potN
    rw [if_neg hd2]
    split <;> omega
   omega
 ·have hl:(T.node n).links≠0:=fun e=>hd ⟨h2,e⟩
  have h1:n≠1#16:=by
   rintro rfl
   exact hne w.root.2.1
  obtain ⟨a,b⟩:=(w.above ⟨h2,hl⟩ h1).1
  have hrt:=w.depth n h2 hl
  have hrt:n=1#16\/((T.node n).kind=2#8/\T.rootIn 15 (T.node n).parent):=hrt
  have hrt:=(hrt.resolve_left h1).2
  have e1:T.deepF 17 n=T.deepF 16 (T.node n).parent+1:=by
   show (if n=1#16 then 0 else T.deepF 16 (T.node n).parent+1)=_
   rw [if_neg h1]
  have e2:=Tr.deepF_root hrt (g:=16) (by omega)
  have e3:=Tr.deepF_root hrt (g:=17) (by omega)
  have hd2:¬ T.dead (T.node n).parent:=fun h=>b h.2
  have hn:potN T r B n=T.deepF 17 n+1:=by unfold potN; rw [if_neg hd,if_pos h2]
  have hn2:potN T r B (T.node n).parent=T.deepF 17 (T.node n).parent+1:=by unfold potN; rw [if_neg hd2,if_pos a]
  omega
theorem nextA_lt (g:GI k T M nx l) {r:BitVec 16->Nat} {B:Nat} (hr:∀ n,r n<B) (ho:∀ n,T.dead n->T.dead (T.node n).parent->r n<r (T.node n).parent) {p q:PlaceD} (hk:(T.node p.i).kind≠0#8) (h:nextA T M p=some q) :
  q.m.toNat*(B+200)+potN T r B q.i<p.m.toNat*(B+200)+potN T r B p.i/\(T.node q.i).kind≠0#8/\(q.m=p.m\/0<=q.m/\q.m<=2):=by
 unfold nextA at h
 cases hd:downT M p with
 | some q' =>
  rw [hd] at h
  simp only [Option.some.injEq] at h
  subst h
  obtain ⟨m,h1,h2,h3,h4⟩:=downT_some hd
  obtain ⟨h5,h6⟩:=getT_some h1
  obtain ⟨_,a2,a3,a4,a5⟩:=(g.mnt m h5).2.2 h2
  have hold:=g.pin.older m h5 h2
  have hids:=g.pin.ids m h5
  subst h4
  refine ⟨?_,by rw [a2]; decide,.inr ⟨a4,a5⟩⟩
  have hlt:=potN_lt T r B m.at_.i
  have hm:m.at_.m.toNat+1<=p.m.toNat:=by omega
  have:=Nat.mul_le_mul_right (B+200) hm
  rw [Nat.add_mul] at this
  omega
 | none =>
  rw [hd] at h
  simp only at h
  split at h
  ·simp at h
  ·rename_i hn
   simp only [not_or] at hn
   simp only [Option.some.injEq] at h
   subst h
   refine ⟨?_,hn.2,.inl rfl⟩
   have:=potN_par g.wf g.ord hr ho hk hn.2 (fun e=>hn.1 (by rw [e]))
   show p.m.toNat*(B+200)+potN T r B (T.node p.i).parent<_
   omega
theorem aboveN_all (g:GI k T M nx l) {r:BitVec 16->Nat} {B:Nat} (hr:∀ n,r n<B) (ho:∀ n,T.dead n->T.dead (T.node n).parent->r n<r (T.node n).parent):∀ (f:Nat) (p:PlaceD),(T.node p.i).kind≠0#8 ->
  (∀ q∈aboveN T M f p,q.m.toNat*(B+200)+potN T r B q.i<=p.m.toNat*(B+200)+potN T r B p.i/\(T.node q.i).kind≠0#8/\(q.m=p.m\/0<=q.m/\q.m<=2))/\(aboveN T M f p).Nodup
 | 0,p,hk=>⟨by simp [aboveN],List.nodup_nil⟩
 | f+1,p,hk=>by
  cases hn:nextA T M p with
  | none =>
   simp only [aboveN,hn]
   refine ⟨fun q hq =>?_,by simp⟩
   simp only [List.mem_singleton] at hq
   subst hq
   exact ⟨Nat.le_refl _,hk,.inl rfl⟩
  | some q =>
   obtain ⟨h1,h2,h3⟩:=nextA_lt g hr ho hk hn
   obtain ⟨i1,i2⟩:=aboveN_all g hr ho f q h2
   simp only [aboveN,hn]
   refine ⟨fun x hx =>?_,List.nodup_cons.2 ⟨fun hx =>?_,i2⟩⟩
   ·rcases List.mem_cons.1 hx with rfl | hx
    ·exact ⟨Nat.le_refl _,hk,.inl rfl⟩
    ·obtain ⟨a,b,c⟩:=i1 x hx
     refine ⟨by omega,b,?_⟩
     rcases c with c | c
     ·rw [c]; exact h3
     ·exact .inr c
   ·have:=(i1 p hx).1
    omega
theorem node_lt {n:BitVec 16} (h:(T.node n).kind≠0#8):n.toNat<T.N.length:=by
 refine Classical.byContradiction fun hc=>h ?_
 unfold Tr.node
 rw [List.getD_eq_getElem?_getD,List.getElem?_eq_none (by omega)]
 rfl
theorem above_short (g:GI k T M nx l) (hl:l<=60) (f:Nat) (p:PlaceD) (hk:(T.node p.i).kind≠0#8):(aboveN T M f p).length<=244:=by
 obtain ⟨r,B,hr,ho⟩:=g.ord.rank
 obtain ⟨h1,h2⟩:=aboveN_all g hr ho f p hk
 have hlen:=g.wf.len.2
 have hlim:=g.lim
 have:=nodup_le (aboveN T M f p) ((List.range 61).flatMap fun n=>[⟨p.m,BitVec.ofNat 16 n⟩,⟨0,BitVec.ofNat 16 n⟩,⟨1,BitVec.ofNat 16 n⟩,⟨2,BitVec.ofNat 16 n⟩]) h2 fun q hq=>by
  obtain ⟨_,b,c⟩:=h1 q hq
  have hlt:=node_lt b
  refine List.mem_flatMap.2 ⟨q.i.toNat,List.mem_range.2 (by omega),?_⟩
  obtain ⟨m,i⟩:=q
  simp only [BitVec.ofNat_toNat,BitVec.setWidth_eq] at c ⊢
  rcases c with rfl | ⟨c1,c2⟩
  ·simp
  ·have:m=0\/m=1\/m=2:=by omega
   rcases this with rfl | rfl | rfl <;> simp
 have e:((List.range 61).flatMap fun n=>([⟨p.m,BitVec.ofNat 16 n⟩,⟨0,BitVec.ofNat 16 n⟩,⟨1,BitVec.ofNat 16 n⟩,⟨2,BitVec.ofNat 16 n⟩]:List PlaceD)).length=244:=by
  rw [List.length_flatMap]
  simp only [List.length_cons,List.length_nil]
  decide +kernel
 omega
end
end Go.AM
end
section
namespace Go.AM
section
variable {T:Tr} {M:List MntD} {nx k l:Int}
theorem aboveN_get (T:Tr) (M:List MntD):∀ (f:Nat) (p:PlaceD) (i:Nat) (h:i+1<(aboveN T M f p).length),nextA T M (aboveN T M f p)[i]=some (aboveN T M f p)[i+1]
 | 0,p,i,h=>by simp [aboveN] at h
 | f+1,p,i,h=>by
  cases hn:nextA T M p with
  | none=>simp [aboveN,hn] at h
  | some q =>
   simp only [aboveN,hn] at h ⊢
   cases i with
   | zero =>
    simp only [List.getElem_cons_zero,List.getElem_cons_succ,hn]
    cases f with
    | zero=>simp [aboveN] at h
    | succ f=>simp [aboveN]
   | succ i =>
    simp only [List.getElem_cons_succ]
    exact aboveN_get T M f q i (by simpa using h)
theorem aboveN_last (T:Tr) (M:List MntD):∀ (f:Nat) (p:PlaceD),(aboveN T M f p).length<f->∀ i (h:i<(aboveN T M f p).length),i+1=(aboveN T M f p).length->nextA T M (aboveN T M f p)[i]=none
 | 0,p,h,_,_,_=>by omega
 | f+1,p,hf,i,h,e=>by
  cases hn:nextA T M p with
  | none =>
   simp only [aboveN,hn] at h e ⊢
   simp only [List.length_singleton] at h
   have:i=0:=by omega
   subst this
   exact hn
  | some q =>
   simp only [aboveN,hn] at h e hf ⊢
   simp only [List.length_cons] at h e hf
   cases i with
   | zero =>
    have h0:(aboveN T M f q).length=0:=by omega
    cases f with
    | zero=>omega
    | succ f=>simp [aboveN] at h0
   | succ i =>
    simp only [List.getElem_cons_succ]
    exact aboveN_last T M f q (by omega) i (by omega) (by omega)
theorem above_next {f:Nat} {p y z:PlaceD} (hf:(aboveN T M f p).length<f) (hy:y∈aboveN T M f p) (hz:nextA T M y=some z):∃ i,∃ h:i+1<(aboveN T M f p).length,(aboveN T M f p)[i]=y/\(aboveN T M f p)[i+1]=z:=by
 obtain ⟨i,hi,rfl⟩:=List.getElem_of_mem hy
 by_cases h:i+1<(aboveN T M f p).length
 ·refine ⟨i,h,rfl,?_⟩
  have:=aboveN_get T M f p i h
  rw [hz] at this
  exact (Option.some.inj this).symm
 ·rw [aboveN_last T M f p hf i hi (by omega)] at hz
  simp at hz
theorem nodup_id {α β:Type} (f:α->β):∀ {l:List α},(l.map f).Nodup->∀ {a b:α},a∈l->b∈l->f a=f b->a=b
 | [],_,a,b,ha,_,_=>by simp at ha
 | x :: l,h,a,b,ha,hb,e=>by
  rw [List.map_cons,List.nodup_cons] at h
  rcases List.mem_cons.1 ha with h1 | h1
  ·rcases List.mem_cons.1 hb with h2 | h2
   ·rw [h1,h2]
   ·exact (h.1 (List.mem_map.2 ⟨b,h2,by rw [<- e,h1]⟩)).elim
  ·rcases List.mem_cons.1 hb with h2 | h2
   ·exact (h.1 (List.mem_map.2 ⟨a,h1,by rw [e,h2]⟩)).elim
   ·exact nodup_id f h.2 h1 h2 e
theorem getT_mem (h:PInv M nx k) {m:MntD} (hm:m∈M):getT M m.id=some m:=by
 cases hg:getT M m.id with
 | none =>
  unfold getT at hg
  rw [List.find?_eq_none] at hg
  have:=hg m hm
  simp at this
 | some m' =>
  obtain ⟨a,b⟩:=getT_some hg
  rw [nodup_id MntD.id h.nodup a hm b]
theorem stands_down (h:PInv M nx k) {p:PlaceD} {m:MntD} (hf:M.find? (standsAt p)=some m):downT M ⟨m.id,m.root⟩=some p:=by
 have h1:=List.find?_some hf
 have h2:=List.mem_of_find?_eq_some hf
 simp only [standsAt,Bool.and_eq_true,decide_eq_true_eq] at h1
 unfold downT
 rw [getT_mem h h2]
 simp only
 rw [if_neg (by simp [h1.1]),h1.2]
theorem down_next {p q:PlaceD} (h:downT M p=some q):nextA T M p=some q:=by unfold nextA; rw [h]
theorem seen_in (hp:PInv M nx k) {f:Nat} {p:PlaceD} (hf:(aboveN T M f p).length<f):∀ (n:Nat) (x:PlaceD),seenN M n x∈aboveN T M f p->seenN M n x=x\/∃ x1∈aboveN T M f p,downT M x1=some x
 | 0,x,_ => .inl rfl
 | n+1,x,h=>by
  cases hs:M.find? (standsAt x) with
  | none=>left; rw [seenN,hs]
  | some m =>
   have hd:=stands_down hp hs
   rw [seenN,hs] at h ⊢
   simp only at h ⊢
   right
   rcases seen_in hp hf n ⟨m.id,m.root⟩ h with e | ⟨x2,h2,d2⟩
   ·rw [e] at h
    exact ⟨_,h,hd⟩
   ·obtain ⟨i,hi,_,e2⟩:=above_next hf h2 (down_next d2)
    exact ⟨_,by rw [<- e2]; exact List.getElem_mem hi,hd⟩
theorem side (g:GI k T M nx l) (hl:l<=60) {p:PlaceD} (hk:(T.node p.i).kind≠0#8) (hc:∀ x∈aboveN T M 289 p,seen M x=x\/seen M x∈aboveN T M 289 p)
  (i:Nat) (hi:i+1<(aboveN T M 289 p).length) (hm:(aboveN T M 289 p)[i+1].m=(aboveN T M 289 p)[i].m):seen M (aboveN T M 289 p)[i+1]=(aboveN T M 289 p)[i+1]:=by
 have hs:=above_short g hl 289 p hk
 obtain ⟨r,B,hr,ho⟩:=g.ord.rank
 have hnd:=(aboveN_all g hr ho 289 p hk).2
 rcases hc _ (List.getElem_mem hi) with e | e
 ·exact e
 rcases seen_in g.pin (by omega) _ _ e with e | ⟨x1,h1,d1⟩
 ·exact e
 obtain ⟨j,hj,e1,e2⟩:=above_next (by omega) h1 (down_next d1)
 have hij:j+1=i+1:=(List.getElem_inj hnd).1 e2
 have hij:j=i:=by omega
 subst hij
 rw [<- e1] at d1
 obtain ⟨m,a1,a2,a3,a4⟩:=downT_some d1
 obtain ⟨b1,b2⟩:=getT_some a1
 have:=g.pin.older m b1 a2
 rw [a4,b2] at this
 omega
theorem seenN_there (h:PInv M nx k):∀ (n:Nat) (p:PlaceD),(getT M p.m).isSome=true->(getT M (seenN M n p).m).isSome=true
 | 0,p,hp=>hp
 | n+1,p,hp=>by
  rw [seenN]
  cases hf:M.find? (standsAt p) with
  | none=>exact hp
  | some m=>exact seenN_there h n ⟨m.id,m.root⟩ (by rw [getT_mem h (List.mem_of_find?_eq_some hf)]; rfl)
theorem okName_part {s:NameL} (h:okName s=true):okPart s=true/\47 ∉ s/\s.length<=14/\s≠[46,46]/\s≠[]:=by
 unfold okName at h
 simp only [Bool.and_eq_true,decide_eq_true_eq,List.all_eq_true] at h
 obtain ⟨⟨⟨⟨h1,h2⟩,h3⟩,h4⟩,h5⟩:=h
 have hne:s≠[]:=by rintro rfl; simp at h2
 refine ⟨by simp [okPart,hne,h4],fun hm =>?_,h3,h5,hne⟩
 have:=h1 _ hm
 revert this
 decide
theorem splitF_name:∀ (s cur:List UInt8),47 ∉ s->splitF cur s=[cur++s]
 | [],cur,_=>by simp [splitF]
 | c :: s,cur,h=>by
  simp only [List.mem_cons,not_or] at h
  rw [splitF,if_neg (fun e=>h.1 e.symm),splitF_name s _ h.2]
  simp
theorem splitF_more:∀ (s r cur:List UInt8),47 ∉ s->splitF cur (s++47 :: r)=(cur++s) :: splitF [] r
 | [],r,cur,_=>by simp [splitF]
 | c :: s,r,cur,h=>by
  simp only [List.mem_cons,not_or] at h
  rw [List.cons_append,splitF,if_neg (fun e=>h.1 e.symm),splitF_more s r _ h.2]
  simp
theorem split_join:∀ (ns:List NameL),ns≠[]->(∀ s∈ns,okName s=true)->splitF [] (joinSl ns)=ns
 | [],h,_=>(h rfl).elim
 | [s],_,h=>by
  have:=okName_part (h s (by simp))
  simp [joinSl,splitF_name s [] this.2.1]
 | s :: t :: ns,_,h=>by
  have h1:=okName_part (h s (by simp))
  have ih:=split_join (t :: ns) (by simp) fun x hx=>h x (by simp [hx])
  show splitF [] (s++[47]++joinSl (t :: ns))=_
  rw [List.append_assoc,List.singleton_append,splitF_more s _ [] h1.2.1,ih]
  rfl
theorem parts_join (ns:List NameL) (h:∀ s∈ns,okName s=true):partsL (47 :: joinSl ns)=ns:=by
 unfold partsL
 rw [splitF,if_pos rfl]
 by_cases h0:ns=[]
 ·subst h0; rfl
 ·rw [split_join ns h0 h,List.filter_cons]
  rw [if_neg (by decide),List.filter_eq_self]
  exact fun s hs=>(okName_part (h s hs)).1
theorem nameOf_some (w:T.WF) {a b:BitVec 16} {s:NameL} (h:nameOf T a b=some s):T.look a s=(b,0)/\okName s=true/\(T.node a).kind=2#8:=by
 unfold nameOf at h
 cases hf:(T.node a).ents.find? (fun e=>decide (e.2=b)) with
 | none=>rw [hf] at h; simp at h
 | some e =>
  rw [hf] at h
  simp only [Option.map_some,Option.some.injEq] at h
  have h1:=List.find?_some hf
  have h2:=List.mem_of_find?_eq_some hf
  simp only [decide_eq_true_eq] at h1
  obtain ⟨s',b'⟩:=e
  simp only at h h1
  subst h h1
  obtain ⟨e1,_,e3,_⟩:=w.ents _ _ _ h2
  refine ⟨?_,e3,e1⟩
  unfold Tr.look Tr.dir
  rw [e1,alook_of_mem (w.rising a).nodup h2]
  rfl
theorem names_ok (w:T.WF):∀ {L:List PlaceD} {ns:List NameL},namesUp T L=some ns->∀ s∈ns,okName s=true
 | [],ns,h=>by simp only [namesUp,Option.some.injEq] at h; subst h; simp
 | [_],ns,h=>by simp only [namesUp,Option.some.injEq] at h; subst h; simp
 | p :: q :: L,ns,h=>by
  rw [namesUp] at h
  cases h1:namesUp T (q :: L) with
  | none=>rw [h1] at h; simp at h
  | some ns' =>
   rw [h1] at h
   have ih:=names_ok w h1
   simp only at h
   split at h
   ·simp only [Option.some.injEq] at h; subst h; exact ih
   ·cases h2:nameOf T q.i p.i with
    | none=>rw [h2] at h; simp at h
    | some s =>
     rw [h2] at h
     simp only [Option.some.injEq] at h
     subst h
     intro x hx
     rcases List.mem_append.1 hx with hx | hx
     ·exact ih x hx
     ·simp only [List.mem_singleton] at hx
      subst hx
      exact (nameOf_some w h2).2.1
theorem walk_down (g:GI k T M nx l):∀ (L:List PlaceD) (ns:List NameL),(∀ i (h:i+1<L.length),nextA T M L[i]=some L[i+1])->(∀ i (h:i+1<L.length),L[i+1].m=L[i].m->seen M L[i+1]=L[i+1])->L.getLast? = some topP->namesUp T L=some ns ->
  ∀ p,L.head? = some p->(getT M (seen M p).m).isSome=true/\∀ rest,walkW T M true ⟨seen M topP,ns++rest,0⟩=walkW T M true ⟨seen M p,rest,0⟩
 | [],ns,_,_,hla,_,p,_=>by simp at hla
 | [q],ns,_,_,hla,hn,p,hp=>by
  simp only [List.head?_cons,Option.some.injEq] at hp
  simp only [List.getLast?_singleton,Option.some.injEq] at hla
  simp only [namesUp,Option.some.injEq] at hn
  subst hp hn
  subst hla
  refine ⟨seenN_there g.pin _ _ ?_,fun rest=>rfl⟩
  have:=g.top
  show (getT M 0).isSome=true
  rw [this]; rfl
 | p' :: q :: L,ns,hch,hsd,hla,hn,p,hp=>by
  simp only [List.head?_cons,Option.some.injEq] at hp
  subst hp
  rw [namesUp] at hn
  cases h1:namesUp T (q :: L) with
  | none=>rw [h1] at hn; simp at hn
  | some ns' =>
   rw [h1] at hn
   simp only at hn
   obtain ⟨i1,i2⟩:=walk_down g (q :: L) ns' (fun i h=>hch (i+1) (by simpa using h)) (fun i h=>hsd (i+1) (by simpa using h)) (by rw [List.getLast?_cons_cons] at hla; exact hla) h1 q rfl
   have hnx:nextA T M p'=some q:=hch 0 (by simp)
   have hsq:q.m=p'.m->seen M q=q:=hsd 0 (by simp)
   split at hn
   ·rename_i hm
    simp only [Option.some.injEq] at hn
    subst hn
    have hd:downT M p'=some q:=by
     unfold nextA at hnx
     cases hd:downT M p' with
     | some q'=>rw [hd] at hnx; simpa using hnx
     | none =>
      rw [hd] at hnx
      simp only at hnx
      split at hnx
      ·simp at hnx
      ·simp only [Option.some.injEq] at hnx
       exact (hm (by rw [<- hnx])).elim
    obtain ⟨m,a1,a2,a3,a4⟩:=downT_some hd
    obtain ⟨b1,b2⟩:=getT_some a1
    have hst:standsAt q m=true:=by simp [standsAt,a2,a4]
    have hf:M.find? (standsAt q)=some m:=by
     cases hf:M.find? (standsAt q) with
     | none =>
      rw [List.find?_eq_none] at hf
      exact (hf m b1 hst).elim
     | some m' =>
      have c1:=List.find?_some hf
      have c2:=List.mem_of_find?_eq_some hf
      simp only [standsAt,Bool.and_eq_true,decide_eq_true_eq] at c1
      have:=g.pin.uniq m' c2 m b1 c1.1 a2 (by rw [c1.2,a4])
      rw [nodup_id MntD.id g.pin.nodup c2 b1 this]
    have hs:=seen_some g.pin.older hf
    have hpe:(⟨m.id,m.root⟩:PlaceD)=p':=by rw [place_eq]; exact ⟨b2,a3⟩
    rw [hpe] at hs
    rw [<- hs]
    exact ⟨i1,i2⟩
   ·rename_i hm
    simp only [ne_eq,Classical.not_not] at hm
    cases h2:nameOf T q.i p'.i with
    | none=>rw [h2] at hn; simp at hn
    | some s =>
     rw [h2] at hn
     simp only [Option.some.injEq] at hn
     subst hn
     obtain ⟨k1,k2,k3⟩:=nameOf_some g.wf h2
     have hq:=hsq hm
     rw [hq] at i1 i2
     obtain ⟨_,o2,o3,o4,o5⟩:=okName_part k2
     have hk2:(T.node p'.i).kind=2#8:=by
      refine Classical.byContradiction fun hc =>?_
      unfold nextA at hnx
      cases hd:downT M p' with
      | some q' =>
       rw [hd] at hnx
       simp only [Option.some.injEq] at hnx
       obtain ⟨m,a1,a2,a3,a4⟩:=downT_some hd
       obtain ⟨b1,_⟩:=getT_some a1
       exact hc (by rw [<- a3]; exact (g.mnt m b1).1)
      | none =>
       rw [hd] at hnx
       simp only [g.ord.par _ hc,g.wf.n0,or_true,if_true] at hnx
       simp at hnx
     have hdir:dirP T M q=true:=by unfold dirP; simp [i1,k3]
     have hpe:(⟨q.m,p'.i⟩:PlaceD)=p':=by rw [place_eq]; exact ⟨hm,rfl⟩
     have hstep:∀ rest,stepY T M ⟨q,s :: rest,0⟩ true=(⟨seen M p',rest,0⟩,0):=by
      intro rest
      unfold stepY
      simp only [hdir,Bool.true_eq_false,if_false,o4,if_neg (show ¬ 14<s.length by omega),k1,ne_eq,not_true,hk2,show ¬ (2#8=3#8) by decide,false_and,if_true,hpe]
     refine ⟨seenN_there g.pin _ _ (by rw [<- hm]; exact i1),fun rest =>?_⟩
     rw [List.append_assoc,i2,List.singleton_append,walkW_step g.kd.lt true (by simp) (by simp),hstep]
     simp
theorem back (g:GI k T M nx l) (hl:l<=60) {p:PlaceD} {s:List UInt8} (hs:pathW T M p=some s) (h120:s.length<=120) (hp:seen M p=p) (hc:∀ x∈aboveW T M p,seen M x=x\/seen M x∈aboveW T M p):findW T M topP s true=(p,0):=by
 have hd:dirP T M p=true:=by
  refine Classical.byContradiction fun hc =>?_
  unfold pathW aboveW at hs
  rw [if_neg hc] at hs
  simp at hs
 have hk:(T.node p.i).kind=2#8:=dirP_kind hd
 have hk0:(T.node p.i).kind≠0#8:=by rw [hk]; decide
 have hab:aboveW T M p=aboveN T M 289 p:=by unfold aboveW; rw [if_pos hd]
 unfold pathW at hs
 rw [hab] at hs hc
 split at hs
 rotate_left
 ·simp at hs
 rename_i hla
 cases hn:namesUp T (aboveN T M 289 p) with
 | none=>rw [hn] at hs; simp at hs
 | some ns =>
  rw [hn] at hs
  simp only [Option.map_some,Option.some.injEq] at hs
  have hok:=names_ok g.wf hn
  have hhead:(aboveN T M 289 p).head? = some p:=rfl
  obtain ⟨h1,h2⟩:=walk_down g _ ns (aboveN_get T M 289 p) (side g hl hk0 hc) hla hn p hhead
  have h3:=h2 []
  rw [List.append_nil,hp] at h3
  have hb:beginW M topP s=(⟨seen M topP,ns,0⟩,0):=by
   unfold beginW
   rw [if_neg (by rw [<- hs]; simp),if_neg (by omega),<- hs,parts_join ns hok]
   rfl
  unfold findW
  rw [hb]
  simp only [ne_eq,not_true,if_false,Bool.true_or,h3,walkW_nil]
  rw [if_neg hk0,if_neg (by simp [hd])]
end
end Go.AM
end
section
namespace Go.AM
set_option maxRecDepth 20000
theorem joinSl_le:∀ (ns:List NameL),(∀ s∈ns,okName s=true)->(joinSl ns).length<=15*ns.length
 | [],_=>by simp [joinSl]
 | [s],h=>by
  have:=(okName_part (h s (by simp))).2.2.1
  simp only [joinSl,List.length_singleton]
  omega
 | s :: t :: l,h=>by
  have h1:=(okName_part (h s (by simp))).2.2.1
  have ih:=joinSl_le (t :: l) fun x hx=>h x (by simp [hx])
  show (s++[47]++joinSl (t :: l)).length<=_
  rw [List.length_append,List.length_append,List.length_cons (a:=s)]
  simp only [List.length_singleton]
  omega
section
variable {E:Sy} {H H' H0 K:AH} {Q:Value->AH->Prop} {w t:Nat} {T:Tr} {M:List MntD} {nx k l:Int}
theorem namesUp_le (T:Tr):∀ (L:List PlaceD) {ns:List NameL},namesUp T L=some ns->ns.length<=L.length
 | [],ns,h=>by simp only [namesUp,Option.some.injEq] at h; subst h; simp
 | [_],ns,h=>by simp only [namesUp,Option.some.injEq] at h; subst h; simp
 | p :: q :: L,ns,h=>by
  rw [namesUp] at h
  cases h1:namesUp T (q :: L) with
  | none=>rw [h1] at h; simp at h
  | some ns' =>
   rw [h1] at h
   have ih:=namesUp_le T (q :: L) h1
   simp only at h
   split at h
   ·simp only [Option.some.injEq] at h; subst h; simp only [List.length_cons] at ih ⊢; omega
   ·cases h2:nameOf T q.i p.i with
    | none=>rw [h2] at h; simp at h
    | some s =>
     rw [h2] at h
     simp only [Option.some.injEq] at h
     subst h
     simp only [List.length_append,List.length_cons,List.length_nil] at ih ⊢; omega
theorem above_joins (hE:Fold E) (wf:T.WF) (p:PlaceD):∀ ns,namesUp T (aboveW T M p)=some ns->Joins E ns/\(joinSl ns).length<2 ^ 40:=by
 intro ns hns
 have h1:=names_ok wf hns
 have h2:=joinSl_le ns h1
 have h3:=namesUp_le T _ hns
 have h4:(aboveW T M p).length<=289:=by
  unfold aboveW
  split
  ·exact aboveN_le T M 289 p
  ·simp
 exact ⟨joins_any hE (by omega) (by omega),by omega⟩
end
end Go.AM
end
section
namespace Go.AM
set_option maxRecDepth 20000
theorem placeD_neq (p q:PlaceD):binAgg [0,0] .neq p.v q.v=some (vb (!decide (p=q))):=by
 obtain ⟨a,b⟩:=p
 obtain ⟨c,d⟩:=q
 simp [binAgg,PlaceD.cells,place_eq]
theorem seen_end {M:List MntD} (h:Older M):∀ (n:Nat) (p:PlaceD),above M p<=n->M.find? (standsAt (seen M p))=none:=by
 intro n
 induction n with
 | zero =>
  intro p hp
  cases hf:M.find? (standsAt p) with
  | none=>rw [seen_none hf,hf]
  | some m=>have:=above_step h hf; omega
 | succ n ih =>
  intro p hp
  cases hf:M.find? (standsAt p) with
  | none=>rw [seen_none hf,hf]
  | some m =>
   have:=above_step h hf
   rw [seen_some h hf]
   exact ih _ (by omega)
section
variable {E:Sy} {H H' H0 K:AH} {Q:Value->AH->Prop} {w t:Nat} {T:Tr} {M:List MntD} {nx k l:Int}
theorem S.f51 (hE:Fold E) (h:WkAt H w T M) (g:GI k T M nx l) {v:Value} {A:List PlaceD} (r:Rows H 2 v (placeR A)) (hA:A.length<=289) (x:PlaceD) (hQ:∀ H',Ext H H'->Q (vb (decide (seen M x∈A))) H'):E.call (E.fid i.f51) [ptr w 0,v,x.v] H Q:=by
 apply hE.f51
 have x1:Ext H (H.new (.cells x.cells none)):=(Ext.refl _).new _
 have b1:=AH.get_new_self H (.cells x.cells none)
 obtain ⟨⟨q,m,L',q',nx',q1,q2,q3⟩,_⟩:=h.mono x1
 simp only [F.f51,boxO_agg_z,AM.mk_some,mkPtr_eq_z,List.toList_toArray,q1,stdZ]
 generalize H.new (.cells x.cells none)=H1 at *
 generalize H.next=bx at *
 have l1:loadN 2 (ptr bx 0) H1=some x.v:=by rw [loadN_ptr,b1]; rfl
 have x2:Ext H1 (H1.new (.cells [(.int .i64 0),(.int .u16 0)] none)):=(Ext.refl _).new _
 have b2:=AH.get_new_self H1 (.cells [(.int .i64 0),(.int .u16 0)] none)
 simp only [l1,allocW_eq,stdZ]
 refine S.f37 hE q' M nx' x (q3.mono x2) g.pin.older fun H3 e3 =>?_
 have b3:=e3.cells b2
 refine ⟨by rw [b3,b2],?_⟩
 have s3:storeN 2 (ptr H1.next 0) (seen M x).v H3=some (H3.put H1.next (.cells (seen M x).cells none)):=by rw [storeN_ptr,b3]; rfl
 have x4:Ext H1 (H3.put H1.next (.cells (seen M x).cells none)):=(x2.trans e3).put (Nat.le_refl _) _
 have b4:=AH.get_put_self H3 (.cells (seen M x).cells none) (AH.lt_cells b3)
 have hl:=r.lenSlc
 rw [placeR_length] at hl
 simp only [s3,hl,stdZ]
 generalize H3.put H1.next (.cells (seen M x).cells none)=H4 at *
 generalize H1.next=by_ at *
 have x14:=x1.trans x4
 have i0:(.int .i64 0:Value)=vi ((0:Nat):Int):=rfl
 rw [i0]
 refine LoopL.count A.length (fun j ls H'=>ls=[ptr by_ 0,v,vi (A.length:Int),vi j]/\Ext H4 H'/\∀ i (hi:i<A.length),i<j->A[i]≠seen M x) ?_ ⟨rfl,Ext.refl _,fun i _ h=>by omega⟩
 rintro j _ H5 X hj hX ⟨rfl,e5,hno⟩
 by_cases hjl:j<A.length
 rotate_left
 ·have hjl':¬ (j:Int)<A.length:=by omega
  have hnm:decide (seen M x∈A)=false:=by
   rw [decide_eq_false_iff_not]
   intro hm
   obtain ⟨i,hi,he⟩:=List.getElem_of_mem hm
   exact hno i hi (by omega) he
  rw [hnm] at hQ
  simp only [F.f51_l1,i64_lss,hjl',decide_false,stdZ]
  exact hQ _ (x14.trans e5)
 have hX:=hX hjl
 have hjl':(j:Int)<A.length:=by omega
 have hjj:=i64_inc (i:=j) (by omega)
 obtain ⟨b,o,f1,f2⟩:=(r.mono (x14.trans e5)).ix (i:=j) (by rw [placeR_length]; exact hjl)
 have hrow:(placeR A)[j]'(by rw [placeR_length]; exact hjl)=(A[j]).cells:=by simp [placeR]
 rw [hrow] at f2
 have lo:loadN 2 (ptr b o) H5=some (A[j]).v:=by rw [loadN_ptr,f2]; rfl
 have s6:storeN 2 (ptr H5.next 0) (A[j]).v (H5.new (.cells [(.int .i64 0),(.int .u16 0)] none))=some (H5.new (.cells (A[j]).cells none)):=two_store rfl rfl rfl
 have x6:Ext H5 (H5.new (.cells (A[j]).cells none)):=(Ext.refl _).new _
 have l6:loadN 2 (ptr H5.next 0) (H5.new (.cells (A[j]).cells none))=some (A[j]).v:=by rw [loadN_ptr,AH.get_new_self]; rfl
 have l7:loadN 2 (ptr by_ 0) (H5.new (.cells (A[j]).cells none))=some (seen M x).v:=by rw [loadN_ptr,(e5.trans x6).cells b4]; rfl
 simp only [F.f51_l1,i64_lss,hjl',decide_true,f1,lo,allocW_eq,s6,l6,l7,place_agg,stdZ]
 by_cases he:A[j]=seen M x
 ·have hm:decide (seen M x∈A)=true:=by
   rw [decide_eq_true_iff,<- he]; exact List.getElem_mem hjl
  rw [hm] at hQ
  simp only [he,decide_true,stdZ]
  exact hQ _ ((x14.trans e5).trans (by rw [<- he]; exact x6))
 ·have hd:decide (A[j]=seen M x)=false:=by simpa using he
  simp only [hd,hjj,stdZ]
  refine hX _ _ ⟨rfl,e5.trans x6,fun i hi hij =>?_⟩
  by_cases e:i=j
  ·subst e; exact he
  ·exact hno i hi (by omega)
theorem S.law_WalkBack (hE:Fold E) (args:List Value) (ha:ArgsSV H [.slice 14 gactSh,.int .u8] args) (hQ:∀ H',Q (vb true) H'):E.call (E.fid i.f49) args H Q:=by
 obtain ⟨av,_,rfl,h1,ha⟩:=ha.cons_inv
 obtain ⟨nv,_,rfl,h2,ha⟩:=ha.cons_inv
 obtain rfl:=ha.nil_inv
 obtain ⟨acts,hv,hll,hok⟩:=ArgSV.gacts h1
 obtain ⟨n,rfl⟩:=h2.u8
 apply hE.f49
 simp only [F.f49]
 refine S.f45 hE fun H2 e2 =>?_
 simp only [stdZ]
 refine S.f47 hE av acts (hv.mono e2) hll (fun x hx=>(hok x hx).mono e2) fun H3 e3 =>?_
 have e03:=e2.trans e3
 cases hlt:lightL acts with
 | false =>
  simp only [stdZ]
  exact hQ _
 | true =>
 simp only [stdZ]
 refine S.f46 hE av acts (hv.mono e03) hll (fun x hx=>(hok x hx).mono e03) hlt fun w t T M nx H4 h4 g4 =>?_
 have wf:=g4.wf
 have hwk:=fun {H':AH} (e:Ext H4 H')=>(h4.mono e).at_
 have r1:binInt .rem (u8 n) (.int .u8 9)=some (u8 (n % 9#8)):=u8_rem _ 9#8 (by decide)
 obtain ⟨⟨q,m,L',q',nx',q1,q2,q3⟩,_⟩:=hwk (Ext.refl _)
 have hbv:∀ n:BitVec 16,buildV [(0,1),(1,1)] #[(.int .i64 0),(.int .u16 0)] [(1,u16 n)]=some (PlaceD.v ⟨0,n⟩):=fun n=>rfl
 simp only [q1,r1,u8_to_u16,hbv,stdZ]
 generalize hx0:(⟨0,(n % 9#8).setWidth 16⟩:PlaceD)=x0
 refine S.f37 hE q' M nx' x0 q3 g4.pin.older fun H5 e5 =>?_
 have hfix:seen M (seen M x0)=seen M x0:=seen_none (seen_end g4.pin.older _ x0 (Nat.le_refl _))
 generalize seen M x0=p at *
 have s6:storeN 2 (ptr H5.next 0) p.v (H5.new (.cells [(.int .i64 0),(.int .u16 0)] none))=some (H5.new (.cells p.cells none)):=two_store rfl rfl rfl
 have x6:Ext H5 (H5.new (.cells p.cells none)):=(Ext.refl _).new _
 have b6:=AH.get_new_self H5 (.cells p.cells none)
 simp only [allocW_eq,s6,stdZ]
 generalize H5.new (.cells p.cells none)=H6 at *
 generalize H5.next=bp at *
 have lop:∀ {H':AH},Ext H6 H'->loadN 2 (ptr bp 0) H'=some p.v:=fun e=>by rw [loadN_ptr,e.cells b6]; rfl
 have f6:=e5.trans x6
 simp only [lop (Ext.refl _),stdZ]
 refine S.f109 hE (hwk f6) wf g4.atOk p (above_joins hE wf p) fun H7 e7 =>?_
 have f7:=f6.trans e7
 cases hpw:pathW T M p with
 | none =>
  simp only [Option.isSome_none,stdZ]
  exact hQ _
 | some s =>
  have hos:optS (some s)=s:=rfl
  have hlen:s.length<2 ^ 40:=by
   unfold pathW at hpw
   split at hpw
   ·cases hn:namesUp T (aboveW T M p) with
    | none=>rw [hn] at hpw; simp at hpw
    | some ns =>
     rw [hn] at hpw
     simp only [Option.map_some,Option.some.injEq] at hpw
     have h1:=names_ok wf hn
     have h2:=joinSl_le ns h1
     have h3:=namesUp_le T _ hn
     have h4:(aboveW T M p).length<=289:=by
      unfold aboveW
      split
      ·exact aboveN_le T M 289 p
      ·simp
     rw [<- hpw,List.length_cons]
     omega
   ·simp at hpw
  have hls:lenStr (str s)=some (vi s.length):=lenStr_s s
  by_cases h120:(120:Int)<s.length
  ·have hg:binInt .gtr (vi (s.length:Int)) (.int .i64 120)=some (vb true):=by rw [i64_gtr]; simp [h120]
   simp only [Option.isSome_some,hos,hls,hg,stdZ]
   exact hQ _
  have hg:binInt .gtr (vi (s.length:Int)) (.int .i64 120)=some (vb false):=by rw [i64_gtr]; simp [h120]
  simp only [Option.isSome_some,hos,hls,hg,lop e7,stdZ]
  refine S.f106 hE (hwk f7) g4.atOk p fun v8 H8 e8 r8 =>?_
  have f8:=f7.trans e8
  have hl8:=r8.lenSlc
  rw [placeR_length] at hl8
  have hA:(aboveW T M p).length<=289:=by
   unfold aboveW
   split
   ·exact aboveN_le T M 289 p
   ·simp
  simp only [hl8,stdZ]
  have back:=back g4 (by omega) hpw (by omega) hfix
  generalize aboveW T M p=A at *
  have i0:(.int .i64 0:Value)=vi ((0:Nat):Int):=rfl
  rw [i0]
  refine LoopL.count A.length (fun j ls H'=>ls=[ptr w 0,ptr bp 0,str s,v8,v8,vi (A.length:Int),vi j]/\Ext H8 H'/\∀ i (hi:i<A.length),i<j->seen M A[i]=A[i]\/seen M A[i]∈A) ?_ ⟨rfl,Ext.refl _,fun i _ h=>by omega⟩
  rintro j _ H9 X hj hX ⟨rfl,e9,hall⟩
  have f9:=f8.trans e9
  by_cases hjl:j<A.length
  rotate_left
  ·have hjl':¬ (j:Int)<A.length:=by omega
   have hb:=back fun x hx=>by
    obtain ⟨i,hi,rfl⟩:=List.getElem_of_mem hx
    exact hall i hi (by omega)
   simp only [F.f49_l1,i64_lss,hjl',decide_false,stdZ]
   refine S.f41 hE fun H10 e10 =>?_
   have f10:=f9.trans e10
   refine S.f108 hE (hwk f10) wf (Tr.KD.lt g4.kd) topP s (by omega) true fun H11 e11 =>?_
   rw [hb]
   have s12:storeN 2 (ptr H11.next 0) p.v (H11.new (.cells [(.int .i64 0),(.int .u16 0)] none))=some (H11.new (.cells p.cells none)):=two_store rfl rfl rfl
   have x12:Ext H11 (H11.new (.cells p.cells none)):=(Ext.refl _).new _
   have l12:loadN 2 (ptr H11.next 0) (H11.new (.cells p.cells none))=some p.v:=by rw [loadN_ptr,AH.get_new_self]; rfl
   have h00:binInt .eql (vi 0) (.int .i64 0)=some (vb true):=by rw [i64_eql]; simp
   simp only [allocW_eq,s12,h00,l12,lop ((e7.trans e8).trans (e9.trans (e10.trans (e11.trans x12)))),place_agg,decide_true,stdZ]
   exact hQ _
  have hX:=hX hjl
  have hjl':(j:Int)<A.length:=by omega
  have hjj:=i64_inc (i:=j) (by omega)
  obtain ⟨b,o,g1,g2⟩:=(r8.mono e9).ix (i:=j) (by rw [placeR_length]; exact hjl)
  have hrow:(placeR A)[j]'(by rw [placeR_length]; exact hjl)=(A[j]).cells:=by simp [placeR]
  rw [hrow] at g2
  have hstep:(seen M A[j]=A[j]\/seen M A[j]∈A)->∀ i (hi:i<A.length),i<j+1->seen M A[i]=A[i]\/seen M A[i]∈A:=by
   intro hh i hi hij
   by_cases e:i=j
   ·subst e; exact hh
   ·exact hall i hi (by omega)
  generalize A[j]=x at *
  have lo:loadN 2 (ptr b o) H9=some x.v:=by rw [loadN_ptr,g2]; rfl
  have s10:storeN 2 (ptr H9.next 0) x.v (H9.new (.cells [(.int .i64 0),(.int .u16 0)] none))=some (H9.new (.cells x.cells none)):=two_store rfl rfl rfl
  have x10:Ext H9 (H9.new (.cells x.cells none)):=(Ext.refl _).new _
  have b10:=AH.get_new_self H9 (.cells x.cells none)
  have f10:=f9.trans x10
  obtain ⟨⟨z,zm,zL,z',znx,z1,z2,z3⟩,_⟩:=hwk f10
  simp only [F.f49_l1,i64_lss,hjl',decide_true,g1,lo,allocW_eq,s10,z1,stdZ]
  generalize H9.new (.cells x.cells none)=H10 at *
  generalize H9.next=bx at *
  have lox:∀ {H':AH},Ext H10 H'->loadN 2 (ptr bx 0) H'=some x.v:=fun e=>by rw [loadN_ptr,e.cells b10]; rfl
  simp only [lox (Ext.refl _),stdZ]
  refine S.f37 hE z' M znx x z3 g4.pin.older fun H11 e11 =>?_
  refine ⟨by rw [lox e11,lox (Ext.refl _)],?_⟩
  simp only [placeD_neq,stdZ]
  by_cases hsx:seen M x=x
  ·have hd:decide (seen M x=x)=true:=by simpa using hsx
   simp only [hd,Bool.not_true,hjj,stdZ]
   exact hX _ _ ⟨rfl,(e9.trans x10).trans e11,hstep (.inl hsx)⟩
  ·have hd:decide (seen M x=x)=false:=by simpa using hsx
   simp only [hd,Bool.not_false,lox e11,stdZ]
   refine S.f51 hE (hwk (f10.trans e11)) g4 (r8.mono ((e9.trans x10).trans e11)) hA x fun H12 e12 =>?_
   by_cases hm:seen M x∈A
   ·have hd2:decide (seen M x∈A)=true:=by simpa using hm
    simp only [hd,Bool.not_false,hd2,Bool.not_true,hjj,stdZ]
    exact hX _ _ ⟨rfl,((e9.trans x10).trans e11).trans e12,hstep (.inr hm)⟩
   ·have hd2:decide (seen M x∈A)=false:=by simpa using hm
    simp only [hd,hd2,Bool.not_false,stdZ]
    exact hQ _
end
end Go.AM
end
