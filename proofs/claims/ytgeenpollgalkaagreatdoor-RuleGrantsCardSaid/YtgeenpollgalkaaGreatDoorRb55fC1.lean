/- CONTRACTS ON THE PRINTED FUNCTIONS. -/
import Derived.Test.YtgeenpollgalkaaGreatDoorRb55fC0
set_option linter.all false
section
namespace Go.AM
theorem freeL_full:∀ (l:List Nd),freeL l=l.length->l.countP (fun x=>decide (x.kind≠0#8))=l.length
 | [],_=>rfl
 | x :: l,h=>by
  simp only [freeL] at h
  split at h
  ·simp at h
  ·rename_i hx
   have:=freeL_full l (by simp at h; omega)
   rw [List.countP_cons,this]
   simp [hx]
section
variable {T T':Tr} {n k:BitVec 16}
theorem Tr.new_wf (limit:Int):(Tr.new limit).WF:=by
 have hnode:∀ n:BitVec 16,(Tr.new limit).node n=if n=1#16 then { Nd.none with kind:=2#8,parent:=1#16,links:=1 } else Nd.none:=by
  intro n
  unfold Tr.new Tr.node
  by_cases h:n=1#16
  ·subst h; rfl
  ·rw [if_neg h]
   by_cases h0:n=0#16
   ·subst h0; rfl
   ·have:2<=n.toNat:=by
     have h1:n.toNat≠0:=fun e=>h0 (BitVec.eq_of_toNat_eq (by simpa using e))
     have h2:n.toNat≠1:=fun e=>h (BitVec.eq_of_toNat_eq (by simpa using e))
     omega
    simp only [List.getD_eq_getElem?_getD]
    rw [List.getElem?_eq_none (by simpa using this)]
    rfl
 have hent:∀ n,((Tr.new limit).node n).ents=[]:=by
  intro n; rw [hnode]; split <;> rfl
 have hr:∀ k,(Tr.new limit).refs k=0:=fun k=>rfl
 refine ⟨⟨?_,?_⟩,⟨Nat.le_refl 2,?_⟩,by rw [hnode]; rfl,fun n h =>?_,by rw [hnode]; exact ⟨rfl,rfl,rfl⟩,fun m s k h =>?_,fun n =>?_,fun n =>?_,fun n h1 h2 =>?_,fun n _ =>?_,fun n =>?_,fun n h1 h2 =>?_,fun n =>?_⟩
 ·show 1<=min (max limit 1) 256; omega
 ·show min (max limit 1) 256<=256; omega
 ·show ((2:Nat):Int)<=min (max limit 1) 256+1; omega
 ·rw [hnode] at h ⊢
  split at h
  ·simp at h
  ·rename_i e; rw [if_neg e]
 ·rw [hent] at h; simp at h
 ·rw [hent]; exact List.Pairwise.nil
 ·rw [hent]; exact Nat.zero_le _
 ·rw [hnode,if_neg h1] at h2
  exact (h2 rfl).elim
 ·rw [hr]; exact Nat.zero_le _
 ·rw [hnode]; split <;> exact Int.le_refl _
 ·rw [hnode] at h1
  split at h1
  ·rename_i e; exact .inl e
  ·simp [Nd.none] at h1
 ·rw [hnode]; split <;> exact Nat.zero_le _
theorem Tr.WF.make (h:T.WF) (inn:BitVec 16) (s:NameL) (kd:BitVec 8) (text:List UInt8):(T.make inn s kd text).1.WF:=by
 unfold Tr.make
 split
 ·exact h
 split
 ·exact h
 split
 ·exact h
 rename_i hr hkd hlim
 have hr:T.room inn s=0:=by simpa using hr
 obtain ⟨d1,d2,d3,d4,d5⟩:=Tr.room_ok hr
 have hl16:=h.len16
 have hfree:=Tr.free_ok (T:=T) (by have:=h.len.1; omega) (by omega)
 have hk0:kd≠0#8:=fun e=>hkd (.inl e)
 have hlim1:¬ T.limit<=T.len:=fun e=>hlim (.inl e)
 have hlim2:kd=2#8->T.deep inn<16:=fun e=>by
  have:¬ 16<=T.deep inn:=fun x=>hlim (.inr ⟨e,x⟩)
  omega
 obtain ⟨A,hA⟩:∃ A,A=BitVec.ofNat 16 T.free:=⟨_,rfl⟩
 rw [<- hA]
 have hA0:(T.node A).kind=0#8:=by rw [hA]; exact hfree.zero
 have hAn:=h.zero A hA0
 have hin:(T.node inn).kind≠0#8:=by rw [d1]; decide
 have hAi:A≠inn:=by rintro rfl; exact hin hA0
 have hA1:A≠1#16:=by rintro rfl; rw [h.root.1] at hA0; simp at hA0
 have hAz:A≠0#16:=by
  intro e
  have h1:A.toNat=T.free:=by rw [hA,BitVec.toNat_ofNat,Nat.mod_eq_of_lt (by have:=hfree.lt; omega)]
  have:=hfree.pos
  rw [e] at h1
  simp at h1
  omega
 have hput:∀ m,(T.put T.free (Nd.made inn kd text)).node m=if m=A then Nd.made inn kd text else T.node m:=fun m=>by rw [Tr.node_put hfree.le hfree.lt,hA]
 have hpi:(T.put T.free (Nd.made inn kd text)).node inn=T.node inn:=by rw [hput,if_neg (Ne.symm hAi)]
 have hnode:=fun m=>Tr.node_upd (T:=T.put T.free (Nd.made inn kd text)) (n:=inn) (by rw [hpi]; exact hin) (Nd.addE s A) m
 rw [hpi] at hnode
 simp only [hput] at hnode
 have hrA:T.refs A=0:=by
  refine Classical.byContradiction fun hc =>?_
  obtain ⟨p,s',hs⟩:=Tr.refs_pos (T:=T) (k:=A) (by omega) (by omega)
  exact (h.ents p s' A hs).2.2.2.1 hA0
 have hrf:∀ m,((T.put T.free (Nd.made inn kd text)).upd inn (Nd.addE s A)).refs m=T.refs m+if A=m then 1 else 0:=by
  intro m
  have h1:=Tr.refs_upd (T:=T.put T.free (Nd.made inn kd text)) (n:=inn) (Tr.node_lt (by rw [hpi]; exact hin)) (Nd.addE s A) m
  have h2:=Tr.refs_put (T:=T) (Nd.made inn kd text) hfree.le hfree.lt m (by rw [<- hA,hAn]; rfl)
  rw [hpi,h2] at h1
  have e:cntE m (Nd.addE s A (T.node inn)).ents=cntE m (T.node inn).ents+if A=m then 1 else 0:=cntE_insert m (s,A) _
  have e2:cntE m (Nd.made inn kd text).ents=0:=rfl
  rw [e,e2] at h1
  omega
 have hkp:∀ m,m≠A->∀ y,y=((T.put T.free (Nd.made inn kd text)).upd inn (Nd.addE s A)).node m->y.kind=(T.node m).kind/\y.parent=(T.node m).parent/\y.links=(T.node m).links/\y.held=(T.node m).held/\y.data=(T.node m).data:=by
  rintro m hm y rfl
  rw [hnode,if_neg hm]
  split
  ·rename_i e; subst e; exact ⟨rfl,rfl,rfl,rfl,rfl⟩
  ·exact ⟨rfl,rfl,rfl,rfl,rfl⟩
 have hnA:((T.put T.free (Nd.made inn kd text)).upd inn (Nd.addE s A)).node A=Nd.made inn kd text:=by rw [hnode,if_neg hAi,if_pos rfl]
 have tr:∀ {f m},T.Live m->T.rootIn f m->((T.put T.free (Nd.made inn kd text)).upd inn (Nd.addE s A)).rootIn f m:=by
  intro f m
  refine Tr.rootIn_of T.Live fun m hm hm1 =>?_
  have hmA:m≠A:=by rintro rfl; have:=hm.1; rw [hA0] at this; simp at this
  obtain ⟨q1,q2,_⟩:=hkp m hmA _ rfl
  exact ⟨by rw [q1]; exact hm.1,q2,(h.above hm hm1).1⟩
 refine Tr.WF.bump ⟨h.lim,⟨?_,?_⟩,?_,fun m hk =>?_,?_,fun m s' k hs =>?_,fun k =>?_,fun k =>?_,fun k h1 h2 =>?_,fun k h2 =>?_,fun k =>?_,fun k h1 h2 =>?_,fun k =>?_⟩
 ·have:=h.len.1
  simp only [Tr.upd,Tr.put,List.length_modify]
  split <;> simp <;> omega
 ·have:=h.len.2
  show (((T.put T.free (Nd.made inn kd text)).upd inn (Nd.addE s A)).N.length:Int)<=T.limit+1
  simp only [Tr.upd,Tr.put,List.length_modify]
  split
  ·rw [List.length_set]; exact this
  ·rename_i hge
   have hfull:freeL (T.N.drop 1)=(T.N.drop 1).length:=by
    have h1:=freeL_le (T.N.drop 1)
    have h2:T.free=freeL (T.N.drop 1)+1:=rfl
    rw [List.length_drop] at h1 ⊢
    omega
   have hc:=freeL_full _ hfull
   have hle:(T.N.drop 1).countP (fun x=>decide (x.kind≠0#8))<=T.len:=by
    unfold Tr.len
    exact (List.drop_sublist 1 T.N).countP_le
   rw [hc,List.length_drop] at hle
   rw [List.length_append,List.length_singleton]
   omega
 ·rw [(hkp _ (Ne.symm hAz) _ rfl).1]; exact h.n0
 ·rw [hnode] at hk ⊢
  split at hk
  ·exact (hin hk).elim
  ·rename_i e
   rw [if_neg e]
   split at hk
   ·exact (hk0 hk).elim
   ·rename_i e2
    rw [if_neg e2]
    exact h.zero m hk
 ·obtain ⟨q1,q2,q3,_⟩:=hkp 1#16 (Ne.symm hA1) _ rfl
  rw [q1,q2,q3]; exact h.root
 ·have old:∀ m,m≠A->(s',k)∈(T.node m).ents->(((T.put T.free (Nd.made inn kd text)).upd inn (Nd.addE s A)).node m).kind=2#8/\(((T.put T.free (Nd.made inn kd text)).upd inn (Nd.addE s A)).node m).links≠0/\okName s'=true/\(((T.put T.free (Nd.made inn kd text)).upd inn (Nd.addE s A)).node k).kind≠0#8/\k≠1#16/\((((T.put T.free (Nd.made inn kd text)).upd inn (Nd.addE s A)).node k).kind=2#8->(((T.put T.free (Nd.made inn kd text)).upd inn (Nd.addE s A)).node k).parent=m):=by
   intro m hm hs
   have he:=h.ents m s' k hs
   have hkA:k≠A:=by rintro rfl; exact he.2.2.2.1 hA0
   obtain ⟨q1,q2,q3,_⟩:=hkp m hm _ rfl
   obtain ⟨p1,p2,p3,_⟩:=hkp k hkA _ rfl
   rw [q1,q3,p1,p2]
   exact he
  by_cases hmA:m=A
  ·subst hmA
   rw [hnA] at hs
   simp [Nd.made] at hs
  ·by_cases hmi:m=inn
   ·subst hmi
    rw [hnode,if_pos rfl] at hs
    rcases mem_insertE.1 hs with g | g
    ·simp only [Prod.mk.injEq] at g
     obtain ⟨rfl,rfl⟩:=g
     obtain ⟨q1,q2,q3,_⟩:=hkp m hmA _ rfl
     rw [q1,q3,hnA]
     exact ⟨d1,d3,d4,hk0,hA1,fun e=>by have e:kd=2#8:=e; show (if kd=2#8 then m else 0#16)=m; rw [if_pos e]⟩
    ·exact old m hmA g
   ·rw [hnode,if_neg hmi,if_neg hmA] at hs
    exact old m hmA hs
 ·rw [hnode]
  split
  ·exact (h.rising inn).insert d2
  ·split
   ·exact List.Pairwise.nil
   ·exact h.rising k
 ·rw [hnode]
  split
  ·show (insertE (s,A) (T.node inn).ents).length<=32
   rw [insertE_length]; omega
  ·split
   ·exact Nat.zero_le _
   ·exact h.size k
 ·rw [hrf]
  by_cases e:k=A
  ·subst e
   rw [hnA,hrA,if_pos rfl]; rfl
  ·obtain ⟨q1,q2,q3,_⟩:=hkp k e _ rfl
   rw [q1] at h2
   rw [q3,if_neg (Ne.symm e)]
   exact h.links k h1 h2
 ·rw [hrf]
  by_cases e:k=A
  ·subst e
   rw [hrA,if_pos rfl]; exact Nat.le_refl _
  ·rw [(hkp k e _ rfl).1] at h2
   rw [if_neg (Ne.symm e)]
   exact h.dirs k h2
 ·by_cases e:k=A
  ·subst e
   rw [hnA]; exact Int.le_refl _
  ·rw [(hkp k e _ rfl).2.2.2.1]; exact h.held k
 ·by_cases e:k=A
  ·subst e
   rw [hnA] at h1
   have h1:kd=2#8:=h1
   have hli:T.Live inn:=⟨d1,d3⟩
   have hdp:=hlim2 h1
   unfold Tr.deep at hdp
   rw [Tr.deepF_root (h.depth inn d1 d3) (g:=17) (by omega)] at hdp
   have hri:=Tr.rootIn_mono (Tr.rootIn_deep (h.depth inn d1 d3)) (g:=15) (by omega)
   refine .inr ⟨by rw [hnA]; exact h1,?_⟩
   rw [hnA]
   show Tr.rootIn _ 15 (if kd=2#8 then inn else 0#16)
   rw [if_pos h1]
   exact tr hli hri
  ·obtain ⟨q1,q2,q3,_⟩:=hkp k e _ rfl
   rw [q1] at h1
   rw [q3] at h2
   exact tr ⟨h1,h2⟩ (h.depth k h1 h2)
 ·by_cases e:k=A
  ·subst e
   rw [hnA]; exact Nat.zero_le _
  ·rw [(hkp k e _ rfl).2.2.2.2]; exact h.data k
theorem Tr.WF.make_node (h:T.WF) (inn:BitVec 16) (s:NameL) (kd:BitVec 8) (text:List UInt8):(T.make inn s kd text).1=T\/((T.make inn s kd text).1.change=T.change+1/\kd≠0#8/\∃ A,A=BitVec.ofNat 16 T.free/\(T.node A).kind=0#8/\inn≠A/\∀ m,(T.make inn s kd text).1.node m=if m=inn then Nd.addE s A (T.node inn) else if m=A then Nd.made inn kd text else T.node m):=by
 unfold Tr.make
 split
 ·exact .inl rfl
 split
 ·exact .inl rfl
 split
 ·exact .inl rfl
 rename_i hr hkd hlim
 refine .inr ⟨rfl,fun e=>hkd (.inl e),BitVec.ofNat 16 T.free,rfl,?_⟩
 have hr:T.room inn s=0:=by simpa using hr
 obtain ⟨d1,d2,d3,d4,d5⟩:=Tr.room_ok hr
 have hl16:=h.len16
 have hfree:=Tr.free_ok (T:=T) (by have:=h.len.1; omega) (by omega)
 have hA0:=hfree.zero
 have hin:(T.node inn).kind≠0#8:=by rw [d1]; decide
 have hAi:inn≠BitVec.ofNat 16 T.free:=by intro e; rw [e] at hin; exact hin hA0
 have hpi:(T.put T.free (Nd.made inn kd text)).node inn=T.node inn:=by rw [Tr.node_put hfree.le hfree.lt,if_neg hAi]
 refine ⟨hA0,hAi,fun m =>?_⟩
 rw [Tr.bump_node,Tr.node_upd (by rw [hpi]; exact hin),hpi]
 split
 ·rfl
 ·rw [Tr.node_put hfree.le hfree.lt]
end
end Go.AM
end
section
namespace Go.AM
def Tr.Below (T:Tr) (n:BitVec 16):Nat->BitVec 16->Prop
 | 0,m=>m=n
 | j+1,m=>m≠1#16/\T.Below n j (T.node m).parent
section
variable {T T' T1:Tr} {n k:BitVec 16}
theorem Tr.WF.no_loop (h:T.WF) {m:BitVec 16} (hm:T.Live m) (h1:m≠1#16):m≠(T.node m).parent:=by
 intro e
 have:=h.deep_succ hm h1
 rw [<- e] at this
 omega
theorem Tr.WF.not_below (h:T.WF):∀ (f:Nat) (m:BitVec 16),T.Live m->T.rootIn f m->T.withinF n (f+1) m=false->∀ j,¬ T.Below n j m
 | f,m,hm,hr,hw,0,hb=>by
  have hb:m=n:=hb
  subst hb
  simp [Tr.withinF,hm.1] at hw
 | 0,m,hm,hr,hw,j+1,hb=>hb.1 hr
 | f+1,m,hm,hr,hw,j+1,hb=>by
  have hp:=h.above hm hb.1
  have hl:=h.no_loop hm hb.1
  have hr':=hr.resolve_left hb.1
  by_cases e:m=n
  ·subst e
   simp [Tr.withinF,hm.1] at hw
  ·rw [Tr.withinF] at hw
   simp only [hm.1,ne_eq,not_true,if_false,if_neg e,if_neg hl] at hw
   exact Tr.WF.not_below h f _ hp.1 hr'.2 hw j hb.2
theorem foldl_max (g:NameL×BitVec 16->Nat) (p:NameL×BitVec 16->Prop) [DecidablePred p]:∀ (l:List (NameL×BitVec 16)) (b:Nat),b<=l.foldl (fun b e=>if p e then max b (g e) else b) b/\∀ e∈l,p e->g e<=l.foldl (fun b e=>if p e then max b (g e) else b) b
 | [],b=>⟨Nat.le_refl _,by simp⟩
 | x :: l,b=>by
  simp only [List.foldl_cons]
  obtain ⟨h1,h2⟩:=foldl_max g p l (if p x then max b (g x) else b)
  refine ⟨Nat.le_trans ?_ h1,fun e he hp =>?_⟩
  ·split <;> omega
  ·rcases List.mem_cons.1 he with rfl | he
   ·refine Nat.le_trans ?_ h1
    rw [if_pos hp]; omega
   ·exact h2 e he hp
theorem Tr.WF.tall_succ (h:T.WF) {m:BitVec 16} (hm:T.Live m) (h1:m≠1#16):T.tall m+1<=T.tall (T.node m).parent:=by
 obtain ⟨hp,s,hs⟩:=h.above hm h1
 unfold Tr.tall
 have e1:=Tr.tallF_eq T 17 m (h.fits17 hm) 20 (by omega)
 have e2:=Tr.tallF_eq T 17 m (h.fits17 hm) 19 (by omega)
 rw [e1,<- e2]
 have:=(foldl_max (fun e=>T.tallF 19 e.2) (fun e=>(T.node e.2).kind=2#8) (T.node (T.node m).parent).ents 0).2 (s,m) hs hm.1
 have e3:T.tallF 20 (T.node m).parent=((T.node (T.node m).parent).ents.foldl (fun b e=>if (T.node e.2).kind=2#8 then max b (T.tallF 19 e.2) else b) 0)+1:=rfl
 rw [e3]
 exact Nat.succ_le_succ this
theorem Tr.tall_pos (T:Tr) (m:BitVec 16):1<=T.tall m:=by
 have:T.tall m=((T.node m).ents.foldl (fun b e=>if (T.node e.2).kind=2#8 then max b (T.tallF 19 e.2) else b) 0)+1:=rfl
 omega
theorem Tr.WF.below_tall (h:T.WF):∀ (j:Nat) (m:BitVec 16),T.Live m->T.Below n j m->j+T.tall m<=T.tall n
 | 0,m,_,hb=>by
  have hb:m=n:=hb
  subst hb; omega
 | j+1,m,hm,hb=>by
  have h1:=h.tall_succ hm hb.1
  have h2:=Tr.WF.below_tall h j _ (h.above hm hb.1).1 hb.2
  omega
theorem Tr.WF.moved (h:T1.WF) (fr to n:BitVec 16) (s other:NameL) (hs:alook s (T1.node fr).ents=some n) (hto:T1.Live to) (ho:alook other ((T1.upd fr (Nd.delE s)).node to).ents=none) (hlen:((T1.upd fr (Nd.delE s)).node to).ents.length<32)
  (hok:okName other=true) (hdir:(T1.node n).kind=2#8->(∀ j,¬ T1.Below n j to)/\∀ j m,T1.Live m->T1.Below n j m->T1.deep to+j+1<=16):(Tr.moved T1 fr s to other n).WF:=by
 have hsm:=alook_mem hs
 obtain ⟨f1,f2,f3,f4,f5,f6⟩:=h.ents fr s n hsm
 have hf0:(T1.node fr).kind≠0#8:=by rw [f1]; decide
 have ht0:(T1.node to).kind≠0#8:=by rw [hto.1]; decide
 have hnt:n≠to:=by
  rintro rfl
  exact (hdir hto.1).1 0 rfl
 have hV:=fun k=>Tr.node_upd hf0 (Nd.delE s) k
 obtain ⟨V,hVd⟩:∃ V,V=T1.upd fr (Nd.delE s):=⟨_,rfl⟩
 unfold Tr.moved
 rw [<- hVd] at hV ho hlen ⊢
 have hVsub:∀ m x,x∈(V.node m).ents->x∈(T1.node m).ents:=by
  intro m x hx
  rw [hV] at hx
  split at hx
  ·rename_i e; subst e; exact (adel_sub s _).subset hx
  ·exact hx
 have hVk:∀ m,(V.node m).kind=(T1.node m).kind/\(V.node m).parent=(T1.node m).parent/\(V.node m).links=(T1.node m).links/\(V.node m).held=(T1.node m).held/\(V.node m).data=(T1.node m).data/\((T1.node m).kind=0#8->V.node m=T1.node m):=by
  intro m
  rw [hV]
  split
  ·rename_i e; subst e; exact ⟨rfl,rfl,rfl,rfl,rfl,fun e=>(hf0 e).elim⟩
  ·exact ⟨rfl,rfl,rfl,rfl,rfl,fun _=>rfl⟩
 have hVr:∀ m,V.refs m+(if n=m then 1 else 0)=T1.refs m:=by
  intro m
  have:=Tr.refs_upd (Tr.node_lt hf0) (Nd.delE s) m
  have e:cntE m (Nd.delE s (T1.node fr)).ents+(if n=m then 1 else 0)=cntE m (T1.node fr).ents:=cntE_del m hs
  rw [hVd]; omega
 have hVt0:(V.node to).kind≠0#8:=by rw [(hVk to).1]; exact ht0
 have hU:=fun k=>Tr.node_upd hVt0 (Nd.addE other n) k
 obtain ⟨U,hUd⟩:∃ U,U=V.upd to (Nd.addE other n):=⟨_,rfl⟩
 rw [<- hUd] at hU ⊢
 have hUk:∀ m,(U.node m).kind=(T1.node m).kind/\(U.node m).parent=(T1.node m).parent/\(U.node m).links=(T1.node m).links/\(U.node m).held=(T1.node m).held/\(U.node m).data=(T1.node m).data/\((T1.node m).kind=0#8->U.node m=T1.node m):=by
  intro m
  rw [hU]
  split
  ·rename_i e; subst e
   obtain ⟨q1,q2,q3,q4,q5,q6⟩:=hVk m
   exact ⟨q1,q2,q3,q4,q5,fun e=>(ht0 e).elim⟩
  ·exact hVk m
 have hUr:∀ m,U.refs m=T1.refs m:=by
  intro m
  have:=Tr.refs_upd (Tr.node_lt hVt0) (Nd.addE other n) m
  have e:cntE m (Nd.addE other n (V.node to)).ents=cntE m (V.node to).ents+if n=m then 1 else 0:=cntE_insert m (other,n) _
  have:=hVr m
  rw [hUd]; omega
 have hUN:U.N.length=T1.N.length/\U.limit=T1.limit:=by rw [hUd,hVd]; simp [Tr.upd]
 obtain ⟨W,hWd⟩:∃ W,W=(if (T1.node n).kind=2#8 then U.upd n (fun x=>{ x with parent:=to }) else U):=⟨_,rfl⟩
 show Tr.WF (Tr.bump (if (T1.node n).kind=2#8 then U.upd n (fun x=>{ x with parent:=to }) else U))
 rw [<- hWd]
 have hUn0:(U.node n).kind≠0#8:=by rw [(hUk n).1]; exact f4
 have hW:∀ m,(W.node m).kind=(T1.node m).kind/\(W.node m).parent=(if m=n/\(T1.node n).kind=2#8 then to else (T1.node m).parent)/\(W.node m).links=(T1.node m).links/\(W.node m).held=(T1.node m).held/\(W.node m).data=(T1.node m).data/\((T1.node m).kind=0#8->W.node m=T1.node m)/\(W.node m).ents=(U.node m).ents:=by
  intro m
  obtain ⟨q1,q2,q3,q4,q5,q6⟩:=hUk m
  rw [hWd]
  split
  ·rename_i hd
   rw [Tr.node_upd hUn0]
   split
   ·rename_i e; subst e
    exact ⟨q1,by simp [hd],q3,q4,q5,fun e=>(f4 e).elim,rfl⟩
   ·rename_i e
    exact ⟨q1,by simp [e,q2],q3,q4,q5,q6,rfl⟩
  ·rename_i hd
   exact ⟨q1,by simp [hd,q2],q3,q4,q5,q6,rfl⟩
 have hWr:∀ m,W.refs m=T1.refs m:=by
  intro m
  rw [<- hUr m,hWd]
  split
  ·exact Tr.refs_upd_same (Tr.node_lt hUn0) m rfl
  ·rfl
 have hWN:W.N.length=T1.N.length/\W.limit=T1.limit:=by
  rw [hWd]
  split
  ·simpa [Tr.upd] using hUN
  ·exact hUN
 have stay:∀ {f m},T1.Live m->((T1.node n).kind=2#8->∀ j,¬ T1.Below n j m)->T1.rootIn f m->W.rootIn f m:=by
  intro f m hm hb
  refine Tr.rootIn_of (fun m=>T1.Live m/\((T1.node n).kind=2#8->∀ j,¬ T1.Below n j m)) (fun m hm hm1 =>?_) ⟨hm,hb⟩
  refine ⟨by rw [(hW m).1]; exact hm.1.1,?_,(h.above hm.1 hm1).1,fun hd j hb=>hm.2 hd (j+1) ⟨hm1,hb⟩⟩
  rw [(hW m).2.1,if_neg]
  rintro ⟨e,hd⟩
  exact hm.2 hd 0 e
 have hdto:T1.rootIn (T1.deep to) to:=by
  have h1:=h.depth to hto.1 hto.2
  unfold Tr.deep
  rw [Tr.deepF_root h1 (g:=17) (by omega)]
  exact Tr.rootIn_deep h1
 have fall:(T1.node n).kind=2#8->∀ (j:Nat) (m:BitVec 16),T1.Live m->T1.Below n j m->W.rootIn (T1.deep to+j+1) m:=by
  intro hd j
  have at_n:W.rootIn (T1.deep to+1) n:=by
   refine .inr ⟨by rw [(hW n).1]; exact hd,?_⟩
   rw [(hW n).2.1,if_pos ⟨rfl,hd⟩]
   exact stay hto (fun _=>(hdir hd).1) hdto
  induction j with
  | zero =>
   intro m hm hb
   have hb:m=n:=hb
   subst hb
   exact at_n
  | succ j ih =>
   intro m hm hb
   by_cases e:m=n
   ·subst e
    exact Tr.rootIn_mono at_n (by omega)
   ·refine .inr ⟨by rw [(hW m).1]; exact hm.1,?_⟩
    rw [(hW m).2.1,if_neg fun x=>e x.1]
    exact ih _ (h.above hm hb.1).1 hb.2
 refine Tr.WF.bump ⟨by rw [hWN.2]; exact h.lim,by rw [hWN.1,hWN.2]; exact h.len,by rw [(hW _).1]; exact h.n0,fun m hm =>?_,?_,fun m s' k hk =>?_,fun m =>?_,fun m =>?_,fun m h1 h2 =>?_,fun m h2 =>?_,fun m =>?_,fun m h1 h2 =>?_,fun m =>?_⟩
 ·rw [(hW m).1] at hm
  rw [(hW m).2.2.2.2.2.1 hm]
  exact h.zero m hm
 ·obtain ⟨q1,q2,q3,_⟩:=hW 1#16
  rw [q1,q2,q3,if_neg fun x=>f5 x.1.symm]
  exact h.root
 ·rw [(hW m).2.2.2.2.2.2] at hk
  have old:(s',k)∈(V.node m).ents->(W.node m).kind=2#8/\(W.node m).links≠0/\okName s'=true/\(W.node k).kind≠0#8/\k≠1#16/\((W.node k).kind=2#8->(W.node k).parent=m):=by
   intro hv
   have he:=h.ents m s' k (hVsub m _ hv)
   rw [(hW m).1,(hW m).2.2.1,(hW k).1,(hW k).2.1,if_neg]
   ·exact he
   ·rintro ⟨e,hd⟩
    subst e
    have h1:=Tr.refs_one hv
    have h2:=hVr k
    have h3:=h.dirs k hd
    rw [if_pos rfl] at h2
    omega
  rw [hU] at hk
  split at hk
  ·rename_i e; subst e
   rcases mem_insertE.1 hk with g | g
   ·simp only [Prod.mk.injEq] at g
    obtain ⟨rfl,rfl⟩:=g
    rw [(hW m).1,(hW m).2.2.1,(hW k).1,(hW k).2.1]
    exact ⟨hto.1,hto.2,hok,f4,f5,fun hd=>if_pos ⟨rfl,hd⟩⟩
   ·exact old g
  ·exact old hk
 ·rw [(hW m).2.2.2.2.2.2]
  have hv:∀ m,Rising (V.node m).ents:=fun m=>by
   rw [hV]; split
   ·exact (h.rising fr).del
   ·exact h.rising m
  rw [hU]; split
  ·exact (hv to).insert ho
  ·exact hv m
 ·rw [(hW m).2.2.2.2.2.2,hU]; split
  ·show (insertE (other,n) (V.node to).ents).length<=32
   rw [insertE_length]; omega
  ·rw [hV]; split
   ·exact Nat.le_trans (adel_sub s _).length_le (h.size fr)
   ·exact h.size m
 ·rw [(hW m).1] at h2
  rw [(hW m).2.2.1,hWr]
  exact h.links m h1 h2
 ·rw [(hW m).1] at h2
  rw [hWr]; exact h.dirs m h2
 ·rw [(hW m).2.2.2.1]; exact h.held m
 ·rw [(hW m).1] at h1
  rw [(hW m).2.2.1] at h2
  by_cases hb:(T1.node n).kind=2#8/\∃ j,T1.Below n j m
  ·obtain ⟨hd,j,hb⟩:=hb
   exact Tr.rootIn_mono (fall hd j m ⟨h1,h2⟩ hb) ((hdir hd).2 j m ⟨h1,h2⟩ hb)
  ·exact stay ⟨h1,h2⟩ (fun hd j hj=>hb ⟨hd,j,hj⟩) (h.depth m h1 h2)
 ·rw [(hW m).2.2.2.2.1]; exact h.data m
theorem adel_length {s:NameL} {v:BitVec 16}:∀ {l:List (NameL×BitVec 16)},alook s l=some v->(adel s l).length+1=l.length
 | [],h=>by simp [alook] at h
 | e :: l,h=>by
  rw [alook_cons] at h
  by_cases he:s=e.1
  ·subst he
   simp [adel]
  ·rw [if_neg he] at h
   have:=adel_length h
   have he':¬ e.1=s:=fun x=>he x.symm
   simp only [adel,if_neg he',List.length_cons]
   omega
theorem Tr.deepF_of (P:BitVec 16->Prop) (hP:∀ m,P m->m≠1#16->(T'.node m).parent=(T.node m).parent/\P (T.node m).parent):∀ (f:Nat) (m:BitVec 16),P m->T'.deepF f m=T.deepF f m
 | 0,_,_=>rfl
 | f+1,m,hm=>by
  simp only [Tr.deepF]
  split
  ·rfl
  ·rename_i h1
   obtain ⟨q1,q2⟩:=hP m hm h1
   rw [q1,Tr.deepF_of P hP f _ q2]
theorem Tr.tidy_self {y:BitVec 16} (hk:(T.node y).kind≠0#8) (h:((T.tidy y).node y).kind=2#8):(T.node y).kind=2#8/\((T.tidy y).node y).links=(T.node y).links:=by
 unfold Tr.tidy at h ⊢
 split
 ·rename_i hc
  rw [if_pos hc,Tr.node_upd hk,if_pos rfl] at h
  simp [Nd.none] at h
 ·rename_i hc
  rw [if_neg hc] at h
  exact ⟨h,rfl⟩
theorem Tr.WF.drop_gone (h:T.WF) {to o:BitVec 16} {other:NameL} {d:Bool} (hl:T.look to other=(o,0)) (h0:(T.drop to other d).2=0):¬ (T.drop to other d).1.Live o:=by
 have hw:=h.drop to other d
 intro hlv
 have hlk:(T.look to other).2=0:=by rw [hl]
 obtain ⟨g1,g2⟩:=Tr.look_ok hlk
 rw [hl] at g2
 have g2:alook other (T.node to).ents=some o:=g2
 have hm:(other,o)∈(T.node to).ents:=alook_mem g2
 obtain ⟨e1,e2,e3,o0,o1,e6⟩:=h.ents to other o hm
 have hoi:o≠to:=by rintro rfl; exact h.no_self hm
 have hin:(T.node to).kind≠0#8:=by rw [e1]; decide
 have hv1:((T.upd to (Nd.delE other)).node o)=T.node o:=by rw [Tr.node_upd hin,if_neg hoi]
 have hv2:(((T.upd to (Nd.delE other)).upd o (Nd.addL (-1))).bump).node o=Nd.addL (-1) (T.node o):=by
  rw [Tr.bump_node,Tr.node_upd (by rw [hv1]; exact o0),if_pos rfl,hv1]
 have hd:(T.drop to other d).1=(((T.upd to (Nd.delE other)).upd o (Nd.addL (-1))).bump).tidy o:=by
  unfold Tr.drop at h0 ⊢
  rw [hl] at h0 ⊢
  simp only [ne_eq,not_true,if_false] at h0 ⊢
  split
  ·rename_i c; rw [if_pos c] at h0; simp at h0
  ·split
   ·rename_i c c'; rw [if_neg c,if_pos c'] at h0; simp at h0
   ·split
    ·rename_i c c' c''; rw [if_neg c,if_neg c',if_pos c''] at h0; simp at h0
    ·rfl
 rw [hd] at hlv
 obtain ⟨q1,q2⟩:=Tr.tidy_self (by rw [hv2]; exact o0) hlv.1
 rw [hv2] at q1 q2
 have hk:(T.node o).kind=2#8:=q1
 have h1:=h.dirs o hk
 have h2:=h.links o o1 o0
 have h3:=Tr.refs_one hm
 apply hlv.2
 rw [q2]
 show (T.node o).links + -1=0
 omega
theorem Tr.WF.look_live (h:T.WF) {fr n:BitVec 16} {s:NameL} (hl:alook s (T.node fr).ents=some n) (hk:(T.node n).kind=2#8):T.Live n:=h.live_of (alook_mem hl) hk
theorem Tr.WF.move (h:T.WF) (fr:BitVec 16) (s:NameL) (to:BitVec 16) (other:NameL):(T.move fr s to other).1.WF:=by
 unfold Tr.move
 split
 ·exact h
 split
 ·exact h
 split
 ·exact h
 split
 ·exact h
 split
 ·exact h
 rename_i c1 c2 c3 c4 c5
 have c1:(T.look fr s).2=0:=by simpa using c1
 have c2:T.dir to=0:=by simpa using c2
 obtain ⟨k1,k2⟩:=Tr.look_ok c1
 have k3:=Tr.dir_zero.1 c2
 generalize (T.look fr s).1=n at *
 have c5:T.may n to other (alook other (T.node to).ents)=0:=by simpa using c5
 have hmo:=Tr.mayOld_of c5
 unfold Tr.may at c5
 have p1:okName other=true:=by
  cases ho:okName other with
  | true=>rfl
  | false=>simp [ho] at c5
 have p2:(T.node to).links≠0:=by
  intro hz
  simp [p1,hz] at c5
 have p3:(T.node n).kind=2#8->T.within n to=false:=by
  intro hd
  cases hw:T.within n to with
  | false=>rfl
  | true=>simp [p1,p2,hd,hw] at c5
 have p4:(T.node n).kind=2#8->T.deep to+T.tall n<=16:=by
  intro hd
  refine Classical.byContradiction fun hc =>?_
  have hc:16<T.deep to+T.tall n:=by omega
  simp [p1,p2,hd,p3 hd,hc] at c5
 have hto:T.Live to:=⟨k3,p2⟩
 have fr0:(T.node fr).kind≠0#8:=by rw [k1]; decide
 have hnb:(T.node n).kind=2#8->∀ j,¬ T.Below n j to:=by
  intro hd
  refine h.not_below 16 to hto (h.depth to k3 p2) ?_
  have:=p3 hd
  unfold Tr.within at this
  rwa [Tr.withinF_root h.root.1 h.root.2.1 n (h.depth to k3 p2) (g:=18) (by omega)] at this
 have hbt:(T.node n).kind=2#8->∀ j m,T.Live m->T.Below n j m->T.deep to+j+1<=16:=by
  intro hd j m hm hb
  have h1:=h.below_tall j m hm hb
  have h2:=Tr.tall_pos T m
  have h3:=p4 hd
  omega
 cases ho:alook other (T.node to).ents with
 | none =>
  simp only [Option.isSome_none,Bool.false_eq_true,if_false]
  have hV:=Tr.node_upd fr0 (Nd.delE s) to
  refine h.moved fr to n s other k2 hto ?_ ?_ p1 fun hd=>⟨hnb hd,hbt hd⟩
  ·rw [hV]; split
   ·rename_i e
    show alook other (adel s (T.node fr).ents)=none
    rw [alook_adel _ _ (h.rising fr).nodup,<- e,ho]
    split <;> rfl
   ·exact ho
  ·rw [hV]; split
   ·have:=adel_length k2
    have:=h.size fr
    show (adel s (T.node fr).ents).length<32
    omega
   ·rename_i e
    refine Classical.byContradiction fun hc=>c4 ⟨ho,fun x=>e x.symm,by omega⟩
 | some o =>
  simp only [Option.isSome_some,if_true]
  rw [ho] at hmo c3
  have hon:o≠n:=fun e=>c3 (by rw [e])
  obtain ⟨e1,e2,e3,o0,o1,e6⟩:=h.pos ho
  obtain ⟨g1,g2⟩:=Tr.drop_ok k3 ho hmo o0
  have hlk:T.look to other=(o,0):=by
   unfold Tr.look
   simp [c2,ho]
  have hgone:=h.drop_gone (d:=decide ((T.node n).kind=2#8)) hlk g1
  have h1:=h.drop to other (decide ((T.node n).kind=2#8))
  generalize (T.drop to other (decide ((T.node n).kind=2#8))).1=T1 at *
  have hm:=hmo
  unfold Tr.mayOld at hm
  have of:fr≠o:=by
   rintro rfl
   have hpos:0<(T.node fr).ents.length:=by
    cases he:(T.node fr).ents with
    | nil=>rw [he] at k2; simp [alook] at k2
    | cons a b=>simp
   simp only [k1] at hm
   by_cases d1:(T.node n).kind=2#8
   ·simp [d1,hpos] at hm
   ·simp [d1] at hm
  have ot:to≠o:=fun e=>h.no_self (n:=to) (s:=other) (by have:=alook_mem ho; rwa [<- e] at this)
  have hsame:∀ m,m≠o->(T1.node m).kind=(T.node m).kind/\(T1.node m).parent=(T.node m).parent/\(T1.node m).links=(T.node m).links:=by
   intro m hmo
   rw [g2 m hmo]
   split
   ·rename_i e; subst e; exact ⟨rfl,rfl,rfl⟩
   ·exact ⟨rfl,rfl,rfl⟩
  have hlive:∀ m,T1.Live m->m≠o/\T.Live m:=by
   intro m hlv
   have hmo:m≠o:=fun e=>hgone (by rw [<- e]; exact hlv)
   obtain ⟨q1,q2,q3⟩:=hsame m hmo
   exact ⟨hmo,by rw [<- q1]; exact hlv.1,by rw [<- q3]; exact hlv.2⟩
  have hbel:∀ j m,T1.Live m->T1.Below n j m->T.Below n j m:=by
   intro j
   induction j with
   | zero=>intro m _ hb; exact hb
   | succ j ih =>
    intro m hm hb
    refine ⟨hb.1,?_⟩
    rw [<- (hsame m (hlive m hm).1).2.1]
    exact ih _ (h1.above hm hb.1).1 hb.2
  have hto1:T1.Live to:=by
   obtain ⟨q1,q2,q3⟩:=hsame to ot
   exact ⟨by rw [q1]; exact k3,by rw [q3]; exact p2⟩
  have hdp:T1.deep to=T.deep to:=by
   unfold Tr.deep
   refine (Tr.deepF_of T1.Live (fun m hm hm1 =>?_) 17 to hto1).symm
   exact ⟨((hsame m (hlive m hm).1).2.1).symm,(h1.above hm hm1).1⟩
  have hso:fr=to->s≠other:=by
   rintro e rfl
   rw [e,ho] at k2
   exact hon (Option.some.inj k2)
  have hfr1:alook s (T1.node fr).ents=some n:=by
   rw [g2 fr of]
   split
   ·rename_i e
    show alook s (adel other (T.node to).ents)=some n
    rw [alook_adel _ _ (h.rising to).nodup,if_neg (hso e),<- e,k2]
   ·exact k2
  have fr10:(T1.node fr).kind≠0#8:=by rw [(hsame fr of).1]; exact fr0
  have hV:=Tr.node_upd fr10 (Nd.delE s) to
  have hent:(T1.node to).ents=adel other (T.node to).ents:=by rw [g2 to ot,if_pos rfl]; rfl
  have hdl:=adel_length ho
  have hsz:=h.size to
  refine h1.moved fr to n s other hfr1 hto1 ?_ ?_ p1 fun hd =>?_
  ·rw [hV]; split
   ·rename_i e
    show alook other (adel s (T1.node fr).ents)=none
    rw [alook_adel _ _ (h1.rising fr).nodup,<- e,hent,alook_adel _ _ (h.rising to).nodup]
    simp
   ·rw [hent,alook_adel _ _ (h.rising to).nodup,if_pos rfl]
  ·rw [hV]; split
   ·rename_i e
    have:=(adel_sub s (T1.node fr).ents).length_le
    rw [<- e,hent] at this
    show (adel s (T1.node fr).ents).length<32
    rw [<- e,hent]
    omega
   ·rw [hent]; omega
  ·rw [(hsame n (Ne.symm hon)).1] at hd
   rw [hdp]
   exact ⟨fun j hb=>hnb hd j (hbel j to hto1 hb),fun j m hm hb=>hbt hd j m (hlive m hm).2 (hbel j m hm hb)⟩
end
end Go.AM
end
section
namespace Go.AM
section
variable {T T':Tr} {n k:BitVec 16} {B:Int}
def Tr.HB (T:Tr) (B:Int):Prop:=∀ n,(T.node n).held<=B
theorem Tr.upd_or (T:Tr) (n k:BitVec 16) (f:Nd->Nd):(T.upd n f).node k=T.node k\/(T.upd n f).node k=f (T.node k):=by
 unfold Tr.upd Tr.node
 simp only [List.getD_eq_getElem?_getD,List.getElem?_modify]
 cases h:T.N[k.toNat]? with
 | none=>exact .inl rfl
 | some x =>
  by_cases e:n.toNat=k.toNat
  ·right; simp [e]
  ·left; simp [e]
theorem Tr.HB.upd (h:T.HB B) (f:Nd->Nd) (hf:∀ x:Nd,x.held<=B->(f x).held<=B):(T.upd n f).HB B:=by
 intro k
 rcases T.upd_or n k f with e | e
 ·rw [e]; exact h k
 ·rw [e]; exact hf _ (h k)
theorem Tr.HB.bump (h:T.HB B):T.bump.HB B:=h
theorem Tr.HB.tidy (h:T.HB B) (hB:0<=B):(T.tidy n).HB B:=by
 unfold Tr.tidy
 split
 ·exact h.upd _ fun _ _=>hB
 ·exact h
theorem Tr.HB.put (h:T.HB B) (hB:0<=B) (a:Nat) (x:Nd) (hx:x.held<=B):(T.put a x).HB B:=by
 intro k
 unfold Tr.put Tr.node
 simp only [List.getD_eq_getElem?_getD]
 have hk:=h k
 unfold Tr.node at hk
 simp only [List.getD_eq_getElem?_getD] at hk
 split
 ·rw [List.getElem?_set]
  split
  ·exact hx
  ·exact hk
 ·rw [List.getElem?_append]
  split
  ·exact hk
  ·cases hz:([x][k.toNat - T.N.length]? : Option Nd) with
   | none=>exact hB
   | some z =>
    have:=List.mem_of_getElem? hz
    simp at this
    subst this
    exact hx
theorem Tr.HB.make (h:T.HB B) (hB:0<=B) (inn:BitVec 16) (s:NameL) (kd:BitVec 8) (text:List UInt8):(T.make inn s kd text).1.HB B:=by
 unfold Tr.make
 repeat' split
 all_goals try exact h
 exact ((h.put hB T.free (Nd.made inn kd text) (show (0:Int)<=B from hB)).upd (Nd.addE s (BitVec.ofNat 16 T.free)) fun x hx=>hx).bump
theorem Tr.HB.add (h:T.HB B) (inn:BitVec 16) (s:NameL) (v:BitVec 16):(T.add inn s v).1.HB B:=by
 unfold Tr.add
 repeat' split
 all_goals try exact h
 exact ((h.upd (Nd.addE s v) fun x hx=>hx).upd (Nd.addL 1) fun x hx=>hx).bump
theorem Tr.HB.drop (h:T.HB B) (hB:0<=B) (inn:BitVec 16) (s:NameL) (d:Bool):(T.drop inn s d).1.HB B:=by
 unfold Tr.drop
 repeat' split
 all_goals try exact h
 exact Tr.HB.tidy (((h.upd (Nd.delE s) fun x hx=>hx).upd (Nd.addL (-1)) fun x hx=>hx).bump) hB
theorem Tr.HB.mono {B':Int} (h:T.HB B) (hb:B<=B'):T.HB B':=fun n=>Int.le_trans (h n) hb
theorem Tr.HB.hold (h:T.HB B) (hB:0<=B) (n:BitVec 16) (more:Bool):(T.hold n more).1.HB (B+1):=by
 have h1:T.HB (B+1):=h.mono (by omega)
 unfold Tr.hold
 split
 ·exact h1
 ·split
  ·intro k
   rcases T.upd_or n k (Nd.addH 1) with e | e
   ·rw [e]; exact h1 k
   ·rw [e]; have:=h k; show (T.node k).held+1<=B+1; omega
  ·split
   ·exact h1
   ·exact Tr.HB.tidy (h1.upd (Nd.addH (-1)) fun x hx=>by show x.held + -1<=B+1; omega) (by omega)
theorem Tr.HB.move (h:T.HB B) (hB:0<=B) (fr:BitVec 16) (s:NameL) (to:BitVec 16) (other:NameL):(T.move fr s to other).1.HB B:=by
 have key:∀ (U:Tr) (n:BitVec 16),U.HB B->(Tr.moved U fr s to other n).HB B:=by
  intro U n hU
  have h2:((U.upd fr (Nd.delE s)).upd to (Nd.addE other n)).HB B:=(hU.upd (Nd.delE s) fun x hx=>hx).upd (Nd.addE other n) fun x hx=>hx
  unfold Tr.moved
  simp only
  split
  ·exact (h2.upd (fun x=>{ x with parent:=to }) fun x hx=>hx).bump
  ·exact h2.bump
 unfold Tr.move
 split
 ·exact h
 split
 ·exact h
 split
 ·exact h
 split
 ·exact h
 split
 ·exact h
 refine key _ _ ?_
 split
 ·exact h.drop hB _ _ _
 ·exact h
theorem Tr.HB.write (h:T.HB B) (n:BitVec 16) (at_:Int) (b:List (BitVec 8)):(T.write n at_ b).1.HB B:=by
 unfold Tr.write
 repeat' split
 all_goals try exact h
 exact (h.upd (fun x=>{ x with data:=writeL x.data at_.toNat b }) fun x hx=>hx).bump
theorem Tr.HB.cut (h:T.HB B) (n:BitVec 16) (size:Int):(T.cut n size).1.HB B:=by
 unfold Tr.cut
 repeat' split
 all_goals try exact h
 exact (h.upd (fun x=>{ x with data:=cutL x.data size.toNat }) fun x hx=>hx).bump
theorem Tr.HB.new (limit:Int):(Tr.new limit).HB 0:=by
 intro n
 unfold Tr.new Tr.node
 simp only [List.getD_eq_getElem?_getD]
 by_cases h0:n.toNat=0
 ·rw [h0]; decide
 ·by_cases h1:n.toNat=1
  ·rw [h1]; decide
  ·rw [List.getElem?_eq_none (by simp; omega)]; decide
def Tr.CB (T T':Tr):Prop:=T.change<=T'.change/\T'.change<=T.change+2
theorem Tr.CB.refl:T.CB T:=⟨Int.le_refl _,by omega⟩
theorem Tr.CB.make (inn:BitVec 16) (s:NameL) (kd:BitVec 8) (text:List UInt8):T.CB (T.make inn s kd text).1:=by
 unfold Tr.make
 repeat' split
 all_goals try exact .refl
 exact ⟨by show T.change<=T.change+1; omega,by show T.change+1<=T.change+2; omega⟩
theorem Tr.CB.add (inn:BitVec 16) (s:NameL) (v:BitVec 16):T.CB (T.add inn s v).1:=by
 unfold Tr.add
 repeat' split
 all_goals try exact .refl
 exact ⟨by show T.change<=T.change+1; omega,by show T.change+1<=T.change+2; omega⟩
theorem Tr.CB.drop (inn:BitVec 16) (s:NameL) (d:Bool):T.CB (T.drop inn s d).1:=by
 have:=Tr.drop_change (T:=T) inn s d
 exact ⟨this.1,by omega⟩
theorem Tr.CB.hold (n:BitVec 16) (more:Bool):T.CB (T.hold n more).1:=by
 unfold Tr.hold
 repeat' split
 all_goals try exact .refl
 ·have e:((T.upd n (Nd.addH (-1))).tidy n).change=T.change:=Tr.tidy_change
  exact ⟨by rw [e]; exact Int.le_refl _,by rw [e]; omega⟩
theorem Tr.CB.write (n:BitVec 16) (at_:Int) (b:List (BitVec 8)):T.CB (T.write n at_ b).1:=by
 unfold Tr.write
 repeat' split
 all_goals try exact .refl
 exact ⟨by show T.change<=T.change+1; omega,by show T.change+1<=T.change+2; omega⟩
theorem Tr.CB.cut (n:BitVec 16) (size:Int):T.CB (T.cut n size).1:=by
 unfold Tr.cut
 repeat' split
 all_goals try exact .refl
 exact ⟨by show T.change<=T.change+1; omega,by show T.change+1<=T.change+2; omega⟩
theorem Tr.move_change {s:NameL} {fr to:BitVec 16} {other:NameL}:T.change<=(T.move fr s to other).1.change/\(T.move fr s to other).1.change<=T.change+2:=by
 have key:∀ (U:Tr) (n:BitVec 16),(Tr.moved U fr s to other n).change=U.change+1:=by
  intro U n
  unfold Tr.moved
  simp only
  split <;> rfl
 have hd:=Tr.drop_change (T:=T) to other (decide ((T.node (T.look fr s).1).kind=2#8))
 unfold Tr.move
 split
 ·exact ⟨Int.le_refl _,by show T.change<=_; omega⟩
 split
 ·exact ⟨Int.le_refl _,by show T.change<=_; omega⟩
 split
 ·exact ⟨Int.le_refl _,by show T.change<=_; omega⟩
 split
 ·exact ⟨Int.le_refl _,by show T.change<=_; omega⟩
 split
 ·exact ⟨Int.le_refl _,by show T.change<=_; omega⟩
 simp only [key]
 split
 ·omega
 ·omega
theorem Tr.CB.move (fr:BitVec 16) (s:NameL) (to:BitVec 16) (other:NameL):T.CB (T.move fr s to other).1:=Tr.move_change
end
end Go.AM
end
section
namespace Go.AM
def topP:PlaceD:=⟨0,1#16⟩
def dirP (T:Tr) (M:List MntD) (p:PlaceD):Bool:=(getT M p.m).isSome&&decide ((T.node p.i).kind=2#8)
def downsN (M:List MntD):Nat->PlaceD->PlaceD
 | 0,p=>p
 | n+1,p=>match downT M p with
  | none=>p
  | some q=>downsN M n q
def downs (M:List MntD) (p:PlaceD):PlaceD:=downsN M M.length p
def upP (T:Tr) (M:List MntD) (p:PlaceD):PlaceD :=
 if dirP T M p=true then if (T.node (downs M p).i).kind=0#8 then topP else seen M ⟨(downs M p).m,(T.node (downs M p).i).parent⟩ else topP
def splitF (cur:NameL):List UInt8->List NameL
 | []=>[cur]
 | c :: s=>if c=47 then cur :: splitF [] s else splitF (cur++[c]) s
def okPart (x:NameL):Bool:=decide (x≠[])&&decide (x≠[46])
def partsL (s:List UInt8):List NameL:=(splitF [] s).filter okPart
structure WayD where
 at_:PlaceD
 left:List NameL
 links:Nat
 deriving DecidableEq
def stepY (T:Tr) (M:List MntD) (w:WayD) (follow:Bool):WayD×Int :=
 match w.left with
 | []=>(w,0)
 | name :: left =>
  if dirP T M w.at_=false then (⟨w.at_,left,w.links⟩,20)
  else if name=[46,46] then
   if (T.node (upP T M w.at_).i).kind≠0#8/\dirP T M (upP T M w.at_)=false then (⟨upP T M w.at_,left,w.links⟩,2) else (⟨upP T M w.at_,left,w.links⟩,0)
  else if 14<name.length then (⟨w.at_,left,w.links⟩,36)
  else if (T.look w.at_.i name).2≠0 then (⟨w.at_,left,w.links⟩,(T.look w.at_.i name).2)
  else
   let n:=(T.look w.at_.i name).1
   if (T.node n).kind=3#8/\(follow=true\/left≠[]) then
    if 8<w.links+1 then (⟨w.at_,left,w.links+1⟩,40)
    else (⟨if (T.node n).text.head? = some 47 then seen M topP else w.at_,partsL (T.node n).text++left,w.links+1⟩,0)
   else if (T.node n).kind=2#8 then (⟨seen M ⟨w.at_.m,n⟩,left,w.links⟩,0)
   else (⟨⟨w.at_.m,n⟩,left,w.links⟩,0)
def walkN (T:Tr) (M:List MntD) (follow:Bool):Nat->WayD->WayD×Int
 | 0,w=>(w,0)
 | f+1,w=>if w.left=[] then (w,0) else if (stepY T M w follow).2≠0 then stepY T M w follow else walkN T M follow f (stepY T M w follow).1
def WayD.need (w:WayD):Nat:=w.left.length+(9 - w.links)*121
def walkW (T:Tr) (M:List MntD) (follow:Bool) (w:WayD):WayD×Int:=walkN T M follow w.need w
def beginW (M:List MntD) (cwd:PlaceD) (path:List UInt8):WayD×Int :=
 if path=[] then (⟨cwd,[],0⟩,2) else if 120<path.length then (⟨cwd,[],0⟩,36)
 else (⟨if path.head? = some 47 then seen M topP else cwd,partsL path,0⟩,0)
def endsSlash (path:List UInt8):Bool:=decide (path.getLast? = some 47)
def findW (T:Tr) (M:List MntD) (cwd:PlaceD) (path:List UInt8) (follow:Bool):PlaceD×Int :=
 if (beginW M cwd path).2≠0 then (PlaceD.zero,(beginW M cwd path).2)
 else
  let r:=walkW T M (follow||endsSlash path) (beginW M cwd path).1
  if r.2≠0 then (PlaceD.zero,r.2)
  else if (T.node r.1.at_.i).kind=0#8 then (PlaceD.zero,2)
  else if endsSlash path=true/\dirP T M r.1.at_=false then (PlaceD.zero,20)
  else (r.1.at_,0)
def nextA (T:Tr) (M:List MntD) (p:PlaceD):Option PlaceD :=
 match downT M p with
 | some q=>some q
 | none=>if (⟨p.m,(T.node p.i).parent⟩:PlaceD)=p\/(T.node (T.node p.i).parent).kind=0#8 then none else some ⟨p.m,(T.node p.i).parent⟩
def aboveN (T:Tr) (M:List MntD):Nat->PlaceD->List PlaceD
 | 0,_=>[]
 | f+1,p=>p :: match nextA T M p with
  | none=>[]
  | some q=>aboveN T M f q
def aboveW (T:Tr) (M:List MntD) (p:PlaceD):List PlaceD:=if dirP T M p=true then aboveN T M 289 p else []
end Go.AM
end
section
namespace Go.AM
open Go.Sort (SWO PermIn SortedIn)
def strR (l:List NameL):List (List Value):=l.map fun s=>[str s]
theorem strR_length (l:List NameL):(strR l).length=l.length:=by simp [strR]
end Go.AM
end
section
namespace Go.AM
section
variable {E:Sy} {H:AH} {Q:Value->AH->Prop}
def cutSl:List UInt8->Option (List UInt8×List UInt8)
 | []=>none
 | c :: s=>if c=47 then some ([],s) else (cutSl s).map fun p=>(c :: p.1,p.2)
theorem splitF_cut:∀ (s cur:List UInt8),splitF cur s=match cutSl s with
  | none=>[cur++s]
  | some p=>(cur++p.1) :: splitF [] p.2
 | [],cur=>by simp [splitF,cutSl]
 | c :: s,cur=>by
  by_cases h:c=47
  ·simp [splitF,cutSl,h]
  ·simp only [splitF,cutSl,h,if_false]
   rw [splitF_cut s (cur++[c])]
   cases cutSl s <;> simp
theorem cutSl_index:∀ s:List UInt8,Lib.indexByte s 47=match cutSl s with | none => -1 | some p=>(p.1.length:Int)
 | []=>rfl
 | c :: s=>by
  have ih:=cutSl_index s
  by_cases h:c=47
  ·subst h; simp [Lib.indexByte,cutSl]
  ·have h':(c == 47)=false:=by simpa using h
   simp only [Lib.indexByte,h',cutSl,h,if_false,ih]
   cases hc:cutSl s with
   | none=>simp
   | some p=>simp
theorem cutSl_eq:∀ {s:List UInt8} {p:List UInt8×List UInt8},cutSl s=some p->s=p.1++47 :: p.2
 | [],p,h=>by simp [cutSl] at h
 | c :: s,p,h=>by
  by_cases k:c=47
  ·subst k; simp [cutSl] at h; subst h; rfl
  ·simp only [cutSl,k,if_false,Option.map_eq_some_iff] at h
   obtain ⟨q,h1,rfl⟩:=h
   simp [cutSl_eq h1]
theorem splitF_count:∀ (s cur:List UInt8),(splitF cur s).length=s.count 47+1
 | [],_=>rfl
 | c :: s,cur=>by
  by_cases h:c=47
  ·subst h; simp [splitF,splitF_count s []]
  ·simp [splitF,h,splitF_count s (cur++[c])]
theorem count_le (s:List UInt8):s.count 47<=s.length:=List.count_le_length
theorem S.f96 (hE:Fold E) (s:List UInt8) (hQ:Q (vi (s.count 47:Nat)) H):E.call (E.fid i.f96) [str s,str [47]] H Q:=by
 apply hE.f96
 have h1:ixStr (str [47]) (.int .i64 0)=some (.int .u8 47):=rfl
 simp [F.f96,h1]
 apply hE.f19
 exact hQ
theorem S.f98 (hE:Fold E) (s:List UInt8) (hQ:Q (vi (Lib.indexByte s 47)) H):E.call (E.fid i.f98) [str s,str [47]] H Q:=by
 apply hE.f98
 simp only [F.f98]
 apply hE.f25
 have h1:ixStr (str [47]) (.int .i64 0)=some (.int .u8 47):=rfl
 by_cases hs:[47]=s
 ·subst hs
  simp [F.f25]
  exact hQ
 ·simp [F.f25,h1,hs]
  apply hE.f26
  simp only [F.f26]
  apply hE.f21
  exact hQ
theorem str_extract (l:List UInt8) (a b:Nat):(⟨l.toArray⟩:ByteArray).extract a b=⟨((l.take b).drop a).toArray⟩:=by
 apply ByteArray.ext
 rw [ByteArray.data_extract]
 simp [List.extract_eq_take_drop,List.drop_take]
theorem slStr_take (l:List UInt8) (n:Nat) (h:n<=l.length):slStr (str l) none (some (vi n))=some (str (l.take n)):=by
 have h':n<=(⟨l.toArray⟩:ByteArray).size:=h
 simp only [str,slStr,bnd]
 rw [if_pos ⟨by omega,by exact_mod_cast h'⟩]
 simp [str_extract]
theorem slStr_drop (l:List UInt8) (n:Nat) (h:n<=l.length):slStr (str l) (some (vi n)) none=some (str (l.drop n)):=by
 have h':n<=(⟨l.toArray⟩:ByteArray).size:=h
 have hz:(⟨l.toArray⟩:ByteArray).size=l.length:=rfl
 simp only [str,slStr,bnd,Option.bind_some]
 rw [if_pos ⟨by omega,by rw [hz]; exact_mod_cast h⟩]
 simp [str_extract,hz]
def fillS (done:List NameL) (n:Nat):List (List Value):=strR done++List.replicate n [str []]
theorem fillS_set (done:List NameL) (n:Nat) (s:NameL):(fillS done (n+1)).set done.length [str s]=fillS (done++[s]) n:=by
 have h:(strR done).length=done.length:=strR_length done
 unfold fillS
 rw [<- h,List.set_append_right _ _ (Nat.le_refl _),Nat.sub_self,List.replicate_succ,List.set_cons_zero]
 simp [strR]
theorem fillS_length (done:List NameL) (n:Nat):(fillS done n).length=done.length+n:=by simp [fillS,strR]
theorem S.f100 (hE:Fold E) (s:List UInt8) (hs:s.length<2 ^ 40) (hQ:∀ v H',Ext H H'->Rows H' 1 v (strR (splitF [] s))->Q v H'):E.call (E.fid i.f100) [str s,str [47]] H Q:=by
 apply hE.f100
 simp only [F.f100]
 apply hE.f102
 have hc:=count_le s
 have hn1:binInt .add (vi (s.count 47:Nat)) (.int .i64 1)=some (vi ((s.count 47+1:Nat):Int)):=i64_inc (by omega)
 have hl1:binInt .add (vi (s.length:Nat)) (.int .i64 1)=some (vi ((s.length+1:Nat):Int)):=i64_inc (by omega)
 simp [F.f102]
 refine S.f96 hE s ?_
 have hcnt:=splitF_count s []
 generalize hN:s.count 47=c at *
 have hmin:fold2 min2 [vi ((c+1:Nat):Int),vi ((s.length+1:Nat):Int)]=some (vi ((c+1:Nat):Int)):=by
  rw [i64_min]
  rw [if_neg (by omega)]
 have hsub:binInt .sub (vi ((c+1:Nat):Int)) (.int .i64 1)=some (vi (c:Nat)):=by
  rw [i64_sub (by omega) (by omega)]; simp
 have hmk:=makeS_all 1 16 (c+1) [str []] rfl (by omega) (by omega)
 simp only [F.f102_j1,hn1,lenStr_s,hl1,hmin,tk_eq,opt_some]
 rw [show (#[(.string ⟨#[]⟩)]:Array Value)=[str []].toArray from rfl,hmk]
 simp only [AM.mk_some,hsub,tk_eq,opt_some]
 have g0:Grow zH (H.new (.cells (List.replicate (c+1) [str []]).flatten none)) 1 (slc H.next 0 (c+1) (c+1)) (fillS [] (c+1)) :=
  Grow.made (f:=none) (zH_get _) (by rw [AH.get_new_self]; simp [fillS,strR]) (.inl rfl) (by simp [fillS,strR]) (by
   intro r hr
   simp [fillS,strR] at hr
   subst hr
   exact ⟨rfl,rfl⟩)
 refine LoopL.count c (fun j ls H'=>∃ done rest,ls=[str rest,str [47],vi 0,vi c,slc H.next 0 (c+1) (c+1),vi j]/\done.length=j/\splitF [] s=done++splitF [] rest/\rest.length<=s.length/\Ext H H'/\Grow zH H' 1 (slc H.next 0 (c+1) (c+1)) (fillS done (c+1 - j))) ?_ ⟨[],s,rfl,rfl,rfl,Nat.le_refl _,(Ext.refl H).new _,g0⟩
 rintro j _ H1 X hj hX ⟨done,rest,rfl,hd,hsp,hrl,e1,g1⟩
 have hrc:rest.count 47+j=c:=by
  have h1:=congrArg List.length hsp
  rw [hcnt,List.length_append,splitF_count,hd] at h1
  omega
 by_cases hjc:j<c
 ·have hX:=hX hjc
  have hjc':(j:Int)<c:=by omega
  have hjj:=i64_inc (i:=j) (by omega)
  have hix:=cutSl_index rest
  have hcut:=splitF_cut rest []
  cases hcs:cutSl rest with
  | none =>
   rw [hcs] at hcut
   have h1:=splitF_count rest []
   rw [hcut] at h1
   simp at h1
   omega
  | some p =>
   rw [hcs] at hix hcut
   have hre:=cutSl_eq hcs
   have hpl:p.1.length+p.2.length+1=rest.length:=by rw [hre]; simp; omega
   have hge:¬ ((p.1.length:Int)<0):=by omega
   have hadd0:binInt .add (vi (p.1.length:Nat)) (vi 0)=some (vi (p.1.length:Nat)):=by rw [i64_add (by omega) (by omega)]; simp
   have hadd1:binInt .add (vi (p.1.length:Nat)) (vi 1)=some (vi ((p.1.length+1:Nat):Int)):=i64_inc (by omega)
   have hsl1:slStr (str rest) none (some (vi (p.1.length:Nat)))=some (str p.1):=by
    rw [slStr_take _ _ (by omega),hre,List.take_left' rfl]
   have hsl2:slStr (str rest) (some (vi ((p.1.length+1:Nat):Int))) none=some (str p.2):=by
    rw [slStr_drop _ _ (by omega),hre]
    congr 2
    rw [show p.1++47 :: p.2=(p.1++[47])++p.2 by simp,show p.1.length+1=(p.1++[47]).length by simp,List.drop_left' rfl]
   obtain ⟨b,o,H2,q1,q2,q3,q4,q5⟩:=g1.store (i:=j) (k:=0) (by rw [fillS_length]; omega) (by omega) (str p.1) rfl
   have hlast:(fillS done (c+1 - j)).set j (((fillS done (c+1 - j))[j]'(by rw [fillS_length]; omega)).set 0 (str p.1))=fillS (done++[p.1]) (c+1 - (j+1)):=by
    have e:c+1 - j=(c+1 - (j+1))+1:=by omega
    have h2:(fillS done (c+1 - j))[j]'(by rw [fillS_length]; omega)=[str []]:=by
     subst hd
     simp [fillS,strR]
    rw [h2]
    subst hd
    rw [e]
    exact fillS_set done _ p.1
   rw [hlast] at q4
   simp [F.f102_l1,hjc']
   refine S.f98 hE rest ?_
   rw [hix]
   have q3':store1 (ptr b o) (str p.1) H1=some H2:=by simpa using q3
   simp [-Int.natCast_add,hge,hadd0,hadd1,hsl1,hsl2,q1,q3',hjj]
   refine hX _ _ ⟨done++[p.1],p.2,rfl,by simp [hd],by rw [hsp,hcut]; simp,by omega,?_,q4⟩
   exact q5.ext e1 fun b hb=>by rw [mem_blkL] at hb; simp [blk] at hb; omega
 ·have hjc':¬ (j:Int)<c:=by omega
  have hje:j=c:=by omega
  have hrest:splitF [] rest=[rest]:=by
   have hcut:=splitF_cut rest []
   cases hcs:cutSl rest with
   | none=>rw [hcs] at hcut; simpa using hcut
   | some p =>
    have:=cutSl_eq hcs
    rw [this] at hrc
    simp at hrc
    omega
  have hjj:binInt .add (vi (j:Nat)) (vi 1)=some (vi ((j+1:Nat):Int)):=i64_inc (by omega)
  obtain ⟨b,o,H2,q1,q2,q3,q4,q5⟩:=g1.store (i:=j) (k:=0) (by rw [fillS_length]; omega) (by omega) (str rest) rfl
  have hlast:(fillS done (c+1 - j)).set j (((fillS done (c+1 - j))[j]'(by rw [fillS_length]; omega)).set 0 (str rest))=fillS (done++[rest]) (c+1 - (j+1)):=by
   have e:c+1 - j=(c+1 - (j+1))+1:=by omega
   have h2:(fillS done (c+1 - j))[j]'(by rw [fillS_length]; omega)=[str []]:=by
    subst hd
    simp [fillS,strR]
   rw [h2]
   subst hd
   rw [e]
   exact fillS_set done _ rest
  rw [hlast] at q4
  have q3':store1 (ptr b o) (str rest) H1=some H2:=by simpa using q3
  have e2:Ext H H2:=q5.ext e1 fun b hb=>by rw [mem_blkL] at hb; simp [blk] at hb; omega
  have hrows:Rows H2 1 (slc H.next 0 (c+1) (c+1)) (strR (splitF [] s)):=by
   have:=q4.toRows
   have h0:c+1 - (j+1)=0:=by omega
   rw [h0] at this
   rw [hsp,hrest]
   simpa [fillS] using this
  have hlen:(strR (splitF [] s)).length=j+1:=by rw [strR_length,hcnt]; omega
  obtain ⟨hsl,hrows2⟩:=hrows.slice' (lo:=none) (hi:=some (vi ((j+1:Nat):Int))) (i:=0) (j:=j+1) (.inr ⟨rfl,rfl⟩) (.inl rfl) (by omega) (by omega)
  rw [List.take_of_length_le (by omega),List.drop_zero] at hrows2
  simp [-Int.natCast_add,F.f102_l1,hjc',F.f102_j2,q1,q3',hjj,hsl]
  exact hQ _ _ e2 hrows2
theorem ix_strR {v:Value} {l:List NameL} (h:Rows H 1 v (strR l)) {i:Nat} (hi:i<l.length):∃ b o,ixSlc 1 v (vi i)=some (ptr b o)/\(H.get b).cell o=some (str l[i])/\(H.get b).row o 1=some [str l[i]]:=by
 obtain ⟨b,o,h1,h2⟩:=h.ix (i:=i) (by rw [strR_length]; exact hi)
 have hrow:(strR l)[i]'(by rw [strR_length]; exact hi)=[str l[i]]:=by simp [strR]
 rw [hrow] at h2
 exact ⟨b,o,h1,by have:=row_at h2 (j:=0) (by omega); simpa using this,h2⟩
theorem strR_lenSlc {v:Value} {l:List NameL} (h:Rows H 1 v (strR l)):AM.lenSlc v=some (vi l.length):=by
 have:=h.lenSlc
 rwa [strR_length] at this
theorem filter_take_succ {α:Type} (P:α->Bool) (l:List α) {j:Nat} (hj:j<l.length):(l.take (j+1)).filter P=(l.take j).filter P++if P l[j] then [l[j]] else []:=by
 rw [List.take_succ_eq_append_getElem hj,List.filter_append]
 congr 1
 by_cases h:P l[j] <;> simp [h]
theorem splitF_len (s:List UInt8):(splitF [] s).length<=s.length+1:=by
 rw [splitF_count]
 have:=count_le s
 omega
theorem partsL_le (s:List UInt8):(partsL s).length<=s.length+1:=Nat.le_trans (List.length_filter_le _ _) (splitF_len s)
theorem S.f114 (hE:Fold E) (s:List UInt8) (hs:s.length<2 ^ 40) (hQ:∀ v H',Ext H H'->Grow zH H' 1 v (strR (partsL s))->(∀ b,blk v=some b->H.next<=b)->Q v H'):E.call (E.fid i.f114) [str s] H Q:=by
 apply hE.f114
 simp only [F.f114]
 refine S.f100 hE s hs fun v H1 e1 r1 =>?_
 have hl:=strR_lenSlc r1
 have hlen:=splitF_len s
 simp only [hl,opt_some]
 unfold partsL at hQ
 generalize splitF [] s=l at *
 refine LoopL.count l.length (fun j ls H'=>∃ w,ls=[w,v,vi l.length,vi j]/\Ext H1 H'/\Grow zH H' 1 w (strR ((l.take j).filter okPart))/\FreshV H1.next w) ?_ ⟨nilS,rfl,Ext.refl _,by simpa [strR] using Grow.nil zH H1 1,by simp [blk,FreshV]⟩
 rintro j _ H2 X hj hX ⟨w,rfl,e2,g2,f2⟩
 by_cases hjl:j<l.length
 ·have hX:=hX hjl
  have hjl':(j:Int)<l.length:=by omega
  have hjj:=i64_inc (i:=j) (by omega)
  obtain ⟨b,o,q1,q2,_⟩:=ix_strR (r1.mono e2) hjl
  have hst:=filter_take_succ okPart l hjl
  have hle:((l.take j).filter okPart).length<=j:=Nat.le_trans (List.length_filter_le _ _) (by rw [List.length_take]; omega)
  generalize hx:l[j]=x at *
  by_cases h1:x=[]
  ·have h2:okPart x=false:=by simp [okPart,h1]
   rw [h2] at hst
   simp [-Int.natCast_add,F.f114_l1,hjl',q1,q2,h1,hjj]
   exact hX _ _ ⟨w,rfl,e2,by rw [hst]; simpa using g2,f2⟩
  ·by_cases h3:x=[46]
   ·have h2:okPart x=false:=by simp [okPart,h3]
    rw [h2] at hst
    simp [-Int.natCast_add,F.f114_l1,hjl',q1,q2,h3,hjj]
    exact hX _ _ ⟨w,rfl,e2,by rw [hst]; simpa using g2,f2⟩
   ·have h2:okPart x=true:=by simp [okPart,h1,h3]
    rw [h2] at hst
    obtain ⟨w',H3,a1,a2,a3⟩:=g2.app1 (Nat.zero_le _) (bytes:=16) [str x] rfl rfl (by decide) (by decide) (by rw [strR_length]; omega)
    have hb:=buildS_val (str []) (str x) rfl rfl
    simp [-Int.natCast_add,-buildS_eq,F.f114_l1,hjl',q1,q2,h1,h3,hb,a1,hjj]
    obtain ⟨k1,k2⟩:=grew_ext a3 e2 (H0:=H1) f2
    refine hX _ _ ⟨w',rfl,k1,by rw [hst]; simpa [strR] using a2,k2⟩
 ·have hjl':¬ (j:Int)<l.length:=by omega
  simp [F.f114_l1,hjl']
  refine hQ w H2 (e1.trans e2) (by rw [List.take_of_length_le (by omega)] at g2; exact g2) fun b hb=>Nat.le_trans e1.1 (f2 b hb)
end
end Go.AM
end
section
namespace Go.AM
structure WkAt (H:AH) (t:Nat) (T:Tr) (M:List MntD):Prop where
 at_:∃ p m L q nx,H.get t = .cells [ptr p 0,ptr q 0] none/\Ino H p m L T/\TabAt H q M nx
 older:Older M
theorem WkAt.mono {H H':AH} {t:Nat} {T:Tr} {M:List MntD} (h:WkAt H t T M) (e:Ext H H'):WkAt H' t T M:=by
 obtain ⟨⟨p,m,L,q,nx,h1,h2,h3⟩,h4⟩:=h
 exact ⟨⟨p,m,L,q,nx,e.cells h1,h2.mono e,h3.mono e⟩,h4⟩
section
variable {E:Sy} {H:AH} {Q:Value->AH->Prop} {t:Nat} {T:Tr} {M:List MntD}
theorem nilp_p (b o:Nat):binNil eqPtr .neq (ptr b o) (.pointer none)=some (.bool true):=rfl
theorem nilq_p (b o:Nat):binNil eqPtr .eql (ptr b o) (.pointer none)=some (.bool false):=rfl
theorem S.f113 (hE:Fold E) (h:WkAt H t T M) (hQ:Q (vb true) H):E.call (E.fid i.f113) [ptr t 0] H Q:=by
 apply hE.f113
 obtain ⟨⟨p,m,L,q,nx,h1,h2,h3⟩,h4⟩:=h
 simp [F.f113,nilp_p,h1]
 exact hQ
theorem S.f109 (hE:Fold E) (h:WkAt H t T M) (c:PlaceD) (hQ:∀ H',Ext H H'->Q (vb (dirP T M c)) H'):E.call (E.fid i.f109) [ptr t 0,c.v] H Q:=by
 apply hE.f109
 have x1:Ext H (H.new (.cells c.cells none)):=(Ext.refl H).new _
 have hb:=AH.get_new_self H (.cells c.cells none)
 generalize hH1:H.new (.cells c.cells none)=H1 at *
 simp [F.f109,hH1]
 refine S.f113 hE (h.mono x1) ?_
 obtain ⟨⟨p,m,L,q,nx,h1,h2,h3⟩,h4⟩:=h.mono x1
 simp [h1,hb,PlaceD.cells]
 refine S.f6 hE h2 c.i ?_
 simp [h1,hb,PlaceD.cells]
 have x2:Ext H1 (H1.new (.cells [vi 0,vi 0,u16 0#16,u16 0#16,vi 0] none)):=(Ext.refl _).new _
 have hb2:=AH.get_new_self H1 (.cells [vi 0,vi 0,u16 0#16,u16 0#16,vi 0] none)
 refine S.f30 hE q M nx c.m (h3.mono x2) fun H5 e5 =>?_
 have hb5:=e5.cells hb2
 refine ⟨by rw [hb5,hb2],?_⟩
 have hst:storeN 5 (ptr H1.next 0) (optM (getT M c.m)).v H5=some (H5.put H1.next (.cells (optM (getT M c.m)).cells none)):=by
  rw [storeN_ptr,hb5]; rfl
 have x3:Ext H (H5.put H1.next (.cells (optM (getT M c.m)).cells none)):=(x1.trans (x2.trans e5)).put (b:=H1.next) x1.1 _
 have hQ:=hQ _ x3
 have hg:∀ b cs,H1.get b = .cells cs none->(H5.put H1.next (.cells (optM (getT M c.m)).cells none)).get b = .cells cs none:=fun b cs hh=>by
  rw [AH.get_put_ne _ _ (Nat.ne_of_lt (AH.lt_cells hh))]; exact (x2.trans e5).cells hh
 generalize H5.put H1.next (.cells (optM (getT M c.m)).cells none)=H6 at *
 unfold dirP at hQ
 cases hs:(getT M c.m).isSome with
 | false =>
  rw [hs] at hQ
  simp at hQ
  simp [hst]
  exact hQ
 | true =>
  rw [hs] at hQ
  rcases h2.get c.i with ⟨k0,_⟩ | ⟨kk,yy,k0,k1,k2,k3,k4⟩
  ·simp [k0] at hQ
   simp [hst,nodeP_none h2.cov k0]
   exact hQ
  ·have hk:=hg _ _ k3
   have he:binInt .eql (u8 (T.node c.i).kind) (.int .u8 2)=some (vb (decide ((T.node c.i).kind=2#8))):=by simp
   simp at hQ
   simp [hst,nodeP_some h2.cov.nd k1,nilp_p,hk,inC,he]
   exact hQ
def belowM (M:List MntD) (p:PlaceD):Nat:=(M.filter fun m=>decide (m.id<=p.m)).length
theorem getT_some {id:Int} {m:MntD} (h:getT M id=some m):m∈M/\m.id=id:=⟨List.mem_of_find?_eq_some h,by simpa using List.find?_some h⟩
theorem downT_some {p q:PlaceD} (h:downT M p=some q):∃ m,getT M p.m=some m/\m.id≠0/\m.root=p.i/\m.at_=q:=by
 unfold downT at h
 split at h
 ·simp at h
 ·rename_i m hm
  split at h
  ·simp at h
  ·rename_i hc
   simp only [not_or,Decidable.not_not] at hc
   exact ⟨m,hm,hc.1,hc.2,by simpa using h⟩
theorem below_step (ho:Older M) {p q:PlaceD} (h:downT M p=some q):belowM M q<belowM M p:=by
 obtain ⟨m,h1,h2,h3,rfl⟩:=downT_some h
 obtain ⟨hm,hi⟩:=getT_some h1
 have:=ho m hm h2
 refine filter_lt _ _ M (fun x _ hx =>?_) m hm (by simpa using this) (by simpa using Int.le_of_eq hi)
 simp only [decide_eq_true_eq] at hx ⊢
 omega
theorem downsN_stable (ho:Older M):∀ (n:Nat) (p:PlaceD),belowM M p<=n->downsN M n p=downsN M (n+1) p
 | 0,p,h=>by
  cases hf:downT M p with
  | none=>simp [downsN,hf]
  | some q=>have:=below_step ho hf; omega
 | n+1,p,h=>by
  cases hf:downT M p with
  | none=>simp [downsN,hf]
  | some q =>
   have:=below_step ho hf
   have ih:=downsN_stable ho n q (by omega)
   rw [downsN,downsN,hf]
   exact ih
theorem below_le (M:List MntD) (p:PlaceD):belowM M p<=M.length:=List.length_filter_le _ _
theorem downs_none {p:PlaceD} (h:downT M p=none):downs M p=p:=by
 unfold downs
 cases M.length <;> simp [downsN,h]
theorem downs_some (ho:Older M) {p q:PlaceD} (h:downT M p=some q):downs M p=downs M q:=by
 have h1:=below_step ho h
 have h2:=below_le M p
 unfold downs
 obtain ⟨n,hn⟩:∃ n,M.length=n+1:=⟨M.length - 1,by omega⟩
 rw [hn,downsN,h]
 exact downsN_stable ho n _ (by omega)
theorem mkPlace (a:Int) (b:BitVec 16):buildV [(0,1),(1,1)] #[(.int .i64 0),(.int .u16 0)] [(0,vi a),(1,u16 b)]=some (PlaceD.v ⟨a,b⟩):=rfl
theorem mkPlace0:buildV [(0,1),(1,1)] #[(.int .i64 0),(.int .u16 0)] []=some PlaceD.zero.v:=rfl
theorem S.f111 (hE:Fold E) (h:WkAt H t T M) (c:PlaceD) (hQ:∀ H',Ext H H'->Q (upP T M c).v H'):E.call (E.fid i.f111) [ptr t 0,c.v] H Q:=by
 apply hE.f111
 simp [F.f111]
 generalize hH2:(H.new _).new _=H2
 have x2:Ext H H2:=by subst hH2; exact ((Ext.refl H).new _).new _
 have k1:H2.get H.next = .cells c.cells none:=by subst hH2; simp [AH.get_new]
 have k2:H2.get (H.next+1) = .cells [vi 0,u16 0#16] none:=by subst hH2; simp [AH.get_new]
 clear hH2
 have hl:loadN 2 (ptr H.next 0) H2=some c.v:=by rw [loadN_ptr,k1]; rfl
 simp [hl]
 refine S.f109 hE (h.mono x2) c fun H3 e3 =>?_
 have st:∀ (z:PlaceD) (H':AH),H'.get (H.next+1) = .cells [vi 0,u16 0#16] none->storeN 2 (ptr (H.next+1) 0) z.v H'=some (H'.put (H.next+1) (.cells z.cells none))/\loadN 2 (ptr (H.next+1) 0) (H'.put (H.next+1) (.cells z.cells none))=some z.v:=by
  intro z H' hh
  constructor
  ·rw [storeN_ptr,hh]; rfl
  ·rw [loadN_ptr,AH.get_put_self _ _ (AH.lt_cells hh)]; rfl
 unfold upP at hQ
 cases hd:dirP T M c with
 | false =>
  rw [hd] at hQ
  simp at hQ
  simp
  refine S.f35 hE fun H4 e4 =>?_
  obtain ⟨s1,s2⟩:=st ⟨0,1#16⟩ H4 (e4.cells (e3.cells k2))
  simp [s1,s2]
  exact hQ _ ((x2.trans (e3.trans e4)).put (b:=H.next+1) (by omega) _)
 | true =>
  rw [hd] at hQ
  simp at hQ
  simp
  refine LoopL.ind (fun n s H'=>∃ r,n=belowM M r/\s=[ptr t 0,ptr H.next 0,ptr (H.next+1) 0]/\Ext H H'/\downs M r=downs M c/\H'.get H.next = .cells r.cells none/\H'.get (H.next+1) = .cells [vi 0,u16 0#16] none) ?_ (belowM M c) ⟨c,rfl,rfl,x2.trans e3,rfl,e3.cells k1,e3.cells k2⟩
  rintro n _ H4 X hX ⟨r,rfl,rfl,e4,hs,m1,m2⟩
  obtain ⟨⟨p,m,L,q,nx,h1,h2,h3⟩,ho⟩:=h.mono e4
  have l1:=AH.lt_cells m1
  have l2:=AH.lt_cells m2
  have hl:loadN 2 (ptr H.next 0) H4=some r.v:=by rw [loadN_ptr,m1]; rfl
  simp [F.f111_l1,h1,hl]
  have x5:Ext H4 (H4.new (.cells [vi 0,u16 0#16] none)):=(Ext.refl _).new _
  have hb5:=AH.get_new_self H4 (.cells [vi 0,u16 0#16] none)
  refine S.f29 hE q M nx r (h3.mono x5) fun H5 e5 =>?_
  have hb5':=e5.cells hb5
  refine ⟨by rw [hb5',hb5],?_⟩
  have hst:storeN 2 (ptr H4.next 0) (optP (downT M r)).v H5=some (H5.put H4.next (.cells (optP (downT M r)).cells none)):=by rw [storeN_ptr,hb5']; rfl
  have hg:∀ b cs,H4.get b = .cells cs none->(H5.put H4.next (.cells (optP (downT M r)).cells none)).get b = .cells cs none:=fun b cs hh=>by
   rw [AH.get_put_ne _ _ (Nat.ne_of_lt (AH.lt_cells hh))]; exact (x5.trans e5).cells hh
  have x6:Ext H4 (H5.put H4.next (.cells (optP (downT M r)).cells none)):=(x5.trans e5).put (b:=H4.next) (Nat.le_refl _) _
  have hb6:(H5.put H4.next (.cells (optP (downT M r)).cells none)).get H4.next = .cells (optP (downT M r)).cells none:=AH.get_put_self _ _ (AH.lt_cells hb5')
  simp [hst]
  generalize H5.put H4.next (.cells (optP (downT M r)).cells none)=H6 at *
  cases hdn:downT M r with
  | none =>
   have hdr:=downs_none hdn
   rw [<- hs,hdr] at hQ
   simp [hg _ _ h1,hg _ _ m1,PlaceD.cells]
   refine S.f6 hE (h2.mono x6) r.i ?_
   rcases (h2.mono x6).get r.i with ⟨k0,_⟩ | ⟨kk,yy,k0,k1,k2,k3,k4⟩
   ·simp [nodeP_none h2.cov k0]
    refine S.f35 hE fun H7 e7 =>?_
    obtain ⟨s1,s2⟩:=st ⟨0,1#16⟩ H7 (e7.cells (hg _ _ m2))
    simp [s1,s2]
    simp [k0] at hQ
    exact hQ _ ((e4.trans (x6.trans e7)).put (b:=H.next+1) (by omega) _)
   ·simp [nodeP_some h2.cov.nd k1,nilq_p,hg _ _ h1,hg _ _ m1,PlaceD.cells,k3,inC,mkPlace]
    refine S.f31 hE q M nx ⟨r.m,(T.node r.i).parent⟩ (h3.mono x6) ho fun H7 e7 =>?_
    obtain ⟨s1,s2⟩:=st (seen M ⟨r.m,(T.node r.i).parent⟩) H7 (e7.cells (hg _ _ m2))
    simp [s1,s2]
    simp [k0] at hQ
    exact hQ _ ((e4.trans (x6.trans e7)).put (b:=H.next+1) (by omega) _)
  | some q' =>
   have hdr:=downs_some ho hdn
   have hlt:=below_step ho hdn
   rw [hdn] at hb6
   have hl6:loadN 2 (ptr H4.next 0) H6=some q'.v:=by rw [loadN_ptr,hb6]; rfl
   have hs6:storeN 2 (ptr H.next 0) q'.v H6=some (H6.put H.next (.cells q'.cells none)):=by rw [storeN_ptr,hg _ _ m1]; rfl
   simp [hl6,hs6]
   refine hX (belowM M q') hlt _ _ ⟨q',rfl,rfl,(e4.trans x6).put (b:=H.next) (Nat.le_refl _) _,by rw [<- hdr]; exact hs,AH.get_put_self _ _ (AH.lt_cells (hg _ _ m1)),?_⟩
   rw [AH.get_put_ne _ _ (by omega)]
   exact hg _ _ m2
end
end Go.AM
end
section
namespace Go.AM
def wayC (t:Nat) (w:WayD) (lv:Value):List Value:=[ptr t 0,vi w.at_.m,u16 w.at_.i,lv,vi (w.links:Nat)]
abbrev wayV (t:Nat) (w:WayD) (lv:Value):Value := .agg (wayC t w lv).toArray
theorem Rows.plainV {H:AH} {v:Value} {rows:List (List Value)} {sz:Nat} (h:Rows H sz v rows):plain1 v=true:=by
 rcases h.at_ with ⟨_,c,rfl⟩ | ⟨b,o,c,rfl,_⟩
 ·cases c <;> rfl
 ·rfl
section
variable {E:Sy} {H H0 Z:AH} {Q:Value->AH->Prop} {t:Nat} {T:Tr} {M:List MntD} {L:List Res}
theorem wayC_plain (t:Nat) (w:WayD) {lv:Value} (h:plain1 lv=true):(wayC t w lv).all plain1=true:=by
 simp only [wayC,List.all_cons,List.all_nil,h]; rfl
theorem way_store (t:Nat) (w:WayD) {lv:Value} (h:plain1 lv=true) {b:Nat} {cs:List Value} (hl:cs.length=5) {H:AH} (hg:H.get b = .cells cs none):storeN 5 (ptr b 0) (wayV t w lv) H=some (H.put b (.cells (wayC t w lv) none)):=by
 rw [storeN_ptr,hg]
 have h5:(wayC t w lv).length=5:=rfl
 have:AM.splice cs 0 (wayC t w lv)=wayC t w lv:=by simp [splice,hl,h5]
 simp only [List.size_toArray,List.toList_toArray,wayC_plain t w h,h5,hl,Nat.zero_add,Nat.le_refl,and_self,if_true,this]
theorem way_load (t:Nat) (w:WayD) {lv:Value} {b:Nat} {H:AH} (hg:H.get b = .cells (wayC t w lv) none):loadN 5 (ptr b 0) H=some (wayV t w lv):=by
 rw [loadN_ptr,hg]; rfl
theorem S.f112 (hE:Fold E) (h:WkAt H t T M) (c:PlaceD) (path:List UInt8) (hp:path.length<2 ^ 63) (hQ:∀ lv H',Ext H H'->Rows H' 1 lv (strR (beginW M c path).1.left)->FreshV H.next lv->Q (.tuple #[wayV t (beginW M c path).1 lv,vi (beginW M c path).2]) H'):E.call (E.fid i.f112) [ptr t 0,c.v,str path] H Q:=by
 apply hE.f112
 have hz:([.pointer none,vi 0,u16 0#16,nilS,vi 0]:List Value).length=5:=rfl
 have hbv:buildV [(0,1),(1,2),(3,1),(4,1)] #[(.pointer none),(.int .i64 0),u16 0#16,(.slice none 0 0),(.int .i64 0)] [(0,ptr t 0),(1,c.v)]=some (wayV t ⟨c,[],0⟩ nilS):=rfl
 simp only [F.f112,boxO_agg_z,AM.mk_some,mkPtr_eq_z,allocW_eq,AH.next_new_z,u16_lit0_z,tk_eq]
 generalize hH2:(H.new _).new _=H2
 have x2:Ext H H2:=by subst hH2; exact ((Ext.refl H).new _).new _
 have k1:H2.get H.next = .cells c.cells none:=by subst hH2; simp [AH.get_new]
 have k2:H2.get (H.next+1) = .cells [.pointer none,vi 0,u16 0#16,nilS,vi 0] none:=by subst hH2; simp [AH.get_new]
 have n2:H2.next=H.next+2:=by subst hH2; simp
 clear hH2
 have hl:loadN 2 (ptr H.next 0) H2=some c.v:=by rw [loadN_ptr,k1]; rfl
 have x3:Ext H2 (H2.new (.cells [.pointer none,vi 0,u16 0#16,nilS,vi 0] none)):=(Ext.refl _).new _
 have k3:=AH.get_new_self H2 (.cells [.pointer none,vi 0,u16 0#16,nilS,vi 0] none)
 have s3:=way_store t ⟨c,[],0⟩ (lv:=nilS) rfl hz k3
 simp only [AH.next_new_z,hl,hbv,allocW_eq,u16_lit0_z,s3,tk_eq,opt_some]
 have x4:Ext H2 ((H2.new (.cells [.pointer none,vi 0,u16 0#16,nilS,vi 0] none)).put H2.next (.cells (wayC t ⟨c,[],0⟩ nilS) none)):=x3.put (b:=H2.next) (Nat.le_refl _) _
 have k4:((H2.new (.cells [.pointer none,vi 0,u16 0#16,nilS,vi 0] none)).put H2.next (.cells (wayC t ⟨c,[],0⟩ nilS) none)).get H2.next = .cells (wayC t ⟨c,[],0⟩ nilS) none:=AH.get_put_self _ _ (AH.lt_cells k3)
 generalize (H2.new (.cells [.pointer none,vi 0,u16 0#16,nilS,vi 0] none)).put H2.next (.cells (wayC t ⟨c,[],0⟩ nilS) none)=H4 at *
 refine S.f113 hE (h.mono (x2.trans x4)) ?_
 have fin:∀ (w:WayD) (lv:Value) (e:Int) (H':AH) (R:Value->AH->Prop),H'.get H2.next = .cells (wayC t w lv) none->H'.get (H.next+1) = .cells [.pointer none,vi 0,u16 0#16,nilS,vi 0] none->plain1 lv=true ->
   R (.tuple #[wayV t w lv,vi e]) (H'.put (H.next+1) (.cells (wayC t w lv) none)) ->
   opt (loadN 5 (ptr H2.next 0) H') fun v8=>opt (storeN 5 (ptr (H.next+1) 0) v8 H') fun H6=>opt (loadN 5 (ptr (H.next+1) 0) H6) fun v9=>R (.tuple #[v9,vi e]) H6:=by
  intro w lv e H' R g1 g2 hpl hR
  simp only [way_load t w g1,way_store t w hpl hz g2,way_load t w (AH.get_put_self _ _ (AH.lt_cells g2)),tk_eq,opt_some]
  exact hR
 simp only [un_not_z,Bool.not_true,tk_eq,opt_some,ifB_false]
 unfold beginW at hQ
 have k24:=x4.cells k2
 have x24:=x2.trans x4
 by_cases h0:path=[]
 ·subst h0
  simp only [show binStr .eql (str []) (.string ⟨#[]⟩)=some (vb true) from binStr_eql [] [],AH.next_new_z,tk_eq,opt_some,ifB_true]
  refine fin ⟨c,[],0⟩ nilS 2 H4 Q k4 k24 rfl (hQ nilS _ (x24.put (b:=H.next+1) (by omega) _) ?_ (by simp [FreshV,blk]))
  simpa [strR] using Rows.nil _ 1 none
 have h0':binStr .eql (str path) (.string ⟨#[]⟩)=some (vb false):=by
  show binStr .eql (str path) (str [])=_
  rw [binStr_eql]; simp [h0]
 by_cases h1:120<path.length
 ·have h1':(120:Int)<path.length:=by omega
  simp only [h0',lenStr_s,i64_gtr,gt_iff_lt,h1',decide_true,tk_eq,opt_some,ifB_true,ifB_false]
  simp only [h0,h1,if_false,if_true] at hQ
  refine fin ⟨c,[],0⟩ nilS 36 H4 Q k4 k24 rfl (hQ nilS _ (x24.put (b:=H.next+1) (by omega) _) ?_ (by simp [FreshV,blk]))
  simpa [strR] using Rows.nil _ 1 none
 have h1':¬ (120:Int)<path.length:=by omega
 simp only [h0,h1,if_false] at hQ
 have join:∀ (a:PlaceD) (H':AH),Ext H H'->H'.get H2.next = .cells (wayC t ⟨a,[],0⟩ nilS) none->H'.get (H.next+1) = .cells [.pointer none,vi 0,u16 0#16,nilS,vi 0] none ->
   (∀ lv H',Ext H H'->Rows H' 1 lv (strR (partsL path))->FreshV H.next lv->Q (.tuple #[wayV t ⟨a,partsL path,0⟩ lv,vi 0]) H')->F.f112_j1 E Q (str path) (ptr (H.next+1) 0) (ptr H2.next 0) H':=by
  intro a H' e g1 g2 hQ'
  simp only [F.f112_j1]
  refine S.f114 hE path (by omega) fun lv H5 e5 g5 f5 =>?_
  have m1:=e5.cells g1
  have m2:=e5.cells g2
  have hpl:=g5.plain
  have hst:store1 (ptr H2.next 3) lv H5=some (H5.put H2.next (.cells (wayC t ⟨a,partsL path,0⟩ lv) none)):=by
   rw [store1_ptr,if_pos hpl,m1]; rfl
  simp only [addOff_ptr,Nat.zero_add,hst,tk_eq,opt_some]
  have l1:=AH.lt_cells m1
  refine fin ⟨a,partsL path,0⟩ lv 0 _ Q (AH.get_put_self _ _ l1) (by rw [AH.get_put_ne _ _ (by omega)]; exact m2) hpl (hQ' lv _ (((e.trans e5).put (b:=H2.next) (by omega) _).put (b:=H.next+1) (by omega) _) ?_ (fun b hb=>Nat.le_trans e.1 (f5 b hb)))
  have hb:∀ b,blk lv=some b->b≠H2.next/\b≠H.next+1:=fun b hb=>by
   have:=f5 b hb
   have:=AH.lt_cells g1
   have:=AH.lt_cells g2
   omega
  exact (g5.keep fun b hb' _=>by rw [AH.get_put_ne _ _ (hb b hb').2,AH.get_put_ne _ _ (hb b hb').1]).toRows
 obtain ⟨ch,tl,rfl⟩:∃ ch tl,path=ch :: tl:=by
  cases path with
  | nil=>exact (h0 rfl).elim
  | cons ch tl=>exact ⟨ch,tl,rfl⟩
 have hix:ixStr (str (ch :: tl)) (.int .i64 0)=some (.int .u8 ch.toNat):=rfl
 by_cases hc:ch=47
 ·subst hc
  have hc':binInt .eql (.int .u8 (UInt8.toNat 47)) (.int .u8 47)=some (vb true):=rfl
  obtain ⟨⟨p,m,L,q,nx,h1,h2,h3⟩,ho⟩:=h.mono x24
  simp only [h0',lenStr_s,i64_gtr,gt_iff_lt,h1',decide_false,hix,hc',nilCk_p,addOff_ptr,load1_ptr,Nat.zero_add,h1,cell_cells_z,List.getElem?_cons_succ,List.getElem?_cons_zero,tk_eq,opt_some,ifB_true,ifB_false]
  refine S.f35 hE fun H5 e5 =>?_
  refine ⟨by rw [load1_ptr,load1_ptr,e5.cells h1,h1],?_⟩
  refine S.f31 hE q M nx ⟨0,1#16⟩ (h3.mono e5) ho fun H6 e6 =>?_
  have m1:=e6.cells (e5.cells k4)
  have hst:storeN 2 (ptr H2.next 1) (seen M ⟨0,1#16⟩).v H6=some (H6.put H2.next (.cells (wayC t ⟨seen M ⟨0,1#16⟩,[],0⟩ nilS) none)):=by
   rw [storeN_ptr,m1]; rfl
  simp only [addOff_ptr,Nat.zero_add,hst,AH.next_new_z,tk_eq,opt_some]
  refine join (seen M ⟨0,1#16⟩) _ ((x24.trans (e5.trans e6)).put (b:=H2.next) (by omega) _) (AH.get_put_self _ _ (AH.lt_cells m1)) (by rw [AH.get_put_ne _ _ (by omega)]; exact e6.cells (e5.cells k24)) ?_
  simpa [topP] using hQ
 ·have hc':binInt .eql (.int .u8 ch.toNat) (.int .u8 47)=some (vb false):=by
   have:¬ ch.toNat=47:=fun e=>hc (UInt8.toNat_inj.1 e)
   show some (vb (((ch.toNat:Int)) == 47))=_
   congr 2
   simp; omega
  simp only [h0',lenStr_s,i64_gtr,gt_iff_lt,h1',decide_false,hix,hc',tk_eq,opt_some,ifB_false]
  refine join c _ x24 k4 k24 ?_
  simpa [hc] using hQ
theorem set_last {α:Type} (L:List α) (r r':α):(L++[r]).set L.length r'=L++[r']:=by
 rw [List.set_append_right _ _ (Nat.le_refl _),Nat.sub_self]; rfl
theorem erase_last {α:Type} (L:List α) (r:α):(L++[r]).eraseIdx L.length=L:=by
 rw [List.eraseIdx_append_of_length_le (Nat.le_refl _),Nat.sub_self]; simp
theorem setL_snoc {α:Type} (L:List α) (r x:α) {k:Nat} (hk:k<L.length):(L++[r]).set k x=L.set k x++[r]:=List.set_append_left _ _ hk
theorem getE_lt {α:Type} {L:List α} {k:Nat} {r:α} (h:L[k]? = some r):k<L.length:=(List.getElem?_eq_some_iff.1 h).1
theorem getE_set {α:Type} {L:List α} {k:Nat} {r:α} (h:L[k]? = some r) (x:α):(L.set k x)[k]? = some x:=by
 have:=getE_lt h
 simp [this]
theorem getE_snoc {α:Type} {L:List α} {k:Nat} {r:α} (h:L[k]? = some r) (x:α):(L++[x])[k]? = some r:=by
 rw [List.getElem?_append_left (getE_lt h)]; exact h
def followY (M:List MntD) (w:WayD) (text:List UInt8):WayD×Int :=
 if 8<w.links+1 then (⟨w.at_,w.left,w.links+1⟩,40) else (⟨if text.head? = some 47 then seen M topP else w.at_,partsL text++w.left,w.links+1⟩,0)
theorem S.f115 (hE:Fold E) (h:WkAt H0 t T M) {w:WayD} {lv:Value} {k b:Nat} (hs:Has H0 Z H L) (hk:L[k]? = some (boxR b (wayC t w lv))) (hl:Rows Z 1 lv (strR w.left)) (hn:w.left.length<2 ^ 40) (hlk:w.links<=100) (text:List UInt8) (ht:text≠[]/\text.length<=120)
  (hQ:∀ lv' Z' H',Fz H0.next Z Z'->Has H0 Z' H' (L.set k (boxR b (wayC t (followY M w text).1 lv')))->Rows Z' 1 lv' (strR (followY M w text).1.left)->Q (vi (followY M w text).2) H'):E.call (E.fid i.f115) [ptr b 0,str text] H Q:=by
 apply hE.f115
 have hb:=hs.box hk
 have hadd:binInt .add (vi (w.links:Nat)) (.int .i64 1)=some (vi ((w.links+1:Nat):Int)):=i64_inc (by omega)
 have hst:store1 (ptr b 4) (vi ((w.links+1:Nat):Int)) H=some (H.put b (.cells (wayC t ⟨w.at_,w.left,w.links+1⟩ lv) none)):=by
  rw [store1_ptr,if_pos (show plain1 (vi ((w.links+1:Nat):Int))=true from rfl),hb]; rfl
 have h1:=hs.put hk (wayC t ⟨w.at_,w.left,w.links+1⟩ lv)
 have hk1:=getE_set hk (boxR b (wayC t ⟨w.at_,w.left,w.links+1⟩ lv))
 have c4:(wayC t w lv)[4]? = some (vi (w.links:Nat)):=rfl
 simp only [F.f115,nilCk_p,addOff_ptr,load1_ptr,Nat.zero_add,hb,cell_cells_z,c4,hadd,hst,tk_eq,opt_some]
 generalize H.put b (.cells (wayC t ⟨w.at_,w.left,w.links+1⟩ lv) none)=H1 at *
 have hb1:=h1.box hk1
 have c41:(wayC t ⟨w.at_,w.left,w.links+1⟩ lv)[4]? = some (vi ((w.links+1:Nat):Int)):=rfl
 unfold followY at hQ
 by_cases h8:8<w.links+1
 ·have h8':(8:Int)<((w.links+1:Nat):Int):=by omega
  simp only [hb1,cell_cells_z,c41,i64_gtr,gt_iff_lt,h8',decide_true,tk_eq,opt_some,ifB_true]
  rw [if_pos h8] at hQ
  exact hQ lv Z H1 (Fz.refl _ _) h1 hl
 rw [if_neg h8] at hQ
 have h8':¬ (8:Int)<((w.links+1:Nat):Int):=by omega
 obtain ⟨ch,tl,rfl⟩:∃ ch tl,text=ch :: tl:=by
  cases text with
  | nil=>exact (ht.1 rfl).elim
  | cons ch tl=>exact ⟨ch,tl,rfl⟩
 have hix:ixStr (str (ch :: tl)) (.int .i64 0)=some (.int .u8 ch.toNat):=rfl
 have join:∀ (a:PlaceD) (H':AH),Has H0 Z H' (L.set k (boxR b (wayC t ⟨a,w.left,w.links+1⟩ lv))) ->
   (∀ lv' Z' H',Fz H0.next Z Z'->Has H0 Z' H' (L.set k (boxR b (wayC t ⟨a,partsL (ch :: tl)++w.left,w.links+1⟩ lv')))->Rows Z' 1 lv' (strR (partsL (ch :: tl)++w.left))->Q (vi 0) H')->F.f115_j1 E Q (ptr b 0) (str (ch :: tl)) H':=by
  intro a H' g hQ'
  have hkk:=getE_set hk (boxR b (wayC t ⟨a,w.left,w.links+1⟩ lv))
  have gb:=g.box hkk
  have c3:(wayC t ⟨a,w.left,w.links+1⟩ lv)[3]? = some lv:=rfl
  simp only [F.f115_j1,nilCk_p,addOff_ptr,load1_ptr,Nat.zero_add,gb,cell_cells_z,c3,tk_eq,opt_some]
  refine S.f114 hE _ (by omega) fun v H5 e5 g5 f5 =>?_
  have hpl:=partsL_le (ch :: tl)
  have g1:Has H0 Z H5 (L.set k (boxR b (wayC t ⟨a,w.left,w.links+1⟩ lv))++[growR 1 v (strR (partsL (ch :: tl)))]) :=
   g.add _ e5 g5 (fun x hx=>⟨f5 x (mem_blkL.1 hx),g5.blk_lt (mem_blkL.1 hx)⟩) (blkL_nodup v)
  generalize hLL:L.set k (boxR b (wayC t ⟨a,w.left,w.links+1⟩ lv))=LL at *
  have gb5:=g1.box (getE_snoc hkk _)
  refine ⟨by rw [load1_ptr,load1_ptr,gb5,gb],?_⟩
  have hx:=hl.sub g1.sub
  have hkl:(LL++[growR 1 v (strR (partsL (ch :: tl)))])[LL.length]? = some (growR 1 v (strR (partsL (ch :: tl)))):=by simp
  simp only [List.length_cons] at ht hpl
  obtain ⟨v',H6,a1,a2,a3⟩:=g1.app hkl (bytes:=16) hx (by intro r hr; simp only [strR,List.mem_map] at hr; obtain ⟨_,_,rfl⟩:=hr; rfl) (by decide) (by decide) (by rw [strR_length,strR_length]; omega) (by rw [strR_length,strR_length]; omega)
  rw [set_last] at a3
  have gb6:=a3.box (getE_snoc hkk _)
  have hst2:store1 (ptr b 3) v' H6=some (H6.put b (.cells (wayC t ⟨a,partsL (ch :: tl)++w.left,w.links+1⟩ v') none)):=by
   rw [store1_ptr,if_pos a2,gb6]; rfl
  have a4:=a3.put (getE_snoc hkk _) (wayC t ⟨a,partsL (ch :: tl)++w.left,w.links+1⟩ v')
  rw [setL_snoc _ _ _ (getE_lt hkk)] at a4
  have hlen:(LL.set k (boxR b (wayC t ⟨a,partsL (ch :: tl)++w.left,w.links+1⟩ v'))).length=LL.length:=by simp
  obtain ⟨Z',z1,z2,z3⟩:=a4.freeze (k:=LL.length) (r:=growR 1 v' (strR (partsL (ch :: tl))++strR w.left)) (by rw [<- hlen]; simp)
  rw [<- hlen,erase_last] at z3
  subst hLL
  rw [List.set_set] at z3
  simp only [a1,nilCk_p,addOff_ptr,Nat.zero_add,hst2,tk_eq,opt2_some,opt_some]
  refine hQ' v' Z' _ z1 z3 ?_
  have:=Grow.toRows z2
  rw [<- show strR (partsL (ch :: tl))++strR w.left=strR (partsL (ch :: tl)++w.left) by simp [strR]]
  exact this
 by_cases hc:ch=47
 ·subst hc
  have hc':binInt .eql (.int .u8 (UInt8.toNat 47)) (.int .u8 47)=some (vb true):=rfl
  obtain ⟨⟨p,m,L',q,nx,q1,q2,q3⟩,ho⟩:=h.mono h1.ext
  have c0:(wayC t ⟨w.at_,w.left,w.links+1⟩ lv)[0]? = some (ptr t 0):=rfl
  simp only [hb1,cell_cells_z,c41,i64_gtr,gt_iff_lt,h8',decide_false,hix,hc',c0,nilCk_p,addOff_ptr,load1_ptr,Nat.zero_add,Nat.add_zero,q1,List.getElem?_cons_succ,List.getElem?_cons_zero,tk_eq,opt_some,ifB_true,ifB_false]
  refine S.f35 hE fun H5 e5 =>?_
  have h5:=h1.grow e5
  refine ⟨by rw [load1_ptr,load1_ptr,e5.cells q1,q1],by rw [load1_ptr,load1_ptr,h5.box hk1,hb1],?_⟩
  refine S.f31 hE q M nx ⟨0,1#16⟩ (q3.mono e5) ho fun H6 e6 =>?_
  have h6:=h5.grow e6
  have hb6:=h6.box hk1
  have hst3:storeN 2 (ptr b 1) (seen M ⟨0,1#16⟩).v H6=some (H6.put b (.cells (wayC t ⟨seen M ⟨0,1#16⟩,w.left,w.links+1⟩ lv) none)):=by
   rw [storeN_ptr,hb6]; rfl
  have h7:=h6.put hk1 (wayC t ⟨seen M ⟨0,1#16⟩,w.left,w.links+1⟩ lv)
  rw [List.set_set] at h7
  simp only [nilCk_p,addOff_ptr,Nat.zero_add,hst3,tk_eq,opt_some]
  refine join _ _ h7 ?_
  simpa [topP] using hQ
 ·have hc':binInt .eql (.int .u8 ch.toNat) (.int .u8 47)=some (vb false):=by
   have:¬ ch.toNat=47:=fun e=>hc (UInt8.toNat_inj.1 e)
   show some (vb (((ch.toNat:Int)) == 47))=_
   congr 2
   simp; omega
  simp only [hb1,cell_cells_z,c41,i64_gtr,gt_iff_lt,h8',decide_false,hix,hc',tk_eq,opt_some,ifB_false]
  refine join _ _ h1 ?_
  simpa [hc] using hQ
end
end Go.AM
end
section
namespace Go.AM
def Tr.LT (T:Tr):Prop:=∀ n,(T.node n).kind=3#8->(T.node n).text≠[]/\(T.node n).text.length<=120
section
variable {E:Sy} {H H0 Z:AH} {Q:Value->AH->Prop} {t:Nat} {T:Tr} {M:List MntD} {L:List Res}
theorem S.f116 (hE:Fold E) (h:WkAt H0 t T M) (wf:T.WF) (lt:T.LT) {w:WayD} {lv:Value} {k b:Nat} (hs:Has H0 Z H L) (hk:L[k]? = some (boxR b (wayC t w lv))) (hl:Rows Z 1 lv (strR w.left)) (hn:w.left.length<2 ^ 40) (hlk:w.links<=100) (hne:w.left≠[]) (follow:Bool)
  (hQ:∀ lv' Z' H',Fz H0.next Z Z'->Has H0 Z' H' (L.set k (boxR b (wayC t (stepY T M w follow).1 lv')))->Rows Z' 1 lv' (strR (stepY T M w follow).1.left)->Q (vi (stepY T M w follow).2) H'):E.call (E.fid i.f116) [ptr b 0,vb follow] H Q:=by
 apply hE.f116
 obtain ⟨a0,left,links⟩:=w
 cases left with
 | nil=>exact (hne rfl).elim
 | cons name left =>
 have hb:=hs.box hk
 have hl1:=hl.sub hs.sub
 obtain ⟨b1,o1,p1,p2,_⟩:=ix_strR hl1 (i:=0) (by simp)
 have p1:ixSlc 1 lv (vi 0)=some (ptr b1 o1):=p1
 have p2:(H.get b1).cell o1=some (str name):=p2
 have hlenL:(strR (name :: left)).length=left.length+1:=by simp [strR]
 obtain ⟨s1,_⟩:=hl1.slice' (lo:=some (vi (1:Nat))) (hi:=none) (i:=1) (j:=left.length+1) (.inl rfl) (.inr ⟨rfl,by rw [hlenL]⟩) (by omega) (by rw [hlenL]; exact Nat.le_refl _)
 obtain ⟨_,s2⟩:=hl.slice' (lo:=some (vi (1:Nat))) (hi:=none) (i:=1) (j:=left.length+1) (.inl rfl) (.inr ⟨rfl,by rw [hlenL]⟩) (by omega) (by rw [hlenL]; exact Nat.le_refl _)
 rw [List.take_of_length_le (by rw [hlenL]; exact Nat.le_refl _)] at s2
 have s2:Rows Z 1 (sliceV 1 lv 1 (left.length+1)) (strR left):=by simpa [strR] using s2
 have s1:slSlc 1 lv (some (vi 1)) none none H=some (sliceV 1 lv 1 (left.length+1)):=s1
 have hpl:=s2.plainV
 generalize sliceV 1 lv 1 (left.length+1)=lv1 at *
 have hst:store1 (ptr b 3) lv1 H=some (H.put b (.cells (wayC t ⟨a0,left,links⟩ lv1) none)):=by
  rw [store1_ptr,if_pos hpl,hb]; rfl
 have h1:=hs.put hk (wayC t ⟨a0,left,links⟩ lv1)
 have hk1:=getE_set hk (boxR b (wayC t ⟨a0,left,links⟩ lv1))
 have c3:(wayC t ⟨a0,name :: left,links⟩ lv)[3]? = some lv:=rfl
 simp only [F.f116,hb,c3,p1,p2,s1,hst,stdZ]
 generalize H.put b (.cells (wayC t ⟨a0,left,links⟩ lv1) none)=H1 at *
 have hb1:=h1.box hk1
 have c0:(wayC t ⟨a0,left,links⟩ lv1)[0]? = some (ptr t 0):=rfl
 have hlo:loadN 2 (ptr b 1) H1=some a0.v:=by rw [loadN_ptr,hb1]; rfl
 simp only [hb1,c0,hlo,stdZ]
 refine S.f109 hE (h.mono h1.ext) a0 fun H2 e2 =>?_
 have h2:=h1.grow e2
 have hb2:=h2.box hk1
 have fin:∀ (a:PlaceD) (e:Int) (H':AH),Has H0 Z H' (L.set k (boxR b (wayC t ⟨a,left,links⟩ lv1)))->(stepY T M ⟨a0,name :: left,links⟩ follow)=(⟨a,left,links⟩,e)->Q (vi e) H':=by
  intro a e H' g he
  rw [he] at hQ
  exact hQ lv1 Z H' (Fz.refl _ _) g s2
 simp only [un_not_z,stdZ]
 cases hd:dirP T M a0 with
 | false =>
  simp only [Bool.not_false,ifB_true]
  refine fin a0 20 _ h2 ?_
  simp [stepY,hd]
 | true =>
 simp only [Bool.not_true,ifB_false]
 by_cases hdd:name=[46,46]
 ·have hdd':binStr .eql (str name) (.string ⟨#[46,46]⟩)=some (vb true):=by
   show binStr .eql (str name) (str [46,46])=_
   rw [binStr_eql]; simp [hdd]
  have hlo2:loadN 2 (ptr b 1) H2=some a0.v:=by rw [loadN_ptr,hb2]; rfl
  simp only [hdd',hb2,c0,hlo2,stdZ]
  refine S.f111 hE (h.mono h2.ext) a0 fun H3 e3 =>?_
  have h3:=h2.grow e3
  have hb3:=h3.box hk1
  have hst3:storeN 2 (ptr b 1) (upP T M a0).v H3=some (H3.put b (.cells (wayC t ⟨upP T M a0,left,links⟩ lv1) none)):=by
   rw [storeN_ptr,hb3]; rfl
  have h4:=h3.put hk1 (wayC t ⟨upP T M a0,left,links⟩ lv1)
  rw [List.set_set] at h4
  have hk4:=getE_set hk (boxR b (wayC t ⟨upP T M a0,left,links⟩ lv1))
  generalize hu:upP T M a0=u at *
  simp only [hst3,stdZ]
  generalize H3.put b (.cells (wayC t ⟨u,left,links⟩ lv1) none)=H4 at *
  have hb4:=h4.box hk4
  obtain ⟨⟨p,m,L',q,nx,q1,q2,q3⟩,ho⟩:=h.mono h4.ext
  have c04:(wayC t ⟨u,left,links⟩ lv1)[0]? = some (ptr t 0):=rfl
  have c24:(wayC t ⟨u,left,links⟩ lv1)[2]? = some (u16 u.i):=rfl
  simp only [hb4,c04,c24,q1,stdZ]
  refine S.f6 hE q2 u.i ?_
  have hlo4:loadN 2 (ptr b 1) H4=some u.v:=by rw [loadN_ptr,hb4]; rfl
  rcases q2.get u.i with ⟨k0,_⟩ | ⟨kk,yy,k0,k1,k2,k3,k4⟩
  ·simp [nodeP_none q2.cov k0]
   refine fin u 0 _ h4 ?_
   simp [stepY,hd,hdd,hu,k0]
  ·simp [-loadN_ptr,nodeP_some q2.cov.nd k1,nilp_p,hb4,c04,hlo4]
   refine S.f109 hE (h.mono h4.ext) u fun H5 e5 =>?_
   have h5:=h4.grow e5
   cases hdu:dirP T M u with
   | false =>
    simp
    refine fin u 2 _ h5 ?_
    simp [stepY,hd,hdd,hu,k0,hdu]
   | true =>
    simp
    refine fin u 0 _ h5 ?_
    simp [stepY,hd,hdd,hu,k0,hdu]
 have hdd':binStr .eql (str name) (.string ⟨#[46,46]⟩)=some (vb false):=by
  show binStr .eql (str name) (str [46,46])=_
  rw [binStr_eql]; simp [hdd]
 by_cases h14:14<name.length
 ·have h14':(14:Int)<name.length:=by omega
  simp only [hdd',lenStr_s,i64_gtr,gt_iff_lt,h14',decide_true,stdZ]
  refine fin a0 36 _ h2 ?_
  simp [stepY,hd,hdd,h14]
 have h14':¬ (14:Int)<name.length:=by omega
 obtain ⟨⟨p,m,L',q,nx,q1',q2',q3'⟩,ho⟩:=id h
 have q1:=h2.ext.cells q1'
 have q2:=q2'.mono h2.ext
 have q3:=q3'.mono h2.ext
 have c2:(wayC t ⟨a0,left,links⟩ lv1)[2]? = some (u16 a0.i):=rfl
 simp only [hdd',lenStr_s,i64_gtr,gt_iff_lt,h14',decide_false,hb2,c0,c2,q1,stdZ]
 refine S.f8 hE q2 a0.i name ?_
 have hstep:stepY T M ⟨a0,name :: left,links⟩ follow=if (T.look a0.i name).2≠0 then (⟨a0,left,links⟩,(T.look a0.i name).2) else
   if (T.node (T.look a0.i name).1).kind=3#8/\(follow=true\/left≠[]) then followY M ⟨a0,left,links⟩ (T.node (T.look a0.i name).1).text
   else if (T.node (T.look a0.i name).1).kind=2#8 then (⟨seen M ⟨a0.m,(T.look a0.i name).1⟩,left,links⟩,0) else (⟨⟨a0.m,(T.look a0.i name).1⟩,left,links⟩,0):=by
  simp [stepY,hd,hdd,h14,followY]
 rw [hstep] at fin hQ
 have hlook:(T.look a0.i name).2=0->(T.node (T.look a0.i name).1).kind≠0#8:=fun e=>(wf.pos (Tr.look_ok e).2).2.2.2.1
 generalize T.look a0.i name=lk at *
 simp only [ext_tuple,i64_neq,stdZ]
 by_cases he:lk.2=0
 rotate_left
 ·simp only [ne_eq,he,not_false_eq_true,decide_true,ifB_true]
  refine fin a0 lk.2 _ h2 ?_
  simp [he]
 rw [if_neg (by simpa using he)] at fin hQ
 simp only [ne_eq,he,not_true,decide_false,hb2,c0,q1,stdZ]
 refine S.f6 hE q2 lk.1 ?_
 rcases q2'.get lk.1 with ⟨k0,_⟩ | ⟨kk,yy,k0,k1,k2,k3',k4⟩
 ·exact (hlook he k0).elim
 have k3:=h2.ext.cells k3'
 simp only [nodeP_some q2.cov.nd k1,k3,inC,stdZ]
 have hl2:=strR_lenSlc (s2.sub h2.sub)
 have c3':(wayC t ⟨a0,left,links⟩ lv1)[3]? = some lv1:=rfl
 have c1':(wayC t ⟨a0,left,links⟩ lv1)[1]? = some (vi a0.m):=rfl
 have hnp:=nodeP_some q2.cov.nd k1
 have hnl:left.length<2 ^ 40:=by simp only [List.length_cons] at hn; omega
 have stay:¬ ((T.node lk.1).kind=3#8/\(follow=true\/left≠[])) -> 
   opt (nilCk (ptr b 0)) fun v94=>opt (addOff v94 1) fun v95=>opt (addOff v95 0) fun v96=>opt (load1 v96 H2) fun v97 =>
    opt (buildV [(0,1),(1,1)] #[(.int .i64 0),(.int .u16 0)] [(0,v97),(1,u16 lk.1)]) fun v98 =>
    opt (nilCk (ptr b 0)) fun v99=>opt (addOff v99 1) fun v100=>opt (storeN 2 v100 v98 H2) fun H28 =>
    opt (nilCk (nodeP L' lk.1)) fun v101=>opt (addOff v101 1) fun v102=>opt (load1 v102 H28) fun v103=>opt (binInt .eql v103 (.int .u8 2)) fun v104 =>
    ifB v104 (opt (nilCk (ptr b 0)) fun v105=>opt (addOff v105 0) fun v106=>opt (load1 v106 H28) fun v107=>opt (nilCk v107) fun v108=>opt (addOff v108 1) fun v109=>opt (load1 v109 H28) fun v110 =>
     opt (nilCk (ptr b 0)) fun v111=>opt (addOff v111 1) fun v112=>opt (loadN 2 v112 H28) fun v113 =>
     E.call (E.fid i.f31) [v110,v113] H28 fun v114 H29=>opt (nilCk (ptr b 0)) fun v115=>opt (addOff v115 1) fun v116=>opt (storeN 2 v116 v114 H29) fun H30=>Q (.int .i64 0) H30) (Q (.int .i64 0) H28):=by
  intro hnf
  rw [if_neg hnf] at fin
  have hst5:storeN 2 (ptr b 1) (PlaceD.v ⟨a0.m,lk.1⟩) H2=some (H2.put b (.cells (wayC t ⟨⟨a0.m,lk.1⟩,left,links⟩ lv1) none)):=by
   rw [storeN_ptr,hb2]; rfl
  have h5:=h2.put hk1 (wayC t ⟨⟨a0.m,lk.1⟩,left,links⟩ lv1)
  rw [List.set_set] at h5
  have hk5:=getE_set hk (boxR b (wayC t ⟨⟨a0.m,lk.1⟩,left,links⟩ lv1))
  simp only [hb2,c1',mkPlace,hst5,stdZ]
  generalize H2.put b (.cells (wayC t ⟨⟨a0.m,lk.1⟩,left,links⟩ lv1) none)=H5 at *
  have hb5:=h5.box hk5
  have w1:=h5.ext.cells q1'
  have w3:=q3'.mono h5.ext
  have c05:(wayC t ⟨⟨a0.m,lk.1⟩,left,links⟩ lv1)[0]? = some (ptr t 0):=rfl
  have hk:load1 (ptr yy.blk 1) H5=some (u8 (T.node lk.1).kind):=by
   rw [load1_ptr,h5.ext.cells k3']; rfl
  simp only [hnp,hk,stdZ]
  by_cases h2k:(T.node lk.1).kind=2#8
  ·have e2:binInt .eql (u8 (T.node lk.1).kind) (.int .u8 2)=some (vb true):=by
    show binInt .eql (u8 (T.node lk.1).kind) (u8 2#8)=_
    rw [u8_eql]; simp [h2k]
   have hlo5:loadN 2 (ptr b 1) H5=some (PlaceD.v ⟨a0.m,lk.1⟩):=by rw [loadN_ptr,hb5]; rfl
   simp only [e2,hb5,c05,w1,hlo5,stdZ]
   refine S.f31 hE q M nx ⟨a0.m,lk.1⟩ w3 ho fun H6 e6 =>?_
   have h6:=h5.grow e6
   have hb6:=h6.box hk5
   have hst6:storeN 2 (ptr b 1) (seen M ⟨a0.m,lk.1⟩).v H6=some (H6.put b (.cells (wayC t ⟨seen M ⟨a0.m,lk.1⟩,left,links⟩ lv1) none)):=by
    rw [storeN_ptr,hb6]; rfl
   have h7:=h6.put hk5 (wayC t ⟨seen M ⟨a0.m,lk.1⟩,left,links⟩ lv1)
   rw [List.set_set] at h7
   simp only [hst6,stdZ]
   exact fin _ 0 _ h7 (by rw [if_pos h2k])
  ·have e2:binInt .eql (u8 (T.node lk.1).kind) (.int .u8 2)=some (vb false):=by
    show binInt .eql (u8 (T.node lk.1).kind) (u8 2#8)=_
    rw [u8_eql]; simp [h2k]
   simp only [e2,stdZ]
   exact fin _ 0 _ h5 (by rw [if_neg h2k])
 by_cases hk3:(T.node lk.1).kind=3#8
 ·have ht:=lt lk.1 hk3
  by_cases hf:follow=true\/left≠[]
  ·rw [if_pos ⟨hk3,hf⟩] at hQ
   have hfol:=S.f115 (Q:=fun v H=>Q v H) hE h h2 hk1 s2 hnl hlk (T.node lk.1).text ht (fun lv' Z' H' z1 z2 z3=>hQ lv' Z' H' z1 (by rwa [List.set_set] at z2) z3)
   cases follow with
   | true =>
    simp [hk3,hnp,k3,inC]
    exact hfol
   | false =>
    have hpos:0<left.length:=List.length_pos_iff.2 (by simpa using hf)
    simp [hk3,hnp,k3,inC,hb2,c3',hl2,hpos]
    exact hfol
  ·have hf1:follow=false:=by cases follow <;> simp_all
   have hf2:left=[]:=by
    refine Classical.byContradiction fun hc=>hf (.inr hc)
   have st2:=stay fun hc=>hf hc.2
   subst hf1
   subst hf2
   have e3:binInt .eql (u8 (T.node lk.1).kind) (.int .u8 3)=some (vb true):=by
    show binInt .eql (u8 (T.node lk.1).kind) (u8 3#8)=_
    rw [u8_eql]; simp [hk3]
   have hl3:AM.lenSlc lv1=some (vi 0):=hl2
   simp only [e3,gd_tt,gd_ff,hb2,c3',hl3,i64_gtr,gt_iff_lt,Int.lt_irrefl,decide_false,pick_true_z,pick_false_z,stdZ]
   simp only [hb2,stdZ] at st2
   exact st2
 ·have st2:=stay fun hc=>hk3 hc.1
  have e3:binInt .eql (u8 (T.node lk.1).kind) (.int .u8 3)=some (vb false):=by
   show binInt .eql (u8 (T.node lk.1).kind) (u8 3#8)=_
   rw [u8_eql]; simp [hk3]
  simp only [e3,gd_ft,gd_skip,pick_false_z,hb2,stdZ]
  simp only [hb2,stdZ] at st2
  exact st2
end
end Go.AM
end
section
namespace Go.AM
section
variable {E:Sy} {H H' H0 Z:AH} {Q:Value->AH->Prop} {t:Nat} {T:Tr} {M:List MntD} {L:List Res}
theorem Has.callee (h:Has H0 Z H L) (e:Ext H H'):∃ Z',Fz H.next Z Z'/\Has H0 Z' H' L/\∀ sz v rows,Rows H' sz v rows->FreshV H.next v->Rows Z' sz v rows:=by
 have hg:∀ b,(AH.mk H'.next fun b=>if b<H.next then Z.get b else H'.get b).get b=if b<H.next then Z.get b else H'.get b:=by
  intro b
  simp only [AH.get]
  by_cases hb:b<H'.next
  ·rw [if_pos hb]
  ·have h1:¬ b<H.next:=fun hb'=>hb (Nat.lt_of_lt_of_le hb' e.1)
   have h2:¬ b<H'.next:=hb
   simp [h1,h2]
 refine ⟨⟨H'.next,fun b=>if b<H.next then Z.get b else H'.get b⟩,⟨⟨Nat.le_trans h.sub.1 e.1,fun b hb =>?_⟩,fun b hb=>by rw [hg,if_pos hb]⟩,?_,?_⟩
 ·rw [hg]
  split
  ·rfl
  ·rename_i hn
   exact (hb (AH.get_ge _ (Nat.le_trans h.sub.1 (by omega)))).elim
 ·refine h.refreeze e ⟨⟨Nat.le_trans h.sub.1 e.1,fun b hb =>?_⟩,fun b hb=>by rw [hg,if_pos hb]⟩ ⟨Nat.le_refl _,fun b hb =>?_⟩
  ·rw [hg]
   split
   ·rfl
   ·rename_i hn
    exact (hb (AH.get_ge _ (Nat.le_trans h.sub.1 (by omega)))).elim
  ·rw [hg] at hb ⊢
   split
   ·rename_i hlt
    rw [if_pos hlt] at hb
    rw [e.get hlt]
    exact h.sub.2 b hb
   ·rfl
 ·intro sz v rows hr hf
  refine ⟨hr.len,?_⟩
  rcases hr.at_ with g | ⟨b,o,c,g1,g2,g3,g4⟩
  ·exact .inl g
  ·by_cases hrn:rows=[]
   ·have hz:¬ b<H.next:=by
     have:=hf b (by rw [g1]; rfl)
     omega
    exact .inr ⟨b,o,c,g1,g2,by rw [hg,if_neg hz]; exact g3,by rw [hg,if_neg hz]; exact g4⟩
   ·have hz:¬ b<H.next:=by
     have:=hf b (by rw [g1]; rfl)
     omega
    exact .inr ⟨b,o,c,g1,g2,by rw [hg,if_neg hz]; exact g3,by rw [hg,if_neg hz]; exact g4⟩
theorem stepY_need (lt:T.LT) {w:WayD} (follow:Bool) (hne:w.left≠[]) (hlk:w.links<=8) (h0:(stepY T M w follow).2=0):(stepY T M w follow).1.need<w.need/\(stepY T M w follow).1.links<=8:=by
 obtain ⟨a,left,links⟩:=w
 cases left with
 | nil=>exact (hne rfl).elim
 | cons name left =>
  have hlk:links<=8:=hlk
  have stay:∀ a':PlaceD,(WayD.mk a' left links).need<(WayD.mk a (name :: left) links).need/\(WayD.mk a' left links).links<=8:=by
   intro a'
   refine ⟨?_,hlk⟩
   simp only [WayD.need,List.length_cons]
   omega
  revert h0
  unfold stepY
  simp only
  split
  ·intro h; simp at h
  split
  ·split
   ·intro h; simp at h
   ·intro _; exact stay _
  split
  ·intro h; simp at h
  split
  ·rename_i h4
   intro h; exact (h4 h).elim
  split
  ·rename_i h5
   split
   ·intro h; simp at h
   ·rename_i h6
    intro _
    have ht:=(lt _ h5.1).2
    have hp:=partsL_le (T.node (T.look a.i name).1).text
    refine ⟨?_,by show links+1<=8; omega⟩
    simp only [WayD.need,List.length_cons,List.length_append]
    omega
  ·split
   ·intro _; exact stay _
   ·intro _; exact stay _
theorem walkN_stable (lt:T.LT) (follow:Bool):∀ (n:Nat) (w:WayD),w.need<=n->w.links<=8->walkN T M follow n w=walkN T M follow (n+1) w
 | 0,w,h,hl=>by
  have:w.left=[]:=List.eq_nil_of_length_eq_zero (by unfold WayD.need at h; omega)
  simp [walkN,this]
 | n+1,w,h,hl=>by
  rw [walkN,walkN]
  split
  ·rfl
  ·rename_i hne
   split
   ·rfl
   ·rename_i h0
    have:=stepY_need (M:=M) lt follow hne hl (by simpa using h0)
    exact walkN_stable lt follow n _ (by omega) this.2
theorem walkN_enough (lt:T.LT) (follow:Bool) (w:WayD) (hl:w.links<=8):∀ (d n:Nat),w.need<=n->walkN T M follow (n+d) w=walkN T M follow n w
 | 0,_,_=>rfl
 | d+1,n,h=>by rw [<- Nat.add_assoc,<- walkN_stable lt follow (n+d) w (by omega) hl,walkN_enough lt follow w hl d n h]
theorem walkW_nil (follow:Bool) {w:WayD} (h:w.left=[]):walkW T M follow w=(w,0):=by
 unfold walkW
 cases w.need <;> simp [walkN,h]
theorem walkW_step (lt:T.LT) (follow:Bool) {w:WayD} (h:w.left≠[]) (hl:w.links<=8):walkW T M follow w=if (stepY T M w follow).2≠0 then stepY T M w follow else walkW T M follow (stepY T M w follow).1:=by
 have hpos:0<w.need:=by
  have:=List.length_pos_iff.2 h
  unfold WayD.need; omega
 unfold walkW
 obtain ⟨n,hn⟩:∃ n,w.need=n+1:=⟨w.need - 1,by omega⟩
 rw [hn,walkN,if_neg h]
 split
 ·rfl
 ·rename_i h0
  have:=stepY_need (M:=M) lt follow h hl (by simpa using h0)
  obtain ⟨d,hd⟩:∃ d,n=(stepY T M w follow).1.need+d:=⟨n - (stepY T M w follow).1.need,by omega⟩
  rw [hd]
  exact walkN_enough lt follow _ this.2 d _ (Nat.le_refl _)
theorem S.f97 (hE:Fold E) (s:List UInt8) (hs:s.length<2 ^ 63) (hQ:Q (vb (endsSlash s)) H):E.call (E.fid i.f97) [str s,str [47]] H Q:=by
 apply hE.f97
 simp only [F.f97]
 apply hE.f24
 unfold endsSlash at hQ
 cases hs0:s.reverse with
 | nil =>
  obtain rfl:s=[]:=by simpa using hs0
  simp [F.f24]
  simpa using hQ
 | cons c l =>
  obtain rfl:s=l.reverse++[c]:=by
   have:=congrArg List.reverse hs0
   simpa using this
  have hl:((l.reverse++[c]).length:Int)=(l.length:Int)+1:=by simp
  have h1:(1:Int)<=(l.length:Int)+1:=by omega
  simp only [List.length_append,List.length_reverse,List.length_cons,List.length_nil] at hs
  have hsub:binInt .sub (vi ((l.length:Int)+1)) (vi 1)=some (vi (l.length:Nat)):=by
   rw [i64_sub (by omega) (by omega)]; simp
  have hsl:slStr (str (l.reverse++[c])) (some (vi (l.length:Nat))) none=some (str [c]):=by
   rw [slStr_drop _ _ (by simp)]
   congr 2
   rw [List.drop_append]
   simp
  simp [F.f24,h1,hsub,hsl]
  simpa using hQ
end
end Go.AM
end
section
namespace Go.AM
section
variable {E:Sy} {H H' H0 Z:AH} {Q:Value->AH->Prop} {t:Nat} {T:Tr} {M:List MntD} {L:List Res}
theorem beginW_links (M:List MntD) (c:PlaceD) (path:List UInt8):(beginW M c path).1.links=0/\(beginW M c path).1.left.length<=121:=by
 unfold beginW
 split
 ·exact ⟨rfl,by simp⟩
 ·split
  ·exact ⟨rfl,by simp⟩
  ·exact ⟨rfl,by have:=partsL_le path; show (partsL path).length<=121; omega⟩
theorem answer {rb:Nat} {z:PlaceD} (hz:H.get rb = .cells z.cells none) (p:PlaceD) {R:Value->AH->Prop} (hR:R p.v (H.put rb (.cells p.cells none))) :
  opt (storeN 2 (ptr rb 0) p.v H) fun H3=>opt (loadN 2 (ptr rb 0) H3) fun v10=>R v10 H3:=by
 have h1:storeN 2 (ptr rb 0) p.v H=some (H.put rb (.cells p.cells none)):=by rw [storeN_ptr,hz]; rfl
 have h2:loadN 2 (ptr rb 0) (H.put rb (.cells p.cells none))=some p.v:=by rw [loadN_ptr,AH.get_put_self _ _ (AH.lt_cells hz)]; rfl
 simp only [h1,h2,tk_eq,opt_some]
 exact hR
theorem S.f110 (hE:Fold E) (h:WkAt H t T M) (wf:T.WF) (lt:T.LT) (c:PlaceD) (path:List UInt8) (hp:path.length<2 ^ 63) (follow:Bool)
  (hQ:∀ H',Ext H H'->Q (.tuple #[(findW T M c path follow).1.v,vi (findW T M c path follow).2]) H'):E.call (E.fid i.f110) [ptr t 0,c.v,str path,vb follow] H Q:=by
 apply hE.f110
 have g0:Has H H H []:=Has.start (Ext.refl H)
 have g1:=g0.newbox c.cells
 have g2:=g1.newbox PlaceD.zero.cells
 have hz2:([(.int .i64 0),(.int .u16 0)]:List Value)=PlaceD.zero.cells:=rfl
 simp only [F.f110,boxO_agg_z,AM.mk_some,mkPtr_eq_z,allocW_eq,hz2,List.toList_toArray,tk_eq]
 have hb1:=g2.box (k:=0) rfl
 have hl1:loadN 2 (ptr H.next 0) ((H.new (.cells c.cells none)).new (.cells PlaceD.zero.cells none))=some c.v:=by rw [loadN_ptr,hb1]; rfl
 generalize hrb:(H.new (.cells c.cells none)).next=rb at *
 simp only [hl1,stdZ]
 generalize (H.new (.cells c.cells none)).new (.cells PlaceD.zero.cells none)=H2 at *
 refine S.f112 hE (h.mono g2.ext) c path hp fun lv H3 e3 r3 f3 =>?_
 obtain ⟨Z3,z1,g3,z3⟩:=g2.callee e3
 have rz:=z3 1 lv _ r3 f3
 have hlv:=rz.plainV
 have hbg:=beginW_links M c path
 unfold findW at hQ
 generalize hbw:beginW M c path=bw at *
 have hz5:([(.pointer none),(.int .i64 0),(.int .u16 0),(.slice none 0 0),(.int .i64 0)]:List Value).length=5:=rfl
 have g4:=g3.newbox [(.pointer none),(.int .i64 0),(.int .u16 0),(.slice none 0 0),(.int .i64 0)]
 have hb4:=g4.box (k:=2) (b:=H3.next) rfl
 have hst:=way_store t bw.1 hlv hz5 hb4
 have g5:=g4.put (k:=2) (b:=H3.next) rfl (wayC t bw.1 lv)
 simp only [ext_tuple,allocW_eq,hst,stdZ]
 generalize hwb:H3.next=wb at *
 generalize (H3.new (.cells [(.pointer none),(.int .i64 0),(.int .u16 0),(.slice none 0 0),(.int .i64 0)] none)).put wb (.cells (wayC t bw.1 lv) none)=H5 at *
 have g5:Has H Z3 H5 [boxR H.next c.cells,boxR rb PlaceD.zero.cells,boxR wb (wayC t bw.1 lv)]:=g5
 simp only [i64_neq,stdZ]
 by_cases he:bw.2=0
 rotate_left
 ·simp only [ne_eq,he,not_false_eq_true,decide_true,mkPlace0,stdZ]
  rw [if_pos (by simpa using he)] at hQ
  refine answer (R:=fun v H=>Q (.tuple #[v,vi bw.2]) H) (g5.box (k:=1) rfl) PlaceD.zero ?_
  exact hQ _ (g5.put (k:=1) (b:=rb) rfl PlaceD.zero.cells).ext
 rw [if_neg (by simpa using he)] at hQ
 simp only [ne_eq,he,not_true,decide_false,stdZ]
 refine S.f97 hE path hp ?_
 generalize endsSlash path=slash at *
 refine LoopL.ind (fun n ls H'=>∃ w lv Z',n=w.need/\ls=[ptr t 0,vb follow,ptr rb 0,ptr wb 0,vb slash]/\Has H Z' H' [boxR H.next c.cells,boxR rb PlaceD.zero.cells,boxR wb (wayC t w lv)]/\Rows Z' 1 lv (strR w.left)/\w.links<=8/\w.need<=5000/\walkW T M (follow||slash) w=walkW T M (follow||slash) bw.1) ?_ bw.1.need ⟨bw.1,lv,Z3,rfl,rfl,g5,rz,by omega,by unfold WayD.need; omega,rfl⟩
 rintro n _ H6 X hX ⟨w,lv,Z',rfl,rfl,g6,r6,hlk,hnd,hww⟩
 have hb6:=g6.box (k:=2) (b:=wb) rfl
 have c3:(wayC t w lv)[3]? = some lv:=rfl
 have hl6:=strR_lenSlc (r6.sub g6.sub)
 have hneed:w.left.length<=w.need:=by unfold WayD.need; omega
 by_cases hne:w.left=[]
 ·rw [<- hww,walkW_nil _ hne] at hQ
  simp only [ne_eq,not_true,if_false] at hQ
  have hl0:AM.lenSlc lv=some (vi 0):=by rw [hl6,hne]; rfl
  obtain ⟨⟨p,m,L',q,nx,q1,q2,q3⟩,ho⟩:=h.mono g6.ext
  have c2:(wayC t w lv)[2]? = some (u16 w.at_.i):=rfl
  simp only [F.f110_l1,nth_0,nth_1,nth_2,nth_3,nth_4,hb6,c3,hl0,i64_gtr,gt_iff_lt,Int.lt_irrefl,decide_false,q1,c2,stdZ]
  refine S.f6 hE q2 w.at_.i ?_
  have hz6:=g6.box (k:=1) rfl
  rcases q2.get w.at_.i with ⟨k0,_⟩ | ⟨kk,yy,k0,k1,k2,k3,k4⟩
  ·rw [if_pos k0] at hQ
   simp only [nodeP_none q2.cov k0,nilp_none_z,mkPlace0,stdZ]
   refine answer (R:=fun v H=>Q (.tuple #[v,vi 2]) H) hz6 PlaceD.zero ?_
   exact hQ _ (g6.put (k:=1) (b:=rb) rfl PlaceD.zero.cells).ext
  ·rw [if_neg k0] at hQ
   simp only [nodeP_some q2.cov.nd k1,nilq_p,stdZ]
   have hlo6:loadN 2 (ptr wb 1) H6=some w.at_.v:=by rw [loadN_ptr,hb6]; rfl
   cases slash with
   | false =>
    simp only [Bool.false_eq_true,false_and,if_false] at hQ
    simp only [gd_ft,gd_skip,pick_false_z,hlo6,stdZ]
    refine answer (R:=fun v H=>Q (.tuple #[v,vi 0]) H) hz6 w.at_ ?_
    exact hQ _ (g6.put (k:=1) (b:=rb) rfl w.at_.cells).ext
   | true =>
    simp only [gd_tt,hlo6,stdZ]
    refine S.f109 hE (h.mono g6.ext) w.at_ fun H7 e7 =>?_
    have g7:=g6.grow e7
    have hz7:=g7.box (k:=1) rfl
    have hlo7:loadN 2 (ptr wb 1) H7=some w.at_.v:=by rw [loadN_ptr,g7.box (k:=2) (b:=wb) rfl]; rfl
    cases hd:dirP T M w.at_ with
    | false =>
     simp only [hd,and_self,if_true] at hQ
     simp only [gd_tt,un_not_z,Bool.not_false,pick_true_z,mkPlace0,stdZ]
     refine answer (R:=fun v H=>Q (.tuple #[v,vi 20]) H) hz7 PlaceD.zero ?_
     exact hQ _ (g7.put (k:=1) (b:=rb) rfl PlaceD.zero.cells).ext
    | true =>
     simp only [hd,Bool.true_eq_false,and_false,if_false] at hQ
     simp only [gd_tt,un_not_z,Bool.not_true,pick_true_z,hlo7,stdZ]
     refine answer (R:=fun v H=>Q (.tuple #[v,vi 0]) H) hz7 w.at_ ?_
     exact hQ _ (g7.put (k:=1) (b:=rb) rfl w.at_.cells).ext
 ·have hpos:(0:Int)<(w.left.length:Nat):=by have:=List.length_pos_iff.2 hne; omega
  simp only [F.f110_l1,nth_0,nth_1,nth_2,nth_3,nth_4,hb6,c3,hl6,i64_gtr,gt_iff_lt,hpos,decide_true,stdZ]
  have hpk:∀ (K:Value->AH->Prop),K (vb (follow||slash)) H6->gd (vb follow) false (fun k=>k (vb slash) H6) H6 fun v5 H1=>opt (pick (vb follow) (.bool true) v5) fun v6=>K v6 H1:=by
   intro K hK
   cases follow <;> simpa using hK
  refine hpk _ ?_
  refine S.f116 hE h wf lt (k:=2) (b:=wb) g6 rfl r6 (by omega) (by omega) hne (follow||slash) fun lv' Z7 H7 y1 y2 y3 =>?_
  have hst7:=walkW_step (M:=M) lt (follow||slash) hne hlk
  have hnd7:=stepY_need (M:=M) lt (follow||slash) hne hlk
  have y2:Has H Z7 H7 [boxR H.next c.cells,boxR rb PlaceD.zero.cells,boxR wb (wayC t (stepY T M w (follow||slash)).1 lv')]:=y2
  generalize stepY T M w (follow||slash)=st at *
  simp only [i64_neq,stdZ]
  by_cases h0:st.2=0
  ·rw [if_neg (by simpa using h0)] at hst7
   obtain ⟨n1,n2⟩:=hnd7 h0
   simp only [ne_eq,h0,not_true,decide_false,stdZ]
   exact hX _ n1 _ _ ⟨st.1,lv',Z7,rfl,rfl,y2,y3,n2,by omega,by rw [<- hww,hst7]⟩
  ·rw [if_pos (by simpa using h0)] at hst7
   rw [<- hww,hst7,if_pos (by simpa using h0)] at hQ
   simp only [ne_eq,h0,not_false_eq_true,decide_true,mkPlace0,stdZ]
   refine answer (R:=fun v H=>Q (.tuple #[v,vi st.2]) H) (y2.box (k:=1) rfl) PlaceD.zero ?_
   exact hQ _ (y2.put (k:=1) (b:=rb) rfl PlaceD.zero.cells).ext
end
end Go.AM
end
section
namespace Go.AM
set_option maxRecDepth 20000
def placeR (l:List PlaceD):List (List Value):=l.map PlaceD.cells
def AtOk (T:Tr) (M:List MntD):Prop:=∀ m∈M,m.id≠0->(T.node m.at_.i).kind≠0#8
section
variable {E:Sy} {H H' H0 Z:AH} {Q:Value->AH->Prop} {t:Nat} {T:Tr} {M:List MntD} {L:List Res}
theorem placeR_length (l:List PlaceD):(placeR l).length=l.length:=by simp [placeR]
theorem place_agg (p q:PlaceD):binAgg [0,0] .eql p.v q.v=some (vb (decide (p=q))):=by
 obtain ⟨a,b⟩:=p
 obtain ⟨c,d⟩:=q
 simp [binAgg,PlaceD.cells,place_eq]
theorem above_loop (hE:Fold E) (h:WkAt H t T M) (ao:AtOk T M) (c:PlaceD) {N:Nat} (hN:N=289) {H2:AH} (g3:Has H H H2 [boxR H.next c.cells,growR 2 nilS []]) (hk0:(T.node c.i).kind≠0#8) (hQ:∀ v H',Ext H H'->Rows H' 2 v (placeR (aboveN T M N c))->Q v H') :
  LoopL (fun l H X0=>F.f108_l1 E Q (nth l 0) (nth l 1) (nth l 2) (nth l 3) H X0) [ptr t 0,ptr H.next 0,(.slice none 0 0),(.int .i64 0)] H2:=by
 refine LoopL.count N (fun j ls H'=>∃ p v done,ls=[ptr t 0,ptr H.next 0,v,vi j]/\Has H H H' [boxR H.next p.cells,growR 2 v (placeR done)]/\done.length=j/\aboveN T M N c=done++aboveN T M (N - j) p/\(T.node p.i).kind≠0#8) ?_ ⟨c,nilS,[],rfl,g3,rfl,rfl,hk0⟩
 intro j ls H4 X hj hX hI
 obtain ⟨p,hI⟩:=hI
 obtain ⟨v,done,els,g4,hdn,hab,hkp⟩:=hI
 subst els
 rcases Nat.lt_or_ge j N with hjl | hjl
 rotate_left
 ·have hjl':¬ (j:Int)<289:=by omega
  have hje:N - j=0:=by omega
  rw [hje] at hab
  simp only [aboveN,List.append_nil] at hab
  rw [hab] at hQ
  simp only [F.f108_l1,i64_lss,hjl',decide_false,stdZ]
  exact hQ _ _ g4.ext (g4.rows (k:=1) rfl)
 have hX:=hX hjl
 have hjl':(j:Int)<289:=by omega
 have hjj:=i64_inc (i:=j) (by omega)
 have hstep:aboveN T M (N - j) p=p :: (match nextA T M p with | none=>[] | some q=>aboveN T M (N - (j+1)) q):=by
  rw [show N - j=(N - (j+1))+1 by omega]; rfl
 rw [hstep] at hab
 have hb4:=g4.box (k:=0) (b:=H.next) rfl
 have hl4:loadN 2 (ptr H.next 0) H4=some p.v:=by rw [loadN_ptr,hb4]; rfl
 obtain ⟨v',H5,a1,a2,g5⟩:=g4.app1 (k:=1) (bytes:=16) rfl p.cells rfl rfl (by decide) (by decide) (by rw [placeR_length]; omega)
 have g5:Has H H H5 [boxR H.next p.cells,growR 2 v' (placeR (done++[p]))]:=by simpa [placeR] using g5
 have hbS:=buildS_one 2 [vi 0,u16 0#16] p.cells rfl rfl
 have hab:aboveN T M N c=(done++[p])++(match nextA T M p with | none=>[] | some q=>aboveN T M (N - (j+1)) q):=by rw [hab]; simp
 obtain ⟨⟨q,m,L',q',nx,q1,q2,q3⟩,ho⟩:=h.mono g5.ext
 have hb5:=g5.box (k:=0) (b:=H.next) rfl
 have hl5:loadN 2 (ptr H.next 0) H5=some p.v:=by rw [loadN_ptr,hb5]; rfl
 have hz2:([(.int .i64 0),(.int .u16 0)]:List Value)=PlaceD.zero.cells:=rfl
 have g6:=g5.newbox PlaceD.zero.cells
 have hbS':buildS 1 2 PlaceD.zero.cells.toArray [(0,p.v)]=some (.cells p.cells none,mkSlc 1 1):=hbS
 simp only [F.f108_l1,i64_lss,hjl',decide_true,hl4,hbS',AM.mk_some,mkSlc_eq,a1,opt2_some,q1,hl5,allocW_eq,hz2,stdZ]
 have hz6:=AH.get_new_self H5 (.cells PlaceD.zero.cells none)
 have x6:Ext H5 (H5.new (.cells PlaceD.zero.cells none)):=(Ext.refl _).new _
 refine S.f29 hE q' M nx p (q3.mono x6) fun H7 e7 =>?_
 have g7:=g6.grow e7
 have hb7:=g7.box (k:=2) (b:=H5.next) rfl
 refine ⟨by rw [hb7,hz6],?_⟩
 have hst:storeN 2 (ptr H5.next 0) (optP (downT M p)).v H7=some (H7.put H5.next (.cells (optP (downT M p)).cells none)):=by rw [storeN_ptr,hb7]; rfl
 have g8:=g7.put (k:=2) (b:=H5.next) rfl (optP (downT M p)).cells
 simp only [hst,stdZ]
 generalize H7.put H5.next (.cells (optP (downT M p)).cells none)=H8 at *
 have g8:Has H H H8 [boxR H.next p.cells,growR 2 v' (placeR (done++[p])),boxR H5.next (optP (downT M p)).cells]:=g8
 have hb8:=g8.box (k:=0) (b:=H.next) rfl
 have hb8':=g8.box (k:=2) (b:=H5.next) rfl
 cases hdn':downT M p with
 | some r =>
  have hna:nextA T M p=some r:=by simp [nextA,hdn']
  rw [hna] at hab
  rw [hdn'] at hb8'
  have hl8:loadN 2 (ptr H5.next 0) H8=some r.v:=by rw [loadN_ptr,hb8']; rfl
  have hs8:storeN 2 (ptr H.next 0) r.v H8=some (H8.put H.next (.cells r.cells none)):=by rw [storeN_ptr,hb8]; rfl
  have g9:=(g8.put (k:=0) (b:=H.next) rfl r.cells).drop 2
  obtain ⟨m',w1,w2,w3,rfl⟩:=downT_some hdn'
  simp only [Option.isSome_some,hl8,hs8,hjj,stdZ]
  exact hX _ _ ⟨m'.at_,v',done++[p],rfl,g9,by simp [hdn],hab,ao m' (getT_some w1).1 w2⟩
 | none =>
  rw [hdn'] at hb8'
  obtain ⟨⟨qq,mm,LL,qq',nnx,p1,p2,p3⟩,_⟩:=h.mono g8.ext
  have c0:p.cells[0]? = some (vi p.m):=rfl
  have c1:p.cells[1]? = some (u16 p.i):=rfl
  have g9:=g8.newbox PlaceD.zero.cells
  have x9:Ext H8 (H8.new (.cells PlaceD.zero.cells none)):=(Ext.refl _).new _
  have hb9:=g9.box (k:=0) (b:=H.next) rfl
  have hz9:=g9.box (k:=3) (b:=H8.next) rfl
  simp only [Option.isSome_none,hb8,c0,c1,p1,allocW_eq,hz2,stdZ]
  refine S.f6 hE (p2.mono x9) p.i ?_
  refine ⟨rfl,by rw [load1_ptr,load1_ptr,hb9,hb8],?_⟩
  rcases (p2.mono x9).get p.i with ⟨k0,_⟩ | ⟨kk,yy,k0,k1,k2,k3,k4⟩
  ·exact (hkp k0).elim
  have hst9:storeN 2 (ptr H8.next 0) (PlaceD.v ⟨p.m,(T.node p.i).parent⟩) (H8.new (.cells PlaceD.zero.cells none))=some ((H8.new (.cells PlaceD.zero.cells none)).put H8.next (.cells (PlaceD.cells ⟨p.m,(T.node p.i).parent⟩) none)):=by rw [storeN_ptr,hz9]; rfl
  have g10:=g9.put (k:=3) (b:=H8.next) rfl (PlaceD.cells ⟨p.m,(T.node p.i).parent⟩)
  simp only [nodeP_some p2.cov.nd k1,k3,inC,mkPlace,hst9,stdZ]
  generalize (H8.new (.cells PlaceD.zero.cells none)).put H8.next (.cells (PlaceD.cells ⟨p.m,(T.node p.i).parent⟩) none)=H10 at *
  have g10:Has H H H10 [boxR H.next p.cells,growR 2 v' (placeR (done++[p])),boxR H5.next (optP (downT M p)).cells,boxR H8.next (PlaceD.cells ⟨p.m,(T.node p.i).parent⟩)]:=g10
  have hbp:=g10.box (k:=0) (b:=H.next) rfl
  have hbu:=g10.box (k:=3) (b:=H8.next) rfl
  have hlp:loadN 2 (ptr H.next 0) H10=some p.v:=by rw [loadN_ptr,hbp]; rfl
  have hlu:loadN 2 (ptr H8.next 0) H10=some (PlaceD.v ⟨p.m,(T.node p.i).parent⟩):=by rw [loadN_ptr,hbu]; rfl
  simp only [hlp,hlu,place_agg,stdZ]
  by_cases hup:(⟨p.m,(T.node p.i).parent⟩:PlaceD)=p
  ·have hna:nextA T M p=none:=by simp [nextA,hdn',hup]
   rw [hna,List.append_nil] at hab
   rw [hab] at hQ
   simp only [hup,decide_true,stdZ]
   exact hQ _ _ g10.ext (g10.rows (k:=1) rfl)
  obtain ⟨⟨qz,mz,Lz,qz',nz,z1,z2,z3⟩,_⟩:=h.mono g10.ext
  have cu:(PlaceD.cells ⟨p.m,(T.node p.i).parent⟩)[1]? = some (u16 (T.node p.i).parent):=rfl
  simp only [hup,decide_false,z1,hbu,cu,stdZ]
  refine S.f6 hE z2 (T.node p.i).parent ?_
  rcases z2.get (T.node p.i).parent with ⟨n0,_⟩ | ⟨nn,ny,n0,n1,n2,n3,n4⟩
  ·have hna:nextA T M p=none:=by simp [nextA,hdn',n0]
   rw [hna,List.append_nil] at hab
   rw [hab] at hQ
   simp only [nodeP_none z2.cov n0,nilp_none_z,hup,decide_false,stdZ]
   exact hQ _ _ g10.ext (g10.rows (k:=1) rfl)
  ·have hna:nextA T M p=some ⟨p.m,(T.node p.i).parent⟩:=by simp [nextA,hdn',hup,n0]
   rw [hna] at hab
   have hs10:storeN 2 (ptr H.next 0) (PlaceD.v ⟨p.m,(T.node p.i).parent⟩) H10=some (H10.put H.next (.cells (PlaceD.cells ⟨p.m,(T.node p.i).parent⟩) none)):=by rw [storeN_ptr,hbp]; rfl
   have g11:=((g10.put (k:=0) (b:=H.next) rfl (PlaceD.cells ⟨p.m,(T.node p.i).parent⟩)).drop 3).drop 2
   simp only [nodeP_some z2.cov.nd n1,nilq_p,hup,decide_false,hlu,hs10,hjj,stdZ]
   exact hX _ _ ⟨_,v',done++[p],rfl,g11,by simp [hdn],hab,n0⟩
theorem S.f108 (hE:Fold E) (h:WkAt H t T M) (ao:AtOk T M) (c:PlaceD) (hQ:∀ v H',Ext H H'->Rows H' 2 v (placeR (aboveW T M c))->Q v H'):E.call (E.fid i.f108) [ptr t 0,c.v] H Q:=by
 apply hE.f108
 have g0:Has H H H []:=Has.start (Ext.refl H)
 have g1:=g0.newbox c.cells
 have hb1:=g1.box (k:=0) rfl
 have hl1:loadN 2 (ptr H.next 0) (H.new (.cells c.cells none))=some c.v:=by rw [loadN_ptr,hb1]; rfl
 simp only [F.f108,boxO_agg_z,AM.mk_some,mkPtr_eq_z,List.toList_toArray,hl1,stdZ]
 generalize H.new (.cells c.cells none)=H1 at *
 refine S.f109 hE (h.mono g1.ext) c fun H2 e2 =>?_
 have g2:=g1.grow e2
 unfold aboveW at hQ
 cases hd:dirP T M c with
 | false =>
  rw [hd] at hQ
  simp only [stdZ]
  exact hQ _ _ g2.ext (by simpa [placeR] using Rows.nil _ 2 none)
 | true =>
 rw [hd] at hQ
 simp only [if_true] at hQ
 simp only [stdZ]
 have hk0:(T.node c.i).kind≠0#8:=by
  unfold dirP at hd
  simp only [Bool.and_eq_true,decide_eq_true_eq] at hd
  rw [hd.2]; decide
 have g3:=g2.nils 2
 have g3:Has H H H2 [boxR H.next c.cells,growR 2 nilS []]:=g3
 exact above_loop hE h ao c rfl g3 hk0 hQ
end
end Go.AM
end
section
namespace Go.AM
structure InoX (H0 H:AH) (p m:Nat) (L:LyL) (T:Tr):Prop where
 ext:Ext H0 H
 ino:Ino H p m L T
 own:∀ b∈(inoR p m L T).fp,H0.next<=b
section
variable {E:Sy} {H0 H H' H'':AH} {Q:Value->AH->Prop} {p m:Nat} {L L' L'':LyL} {T T' T'':Tr}
theorem S.f2' (hE:Fold E) (limit:Int) (hQ:∀ p m L H',InoX H H' p m L (Tr.new limit)->Q (ptr p 0) H'):E.call (E.fid i.f2) [vi limit] H Q :=
 S.f2 hE limit fun p m L H' e h hf=>hQ p m L H' ⟨e,h,hf⟩
end
end Go.AM
end
section
namespace Go.AM
structure PlaceI where
 mount:Int
 inode:Int
 deriving DecidableEq
def PlaceI.cells (x:PlaceI):List Value:=[vi x.mount,vi x.inode]
abbrev PlaceI.v (x:PlaceI):Value := .agg x.cells.toArray
def PlaceI.zero:PlaceI:=⟨0,0⟩
@[simp high] theorem PlaceI.cells_length (x:PlaceI):x.cells.length=2:=nrf rfl
@[simp high] theorem PlaceI.splice (a0 a1:Value) (x:PlaceI):AM.splice [a0,a1] 0 x.cells=x.cells:=nrf rfl
@[simp high] theorem PlaceI.splice_cells (y x:PlaceI):AM.splice y.cells 0 x.cells=x.cells:=nrf rfl
@[simp high] theorem PlaceI.take (x:PlaceI):x.cells.take 2=x.cells:=nrf rfl
@[simp high] theorem PlaceI.plain (x:PlaceI):x.cells.all plain1=true:=nrf rfl
@[simp high] theorem PlaceI.at0 (x:PlaceI):x.cells[0]? = some (vi x.mount):=nrf rfl
@[simp high] theorem PlaceI.at1 (x:PlaceI):x.cells[1]? = some (vi x.inode):=nrf rfl
@[simp high] theorem PlaceI.build (p0:Int) (p1:Int)  : buildV [(0,1),(1,1)] [vi 0,vi 0].toArray [(0,vi p0),(1,vi p1)]=some (PlaceI.v ⟨p0,p1⟩):=by
 simp [PlaceI.cells,AM.splice]
@[simp high] theorem PlaceI.build0:buildV [(0,1),(1,1)] [vi 0,vi 0].toArray []=some (PlaceI.v PlaceI.zero):=by
 simp [PlaceI.zero,PlaceI.cells]
theorem PlaceI.ext_iff (x y:PlaceI):x=y↔x.mount=y.mount/\x.inode=y.inode:=by
 cases x; cases y; simp
theorem PlaceI.same (x y:PlaceI):sameCells [0,0] x.cells y.cells=some (decide (x=y)):=by
 simp only [PlaceI.ext_iff,Bool.decide_and,PlaceI.cells,List.cons_append,List.nil_append,sameCells_cons,sameCells_nil,same_i64,same_str,same_bool,same_u8,same_u16,same_u32,same_u64,Option.bind_some,Option.map_some,Bool.and_true,Bool.and_assoc]
@[simp high] theorem PlaceI.eql (x y:PlaceI):binAgg [0,0] .eql (.agg x.cells.toArray) (.agg y.cells.toArray)=some (vb (decide (x=y))):=by rw [binAgg_eql,PlaceI.same]; rfl
@[simp high] theorem PlaceI.neq (x y:PlaceI):binAgg [0,0] .neq (.agg x.cells.toArray) (.agg y.cells.toArray)=some (vb (decide (x≠y))):=by rw [binAgg_neq,PlaceI.same]; simp
structure MntI where
 id:Int
 root:Int
 at_:PlaceI
 held:Int
 deriving DecidableEq
def MntI.cells (x:MntI):List Value:=[vi x.id,vi x.root]++x.at_.cells++[vi x.held]
abbrev MntI.v (x:MntI):Value := .agg x.cells.toArray
def MntI.zero:MntI:=⟨0,0,PlaceI.zero,0⟩
@[simp high] theorem MntI.at0 (x:MntI):x.cells[0]? = some (vi x.id):=nrf rfl
@[simp high] theorem MntI.at1 (x:MntI):x.cells[1]? = some (vi x.root):=nrf rfl
@[simp high] theorem MntI.at2 (x:MntI):x.cells[2]? = some (vi x.at_.mount):=nrf rfl
@[simp high] theorem MntI.at3 (x:MntI):x.cells[3]? = some (vi x.at_.inode):=nrf rfl
@[simp high] theorem MntI.at4 (x:MntI):x.cells[4]? = some (vi x.held):=nrf rfl
@[simp high] theorem MntI.part2 (x:MntI):(x.cells.drop 2).take 2=x.at_.cells:=nrf rfl
theorem MntI.elem {H:AH} {v:Value} {l:List MntI} (h:Rows H 5 v (l.map MntI.cells)) {i:Nat} (hi:i<l.length):∃ b o,ixSlc 5 v (vi i)=some (ptr b o)/\(H.get b).row o 5=some l[i].cells/\(H.get b).cell o=some (vi l[i].id)/\(H.get b).cell (o+1)=some (vi l[i].root)/\(H.get b).cell (o+2)=some (vi l[i].at_.mount)/\(H.get b).cell (o+3)=some (vi l[i].at_.inode)/\(H.get b).cell (o+4)=some (vi l[i].held)/\(H.get b).row (o+2) 2=some l[i].at_.cells:=by
 obtain ⟨b,o,f1,f2⟩:=h.ix (i:=i) (by simpa using hi)
 simp only [List.getElem_map] at f2
 exact ⟨b,o,f1,f2,by have:=row_at f2 (j:=0) (by omega); simpa using this,by have:=row_at f2 (j:=1) (by omega); simpa using this,by have:=row_at f2 (j:=2) (by omega); simpa using this,by have:=row_at f2 (j:=3) (by omega); simpa using this,by have:=row_at f2 (j:=4) (by omega); simpa using this,by have:=row_part f2 (j:=2) (m:=2) (by omega); simpa using this⟩
@[simp high] theorem MntI.build_0_1_2 (p0:Int) (p1:Int) (p2:PlaceI)  : buildV [(0,1),(1,1),(2,2),(4,1)] [vi 0,vi 0,vi 0,vi 0,vi 0].toArray [(0,vi p0),(1,vi p1),(2,.agg (p2).cells.toArray)]=some (MntI.v ⟨p0,p1,p2,0⟩):=by
 simp [MntI.cells,MntI.zero,AM.splice,PlaceI.cells,PlaceI.zero]
@[simp high] theorem MntI.build1 (x:MntI):buildS 1 5 [vi 0,vi 0,vi 0,vi 0,vi 0].toArray [(0,.agg x.cells.toArray)]=some (.cells x.cells none,mkSlc 1 1):=buildS_one 5 [vi 0,vi 0,vi 0,vi 0,vi 0] x.cells rfl rfl
structure EntryI where
 name_:List UInt8
 inode:Int
 deriving DecidableEq
def EntryI.cells (x:EntryI):List Value:=[str x.name_,vi x.inode]
abbrev EntryI.v (x:EntryI):Value := .agg x.cells.toArray
@[simp high] theorem EntryI.at0 (x:EntryI):x.cells[0]? = some (str x.name_):=nrf rfl
@[simp high] theorem EntryI.build (p0:List UInt8) (p1:Int)  : buildV [(0,1),(1,1)] [str [],vi 0].toArray [(0,str p0),(1,vi p1)]=some (EntryI.v ⟨p0,p1⟩):=by
 simp [EntryI.cells,AM.splice]
@[simp high] theorem EntryI.build1 (x:EntryI):buildS 1 2 [str [],vi 0].toArray [(0,.agg x.cells.toArray)]=some (.cells x.cells none,mkSlc 1 1):=buildS_one 2 [str [],vi 0] x.cells rfl rfl
structure NodeI where
 kind:Int
 data_:Value
 l:Value
 parent:Int
 text:List UInt8
 links:Int
 held:Int
def NodeI.cells (x:NodeI):List Value:=[vi x.kind,x.data_,x.l,vi x.parent,str x.text,vi x.links,vi x.held]
abbrev NodeI.v (x:NodeI):Value := .agg x.cells.toArray
def NodeI.zero:NodeI:=⟨0,nilS,nilS,0,[],0,0⟩
@[simp high] theorem NodeI.cells_length (x:NodeI):x.cells.length=7:=nrf rfl
@[simp high] theorem NodeI.splice_cells (y x:NodeI):AM.splice y.cells 0 x.cells=x.cells:=nrf rfl
@[simp high] theorem NodeI.at0 (x:NodeI):x.cells[0]? = some (vi x.kind):=nrf rfl
@[simp high] theorem NodeI.at1 (x:NodeI):x.cells[1]? = some (x.data_):=nrf rfl
@[simp high] theorem NodeI.at2 (x:NodeI):x.cells[2]? = some (x.l):=nrf rfl
@[simp high] theorem NodeI.at3 (x:NodeI):x.cells[3]? = some (vi x.parent):=nrf rfl
@[simp high] theorem NodeI.at4 (x:NodeI):x.cells[4]? = some (str x.text):=nrf rfl
@[simp high] theorem NodeI.at5 (x:NodeI):x.cells[5]? = some (vi x.links):=nrf rfl
@[simp high] theorem NodeI.at6 (x:NodeI):x.cells[6]? = some (vi x.held):=nrf rfl
@[simp high] theorem NodeI.set3 (x:NodeI) (p:Int):x.cells.set 3 (vi p)=({ x with parent:=p }:NodeI).cells:=nrf rfl
@[simp high] theorem NodeI.set4 (x:NodeI) (p:List UInt8):x.cells.set 4 (str p)=({ x with text:=p }:NodeI).cells:=nrf rfl
@[simp high] theorem NodeI.build0:buildV [(0,1),(1,1),(2,1),(3,1),(4,1),(5,1),(6,1)] [vi 0,nilS,nilS,vi 0,str [],vi 0,vi 0].toArray []=some (NodeI.v NodeI.zero):=by
 simp [NodeI.zero,NodeI.cells]
@[simp high] theorem NodeI.build1 (x:NodeI):buildS 1 7 [vi 0,nilS,nilS,vi 0,str [],vi 0,vi 0].toArray [(0,.agg x.cells.toArray)]=some (.cells x.cells none,mkSlc 1 1):=buildS_one 7 [vi 0,nilS,nilS,vi 0,str [],vi 0,vi 0] x.cells rfl rfl
theorem NodeI.buildS (xs:List NodeI):AM.buildS xs.length 7 [vi 0,nilS,nilS,vi 0,str [],vi 0,vi 0].toArray ((List.range' 0 xs.length).zip (xs.map NodeI.v))=some (.cells (xs.map NodeI.cells).flatten none,mkSlc xs.length xs.length):=by
 have:=buildS_full xs.length 7 [vi 0,nilS,nilS,vi 0,str [],vi 0,vi 0] ((List.range' 0 xs.length).zip (xs.map NodeI.v)) (xs.map NodeI.v) rfl (by simp) (by simp) (by rw [List.all_eq_true]; intro v hv; obtain ⟨x,_,rfl⟩:=List.mem_map.1 hv; rfl) (by intro v hv; obtain ⟨x,_,rfl⟩:=List.mem_map.1 hv; rfl)
 rw [this,List.flatMap_map]; rfl
structure TreeI where
 n:Value
 limit:Int
 m:Value
 next:Int
 change:Int
def TreeI.cells (x:TreeI):List Value:=[x.n,vi x.limit,x.m,vi x.next,vi x.change]
abbrev TreeI.v (x:TreeI):Value := .agg x.cells.toArray
@[simp high] theorem TreeI.cells_length (x:TreeI):x.cells.length=5:=nrf rfl
@[simp high] theorem TreeI.at0 (x:TreeI):x.cells[0]? = some (x.n):=nrf rfl
@[simp high] theorem TreeI.at1 (x:TreeI):x.cells[1]? = some (vi x.limit):=nrf rfl
@[simp high] theorem TreeI.at2 (x:TreeI):x.cells[2]? = some (x.m):=nrf rfl
@[simp high] theorem TreeI.at3 (x:TreeI):x.cells[3]? = some (vi x.next):=nrf rfl
@[simp high] theorem TreeI.at4 (x:TreeI):x.cells[4]? = some (vi x.change):=nrf rfl
@[simp high] theorem TreeI.set0 (x:TreeI) (p:Value):x.cells.set 0 (p)=({ x with n:=p }:TreeI).cells:=nrf rfl
@[simp high] theorem TreeI.set2 (x:TreeI) (p:Value):x.cells.set 2 (p)=({ x with m:=p }:TreeI).cells:=nrf rfl
@[simp high] theorem TreeI.set3 (x:TreeI) (p:Int):x.cells.set 3 (vi p)=({ x with next:=p }:TreeI).cells:=nrf rfl
@[simp high] theorem TreeI.set4 (x:TreeI) (p:Int):x.cells.set 4 (vi p)=({ x with change:=p }:TreeI).cells:=nrf rfl
end Go.AM
end
section
namespace Go.AM
structure RLy where
 data:Value
 l:Value
def refI (x:Nd) (y:RLy):NodeI:=⟨(x.kind.toNat:Int),y.data,y.l,(x.parent.toNat:Int),x.text,x.links,x.held⟩
def entR (l:List (NameL×BitVec 16)):List (List Value):=l.map fun e=>[str e.1,vi (e.2.toNat:Int)]
theorem entR_length (l:List (NameL×BitVec 16)):(entR l).length=l.length:=by simp [entR]
def nodeRR (x:Nd) (y:RLy):Res:=joinR [growR 1 y.data (byteR x.data),growR 2 y.l (entR x.ents)]
def nodeRows (T:Tr) (Y:List RLy):List (List Value):=(T.N.zip Y).map fun p=>(refI p.1 p.2).cells
def refRs (t:Nat) (nv mv:Value) (nx:Int) (mr:List (List Value)) (Y:List RLy) (T:Tr):List Res :=
 boxR t (TreeI.cells ⟨nv,T.limit,mv,nx,T.change⟩) :: growR 7 nv (nodeRows T Y) :: growR 5 mv mr :: (T.N.zip Y).map fun p=>nodeRR p.1 p.2
def refR (t:Nat) (nv mv:Value) (nx:Int) (mr:List (List Value)) (Y:List RLy) (T:Tr):Res:=joinR (refRs t nv mv nx mr Y T)
structure RefT (H:AH) (t:Nat) (nv mv:Value) (nx:Int) (mr:List (List Value)) (Y:List RLy) (T:Tr):Prop where
 ow:Ow (refR t nv mv nx mr Y T) H
 len:Y.length=T.N.length
 fit:T.N.length<=60000
structure UpdR (t:Nat) (nv mv:Value) (nx:Int) (mr:List (List Value)) (Y:List RLy) (T:Tr) (nv':Value) (Y':List RLy) (T':Tr) (H H':AH):Prop where
 upd:Upd (refR t nv mv nx mr Y T) (refR t nv' mv nx mr Y' T') H H'
 len:Y'.length=T'.N.length
 fit:T'.N.length<=60000
def NdAt (H:AH) (b o:Nat) (x:Nd) (y:RLy):Prop:=(H.get b).row o 7=some (refI x y).cells/\Rows H 1 y.data (byteR x.data)/\Rows H 2 y.l (entR x.ents)
section
variable {E:Sy} {H H' H'':AH} {Q:Value->AH->Prop} {t:Nat} {nv nv' nv'' mv:Value} {nx:Int} {mr:List (List Value)} {Y Y' Y'':List RLy} {T T' T'':Tr}
theorem UpdR.ref (u:UpdR t nv mv nx mr Y T nv' Y' T' H H') (h:RefT H t nv mv nx mr Y T):RefT H' t nv' mv nx mr Y' T':=⟨h.ow.upd u.upd,u.len,u.fit⟩
theorem UpdR.trans (u:UpdR t nv mv nx mr Y T nv' Y' T' H H') (u':UpdR t nv' mv nx mr Y' T' nv'' Y'' T'' H' H''):UpdR t nv mv nx mr Y T nv'' Y'' T'' H H'':=⟨u.upd.trans u'.upd,u'.len,u'.fit⟩
theorem UpdR.after (e:Ext H H') (u:UpdR t nv mv nx mr Y T nv' Y' T' H' H''):UpdR t nv mv nx mr Y T nv' Y' T' H H'':=⟨u.upd.after e,u.len,u.fit⟩
theorem RefT.same (h:RefT H t nv mv nx mr Y T) (e:Ext H H'):UpdR t nv mv nx mr Y T nv Y T H H':=⟨h.ow.ext e,h.len,h.fit⟩
theorem RefT.mono (h:RefT H t nv mv nx mr Y T) (e:Ext H H'):RefT H' t nv mv nx mr Y T:=(h.same e).ref h
theorem RefT.head (h:RefT H t nv mv nx mr Y T):H.get t = .cells (TreeI.cells ⟨nv,T.limit,mv,nx,T.change⟩) none:=h.ow.holds (boxR t (TreeI.cells ⟨nv,T.limit,mv,nx,T.change⟩)) (by simp [refRs])
theorem RefT.rows (h:RefT H t nv mv nx mr Y T):Grow zH H 7 nv (nodeRows T Y):=h.ow.holds (growR 7 nv (nodeRows T Y)) (by simp [refRs])
theorem RefT.rows_len (h:RefT H t nv mv nx mr Y T):(nodeRows T Y).length=T.N.length:=by simp [nodeRows,h.len]
theorem RefT.lenSlc (h:RefT H t nv mv nx mr Y T):AM.lenSlc nv=some (vi T.N.length):=by
 have:=h.rows.toRows.lenSlc
 rwa [h.rows_len] at this
theorem RefT.part (h:RefT H t nv mv nx mr Y T) {k:Nat} {x:Nd} {y:RLy} (hx:T.N[k]? = some x) (hy:Y[k]? = some y):Ow (nodeRR x y) H :=
 h.ow.part (rs:=refRs t nv mv nx mr Y T) (k:=k+3) (by simp [refRs,List.zip,List.getElem?_zipWith,hx,hy])
theorem nodeRR.data {x:Nd} {y:RLy} (h:Ow (nodeRR x y) H):Grow zH H 1 y.data (byteR x.data):=h.holds (growR 1 y.data (byteR x.data)) (by simp)
theorem nodeRR.l {x:Nd} {y:RLy} (h:Ow (nodeRR x y) H):Grow zH H 2 y.l (entR x.ents):=h.holds (growR 2 y.l (entR x.ents)) (by simp)
theorem Tr.node_get {n:BitVec 16} (h:n.toNat<T.N.length):T.N[n.toNat]? = some (T.node n):=by
 simp [Tr.node,List.getD_eq_getElem?_getD,h]
theorem Tr.node_ge {n:BitVec 16} (h:T.N.length<=n.toNat):T.node n=Nd.none:=by
 simp [Tr.node,List.getD_eq_getElem?_getD,h]
theorem RefT.at_ (h:RefT H t nv mv nx mr Y T) {n:BitVec 16} (hn:n.toNat<T.N.length):∃ y b o,Y[n.toNat]? = some y/\ixSlc 7 nv (vi (n.toNat:Int))=some (ptr b o)/\NdAt H b o (T.node n) y:=by
 have hx:=Tr.node_get hn
 have hy:Y[n.toNat]? = some (Y[n.toNat]'(by rw [h.len]; exact hn)):=List.getElem?_eq_getElem _
 have hp:=h.part hx hy
 obtain ⟨b,o,f1,f2⟩:=h.rows.toRows.ix (i:=n.toNat) (by rw [h.rows_len]; exact hn)
 refine ⟨_,b,o,hy,f1,?_,(nodeRR.data hp).toRows,(nodeRR.l hp).toRows⟩
 rw [f2]
 have:(nodeRows T Y)[n.toNat]? = some (refI (T.node n) (Y[n.toNat]'(by rw [h.len]; exact hn))).cells:=by
  simp only [nodeRows,List.getElem?_map,List.zip,List.getElem?_zipWith,hx,hy]
  rfl
 rw [List.getElem?_eq_getElem] at this
 exact this
theorem NdAt.mono {b o:Nat} {x:Nd} {y:RLy} (h:NdAt H b o x y) (e:Ext H H'):NdAt H' b o x y :=
 ⟨by rw [e.get (AH.lt_of_get (row_notdead h.1))]; exact h.1,h.2.1.mono e,h.2.2.mono e⟩
theorem NdAt.cell {b o:Nat} {x:Nd} {y:RLy} (h:NdAt H b o x y):(H.get b).cell o=some (vi (x.kind.toNat:Int))/\(H.get b).cell (o+1)=some y.data/\(H.get b).cell (o+2)=some y.l/\(H.get b).cell (o+3)=some (vi (x.parent.toNat:Int)) /\
  (H.get b).cell (o+4)=some (str x.text)/\(H.get b).cell (o+5)=some (vi x.links)/\(H.get b).cell (o+6)=some (vi x.held):=by
 have f:=h.1
 refine ⟨?_,?_,?_,?_,?_,?_,?_⟩
 ·have:=row_at f (j:=0) (by omega); simpa [refI] using this
 ·have:=row_at f (j:=1) (by omega); simpa [refI] using this
 ·have:=row_at f (j:=2) (by omega); simpa [refI] using this
 ·have:=row_at f (j:=3) (by omega); simpa [refI] using this
 ·have:=row_at f (j:=4) (by omega); simpa [refI] using this
 ·have:=row_at f (j:=5) (by omega); simpa [refI] using this
 ·have:=row_at f (j:=6) (by omega); simpa [refI] using this
theorem NdAt.lenL {b o:Nat} {x:Nd} {y:RLy} (h:NdAt H b o x y):AM.lenSlc y.l=some (vi x.ents.length):=by
 have:=h.2.2.lenSlc
 rwa [entR_length] at this
theorem S.f72 (hE:Fold E) (h:RefT H t nv mv nx mr Y T) (n:BitVec 16)
  (hQ:∀ b o y H',Ext H H'->NdAt H' b o (T.node n) y->(n.toNat<T.N.length->H'=H/\Y[n.toNat]? = some y/\ixSlc 7 nv (vi (n.toNat:Int))=some (ptr b o))->Q (ptr b o) H'):E.call (E.fid i.f72) [ptr t 0,vi (n.toNat:Int)] H Q:=by
 apply hE.f72
 have hh:=h.head
 have hl:=h.lenSlc
 have h0:¬ ((n.toNat:Int)<0):=by omega
 by_cases hn:n.toNat<T.N.length
 ·obtain ⟨y,b,o,h1,h2,h3⟩:=h.at_ hn
  have hn':¬ (T.N.length:Int)<=n.toNat:=by omega
  simp [F.f72,h0,hh,hl,hn',h2]
  exact hQ b o y H (Ext.refl H) h3 fun _=>⟨rfl,h1,h2⟩
 ·have hn':(T.N.length:Int)<=n.toNat:=by omega
  simp [F.f72,h0,hh,hl,hn']
  refine hQ H.next 0 ⟨nilS,nilS⟩ _ ((Ext.refl H).new _) ?_ fun h=>(hn h).elim
  rw [Tr.node_ge (by omega)]
  refine ⟨?_,Rows.nil _ _ none,Rows.nil _ _ none⟩
  rw [AH.get_new_self]
  rfl
theorem toNat_kind (k:BitVec 8) (j:Nat) (hj:j<256):((k.toNat:Int)=(j:Int))↔k=BitVec.ofNat 8 j:=by
 constructor
 ·intro h
  apply BitVec.eq_of_toNat_eq
  rw [BitVec.toNat_ofNat,Nat.mod_eq_of_lt hj]
  omega
 ·rintro rfl
  rw [BitVec.toNat_ofNat,Nat.mod_eq_of_lt hj]
theorem kind0 (k:BitVec 8):((k.toNat:Int)=0)=(k=0#8):=propext (toNat_kind k 0 (by omega))
theorem kind1 (k:BitVec 8):((k.toNat:Int)=1)=(k=1#8):=propext (toNat_kind k 1 (by omega))
theorem kind2 (k:BitVec 8):((k.toNat:Int)=2)=(k=2#8):=propext (toNat_kind k 2 (by omega))
theorem kind3 (k:BitVec 8):((k.toNat:Int)=3)=(k=3#8):=propext (toNat_kind k 3 (by omega))
theorem num_eq (a b:BitVec 16):((a.toNat:Int)=(b.toNat:Int))=(a=b):=by
 rw [eq_iff_iff]
 constructor
 ·intro h; exact BitVec.eq_of_toNat_eq (by omega)
 ·rintro rfl; rfl
theorem num_1 (a:BitVec 16):((a.toNat:Int)=1)=(a=1#16):=num_eq a 1#16
theorem S.f79 (hE:Fold E) (h:RefT H t nv mv nx mr Y T) (n:BitVec 16) (hQ:∀ H',Ext H H'->Q (vi (T.dir n)) H'):E.call (E.fid i.f79) [ptr t 0,vi (n.toNat:Int)] H Q:=by
 apply hE.f79
 simp only [F.f79]
 refine S.f72 hE h n fun b o y H' e hn _ =>?_
 obtain ⟨c0,_⟩:=hn.cell
 unfold Tr.dir at hQ
 by_cases h0:(T.node n).kind=0#8
 ·simp [h0] at hQ c0
  simp [c0]
  exact hQ _ e
 ·have h0':¬ (T.node n).kind.toNat=0:=fun k=>h0 (BitVec.eq_of_toNat_eq (by simpa using k))
  by_cases h2:(T.node n).kind=2#8
  ·simp [h2] at hQ c0
   simp [c0]
   exact hQ _ e
  ·have h2':¬ ((T.node n).kind.toNat:Int)=2:=by rw [kind2]; exact h2
   simp [h0,h2] at hQ
   simp [c0,h0',h2']
   exact hQ _ e
def nameIx (s:NameL) (l:List (NameL×BitVec 16)):Int:=ixOf (fun e:NameL×BitVec 16=>decide (e.1=s)) l
theorem nameIx_none (s:NameL) (l:List (NameL×BitVec 16)) (h:alook s l=none):nameIx s l = -1:=by
 have:l.findIdx? (fun e:NameL×BitVec 16=>decide (e.1=s))=none:=by
  rw [List.findIdx?_eq_none_iff]
  intro x hx
  have:=lookup_none.1 h
  simp only [decide_eq_false_iff_not]
  rintro rfl
  exact this (List.mem_map.2 ⟨x,hx,rfl⟩)
 simp [nameIx,ixOf,this]
theorem nameIx_some (s:NameL):∀ (l:List (NameL×BitVec 16)) (k:BitVec 16),alook s l=some k->∃ (j:Nat) (hj:j<l.length),nameIx s l=j/\l[j]=(s,k)/\adel s l=l.eraseIdx j
 | [],k,h=>by simp [alook] at h
 | e :: l,k,h=>by
  rw [alook_cons] at h
  by_cases he:e.1=s
  ·rw [if_pos he.symm] at h
   simp only [Option.some.injEq] at h
   refine ⟨0,by simp,?_,?_,?_⟩
   ·simp [nameIx,ixOf,List.findIdx?_cons,he]
   ·rw [List.getElem_cons_zero,<- he,<- h]
   ·simp [adel,he]
  ·rw [if_neg fun k=>he k.symm] at h
   obtain ⟨j,hj,h1,h2,h3⟩:=nameIx_some s l k h
   refine ⟨j+1,by simpa using hj,?_,by simpa using h2,by simp [adel,he,h3]⟩
   unfold nameIx ixOf at h1 ⊢
   simp only [List.findIdx?_cons,he,decide_false,Bool.false_eq_true,if_false]
   cases hf:l.findIdx? (fun e:NameL×BitVec 16=>decide (e.1=s)) with
   | none=>rw [hf] at h1; simp at h1
   | some i =>
    rw [hf] at h1
    simp at h1 ⊢
    exact h1
theorem S.f85 (hE:Fold E) {b o:Nat} {x:Nd} {y:RLy} (h:NdAt H b o x y) (s:NameL) (hlen:x.ents.length<2 ^ 40) (hQ:Q (vi (nameIx s x.ents)) H):E.call (E.fid i.f85) [ptr b o,str s] H Q:=by
 apply hE.f85
 obtain ⟨_,_,c2,_⟩:=h.cell
 have hl:=h.lenL
 simp [F.f85]
 refine LoopL.count x.ents.length (fun j l H'=>l=[ptr b o,str s,vi j]/\H=H'/\∀ i (hi:i<x.ents.length),i<j->¬ x.ents[i].1=s) ?_ ⟨rfl,rfl,fun i _ h=>by omega⟩
 rintro j _ _ X hj hX ⟨rfl,rfl,hn⟩
 by_cases hjl:j<x.ents.length
 ·have hjl':(j:Int)<x.ents.length:=by omega
  obtain ⟨b',o',f1,f2⟩:=h.2.2.ix (i:=j) (by rw [entR_length]; exact hjl)
  have hrow:(entR x.ents)[j]'(by rw [entR_length]; exact hjl)=[str x.ents[j].1,vi (x.ents[j].2.toNat:Int)]:=by simp [entR]
  rw [hrow] at f2
  have f3:(H.get b').cell o'=some (str x.ents[j].1):=by have:=row_at f2 (j:=0) (by omega); simpa using this
  by_cases hs:x.ents[j].1=s
  ·simp [F.f85_l1,c2,hl,hjl',f1,f3,hs]
   have:nameIx s x.ents=(j:Int):=by
    have:x.ents.findIdx? (fun e:NameL×BitVec 16=>decide (e.1=s))=some j:=List.findIdx?_eq_some_iff_getElem.2 ⟨hjl,by simpa using hs,fun i hi=>by simpa using hn i (by omega) hi⟩
    simp [nameIx,ixOf,this]
   rw [<- this]
   exact hQ
  ·simp [F.f85_l1,c2,hl,hjl',f1,f3,hs]
   rw [i64_inc (by omega),opt_some]
   refine hX hjl _ _ ⟨rfl,rfl,fun i hi hij =>?_⟩
   by_cases e:i=j
   ·subst e; exact hs
   ·exact hn i hi (by omega)
 ·have hjl':¬ (j:Int)<x.ents.length:=by omega
  simp [F.f85_l1,c2,hl,hjl']
  have:nameIx s x.ents = -1:=by
   have:x.ents.findIdx? (fun e:NameL×BitVec 16=>decide (e.1=s))=none:=by
    rw [List.findIdx?_eq_none_iff]
    intro e he
    obtain ⟨i,hi,rfl⟩:=List.getElem_of_mem he
    simpa using hn i hi (by omega)
   simp [nameIx,ixOf,this]
  rw [<- this]
  exact hQ
def Tr.small (T:Tr):Prop:=∀ n,(T.node n).ents.length<2 ^ 40
theorem S.f69 (hE:Fold E) (h:RefT H t nv mv nx mr Y T) (hs:T.small) (n:BitVec 16) (s:NameL) (hQ:∀ H',Ext H H'->Q (.tuple #[vi ((T.look n s).1.toNat:Int),vi (T.look n s).2]) H'):E.call (E.fid i.f69) [ptr t 0,vi (n.toNat:Int),str s] H Q:=by
 apply hE.f69
 simp only [F.f69]
 refine S.f79 hE h n fun H1 e1 =>?_
 unfold Tr.look at hQ
 by_cases hd:T.dir n=0
 ·simp [hd]
  refine S.f72 hE (h.mono e1) n fun b o y H2 e2 hn _ =>?_
  refine S.f85 hE hn s (hs n) ?_
  cases hl:alook s (T.node n).ents with
  | none =>
   simp [hd,hl] at hQ
   simp [nameIx_none s _ hl]
   exact hQ _ (e1.trans e2)
  | some k =>
   simp [hd,hl] at hQ
   obtain ⟨j,hj,g1,g2,_⟩:=nameIx_some s _ k hl
   obtain ⟨_,_,c2,_⟩:=hn.cell
   obtain ⟨b',o',f1,f2⟩:=hn.2.2.ix (i:=j) (by rw [entR_length]; exact hj)
   have hrow:(entR (T.node n).ents)[j]'(by rw [entR_length]; exact hj)=[str s,vi (k.toNat:Int)]:=by simp [entR,g2]
   rw [hrow] at f2
   have f3:(H2.get b').cell (o'+1)=some (vi (k.toNat:Int)):=by have:=row_at f2 (j:=1) (by omega); simpa using this
   have hj0:¬ ((j:Int)<0):=by omega
   simp [g1,hj0,c2,f1,f3]
   exact hQ _ (e1.trans e2)
 ·simp [hd] at hQ
  simp [hd]
  exact hQ _ e1
end
end Go.AM
end
section
namespace Go.AM
section
variable {E:Sy} {H H' H'':AH} {Q:Value->AH->Prop} {t:Nat} {nv nv' nv'' mv:Value} {nx:Int} {mr:List (List Value)} {Y Y' Y'':List RLy} {T T' T'':Tr}
theorem u8_of (n:Nat) (c:UInt8) (hn:n<256):(c.toBitVec.toNat<n↔c<UInt8.ofNat n)/\(n<c.toBitVec.toNat↔UInt8.ofNat n<c)/\(c.toBitVec=BitVec.ofNat 8 n↔c=UInt8.ofNat n):=by
 refine ⟨?_,?_,?_⟩
 ·rw [UInt8.lt_iff_toNat_lt,UInt8.toNat_ofNat_of_lt' hn]; rfl
 ·rw [UInt8.lt_iff_toNat_lt,UInt8.toNat_ofNat_of_lt' hn]; rfl
 ·rw [<- UInt8.toBitVec_inj]; rfl
theorem S.f56 (hE:Fold E) (s:NameL) (hs:s.length<2 ^ 63) (hQ:Q (vb (okName s)) H):E.call (E.fid i.f56) [str s] H Q:=by
 apply hE.f56
 simp only [F.f56]
 refine LoopL.count s.length (fun j l H'=>l=[str s,vi j]/\H=H'/\∀ i (hi:i<s.length),i<j->badByte s[i]=false) ?_ ⟨rfl,rfl,fun i _ h=>by omega⟩
 rintro j _ _ X hj hX ⟨rfl,rfl,hn⟩
 by_cases hjl:j<s.length
 ·have hjl':(j:Int)<s.length:=by omega
  have hix:=ixStr_s s j hjl
  obtain ⟨g1,_,_⟩:=u8_of 33 s[j] (by omega)
  obtain ⟨_,g2,_⟩:=u8_of 126 s[j] (by omega)
  obtain ⟨_,_,g3⟩:=u8_of 47 s[j] (by omega)
  obtain ⟨_,_,g4⟩:=u8_of 35 s[j] (by omega)
  have bad:badByte s[j]=true->Q (vb false) H:=by
   intro hb
   have:okName s=false:=by
    have:(s.all fun c => !badByte c)=false:=by
     rw [List.all_eq_false]
     exact ⟨s[j],List.getElem_mem hjl,by simp [hb]⟩
    simp [okName,this]
   rw [<- this]; exact hQ
  have good:badByte s[j]=false->X [str s,vi ((j+1:Nat):Int)] H:=fun hb=>hX hjl _ _ ⟨rfl,rfl,fun i hi hij=>by
   by_cases e:i=j
   ·subst e; exact hb
   ·exact hn i hi (by omega)⟩
  have hjj:=i64_inc (i:=j) (by omega)
  have b33:(.int .u8 33:Value)=u8 33#8:=rfl
  have b126:(.int .u8 126:Value)=u8 126#8:=rfl
  have b47:(.int .u8 47:Value)=u8 47#8:=rfl
  have b35:(.int .u8 35:Value)=u8 35#8:=rfl
  unfold badByte at bad good
  generalize s[j]=c at *
  generalize hk:j+1=k at *
  by_cases c1:c.toBitVec.toNat<33
  ·have c1':=g1.1 c1
   have c1n:c.toNat<33:=c1
   simp [F.f56_l1,hjl',hix,b33,c1,c1n]
   exact bad (by simp only [Bool.or_eq_true,decide_eq_true_eq]; exact .inl (.inl (.inl c1')))
  have c1n:¬ c.toNat<33:=c1
  by_cases c2:126<c.toBitVec.toNat
  ·have c2':=g2.1 c2
   have c2n:126<c.toNat:=c2
   simp [F.f56_l1,hjl',hix,b33,b126,c1,c2,c1n,c2n]
   exact bad (by simp only [Bool.or_eq_true,decide_eq_true_eq]; exact .inl (.inl (.inr c2')))
  have c2n:¬ 126<c.toNat:=c2
  by_cases c3:c.toBitVec=47#8
  ·have c3':=g3.1 c3
   simp [F.f56_l1,hjl',hix,b33,b126,b47,c1,c2,c3,c1n,c2n]
   exact bad (by simp only [Bool.or_eq_true,decide_eq_true_eq]; exact .inl (.inr c3'))
  by_cases c4:c.toBitVec=35#8
  ·have c4':=g4.1 c4
   simp [F.f56_l1,hjl',hix,b33,b126,b47,b35,c1,c2,c3,c4,c1n,c2n]
   exact bad (by simp only [Bool.or_eq_true,decide_eq_true_eq]; exact .inr c4')
  ·simp [F.f56_l1,hjl',hix,b33,b126,b47,b35,c1,c2,c3,c4,hjj,c1n,c2n]
   refine good ?_
   simp only [Bool.or_eq_false_iff,decide_eq_false_iff_not]
   exact ⟨⟨⟨fun h=>c1 (g1.2 h),fun h=>c2 (g2.2 h)⟩,fun h=>c3 (g3.2 h)⟩,fun h=>c4 (g4.2 h)⟩
 ·have hjl':¬ (j:Int)<s.length:=by omega
  have hall:(s.all fun c => !badByte c)=true:=by
   rw [List.all_eq_true]
   intro c hc
   obtain ⟨i,hi,rfl⟩:=List.getElem_of_mem hc
   simpa using hn i hi (by omega)
  have l1:(.string ⟨#[46]⟩:Value)=str [46]:=rfl
  have l2:(.string ⟨#[46,46]⟩:Value)=str [46,46]:=rfl
  unfold okName at hQ
  rw [hall] at hQ
  by_cases c1:1<=s.length
  ·have c1':(1:Int)<=s.length:=by omega
   by_cases c2:s.length<=14
   ·have c2':(s.length:Int)<=14:=by omega
    by_cases c3:s=[46]
    ·subst c3
     have hj1:j=1:=by simp at hjl hj; omega
     subst hj1
     simp [F.f56_l1,l1,l2]
     simpa using hQ
    ·by_cases c4:s=[46,46]
     ·subst c4
      have hj2:j=2:=by simp at hjl hj; omega
      subst hj2
      simp [F.f56_l1,l1,l2]
      simpa using hQ
     ·simp only [c1,c2,c3,c4,ne_eq,not_false_eq_true,decide_true,Bool.and_self] at hQ
      simp [F.f56_l1,hjl',c1',c2',l1,l2,c3,c4]
      exact hQ
   ·have c2':¬ (s.length:Int)<=14:=by omega
    simp only [c1,c2,decide_true,decide_false,Bool.and_false,Bool.false_and] at hQ
    simp [F.f56_l1,hjl',c1',c2']
    exact hQ
  ·have c1':¬ (1:Int)<=s.length:=by omega
   simp only [c1,decide_false,Bool.and_false,Bool.false_and] at hQ
   simp [F.f56_l1,hjl',c1']
   exact hQ
theorem S.f81 (hE:Fold E) (h:RefT H t nv mv nx mr Y T) (hs:T.small) (n:BitVec 16) (s:NameL) (hsl:s.length<2 ^ 63) (hQ:∀ H',Ext H H'->Q (vi (T.room n s)) H'):E.call (E.fid i.f81) [ptr t 0,vi (n.toNat:Int),str s] H Q:=by
 apply hE.f81
 simp only [F.f81]
 refine S.f79 hE h n fun H1 e1 =>?_
 unfold Tr.room at hQ
 by_cases hd:T.dir n=0
 ·simp [hd]
  refine S.f72 hE (h.mono e1) n fun b o y H2 e2 hn _ =>?_
  refine S.f56 hE s hsl ?_
  have e12:=e1.trans e2
  obtain ⟨_,_,c2,_,_,c5,_⟩:=hn.cell
  have hl:=hn.lenL
  by_cases c1:okName s=true
  ·simp only [hd,c1,ne_eq,not_true,if_false,Bool.true_eq_false] at hQ
   simp [c1]
   refine S.f85 hE hn s (hs n) ?_
   cases hlk:alook s (T.node n).ents with
   | some k =>
    obtain ⟨j,hj,g1,_,_⟩:=nameIx_some s _ k hlk
    have hj0:(0:Int)<=j:=by omega
    simp only [hlk,Option.isSome_some,if_true] at hQ
    simp [g1,hj0]
    exact hQ _ e12
   | none =>
    simp only [hlk,Option.isSome_none,Bool.false_eq_true,if_false] at hQ
    simp [nameIx_none s _ hlk,c5]
    by_cases c3:(T.node n).links=0
    ·simp only [c3,if_true] at hQ
     simp [c3]
     exact hQ _ e12
    ·simp only [c3,if_false] at hQ
     simp [c3,c2,hl]
     by_cases c4:32<=(T.node n).ents.length
     ·have c4':(32:Int)<=(T.node n).ents.length:=by omega
      simp only [c4,if_true] at hQ
      simp [c4']
      exact hQ _ e12
     ·have c4':¬ (32:Int)<=(T.node n).ents.length:=by omega
      simp only [c4,if_false] at hQ
      simp [c4']
      exact hQ _ e12
  ·have c1:okName s=false:=by simpa using c1
   simp [hd,c1] at hQ
   simp [c1]
   exact hQ _ e12
 ·simp [hd] at hQ
  simp [hd]
  exact hQ _ e1
theorem S.f68 (hE:Fold E) (h:RefT H t nv mv nx mr Y T) (hQ:Q (vi T.len) H):E.call (E.fid i.f68) [ptr t 0] H Q:=by
 apply hE.f68
 simp only [F.f68]
 have hh:=h.head
 have hl:=h.lenSlc
 have hf:=h.fit
 refine LoopL.count T.N.length (fun j l H'=>l=[ptr t 0,vi (((T.N.take j).countP fun x=>decide (x.kind≠0#8):Nat):Int),vi j]/\H=H') ?_ ⟨rfl,rfl⟩
 rintro j _ _ X hj hX ⟨rfl,rfl⟩
 have hcl:(T.N.take j).countP (fun x=>decide (x.kind≠0#8))<=j:=Nat.le_trans List.countP_le_length (by simp; omega)
 by_cases hjl:j<T.N.length
 ·have hjl':(j:Int)<T.N.length:=by omega
  have hnj:(BitVec.ofNat 16 j).toNat=j:=by rw [BitVec.toNat_ofNat,Nat.mod_eq_of_lt (by omega)]
  obtain ⟨y,b,o,h1,h2,h3⟩:=h.at_ (n:=BitVec.ofNat 16 j) (by rw [hnj]; exact hjl)
  rw [hnj] at h2
  obtain ⟨c0,_⟩:=h3.cell
  have hx:T.node (BitVec.ofNat 16 j)=T.N[j]:=by
   unfold Tr.node; rw [hnj]; simp [List.getD_eq_getElem?_getD,hjl]
  rw [hx] at c0
  have hstep:(T.N.take (j+1)).countP (fun x=>decide (x.kind≠0#8))=(T.N.take j).countP (fun x=>decide (x.kind≠0#8))+if T.N[j].kind=0#8 then 0 else 1:=by
   rw [List.take_succ_eq_append_getElem hjl,List.countP_append]
   by_cases hk:T.N[j].kind=0#8 <;> simp [hk]
  have hjj:=i64_succ j (by omega)
  have hX:=hX hjl [ptr t 0,vi (((T.N.take (j+1)).countP fun x=>decide (x.kind≠0#8):Nat):Int),vi ((j+1:Nat):Int)] H ⟨rfl,rfl⟩
  rw [hstep] at hX
  generalize (T.N.take j).countP (fun x=>decide (x.kind≠0#8))=c at *
  have hcc:=i64_succ c (by omega)
  by_cases hk:T.N[j].kind=0#8
  ·rw [if_pos hk,Nat.add_zero] at hX
   have hk':¬ (0:Int)<(T.N[j].kind.toNat:Int):=by rw [hk]; simp
   generalize hj1:j+1=j1 at *
   simp [F.f68_l1,hh,hl,hjl',h2,c0,hjj,hk]
   exact hX
  ·rw [if_neg hk] at hX
   have hk':0<T.N[j].kind.toNat:=by
    apply Nat.pos_of_ne_zero
    intro e
    exact hk (BitVec.eq_of_toNat_eq (by simpa using e))
   generalize hj1:j+1=j1 at *
   generalize hc1:c+1=c1 at *
   simp [F.f68_l1,hh,hl,hjl',h2,c0,hjj,hk',hcc]
   exact hX
 ·have hjl':¬ (j:Int)<T.N.length:=by omega
  have:j=T.N.length:=by omega
  subst this
  have e:(T.N.take T.N.length).countP (fun x=>decide (x.kind≠0#8))=T.len:=by rw [List.take_length]; rfl
  rw [e]
  simp [F.f68_l1,hh,hl]
  exact hQ
theorem S.f78 (hE:Fold E) (h:RefT H t nv mv nx mr Y T) (n:BitVec 16) (hQ:∀ H',Ext H H'->Q (vi (T.deepF 20 n)) H'):E.call (E.fid i.f78) [ptr t 0,vi (n.toNat:Int)] H Q:=by
 apply hE.f78
 simp only [F.f78]
 obtain ⟨D,hD⟩:∃ D,D=T.deepF 20 n:=⟨_,rfl⟩
 rw [<- hD] at hQ
 refine LoopL.count 20 (fun j l H'=>Ext H H'/\∃ k:BitVec 16,l=[ptr t 0,vi (k.toNat:Int),vi j]/\D=j+T.deepF (20 - j) k) ?_ ⟨Ext.refl H,n,rfl,by rw [hD]; exact (Nat.zero_add _).symm⟩
 clear hD
 rintro j _ H1 X hj hX ⟨e1,k,rfl,h1⟩
 have hk1:=num_1 k
 by_cases hj':j=20
 ·subst hj'
  have:D=20:=by rw [h1]; rfl
  rw [this] at hQ
  by_cases hk:k=1#16
  ·simp [F.f78_l1,hk]
   exact hQ _ e1
  ·rw [eq_false hk] at hk1
   simp [F.f78_l1,hk1]
   exact hQ _ e1
 ·obtain ⟨f,hf⟩:∃ f,20 - j=f+1:=⟨19 - j,by omega⟩
  have hf':20 - (j+1)=f:=by omega
  rw [hf] at h1
  simp only [Tr.deepF] at h1
  have hji:(j:Int)<20:=by omega
  by_cases hk:k=1#16
  ·rw [if_pos hk] at h1
   simp [F.f78_l1,hk]
   rw [h1] at hQ
   exact hQ _ e1
  ·rw [if_neg hk] at h1
   rw [eq_false hk] at hk1
   simp [F.f78_l1,hk1,hji]
   refine S.f72 hE (h.mono e1) k fun b o y H2 e2 hn _ =>?_
   obtain ⟨_,_,_,c3,_⟩:=hn.cell
   have hjj:=i64_succ j (by omega)
   simp [c3,hjj]
   exact hX (by omega) _ _ ⟨e1.trans e2,_,rfl,by rw [hf']; omega⟩
theorem S.f75 (hE:Fold E) (h:RefT H t nv mv nx mr Y T) (n out:BitVec 16) (hQ:∀ H',Ext H H'->Q (vb (T.withinF out 20 n)) H'):E.call (E.fid i.f75) [ptr t 0,vi (n.toNat:Int),vi (out.toNat:Int)] H Q:=by
 apply hE.f75
 simp only [F.f75]
 obtain ⟨D,hD⟩:∃ D,D=T.withinF out 20 n:=⟨_,rfl⟩
 rw [<- hD] at hQ
 refine LoopL.count 20 (fun j l H'=>Ext H H'/\∃ k:BitVec 16,l=[ptr t 0,vi (k.toNat:Int),vi (out.toNat:Int),vi j]/\D=T.withinF out (20 - j) k) ?_ ⟨Ext.refl H,n,rfl,hD⟩
 clear hD
 rintro j _ H1 X hj hX ⟨e1,k,rfl,h1⟩
 by_cases hj':j=20
 ·subst hj'
  rw [h1] at hQ
  simp [F.f75_l1]
  exact hQ _ e1
 ·obtain ⟨f,hf⟩:∃ f,20 - j=f+1:=⟨19 - j,by omega⟩
  have hf':20 - (j+1)=f:=by omega
  rw [hf] at h1
  simp only [Tr.withinF] at h1
  have hji:(j:Int)<20:=by omega
  have hko:=num_eq k out
  have hkp:=num_eq k (T.node k).parent
  have hk2:=kind2 (T.node k).kind
  simp [F.f75_l1,hji]
  refine S.f72 hE (h.mono e1) k fun b o y H2 e2 hn _ =>?_
  obtain ⟨c0,_,_,c3,_⟩:=hn.cell
  by_cases g1:(T.node k).kind=2#8
  ·rw [if_neg (by simpa using g1)] at h1
   by_cases g2:k=out
   ·rw [if_pos g2] at h1
    rw [h1] at hQ
    rw [eq_true g1] at hk2
    rw [eq_true g2] at hko
    simp only [nilCk_p,tk_eq,opt_some,addOff_ptr,load1_ptr,c0,Nat.add_zero,i64_neq,i64_eql,hk2,hko,ne_eq,not_true,decide_true,decide_false,ifB_true,ifB_false,nth_0,nth_1,nth_2,nth_3]
    exact hQ _ (e1.trans e2)
   ·rw [if_neg g2] at h1
    rw [eq_false g2] at hko
    rw [eq_true g1] at hk2
    simp [c0,hk2,hko]
    refine S.f72 hE (h.mono (e1.trans e2)) k fun b' o' y' H3 e3 hn' _ =>?_
    obtain ⟨c0',_,_,c3',_⟩:=hn'.cell
    have e13:=(e1.trans e2).trans e3
    by_cases g3:k=(T.node k).parent
    ·rw [if_pos g3] at h1
     rw [h1] at hQ
     rw [eq_true g3] at hkp
     simp only [nilCk_p,tk_eq,opt_some,addOff_ptr,load1_ptr,c3',i64_eql,hkp,decide_true,ifB_true,nth_0,nth_1,nth_2,nth_3]
     exact hQ _ e13
    ·rw [if_neg g3] at h1
     rw [eq_false g3] at hkp
     simp only [nilCk_p,tk_eq,opt_some,addOff_ptr,load1_ptr,c3',i64_eql,hkp,decide_false,ifB_false,nth_0,nth_1,nth_2,nth_3]
     refine S.f72 hE (h.mono e13) k fun b'' o'' y'' H4 e4 hn'' _ =>?_
     obtain ⟨_,_,_,c3'',_⟩:=hn''.cell
     have hjj:=i64_succ j (by omega)
     simp only [nilCk_p,tk_eq,opt_some,addOff_ptr,load1_ptr,c3'',hjj,nth_0,nth_1,nth_2,nth_3]
     exact hX (by omega) _ _ ⟨e13.trans e4,_,rfl,by rw [hf']; exact h1⟩
  ·rw [if_pos g1] at h1
   rw [h1] at hQ
   rw [eq_false g1] at hk2
   simp [c0,hk2]
   exact hQ _ (e1.trans e2)
end
end Go.AM
end
section
namespace Go.AM
theorem insertE_split (x:NameL×BitVec 16):∀ (l:List (NameL×BitVec 16)) (p:Nat),p<=l.length->(∀ i (h:i<l.length),i<p->Op.bytesLess l[i].1 x.1=true)->(∀ h:p<l.length,Op.bytesLess l[p].1 x.1=false)->insertE x l=l.take p++[x]++l.drop p
 | [],p,hp,_,_=>by simp [insertE]
 | y :: l,0,hp,_,h2=>by
  have:=h2 (by simp)
  simp only [List.getElem_cons_zero] at this
  simp [insertE,this]
 | y :: l,p+1,hp,h1,h2=>by
  have h0:=h1 0 (by simp) (by omega)
  simp only [List.getElem_cons_zero] at h0
  have ih:=insertE_split x l p (by simpa using hp) (fun i h hi=>by have:=h1 (i+1) (by simpa using h) (by omega); rwa [List.getElem_cons_succ] at this) (fun h=>by have:=h2 (by simpa using h); rwa [List.getElem_cons_succ] at this)
  simp [insertE,h0,ih]
theorem entR_take (l:List (NameL×BitVec 16)) (k:Nat):(entR l).take k=entR (l.take k):=by simp [entR,List.map_take]
theorem entR_drop (l:List (NameL×BitVec 16)) (k:Nat):(entR l).drop k=entR (l.drop k):=by simp [entR,List.map_drop]
theorem entR_append (a b:List (NameL×BitVec 16)):entR (a++b)=entR a++entR b:=by simp [entR]
theorem entR_plain (l:List (NameL×BitVec 16)):∀ r∈entR l,r.all plain1=true:=by
 intro r hr
 obtain ⟨b,_,rfl⟩:=List.mem_map.1 hr
 rfl
section
variable {E:Sy} {H H' H'':AH} {Q:Value->AH->Prop} {t:Nat} {nv nv' nv'' mv:Value} {nx:Int} {mr:List (List Value)} {Y Y' Y'':List RLy} {T T' T'':Tr}
theorem buildS0 (sz:Nat) (z:List Value) (hz:z.length=sz):buildS 0 sz z.toArray []=some (.cells [] none,mkSlc 0 0):=by
 rw [buildS_eq _ _ _ _ hz]; simp; rfl
theorem S.f86 (hE:Fold E) (v:Value) (l:List (NameL×BitVec 16)) (hv:Rows H 2 v (entR l)) (hl:l.length<2 ^ 36) (s:NameL) (k:BitVec 16)
    (hQ:∀ v' H',Ext H H'->Grow zH H' 2 v' (entR (insertE (s,k) l))->FreshV H.next v'->Q v' H'):E.call (E.fid i.f86) [v,.agg (EntryI.cells ⟨s,(k.toNat:Int)⟩).toArray] H Q:=by
  apply hE.f86
  have x1:Ext H (H.new (.cells (EntryI.cells ⟨s,(k.toNat:Int)⟩) none)):=(Ext.refl H).new _
  have hx:=AH.get_new_self H (.cells (EntryI.cells ⟨s,(k.toNat:Int)⟩) none)
  simp [F.f86]
  refine LoopL.count l.length (fun j ls H'=>ls=[v,ptr H.next 0,vi j]/\H.new (.cells (EntryI.cells ⟨s,(k.toNat:Int)⟩) none)=H'/\∀ i (h:i<l.length),i<j->Op.bytesLess l[i].1 s=true) ?_ ⟨rfl,rfl,fun i _ h=>by omega⟩
  rintro j _ _ X hj hX ⟨rfl,rfl,hn⟩
  generalize hH1:H.new (.cells (EntryI.cells ⟨s,(k.toNat:Int)⟩) none)=H1 at *
  have hv1:=hv.mono x1
  have hlv:=hv1.lenSlc
  rw [entR_length] at hlv
  have hjj:=i64_succ j (by omega)
  have hj0:(EntryI.cells ⟨s,(k.toNat:Int)⟩)[0]? = some (str s):=EntryI.at0 _
  have fin:(∀ h:j<l.length,Op.bytesLess l[j].1 s=false) ->
     (AM.mk (buildS 0 2 #[(.string ⟨#[]⟩),(.int .i64 0)] []) H1 fun v13 H9 =>
       opt (slSlc 2 v none (some (vi j)) none H9) fun v14 =>
       opt (loadN 2 (ptr H.next 0) H9) fun v15 =>
       AM.mk (buildS 1 2 #[(.string ⟨#[]⟩),(.int .i64 0)] [(0,v15)]) H9 fun v16 H10 =>
       opt (slSlc 2 v (some (vi j)) none none H10) fun v17 =>
       opt2 (app 2 24 v13 v14 H10) fun v18 H11 =>
       slSlc 2 v (some (vi j)) none none H11=slSlc 2 v (some (vi j)) none none H10 /\
       H11.get H9.next=H10.get H9.next /\
       loadN 2 (ptr H.next 0) H11=loadN 2 (ptr H.next 0) H9 /\
       opt2 (app 2 24 v18 v16 H11) fun v19 H12 =>
       slSlc 2 v (some (vi j)) none none H12=slSlc 2 v (some (vi j)) none none H10 /\
       opt2 (app 2 24 v19 v17 H12) fun v20 H13 =>
       Q v20 H13):=by
    intro hlast
    have hb0:buildS 0 2 #[(.string ⟨#[]⟩),(.int .i64 0)] []=some (.cells [] none,mkSlc 0 0):=buildS0 2 [str [],vi 0] rfl
    have hb1:buildS 1 2 #[(.string ⟨#[]⟩),(.int .i64 0)] [(0,.agg (EntryI.cells ⟨s,(k.toNat:Int)⟩).toArray)]=some (.cells (EntryI.cells ⟨s,(k.toNat:Int)⟩) none,mkSlc 1 1):=EntryI.build1 ⟨s,(k.toNat:Int)⟩
    have e9:Ext H1 (H1.new (.cells [] none)):=(Ext.refl H1).new _
    have e10:Ext H1 ((H1.new (.cells [] none)).new (.cells (EntryI.cells ⟨s,(k.toNat:Int)⟩) none)):=e9.new _
    have g9:Grow zH (H1.new (.cells [] none)) 2 (slc H1.next 0 0 0) []:=Grow.room (zH_get _) (AH.get_new_self _ _) rfl
    have g10:=g9.ext ((Ext.refl _).new (.cells (EntryI.cells ⟨s,(k.toNat:Int)⟩) none))
    have lo:∀ {Hx},Ext H1 Hx->loadN 2 (ptr H.next 0) Hx=some (.agg (EntryI.cells ⟨s,(k.toNat:Int)⟩).toArray):=fun e=>by
      rw [loadN_ptr,e.cells hx,row_all _ _ 2 rfl]; rfl
    have hlo:∀ {Hx},Ext H1 Hx->∃ v14,slSlc 2 v none (some (vi j)) none Hx=some v14/\Rows Hx 2 v14 (entR (l.take j)):=fun e=>by
      obtain ⟨w,w1,w2⟩:=(hv1.mono e).slice (lo:=none) (hi:=some (vi j)) (i:=0) (j:=j) (.inr ⟨rfl,rfl⟩) (.inl rfl) (Nat.zero_le _) (by rw [entR_length]; exact hj)
      refine ⟨w,w1,?_⟩
      rwa [List.drop_zero,entR_take] at w2
    have hhi:∀ {Hx},Ext H1 Hx->slSlc 2 v (some (vi j)) none none Hx=some (sliceV 2 v j l.length)/\Rows Hx 2 (sliceV 2 v j l.length) (entR (l.drop j)):=fun {Hx} e=>by
      have w:=(hv1.mono e).slice' (lo:=some (vi j)) (hi:=none) (i:=j) (j:=l.length) (.inl rfl) (.inr ⟨rfl,by rw [entR_length]⟩) hj (by rw [entR_length]; exact Nat.le_refl _)
      refine ⟨w.1,?_⟩
      have w2:=w.2
      rwa [<- entR_length l,List.take_length,entR_drop,entR_length] at w2
    obtain ⟨v14,q1,q2⟩:=hlo e9
    simp only [hb0,AM.mk_some,mkSlc_eq,tk_eq,q1,lo e9,opt_some,hb1,(hhi e10).1]
    obtain ⟨v18,H11,a1,a2,a3⟩:=g10.app (bytes:=24) (Nat.zero_le _) (q2.mono ((Ext.refl _).new (.cells (EntryI.cells ⟨s,(k.toNat:Int)⟩) none))) (entR_plain _) (by decide) (by decide) (by simp [entR_length]; omega) (by simp [entR_length]; omega)
    obtain ⟨e11,f11⟩:=grew_ext a3 e10 (fun b hb=>by simp [blk] at hb; omega)
    have hk11:H11.get (H1.next+1) = .cells (EntryI.cells ⟨s,(k.toNat:Int)⟩) none:=by
      rw [a3.1.get (by simp) (by simp [blkL,blk])]
      exact AH.get_new_self _ _
    have hxr:Rows H11 2 (slc (H1.next+1) 0 1 1) [EntryI.cells ⟨s,(k.toNat:Int)⟩]:=Rows.made (f:=none) (by rw [hk11]; simp) (.inl rfl) rfl (by intro r hr; simp at hr; subst hr; rfl)
    have a1':app 2 24 (slc H1.next 0 0 0) v14 ((H1.new (.cells [] none)).new (.cells (EntryI.cells ⟨s,(k.toNat:Int)⟩) none))=some (v18,H11):=a1
    simp only [a1',opt2_some,tk_eq]
    refine ⟨by rw [(hhi e11).1],?_,by rw [lo e11],?_⟩
    · show H11.get (H1.next+1)=_
      rw [hk11]
      exact (AH.get_new_self _ _).symm
    obtain ⟨v19,H12,b1,b2,b3⟩:=a2.app (bytes:=24) (Nat.zero_le _) hxr (by intro r hr; simp at hr; subst hr; rfl) (by decide) (by decide) (by simp [entR_length]; omega) (by simp [entR_length]; omega)
    obtain ⟨e12,f12⟩:=grew_ext b3 e11 f11
    have b1':app 2 24 v18 (slc (H1.new (.cells [] none)).next 0 1 1) H11=some (v19,H12):=b1
    simp only [b1',opt2_some,tk_eq]
    refine ⟨by rw [(hhi e12).1],?_⟩
    obtain ⟨v20,H13,c1,c2,c3⟩:=b2.app (bytes:=24) (Nat.zero_le _) (hhi e12).2 (entR_plain _) (by decide) (by decide) (by simp [entR_length]; omega) (by simp [entR_length]; omega)
    obtain ⟨e13,f13⟩:=grew_ext c3 e12 f12
    simp only [c1,opt2_some,tk_eq]
    refine hQ v20 H13 (x1.trans e13) ?_ fun b hb=>Nat.le_trans x1.1 (f13 b hb)
    rw [insertE_split (s,k) l j hj hn hlast,entR_append,entR_append]
    have he1:entR [(s,k)]=[EntryI.cells ⟨s,(k.toNat:Int)⟩]:=rfl
    rw [he1]
    simpa using c2
  by_cases hjl:j<l.length
  · have hjl':(j:Int)<l.length:=by omega
    obtain ⟨b',o',f1,f2⟩:=hv1.ix (i:=j) (by rw [entR_length]; exact hjl)
    have hrow:(entR l)[j]'(by rw [entR_length]; exact hjl)=[str l[j].1,vi (l[j].2.toNat:Int)]:=by simp [entR]
    rw [hrow] at f2
    have f3:(H1.get b').cell o'=some (str l[j].1):=by have:=row_at f2 (j:=0) (by omega); simpa using this
    by_cases hlt:Op.bytesLess l[j].1 s=true
    · have hX:=hX hjl [v,ptr H.next 0,vi ((j+1:Nat):Int)] H1 ⟨rfl,rfl,fun i hi hij=>by
        by_cases e:i=j
        · subst e; exact hlt
        · exact hn i hi (by omega)⟩
      generalize hj1:j+1=j1 at *
      simp [F.f86_l1,hlv,hjl',f1,f3,hx,hj0,hlt,hjj]
      exact hX
    · have hlt:Op.bytesLess l[j].1 s=false:=by simpa using hlt
      simp only [F.f86_l1,nth_0,nth_1,nth_2,hlv,i64_lss,hjl',decide_true,gd_tt,f1,addOff_ptr,load1_ptr,Nat.add_zero,f3,hx,cell_cells_z,hj0,binStr_lss,hlt,pick_true_z,tk_eq,opt_some,ifB_false]
      exact fin fun _=>hlt
  · have hjl':¬ (j:Int)<l.length:=by omega
    simp only [F.f86_l1,nth_0,nth_1,nth_2,hlv,i64_lss,hjl',decide_false,gd_ft,pick_false_z,tk_eq,opt_some,ifB_false]
    exact fin fun h=>(hjl h).elim
theorem S.f87 (hE:Fold E) (v:Value) (l:List (NameL×BitVec 16)) (hv:Rows H 2 v (entR l)) (hl:l.length<2 ^ 36) (j:Nat) (hj:j<l.length)
  (hQ:∀ v' H',Ext H H'->Grow zH H' 2 v' (entR (l.eraseIdx j))->FreshV H.next v'->Q v' H'):E.call (E.fid i.f87) [v,vi j] H Q:=by
 apply hE.f87
 have hb0:buildS 0 2 #[(.string ⟨#[]⟩),(.int .i64 0)] []=some (.cells [] none,mkSlc 0 0):=buildS0 2 [str [],vi 0] rfl
 have e9:Ext H (H.new (.cells [] none)):=(Ext.refl H).new _
 have g9:Grow zH (H.new (.cells [] none)) 2 (slc H.next 0 0 0) []:=Grow.room (zH_get _) (AH.get_new_self _ _) rfl
 have hjj:=i64_succ j (by omega)
 have hlo:∃ v14,slSlc 2 v none (some (vi j)) none (H.new (.cells [] none))=some v14/\Rows (H.new (.cells [] none)) 2 v14 (entR (l.take j)):=by
  obtain ⟨w,w1,w2⟩:=(hv.mono e9).slice (lo:=none) (hi:=some (vi j)) (i:=0) (j:=j) (.inr ⟨rfl,rfl⟩) (.inl rfl) (Nat.zero_le _) (by rw [entR_length]; omega)
  refine ⟨w,w1,?_⟩
  rwa [List.drop_zero,entR_take] at w2
 have hhi:∀ {Hx},Ext H Hx->slSlc 2 v (some (vi ((j+1:Nat):Int))) none none Hx=some (sliceV 2 v (j+1) l.length)/\Rows Hx 2 (sliceV 2 v (j+1) l.length) (entR (l.drop (j+1))):=fun {Hx} e=>by
  have w:=(hv.mono e).slice' (lo:=some (vi ((j+1:Nat):Int))) (hi:=none) (i:=j+1) (j:=l.length) (.inl rfl) (.inr ⟨rfl,by rw [entR_length]⟩) hj (by rw [entR_length]; exact Nat.le_refl _)
  refine ⟨w.1,?_⟩
  have w2:=w.2
  rwa [<- entR_length l,List.take_length,entR_drop,entR_length] at w2
 obtain ⟨v14,q1,q2⟩:=hlo
 simp only [F.f87,hb0,AM.mk_some,mkSlc_eq,tk_eq,q1,opt_some,hjj,(hhi e9).1]
 obtain ⟨v18,H11,a1,a2,a3⟩:=g9.app (bytes:=24) (Nat.zero_le _) q2 (entR_plain _) (by decide) (by decide) (by simp [entR_length]; omega) (by simp [entR_length]; omega)
 obtain ⟨e11,f11⟩:=grew_ext a3 e9 (fun b hb=>by simp [blk] at hb; omega)
 have a1':app 2 24 (slc H.next 0 0 0) v14 (H.new (.cells [] none))=some (v18,H11):=a1
 simp only [a1',opt2_some,tk_eq]
 refine ⟨by rw [(hhi e11).1],?_⟩
 obtain ⟨v20,H13,c1,c2,c3⟩:=a2.app (bytes:=24) (Nat.zero_le _) (hhi e11).2 (entR_plain _) (by decide) (by decide) (by simp [entR_length]; omega) (by simp [entR_length]; omega)
 obtain ⟨e13,f13⟩:=grew_ext c3 e11 f11
 simp only [c1,opt2_some,tk_eq]
 refine hQ v20 H13 e13 ?_ f13
 rw [List.eraseIdx_eq_take_drop_succ,entR_append]
 simpa using c2
theorem S.f83 (hE:Fold E) (hs:T.small):∀ (f:Nat) {H:AH} {Q:Value->AH->Prop} (_:RefT H t nv mv nx mr Y T) (n:BitVec 16) (_:T.fitsF f n) (_:f<=20) (_:∀ H',Ext H H'->Q (vi (T.tall n)) H'),E.call (E.fid i.f83) [ptr t 0,vi (n.toNat:Int)] H Q
 | 0,_,_,_,_,hf,_,_=>hf.elim
 | f+1,H,Q,h,n,hf0,hle,hQ=>by
  apply hE.f83
  obtain ⟨hd,hf⟩:=hf0
  simp only [F.f83]
  refine S.f72 hE h n fun b o y H1 e1 hn _ =>?_
  obtain ⟨_,_,c2,_⟩:=hn.cell
  have hl:=hn.lenL
  have hsn:=hs n
  let g:Nat->NameL×BitVec 16->Nat:=fun b e=>if (T.node e.2).kind=2#8 then max b (T.tallF 20 e.2) else b
  have hg:∀ b e,b<=20->g b e<=20:=by
   intro b e hb
   simp only [g]
   split
   ·have:=Tr.tallF_le T 20 e.2
    omega
   ·exact hb
  refine LoopL.count (T.node n).ents.length (fun j ls H'=>∃ w:Nat,ls=[ptr t 0,vi w,ptr b o,vi j]/\Ext H1 H'/\w=((T.node n).ents.take j).foldl g 0/\w<=20) ?_ ⟨0,rfl,Ext.refl _,rfl,by omega⟩
  rintro j _ H2 X hj hX ⟨w,rfl,e2,hw,hw20⟩
  have hn2:=hn.mono e2
  obtain ⟨_,_,c2',_⟩:=hn2.cell
  by_cases hjl:j<(T.node n).ents.length
  ·have hjl':(j:Int)<(T.node n).ents.length:=by omega
   obtain ⟨b',o',f1,f2⟩:=hn2.2.2.ix (i:=j) (by rw [entR_length]; exact hjl)
   have hrow:(entR (T.node n).ents)[j]'(by rw [entR_length]; exact hjl)=[str (T.node n).ents[j].1,vi ((T.node n).ents[j].2.toNat:Int)]:=by simp [entR]
   rw [hrow] at f2
   have f3:(H2.get b').cell (o'+1)=some (vi ((T.node n).ents[j].2.toNat:Int)):=by have:=row_at f2 (j:=1) (by omega); simpa using this
   have hfj:=hf (T.node n).ents[j] (List.getElem_mem hjl)
   have hstep:((T.node n).ents.take (j+1)).foldl g 0=g w (T.node n).ents[j]:=by
    rw [List.take_succ_eq_append_getElem hjl,List.foldl_append,<- hw]; rfl
   have hgw:=hg w (T.node n).ents[j] hw20
   generalize (T.node n).ents[j]=en at *
   have hjj:=i64_succ j (by omega)
   simp only [F.f83_l1,nth_0,nth_1,nth_2,nth_3,nilCk_p,addOff_ptr,load1_ptr,c2',hl,i64_lss,hjl',decide_true,f1,f3,tk_eq,opt_some,ifB_true]
   refine S.f72 hE (h.mono (e1.trans e2)) en.2 fun b2 o2 y2 H3 e3 hn3 _ =>?_
   obtain ⟨c0,_⟩:=hn3.cell
   have hk2:=kind2 (T.node en.2).kind
   have e13:=e2.trans e3
   by_cases c:(T.node en.2).kind=2#8
   ·rw [eq_true c] at hk2
    simp only [nilCk_p,addOff_ptr,load1_ptr,Nat.add_zero,c0,i64_eql,hk2,decide_true,tk_eq,opt_some,ifB_true]
    refine S.f83 hE hs f (h.mono (e1.trans e13)) en.2 (hfj.2 c) (by omega) fun H4 e4 =>?_
    unfold Tr.tall
    have hmx:(if (T.tallF 20 en.2:Int) > (w:Int) then (T.tallF 20 en.2:Int) else (w:Int))=((max w (T.tallF 20 en.2):Nat):Int):=by
     split <;> omega
    simp only [i64_max_z,hmx,nth_0,nth_1,nth_2,nth_3,hjj,tk_eq,opt_some]
    refine hX hjl _ _ ⟨_,rfl,e13.trans e4,?_,?_⟩
    ·rw [hstep]; simp [g,c]
    ·simpa [g,c] using hgw
   ·rw [eq_false c] at hk2
    simp only [nilCk_p,addOff_ptr,load1_ptr,Nat.add_zero,c0,i64_eql,hk2,decide_false,nth_0,nth_1,nth_2,nth_3,hjj,tk_eq,opt_some,ifB_false]
    refine hX hjl _ _ ⟨w,rfl,e13,?_,hw20⟩
    rw [hstep]; simp [g,c]
  ·have hjl':¬ (j:Int)<(T.node n).ents.length:=by omega
   have hje:j=(T.node n).ents.length:=by omega
   have:T.tall n=w+1:=by
    unfold Tr.tall
    rw [Tr.tallF_eq T (f+1) n ⟨hd,hf⟩ 20 hle]
    simp only [Tr.tallF,Nat.add_right_cancel_iff]
    rw [hw,hje,List.take_length]
    have:∀ (l:List (NameL×BitVec 16)) (b:Nat),(∀ e∈l,e∈(T.node n).ents)->l.foldl (fun b e=>if (T.node e.2).kind=2#8 then max b (T.tallF f e.2) else b) b=l.foldl g b:=by
     intro l
     induction l with
     | nil=>intro b _; rfl
     | cons e l ih =>
      intro b hbb
      simp only [List.foldl_cons]
      rw [ih _ fun x hx=>hbb x (by simp [hx])]
      congr 1
      simp only [g]
      split
      ·rename_i hk
       rw [Tr.tallF_eq T f e.2 ((hf e (hbb e (by simp))).2 hk) 20 (by omega)]
      ·rfl
    exact this _ _ fun _ h=>h
   have hww:=i64_succ w (by omega)
   rw [this] at hQ
   simp only [F.f83_l1,nth_0,nth_1,nth_2,nth_3,nilCk_p,addOff_ptr,load1_ptr,c2',hl,i64_lss,hjl',decide_false,hww,tk_eq,opt_some,ifB_false]
   exact hQ _ (e1.trans e2)
end
end Go.AM
end
section
namespace Go.AM
theorem zip_modify (f:Nd->Nd):∀ {N:List Nd} {Y:List RLy} {k:Nat} {x:Nd} (y':RLy),N[k]? = some x->k<Y.length->(N.modify k f).zip (Y.set k y')=(N.zip Y).set k (f x,y')
 | [],_,k,_,_,h,_=>by simp at h
 | _ :: _,[],k,_,_,_,h=>by simp at h
 | x0 :: N,y0 :: Y,0,x,y',h,_=>by
  simp at h; subst h; simp
 | x0 :: N,y0 :: Y,k+1,x,y',h,hk=>by
  have:=zip_modify f (N:=N) (Y:=Y) (k:=k) (x:=x) y' (by simpa using h) (by simpa using hk)
  simp [this]
section
variable {E:Sy} {H0 H H' H'' H1:AH} {Q:Value->AH->Prop} {t:Nat} {nv nv' nv'' mv:Value} {nx:Int} {mr:List (List Value)} {Y Y' Y'':List RLy} {T T' T'':Tr}
theorem Upd.fresh {sz:Nat} {v v':Value} {rows rows':List (List Value)} (e:Ext H H') (g:Grow zH H' sz v' rows') (f:FreshV H.next v'):Upd (growR sz v rows) (growR sz v' rows') H H' :=
 Grow.upd ⟨e.only,fun b hb => .inr (f b hb)⟩ g
theorem nodeRR.setL {x x':Nd} {y:RLy} {v':Value} (h:Ow (nodeRR x y) H) (hd:x'.data=x.data) (e:Ext H H') (g:Grow zH H' 2 v' (entR x'.ents)) (f:FreshV H.next v'):Upd (nodeRR x y) (nodeRR x' { y with l:=v' }) H H':=by
 have u:=Ow.set (rs:=[growR 1 y.data (byteR x.data),growR 2 y.l (entR x.ents)]) h (k:=1) rfl (Upd.fresh (rows:=entR x.ents) (v:=y.l) e g f)
 unfold nodeRR
 rw [hd]
 exact u
theorem nodeRR.setD {x x':Nd} {y:RLy} {v':Value} (h:Ow (nodeRR x y) H) (hd:x'.ents=x.ents) (e:Ext H H') (g:Grow zH H' 1 v' (byteR x'.data)) (f:FreshV H.next v'):Upd (nodeRR x y) (nodeRR x' { y with data:=v' }) H H':=by
 have u:=Ow.set (rs:=[growR 1 y.data (byteR x.data),growR 2 y.l (entR x.ents)]) h (k:=0) rfl (Upd.fresh (rows:=byteR x.data) (v:=y.data) e g f)
 unfold nodeRR
 rw [hd]
 exact u
theorem nodeRR.same {x x':Nd} {y:RLy} (hd:x'.data=x.data) (he:x'.ents=x.ents):nodeRR x' y=nodeRR x y:=by
 unfold nodeRR; rw [hd,he]
theorem RefT.node_y (h:RefT H t nv mv nx mr Y T) {n:BitVec 16} (hn:n.toNat<T.N.length) {y:RLy} (hy:Y[n.toNat]? = some y):Ow (nodeRR (T.node n) y) H:=h.part (Tr.node_get hn) hy
theorem RefT.cell (h:RefT H t nv mv nx mr Y T) {n:BitVec 16} (hn:n.toNat<T.N.length) {y:RLy} (hy:Y[n.toNat]? = some y) {b o:Nat} (hp:ixSlc 7 nv (vi (n.toNat:Int))=some (ptr b o)) (f:Nd->Nd) (y':RLy)
  (u:Upd (nodeRR (T.node n) y) (nodeRR (f (T.node n)) y') H H1) {k:Nat} (hk:k<7) {v:Value} (hv:plain1 v=true) (hc:(refI (f (T.node n)) y').cells=(refI (T.node n) y).cells.set k v) :
  ∃ H',store1 (ptr b (o+k)) v H1=some H'/\UpdR t nv mv nx mr Y T nv (Y.set n.toNat y') (T.upd n f) H H':=by
 have hx:=Tr.node_get hn
 have hylt:n.toNat<Y.length:=by rw [h.len]; exact hn
 have hz:(T.N.zip Y)[n.toNat]? = some (T.node n,y):=by simp [List.zip,List.getElem?_zipWith,hx,hy]
 have hk3:(refRs t nv mv nx mr Y T)[n.toNat+3]? = some (nodeRR (T.node n) y):=by simp [refRs,hz]
 have u1:=h.ow.set (rs:=refRs t nv mv nx mr Y T) hk3 u
 have o1:=h.ow.upd u1
 have g1:Grow zH H1 7 nv (nodeRows T Y):=o1.holds (growR 7 nv (nodeRows T Y)) (by simp [refRs])
 have hi:n.toNat<(nodeRows T Y).length:=by rw [h.rows_len]; exact hn
 obtain ⟨b',o',H',q1,q2,q3,q4,q5⟩:=g1.store (i:=n.toNat) (k:=k) hi hk v hv
 rw [hp] at q1
 simp only [Option.some.injEq,Value.pointer.injEq,Addr.mk.injEq,and_true] at q1
 obtain ⟨rfl,rfl⟩:=q1
 have hrow:(nodeRows T Y)[n.toNat]=(refI (T.node n) y).cells:=by
  have:(nodeRows T Y)[n.toNat]? = some (refI (T.node n) y).cells:=by simp only [nodeRows,List.getElem?_map,hz]; rfl
  rw [List.getElem?_eq_getElem hi] at this
  exact Option.some.inj this
 rw [hrow,<- hc] at q4
 have u2:=o1.set (rs:=(refRs t nv mv nx mr Y T).set (n.toNat+3) (nodeRR (f (T.node n)) y')) (k:=1) (r:=growR 7 nv (nodeRows T Y)) (by simp [refRs]) (Grow.upd (v:=nv) (rows:=nodeRows T Y) ⟨q5,fun b hb => .inl hb⟩ q4)
 have hzz:=zip_modify f y' hx hylt
 have he:((refRs t nv mv nx mr Y T).set (n.toNat+3) (nodeRR (f (T.node n)) y')).set 1 (growR 7 nv ((nodeRows T Y).set n.toNat (refI (f (T.node n)) y').cells))=refRs t nv mv nx mr (Y.set n.toNat y') (T.upd n f):=by
  simp only [refRs,nodeRows,Tr.upd,hzz,List.map_set,List.set_cons_succ,List.set_cons_zero]
 refine ⟨H',q3,?_,by simp [Tr.upd,h.len],by simpa [Tr.upd] using h.fit⟩
 have:=u1.trans u2
 rw [he] at this
 exact this
theorem RefT.num (h:RefT H t nv mv nx mr Y T) {n:BitVec 16} (hn:n.toNat<T.N.length) {y:RLy} (hy:Y[n.toNat]? = some y) {b o:Nat} (hp:ixSlc 7 nv (vi (n.toNat:Int))=some (ptr b o)) (f:Nd->Nd)
  (hf:∀ x:Nd,(f x).data=x.data/\(f x).ents=x.ents) {k:Nat} (hk:k<7) {v:Int} (hc:(refI (f (T.node n)) y).cells=(refI (T.node n) y).cells.set k (vi v)) :
  ∃ H',store1 (ptr b (o+k)) (vi v) H=some H'/\UpdR t nv mv nx mr Y T nv Y (T.upd n f) H H':=by
 obtain ⟨H',q1,q2⟩:=h.cell hn hy hp f y (by rw [nodeRR.same (hf _).1 (hf _).2]; exact (h.node_y hn hy).refl) hk (v:=vi v) rfl hc
 refine ⟨H',q1,?_⟩
 have:Y.set n.toNat y=Y:=by
  apply List.ext_getElem?
  intro i
  by_cases e:n.toNat=i
  ·subst e
   rw [List.getElem?_set_self (by rw [h.len]; exact hn),hy]
  ·rw [List.getElem?_set_ne e]
 rwa [this] at q2
theorem RefT.tick (h:RefT H t nv mv nx mr Y T):∃ H',store1 (ptr t 4) (vi (T.change+1)) H=some H'/\UpdR t nv mv nx mr Y T nv Y T.bump H H':=by
 have hh:=h.head
 refine ⟨H.put t (.cells (TreeI.cells ⟨nv,T.limit,mv,nx,T.change+1⟩) none),?_,?_,h.len,h.fit⟩
 ·rw [store1_ptr]
  simp [hh,plain1]
 ·exact h.ow.set (rs:=refRs t nv mv nx mr Y T) (k:=0) rfl (boxR.put hh _)
theorem noneV:buildV [(0,1),(1,1),(2,1),(3,1),(4,1),(5,1),(6,1)] #[(.int .i64 0),(.slice none 0 0),(.slice none 0 0),(.int .i64 0),(.string ⟨#[]⟩),(.int .i64 0),(.int .i64 0)] []=some (.agg (refI Nd.none ⟨nilS,nilS⟩).cells.toArray):=rfl
theorem node_kind_lt {n:BitVec 16} (h:(T.node n).kind≠0#8):n.toNat<T.N.length:=by
 by_cases hn:n.toNat<T.N.length
 ·exact hn
 ·exact (h (by rw [Tr.node_ge (by omega)]; rfl)).elim
theorem S.f84 (hE:Fold E) (h:RefT H t nv mv nx mr Y T) (n:BitVec 16) (hn:n.toNat<T.N.length) (hQ:∀ Y' H',UpdR t nv mv nx mr Y T nv Y' (T.tidy n) H H'->Q (.tuple #[]) H'):E.call (E.fid i.f84) [ptr t 0,vi (n.toNat:Int)] H Q:=by
 apply hE.f84
 have hh:=h.head
 obtain ⟨y,b,o,h1,h2,h3⟩:=h.at_ hn
 obtain ⟨_,_,_,_,_,c5,c6⟩:=h3.cell
 unfold Tr.tidy at hQ
 by_cases e1:(T.node n).links=0
 ·by_cases e2:(T.node n).held=0
  ·rw [if_pos ⟨e1,e2⟩] at hQ
   have hx:=Tr.node_get hn
   have hylt:n.toNat<Y.length:=by rw [h.len]; exact hn
   have hz:(T.N.zip Y)[n.toNat]? = some (T.node n,y):=by simp [List.zip,List.getElem?_zipWith,hx,h1]
   have hi:n.toNat<(nodeRows T Y).length:=by rw [h.rows_len]; exact hn
   obtain ⟨b',o',H',q1,q2,q3,q4⟩:=h.rows.storeN (i:=n.toNat) hi (refI Nd.none ⟨nilS,nilS⟩).cells rfl rfl
   rw [h2] at q1
   simp only [Option.some.injEq,Value.pointer.injEq,Addr.mk.injEq,and_true] at q1
   obtain ⟨rfl,rfl⟩:=q1
   have u1:=h.ow.set (rs:=refRs t nv mv nx mr Y T) (k:=1) (r:=growR 7 nv (nodeRows T Y)) (by simp [refRs]) (Grow.upd (v:=nv) (rows:=nodeRows T Y) ⟨q4,fun b hb => .inl hb⟩ q3)
   have o1:=h.ow.upd u1
   have hk3:((refRs t nv mv nx mr Y T).set 1 (growR 7 nv ((nodeRows T Y).set n.toNat (refI Nd.none ⟨nilS,nilS⟩).cells)))[n.toNat+3]? = some (nodeRR (T.node n) y):=by simp [refRs,hz]
   have ho:=o1.part hk3
   have ue:Upd (nodeRR (T.node n) y) (nodeRR Nd.none ⟨nilS,nilS⟩) H' H':=by
    refine ⟨Only.refl _ _,?_,?_,?_⟩
    ·intro r hr
     simp only [List.mem_cons,List.not_mem_nil,or_false] at hr
     rcases hr with rfl | rfl
     ·exact Grow.nil _ _ _
     ·exact Grow.nil _ _ _
    ·intro b hb
     simp [nodeRR,joinR,growR,blkL,blk] at hb
    ·simp [nodeRR,joinR,growR,blkL,blk]
   have u2:=o1.set hk3 ue
   have hzz:=zip_modify (fun _=>Nd.none) (⟨nilS,nilS⟩:RLy) hx hylt
   have he:((refRs t nv mv nx mr Y T).set 1 (growR 7 nv ((nodeRows T Y).set n.toNat (refI Nd.none ⟨nilS,nilS⟩).cells))).set (n.toNat+3) (nodeRR Nd.none ⟨nilS,nilS⟩)=refRs t nv mv nx mr (Y.set n.toNat ⟨nilS,nilS⟩) (T.upd n fun _=>Nd.none):=by
    simp only [refRs,nodeRows,Tr.upd,hzz,List.map_set,List.set_cons_succ,List.set_cons_zero]
   have u3:=u1.trans u2
   rw [he] at u3
   simp only [F.f84,nilCk_p,addOff_ptr,load1_ptr,Nat.add_zero,Nat.zero_add,hh,cell_cells_z,TreeI.at0,h2,c5,e1,i64_eql,decide_true,gd_tt,c6,e2,pick_true_z,noneV,q2,tk_eq,opt_some,ifB_true]
   exact hQ _ H' ⟨u3,by simp [Tr.upd,h.len],by simpa [Tr.upd] using h.fit⟩
  ·rw [if_neg fun k=>e2 k.2] at hQ
   simp only [F.f84,nilCk_p,addOff_ptr,load1_ptr,Nat.add_zero,Nat.zero_add,hh,cell_cells_z,TreeI.at0,h2,c5,e1,i64_eql,decide_true,gd_tt,c6,e2,decide_false,pick_true_z,tk_eq,opt_some,ifB_false]
   exact hQ Y H (h.same (Ext.refl _))
 ·rw [if_neg fun k=>e1 k.1] at hQ
  simp only [F.f84,nilCk_p,addOff_ptr,load1_ptr,Nat.add_zero,Nat.zero_add,hh,cell_cells_z,TreeI.at0,h2,c5,e1,i64_eql,decide_false,gd_ft,pick_false_z,tk_eq,opt_some,ifB_false]
  exact hQ Y H (h.same (Ext.refl _))
theorem S.f67 (hE:Fold E) (h:RefT H t nv mv nx mr Y T) (n:BitVec 16) (more:Bool) (hb:0<=(T.node n).held/\(T.node n).held<9223372036854775807)
  (hQ:∀ Y' H',UpdR t nv mv nx mr Y T nv Y' (T.hold n more).1 H H'->Q (vi (T.hold n more).2) H'):E.call (E.fid i.f67) [ptr t 0,vi (n.toNat:Int),vb more] H Q:=by
 apply hE.f67
 simp only [F.f67]
 refine S.f72 hE h n fun b o y H1 e1 hn hat =>?_
 obtain ⟨c0,_,_,_,_,_,c6⟩:=hn.cell
 unfold Tr.hold at hQ
 by_cases k0:(T.node n).kind=0#8
 ·simp [k0] at hQ
  have:((T.node n).kind.toNat:Int)=0:=by rw [k0]; rfl
  simp only [nilCk_p,addOff_ptr,load1_ptr,Nat.add_zero,c0,this,i64_eql,decide_true,tk_eq,opt_some,ifB_true]
  exact hQ _ _ (h.same e1)
 ·have hk:¬ ((T.node n).kind.toNat:Int)=0:=by rw [kind0]; exact k0
  have hlt:=node_kind_lt k0
  obtain ⟨rfl,hy,hp⟩:=hat hlt
  simp only [nilCk_p,addOff_ptr,load1_ptr,Nat.add_zero,c0,hk,i64_eql,decide_false,tk_eq,opt_some,ifB_false]
  cases more with
  | true =>
   simp [k0] at hQ
   obtain ⟨H2,q1,q2⟩:=h.num hlt hy hp (Nd.addH 1) (fun _=>⟨rfl,rfl⟩) (k:=6) (by omega) (v:=(T.node n).held+1) rfl
   simp only [ifB_true,nilCk_p,addOff_ptr,load1_ptr,c6,i64_add (a:=(T.node n).held) (b:=1) (by omega) (by omega),q1,tk_eq,opt_some]
   exact hQ _ _ q2
  | false =>
   by_cases k1:(T.node n).held=0
   ·simp [k0,k1] at hQ
    simp only [ifB_false,nilCk_p,addOff_ptr,load1_ptr,i64_eql,c6,k1,decide_true,ifB_true,tk_eq,opt_some]
    exact hQ _ _ (h.same e1)
   ·simp [k0,k1] at hQ
    obtain ⟨H2,q1,q2⟩:=h.num hlt hy hp (Nd.addH (-1)) (fun _=>⟨rfl,rfl⟩) (k:=6) (by omega) (v:=(T.node n).held - 1) rfl
    simp only [ifB_false,nilCk_p,addOff_ptr,load1_ptr,i64_eql,c6,k1,decide_false,i64_sub (a:=(T.node n).held) (b:=1) (by omega) (by omega),q1,tk_eq,opt_some]
    refine S.f84 hE (q2.ref h) n (by simpa [Tr.upd] using hlt) fun Y' H3 u =>?_
    exact hQ _ _ (q2.trans u)
end
end Go.AM
end
section
namespace Go.AM
section
variable {E:Sy} {H0 H H' H'' H1:AH} {Q:Value->AH->Prop} {t:Nat} {nv nv' nv'' mv:Value} {nx:Int} {mr:List (List Value)} {Y Y' Y'':List RLy} {T T' T'':Tr}
theorem RefT.newL (h:RefT H t nv mv nx mr Y T) {n:BitVec 16} (hn:n.toNat<T.N.length) {y:RLy} (hy:Y[n.toNat]? = some y) {b o:Nat} (hp:ixSlc 7 nv (vi (n.toNat:Int))=some (ptr b o)) (f:Nd->Nd)
  (hf:∀ x:Nd,(f x).data=x.data) {v':Value} (e:Ext H H1) (g:Grow zH H1 2 v' (entR (f (T.node n)).ents)) (fr:FreshV H.next v') (hc:(refI (f (T.node n)) { y with l:=v' }).cells=(refI (T.node n) y).cells.set 2 v') :
  ∃ H',store1 (ptr b (o+2)) v' H1=some H'/\UpdR t nv mv nx mr Y T nv (Y.set n.toNat { y with l:=v' }) (T.upd n f) H H' :=
 h.cell hn hy hp f _ (nodeRR.setL (h.node_y hn hy) (hf _) e g fr) (by omega) g.plain hc
theorem entryV (s:NameL) (k:BitVec 16):buildV [(0,1),(1,1)] #[(.string ⟨#[]⟩),(.int .i64 0)] [(0,str s),(1,vi (k.toNat:Int))]=some (.agg (EntryI.cells ⟨s,(k.toNat:Int)⟩).toArray):=EntryI.build s (k.toNat:Int)
theorem Tr.room_zero {n:BitVec 16} {s:NameL} (h:T.room n s=0):(T.node n).kind=2#8/\alook s (T.node n).ents=none/\(T.node n).links≠0/\okName s=true/\(T.node n).ents.length<32:=by
 unfold Tr.room at h
 by_cases d1:T.dir n=0
 ·have hk:(T.node n).kind=2#8:=by
   unfold Tr.dir at d1
   split at d1
   ·simp at d1
   ·split at d1
    ·assumption
    ·simp at d1
  simp only [d1,ne_eq,not_true,if_false] at h
  by_cases ok:okName s=false
  ·simp [ok] at h
  ·simp only [ok,Bool.false_eq_true,if_false] at h
   cases hl:alook s (T.node n).ents with
   | some x=>rw [hl] at h; simp at h
   | none =>
    rw [hl] at h
    simp only [Option.isSome_none,Bool.false_eq_true,if_false] at h
    split at h
    ·simp at h
    ·split at h
     ·simp at h
     ·exact ⟨hk,rfl,by assumption,by simpa using ok,by omega⟩
 ·simp [d1] at h
theorem S.f60 (hE:Fold E) (h:RefT H t nv mv nx mr Y T) (hs:T.small) (n:BitVec 16) (s:NameL) (hsl:s.length<2 ^ 63) (v:BitVec 16) (hc : -9223372036854775808<=T.change/\T.change<9223372036854775807)
  (hl:0<=(T.node v).links) (hQ:∀ Y' H',UpdR t nv mv nx mr Y T nv Y' (T.add n s v).1 H H'->Q (vi (T.add n s v).2) H'):E.call (E.fid i.f60) [ptr t 0,vi (n.toNat:Int),str s,vi (v.toNat:Int)] H Q:=by
 apply hE.f60
 simp only [F.f60]
 refine S.f72 hE h v fun b o y H1 e1 hn hat =>?_
 obtain ⟨c0,_,_,_,_,c5,_⟩:=hn.cell
 unfold Tr.add at hQ
 by_cases k0:(T.node v).kind=0#8
 ·simp [k0] at hQ
  have:((T.node v).kind.toNat:Int)=0:=by rw [k0]; rfl
  simp only [nilCk_p,addOff_ptr,load1_ptr,Nat.add_zero,c0,this,i64_eql,decide_true,tk_eq,opt_some,ifB_true]
  exact hQ _ _ (h.same e1)
 have hk:¬ ((T.node v).kind.toNat:Int)=0:=by rw [kind0]; exact k0
 have hlt:=node_kind_lt k0
 obtain ⟨rfl,hy,hp⟩:=hat hlt
 by_cases k2:(T.node v).kind=2#8
 ·simp [k0,k2] at hQ
  have:((T.node v).kind.toNat:Int)=2:=by rw [k2]; rfl
  simp only [nilCk_p,addOff_ptr,load1_ptr,Nat.add_zero,c0,this,show decide ((2:Int)=0)=false from rfl,i64_eql,decide_true,decide_false,tk_eq,opt_some,ifB_true,ifB_false]
  exact hQ _ _ (h.same e1)
 have hk2:¬ ((T.node v).kind.toNat:Int)=2:=by rw [kind2]; exact k2
 simp only [nilCk_p,addOff_ptr,load1_ptr,Nat.add_zero,c0,hk,hk2,i64_eql,decide_false,tk_eq,opt_some,ifB_false]
 refine S.f81 hE h hs n s hsl fun H2 e2 =>?_
 have hn2:=hn.mono e2
 obtain ⟨_,_,_,_,_,c5,_⟩:=hn2.cell
 by_cases r0:T.room n s=0
 ·by_cases l0:(T.node v).links=0
  ·simp [k0,k2,r0,l0] at hQ
   simp only [i64_neq,r0,ne_eq,not_true,decide_false,decide_true,nilCk_p,addOff_ptr,load1_ptr,c5,l0,i64_eql,tk_eq,opt_some,ifB_true,ifB_false]
   exact hQ _ _ (h.same e2)
  by_cases l1:256<=(T.node v).links
  ·simp [k0,k2,r0,l0,l1] at hQ
   simp only [i64_neq,r0,ne_eq,not_true,decide_false,decide_true,nilCk_p,addOff_ptr,load1_ptr,c5,l0,l1,i64_eql,i64_geq,tk_eq,opt_some,ifB_true,ifB_false]
   exact hQ _ _ (h.same e2)
  simp [k0,k2,r0,l0,l1] at hQ
  obtain ⟨hd,hno,_⟩:=Tr.room_zero r0
  have hdlt:n.toNat<T.N.length:=node_kind_lt (by rw [hd]; decide)
  have h2:=h.mono e2
  obtain ⟨yn,bn,on,y1,p1,nd1⟩:=h2.at_ hdlt
  obtain ⟨_,_,c2,_⟩:=nd1.cell
  have hh:=h2.head
  simp only [i64_neq,r0,ne_eq,not_true,decide_false,nilCk_p,addOff_ptr,load1_ptr,Nat.add_zero,Nat.zero_add,c5,l0,l1,i64_eql,i64_geq,hh,cell_cells_z,TreeI.at0,p1,c2,entryV,tk_eq,opt_some,ifB_false]
  refine S.f86 hE yn.l (T.node n).ents nd1.2.2 (by have:=(Tr.room_zero r0).2.2.2.2; omega) s v fun v' H3 e3 g3 f3 =>?_
  have hh3:=(h2.mono e3).head
  obtain ⟨H4,s4,u4⟩:=h2.newL hdlt y1 p1 (Nd.addE s v) (fun _=>rfl) e3 g3 f3 rfl
  have h4:=u4.ref h2
  have hvn:v≠n:=by rintro rfl; exact k2 hd
  have hnode:(T.upd n (Nd.addE s v)).node v=T.node v:=by rw [Tr.node_upd (by rw [hd]; decide),if_neg hvn]
  have hlt4:v.toNat<(T.upd n (Nd.addE s v)).N.length:=by simpa [Tr.upd] using hlt
  obtain ⟨y4,b4,o4,q1,q2,q3⟩:=h4.at_ hlt4
  rw [hp] at q2
  simp only [Option.some.injEq,Value.pointer.injEq,Addr.mk.injEq,and_true] at q2
  obtain ⟨rfl,rfl⟩:=q2
  obtain ⟨_,_,_,_,_,d5,_⟩:=q3.cell
  rw [hnode] at d5
  obtain ⟨H5,s5,u5⟩:=h4.num hlt4 q1 hp (Nd.addL 1) (fun _=>⟨rfl,rfl⟩) (k:=5) (by omega) (v:=(T.node v).links+1) (by rw [hnode]; rfl)
  have h5:=u5.ref h4
  obtain ⟨H6,s6,u6⟩:=h5.tick
  have hh5:=h5.head
  refine ⟨by simp only [load1_ptr,hh3,hh],?_⟩
  have hcc:((T.upd n (Nd.addE s v)).upd v (Nd.addL 1)).change=T.change:=rfl
  rw [hcc] at s6 hh5
  simp only [p1,addOff_ptr,s4,nilCk_p,load1_ptr,d5,i64_add (a:=(T.node v).links) (b:=1) (by omega) (by omega),s5,hh5,cell_cells_z,Nat.zero_add,TreeI.at4,i64_add (a:=T.change) (b:=1) (by omega) (by omega),s6,tk_eq,opt_some]
  exact hQ _ _ ((UpdR.after e2 u4).trans (u5.trans u6))
 ·simp [k0,k2,r0] at hQ
  simp only [i64_neq,r0,ne_eq,not_false_iff,decide_true,tk_eq,opt_some,ifB_true]
  exact hQ _ _ (h.same e2)
theorem S.f65 (hE:Fold E) (h:RefT H t nv mv nx mr Y T) (hs:T.small) (n:BitVec 16) (s:NameL) (dir:Bool) (hc : -9223372036854775808<=T.change/\T.change<9223372036854775807)
    (hk:(T.look n s).2=0->(T.node (T.look n s).1).kind≠0#8 /\ -9223372036854775807<=(T.node (T.look n s).1).links/\(T.node (T.look n s).1).links<9223372036854775807) (hel:(T.node n).ents.length<2 ^ 36)
    (hQ:∀ Y' H',UpdR t nv mv nx mr Y T nv Y' (T.drop n s dir).1 H H'->Q (vi (T.drop n s dir).2) H'):E.call (E.fid i.f65) [ptr t 0,vi (n.toNat:Int),str s,vb dir] H Q:=by
  apply hE.f65
  simp only [F.f65]
  refine S.f69 hE h hs n s fun H1 e1 =>?_
  unfold Tr.drop at hQ
  by_cases l0:(T.look n s).2=0
  · obtain ⟨hd,hlk⟩:=Tr.look_ok l0
    obtain ⟨k0,k1,k2⟩:=hk l0
    simp only [l0,ne_eq,not_true,if_false] at hQ
    generalize hv:(T.look n s).1=v at *
    simp only [tk_eq,ext_tuple,List.getElem?_cons_zero,List.getElem?_cons_succ,l0,i64_neq,ne_eq,not_true,decide_false,opt_some,ifB_false]
    refine S.f72 hE (h.mono e1) v fun b o y H2 e2 hn hat =>?_
    obtain ⟨rfl,hy,hp⟩:=hat (node_kind_lt k0)
    obtain ⟨c0,_,c2,_,_,c5,_⟩:=hn.cell
    have hl:=hn.lenL
    have hvlt:=node_kind_lt k0
    have hnlt:n.toNat<T.N.length:=node_kind_lt (by rw [hd]; decide)
    have fin:¬ (dir=true/\(T.node v).kind≠2#8)->¬ (dir=false/\(T.node v).kind=2#8)->¬ (dir=true/\0<(T.node v).ents.length) ->
       (opt (nilCk (ptr t 0)) fun v26=>opt (addOff v26 0) fun v27=>opt (load1 v27 H2) fun v28=>opt (nilCk (ptr t 0)) fun v29=>opt (addOff v29 0) fun v30=>opt (load1 v30 H2) fun v31 =>
         opt (ixSlc 7 v31 (vi (n.toNat:Int))) fun v32=>opt (addOff v32 2) fun v33=>opt (load1 v33 H2) fun v34 =>
         E.call (E.fid i.f72) [ptr t 0,vi (n.toNat:Int)] H2 fun v35 H19 =>
         load1 v33 H19=load1 v33 H2/\load1 v30 H19=load1 v30 H2/\load1 v27 H19=load1 v27 H2 /\
         E.call (E.fid i.f85) [v35,str s] H19 fun v36 H20 =>
         load1 v33 H20=load1 v33 H2/\load1 v30 H20=load1 v30 H2/\load1 v27 H20=load1 v27 H2 /\
         E.call (E.fid i.f87) [v34,v36] H20 fun v37 H21 =>
         load1 v27 H21=load1 v27 H2 /\
         opt (ixSlc 7 v28 (vi (n.toNat:Int))) fun v38=>opt (addOff v38 2) fun v39=>opt (store1 v39 v37 H21) fun H22 =>
         opt (nilCk (ptr b o)) fun v40=>opt (addOff v40 5) fun v41=>opt (load1 v41 H22) fun v42=>opt (binInt .sub v42 (.int .i64 1)) fun v43 =>
         opt (nilCk (ptr b o)) fun v44=>opt (addOff v44 5) fun v45=>opt (store1 v45 v43 H22) fun H23 =>
         opt (nilCk (ptr t 0)) fun v46=>opt (addOff v46 4) fun v47=>opt (load1 v47 H23) fun v48=>opt (binInt .add v48 (.int .i64 1)) fun v49 =>
         opt (nilCk (ptr t 0)) fun v50=>opt (addOff v50 4) fun v51=>opt (store1 v51 v49 H23) fun H24 =>
         E.call (E.fid i.f84) [ptr t 0,vi (v.toNat:Int)] H24 fun v52 H25=>Q (.int .i64 0) H25):=by
      intro n1 n2 n3
      rw [if_neg n1,if_neg n2,if_neg n3] at hQ
      have h2:=h.mono e1
      obtain ⟨yn,bn,on,y1,p1,nd1⟩:=h2.at_ hnlt
      obtain ⟨_,_,c2n,_⟩:=nd1.cell
      have hh:=h2.head
      simp only [nilCk_p,addOff_ptr,load1_ptr,Nat.add_zero,Nat.zero_add,hh,cell_cells_z,TreeI.at0,p1,c2n,tk_eq,opt_some]
      refine S.f72 hE h2 n fun bz oz yz H3 e3 hnz hatz =>?_
      obtain ⟨rfl,hyz,hpz⟩:=hatz hnlt
      refine ⟨rfl,rfl,rfl,?_⟩
      refine S.f85 hE hnz s (hs n) ?_
      refine ⟨rfl,rfl,rfl,?_⟩
      obtain ⟨j,hj,j1,j2,j3⟩:=nameIx_some s _ v hlk
      rw [j1]
      refine S.f87 hE yn.l (T.node n).ents nd1.2.2 hel j hj fun v' H4 e4 g4 f4 =>?_
      rw [<- j3] at g4
      have hh4:=(h2.mono e4).head
      obtain ⟨H5,s5,u5⟩:=h2.newL hnlt y1 p1 (Nd.delE s) (fun _=>rfl) e4 g4 f4 rfl
      have h5:=u5.ref h2
      have hnode:((T.upd n (Nd.delE s)).node v).links=(T.node v).links:=by
        rw [Tr.node_upd (by rw [hd]; decide)]
        split
        · rename_i e; rw [e]; rfl
        · rfl
      have hlt5:v.toNat<(T.upd n (Nd.delE s)).N.length:=by simpa [Tr.upd] using hvlt
      obtain ⟨y5,b5,o5,q1,q2,q3⟩:=h5.at_ hlt5
      rw [hp] at q2
      simp only [Option.some.injEq,Value.pointer.injEq,Addr.mk.injEq,and_true] at q2
      obtain ⟨rfl,rfl⟩:=q2
      obtain ⟨_,_,_,_,_,d5,_⟩:=q3.cell
      rw [hnode] at d5
      obtain ⟨H6,s6,u6⟩:=h5.num hlt5 q1 hp (Nd.addL (-1)) (fun _=>⟨rfl,rfl⟩) (k:=5) (by omega) (v:=(T.node v).links - 1) (by rw [<- hnode]; rfl)
      have h6:=u6.ref h5
      obtain ⟨H7,s7,u7⟩:=h6.tick
      have hh6:=h6.head
      have hcc:((T.upd n (Nd.delE s)).upd v (Nd.addL (-1))).change=T.change:=rfl
      rw [hcc] at s7 hh6
      refine ⟨by simp only [load1_ptr,hh4,hh],?_⟩
      simp only [p1,addOff_ptr,s5,nilCk_p,load1_ptr,d5,i64_sub (a:=(T.node v).links) (b:=1) (by omega) (by omega),s6,hh6,cell_cells_z,Nat.zero_add,TreeI.at4,i64_add (a:=T.change) (b:=1) (by omega) (by omega),s7,tk_eq,opt_some]
      refine S.f84 hE (u7.ref h6) v (by simpa [Tr.upd,Tr.bump] using hvlt) fun Y' H8 u8 =>?_
      exact hQ _ _ ((UpdR.after e1 u5).trans ((u6.trans u7).trans u8))
    cases dir with
    | true =>
      by_cases k3:(T.node v).kind=2#8
      · have hk3:((T.node v).kind.toNat:Int)=2:=by rw [k3]; rfl
        by_cases z0:0<(T.node v).ents.length
        · have z0':(0:Int)<(T.node v).ents.length:=by omega
          simp [k3,z0] at hQ
          simp only [gd_tt,gd_ft,un_not_z,nilCk_p,addOff_ptr,load1_ptr,Nat.add_zero,c0,hk3,i64_neq,i64_gtr,gt_iff_lt,ne_eq,not_true,decide_false,decide_true,Bool.not_true,c2,hl,z0',pick_true_z,pick_false_z,tk_eq,opt_some,ifB_true,ifB_false]
          exact hQ _ _ (h.same e1)
        · have z0':¬ (0:Int)<(T.node v).ents.length:=by omega
          simp only [gd_tt,gd_ft,un_not_z,nilCk_p,addOff_ptr,load1_ptr,Nat.add_zero,c0,hk3,i64_neq,i64_gtr,gt_iff_lt,ne_eq,not_true,decide_false,decide_true,Bool.not_true,c2,hl,z0',pick_true_z,pick_false_z,tk_eq,opt_some,ifB_true,ifB_false]
          exact fin (by simp [k3]) (by simp) (by simp [z0])
      · have hk3:¬ ((T.node v).kind.toNat:Int)=2:=by rw [kind2]; exact k3
        simp [k3] at hQ
        simp only [gd_tt,gd_ft,un_not_z,nilCk_p,addOff_ptr,load1_ptr,Nat.add_zero,c0,hk3,i64_neq,ne_eq,not_false_iff,decide_true,pick_true_z,tk_eq,opt_some,ifB_true]
        exact hQ _ _ (h.same e1)
    | false =>
      by_cases k3:(T.node v).kind=2#8
      · have hk3:((T.node v).kind.toNat:Int)=2:=by rw [k3]; rfl
        simp [k3] at hQ
        simp only [gd_tt,gd_ft,un_not_z,nilCk_p,addOff_ptr,load1_ptr,Nat.add_zero,c0,hk3,i64_eql,decide_false,decide_true,Bool.not_false,pick_true_z,pick_false_z,tk_eq,opt_some,ifB_true,ifB_false]
        exact hQ _ _ (h.same e1)
      · have hk3:¬ ((T.node v).kind.toNat:Int)=2:=by rw [kind2]; exact k3
        simp only [gd_tt,gd_ft,un_not_z,nilCk_p,addOff_ptr,load1_ptr,Nat.add_zero,c0,hk3,i64_eql,decide_false,decide_true,Bool.not_false,pick_true_z,pick_false_z,tk_eq,opt_some,ifB_true,ifB_false]
        exact fin (by simp) (by simp [k3]) (by simp)
  · simp [l0] at hQ
    simp only [tk_eq,ext_tuple,List.getElem?_cons_zero,List.getElem?_cons_succ,l0,i64_neq,ne_eq,not_false_iff,decide_true,opt_some,ifB_true]
    exact hQ _ _ (h.same e1)
end
end Go.AM
end
section
namespace Go.AM
section
variable {E:Sy} {H0 H H' H'' H1:AH} {Q:Value->AH->Prop} {t:Nat} {nv nv' nv'' mv:Value} {nx:Int} {mr:List (List Value)} {Y Y' Y'':List RLy} {T T' T'':Tr}
theorem RefT.setRow (h:RefT H t nv mv nx mr Y T) {n:BitVec 16} (hn:n.toNat<T.N.length) (x':Nd) (hd:x'.data=[]) (he:x'.ents=[]) :
  ∃ b o H',ixSlc 7 nv (vi (n.toNat:Int))=some (ptr b o)/\storeN 7 (ptr b o) (.agg (refI x' ⟨nilS,nilS⟩).cells.toArray) H=some H'/\UpdR t nv mv nx mr Y T nv (Y.set n.toNat ⟨nilS,nilS⟩) (T.upd n fun _=>x') H H':=by
 obtain ⟨y,b,o,h1,h2,h3⟩:=h.at_ hn
 have hx:=Tr.node_get hn
 have hylt:n.toNat<Y.length:=by rw [h.len]; exact hn
 have hz:(T.N.zip Y)[n.toNat]? = some (T.node n,y):=by simp [List.zip,List.getElem?_zipWith,hx,h1]
 have hi:n.toNat<(nodeRows T Y).length:=by rw [h.rows_len]; exact hn
 obtain ⟨b',o',H',q1,q2,q3,q4⟩:=h.rows.storeN (i:=n.toNat) hi (refI x' ⟨nilS,nilS⟩).cells rfl rfl
 have u1:=h.ow.set (rs:=refRs t nv mv nx mr Y T) (k:=1) (r:=growR 7 nv (nodeRows T Y)) (by simp [refRs]) (Grow.upd (v:=nv) (rows:=nodeRows T Y) ⟨q4,fun b hb => .inl hb⟩ q3)
 have o1:=h.ow.upd u1
 have hk3:((refRs t nv mv nx mr Y T).set 1 (growR 7 nv ((nodeRows T Y).set n.toNat (refI x' ⟨nilS,nilS⟩).cells)))[n.toNat+3]? = some (nodeRR (T.node n) y):=by simp [refRs,hz]
 have ue:Upd (nodeRR (T.node n) y) (nodeRR x' ⟨nilS,nilS⟩) H' H':=by
  refine ⟨Only.refl _ _,?_,?_,?_⟩
  ·intro r hr
   simp only [List.mem_cons,List.not_mem_nil,or_false] at hr
   rcases hr with rfl | rfl
   ·rw [hd]; exact Grow.nil _ _ _
   ·rw [he]; exact Grow.nil _ _ _
  ·intro b hb
   simp [nodeRR,joinR,growR,blkL,blk] at hb
  ·simp [nodeRR,joinR,growR,blkL,blk]
 have u2:=o1.set hk3 ue
 have hzz:=zip_modify (fun _=>x') (⟨nilS,nilS⟩:RLy) hx hylt
 have he:((refRs t nv mv nx mr Y T).set 1 (growR 7 nv ((nodeRows T Y).set n.toNat (refI x' ⟨nilS,nilS⟩).cells))).set (n.toNat+3) (nodeRR x' ⟨nilS,nilS⟩)=refRs t nv mv nx mr (Y.set n.toNat ⟨nilS,nilS⟩) (T.upd n fun _=>x'):=by
  simp only [refRs,nodeRows,Tr.upd,hzz,List.map_set,List.set_cons_succ,List.set_cons_zero]
 have u3:=u1.trans u2
 rw [he] at u3
 exact ⟨b',o',H',q1,q2,u3,by simp [Tr.upd,h.len],by simpa [Tr.upd] using h.fit⟩
theorem RefT.push (h:RefT H t nv mv nx mr Y T) (hfit:T.N.length<60000) :
  ∃ v' H2 H3,AM.app 7 96 nv (slc H.next 0 1 1) (H.new (.cells (refI Nd.none ⟨nilS,nilS⟩).cells none))=some (v',H2)/\store1 (ptr t 0) v' H2=some H3/\UpdR t nv mv nx mr Y T v' (Y++[⟨nilS,nilS⟩]) { T with N:=T.N++[Nd.none] } H H3:=by
 obtain ⟨v',H2,a1,a2,a3⟩:=h.rows.app1 (Nat.zero_le _) (bytes:=96) (refI Nd.none ⟨nilS,nilS⟩).cells rfl rfl (by decide) (by decide) (by rw [h.rows_len]; omega)
 have u1:=h.ow.set (rs:=refRs t nv mv nx mr Y T) (k:=1) (r:=growR 7 nv (nodeRows T Y)) (by simp [refRs]) (Grow.upd (v:=nv) (rows:=nodeRows T Y) a3 a2)
 have o1:=h.ow.upd u1
 have hh:H2.get t = .cells (TreeI.cells ⟨nv,T.limit,mv,nx,T.change⟩) none:=o1.holds (boxR t (TreeI.cells ⟨nv,T.limit,mv,nx,T.change⟩)) (by simp [refRs])
 have u2:=o1.set (rs:=(refRs t nv mv nx mr Y T).set 1 (growR 7 v' (nodeRows T Y++[(refI Nd.none ⟨nilS,nilS⟩).cells]))) (k:=0) (by simp [refRs]) (boxR.put hh (TreeI.cells ⟨v',T.limit,mv,nx,T.change⟩))
 have o2:=o1.upd u2
 have u3:=o2.add (nodeRR Nd.none ⟨nilS,nilS⟩) (Ext.refl _) (by
  intro r hr
  simp only [List.mem_cons,List.not_mem_nil,or_false] at hr
  rcases hr with rfl | rfl
  ·exact Grow.nil _ _ _
  ·exact Grow.nil _ _ _) (by intro b hb; simp [nodeRR,joinR,growR,blkL,blk] at hb) (by simp [nodeRR,joinR,growR,blkL,blk])
 have he:(((refRs t nv mv nx mr Y T).set 1 (growR 7 v' (nodeRows T Y++[(refI Nd.none ⟨nilS,nilS⟩).cells]))).set 0 (boxR t (TreeI.cells ⟨v',T.limit,mv,nx,T.change⟩)))++[nodeRR Nd.none ⟨nilS,nilS⟩]=refRs t v' mv nx mr (Y++[⟨nilS,nilS⟩]) { T with N:=T.N++[Nd.none] }:=by
  have hz:(T.N++[Nd.none]).zip (Y++[(⟨nilS,nilS⟩:RLy)])=T.N.zip Y++[(Nd.none,⟨nilS,nilS⟩)]:=by
   rw [List.zip_append h.len.symm]; rfl
  simp [refRs,nodeRows,hz]
 have u4:=u1.trans (u2.trans u3)
 rw [he] at u4
 refine ⟨v',H2,_,a1,?_,u4,by simp [h.len],by simp; omega⟩
 rw [store1_ptr,if_pos a2.plain,hh]
 simp
theorem madeV (k:Int):buildV [(0,1),(1,1),(2,1),(3,1),(4,1),(5,1),(6,1)] #[(.int .i64 0),(.slice none 0 0),(.slice none 0 0),(.int .i64 0),(.string ⟨#[]⟩),(.int .i64 0),(.int .i64 0)] [(0,vi k),(5,vi 1)]=some (.agg (NodeI.cells ⟨k,nilS,nilS,0,[],1,0⟩).toArray):=rfl
theorem Tr.put_same {a:Nat} (x:Nd) (h:a<T.N.length) (hlt:a<65536):T.upd (BitVec.ofNat 16 a) (fun _=>x)=T.put a x:=by
 have e:(BitVec.ofNat 16 a).toNat=a:=by rw [BitVec.toNat_ofNat,Nat.mod_eq_of_lt (by omega)]
 unfold Tr.upd Tr.put
 rw [if_pos h,e]
 congr 1
 apply List.ext_getElem?
 intro i
 rw [List.getElem?_modify,List.getElem?_set]
 by_cases hi:a=i
 ·subst hi
  simp [h]
 ·simp [hi]
theorem Tr.put_push (x:Nd) (hlt:T.N.length<65536):Tr.upd { T with N:=T.N++[Nd.none] } (BitVec.ofNat 16 T.N.length) (fun _=>x)=T.put T.N.length x:=by
 rw [Tr.put_same x (by simp) hlt]
 unfold Tr.put
 simp
theorem zeroN:([(.int .i64 0),(.slice none 0 0),(.slice none 0 0),(.int .i64 0),(.string ⟨#[]⟩),(.int .i64 0),(.int .i64 0)]:List Value)=NodeI.zero.cells:=rfl
theorem S.f70 (hE:Fold E) (h:RefT H t nv mv nx mr Y T) (hs:T.small) (n:BitVec 16) (s:NameL) (hsl:s.length<2 ^ 63) (k:BitVec 8) (text:List UInt8) (hc : -9223372036854775808<=T.change/\T.change<9223372036854775807)
    (hN:1<=T.N.length/\T.N.length<60000) (hdp:k=2#8->T.room n s=0->T.deepF 20 n=T.deep n)
    (hQ:∀ nv' Y' H',UpdR t nv mv nx mr Y T nv' Y' (T.make n s k text).1 H H'->Q (.tuple #[vi ((T.make n s k text).2.1.toNat:Int),vi (T.make n s k text).2.2]) H'):E.call (E.fid i.f70) [ptr t 0,vi (n.toNat:Int),str s,vi (k.toNat:Int),str text] H Q:=by
  apply hE.f70
  simp only [F.f70]
  refine S.f81 hE h hs n s hsl fun H1 e1 =>?_
  unfold Tr.make at hQ
  by_cases r0:T.room n s=0
  rotate_left
  · simp [r0] at hQ
    simp only [i64_neq,r0,ne_eq,not_false_iff,decide_true,tk_eq,opt_some,ifB_true]
    exact hQ _ _ _ (h.same e1)
  have h1:=h.mono e1
  obtain ⟨hd,hno,_,_,hel⟩:=Tr.room_zero r0
  have hnlt:n.toNat<T.N.length:=node_kind_lt (by rw [hd]; decide)
  simp only [r0,ne_eq,not_true,if_false] at hQ
  simp only [i64_neq,r0,ne_eq,not_true,decide_false,tk_eq,opt_some,ifB_false]
  have hfree:=Tr.free_ok hN.1 (by omega:T.N.length<=60000)
  have hft:(BitVec.ofNat 16 T.free).toNat=T.free:=by rw [BitVec.toNat_ofNat,Nat.mod_eq_of_lt (by have:=hfree.lt; omega)]
  have last:(¬ (k=0#8\/3#8<k\/(k=3#8/\(text.length<1\/120<text.length))))->¬ (T.limit<=T.len\/(k=2#8/\16<=T.deep n))->∀ H2,Ext H1 H2 ->
      LoopL (fun l H X0=>F.f70_l1 E Q (nth l 0) (nth l 1) (nth l 2) (nth l 3) (nth l 4) (nth l 5) H X0) [ptr t 0,vi (n.toNat:Int),str s,vi (k.toNat:Int),str text,(.int .i64 1)] H2:=by
    intro g1 g2 H2 e2
    rw [if_neg g1,if_neg g2] at hQ
    have h2:=h1.mono e2
    have hh2:=h2.head
    have fin:∀ nv2 Y2 T2 H3,UpdR t nv mv nx mr Y T nv2 Y2 T2 H2 H3->T.free<T2.N.length->(∀ x,T2.upd (BitVec.ofNat 16 T.free) (fun _=>x)=T.put T.free x)->F.f70_j1 E Q (ptr t 0) (vi (n.toNat:Int)) (str s) (vi (k.toNat:Int)) (str text) (vi ((BitVec.ofNat 16 T.free).toNat:Int)) H3:=by
      intro nv2 Y2 T2 H3 u3 hlt3 hput
      have h3:=u3.ref h2
      have last2:∀ H4,H4=H3.new (.cells (refI (Nd.made n k text) ⟨nilS,nilS⟩).cells none)->F.f70_j3 E Q (ptr t 0) (vi (n.toNat:Int)) (str s) (vi ((BitVec.ofNat 16 T.free).toNat:Int)) (ptr H3.next 0) H4:=by
        rintro H4 rfl
        have h4:=h3.mono ((Ext.refl H3).new (.cells (refI (Nd.made n k text) ⟨nilS,nilS⟩).cells none))
        have hh4:=h4.head
        have lo:loadN 7 (ptr H3.next 0) (H3.new (.cells (refI (Nd.made n k text) ⟨nilS,nilS⟩).cells none))=some (.agg (refI (Nd.made n k text) ⟨nilS,nilS⟩).cells.toArray):=by
          rw [loadN_ptr,AH.get_new_self,row_all _ _ 7 rfl]; rfl
        have hlt4:(BitVec.ofNat 16 T.free).toNat<T2.N.length:=by rw [hft]; exact hlt3
        obtain ⟨b,o,H5,q1,q2,u5⟩:=h4.setRow hlt4 (Nd.made n k text) rfl rfl
        rw [hput] at u5
        have h5:=u5.ref h4
        have hh5:=h5.head
        have hnf:n≠BitVec.ofNat 16 T.free:=by rintro e; have:=hfree.zero; rw [<- e,hd] at this; simp at this
        have hnode:(T.put T.free (Nd.made n k text)).node n=T.node n:=by rw [Tr.node_put hfree.le hfree.lt,if_neg hnf]
        have hnlt5:n.toNat<(T.put T.free (Nd.made n k text)).N.length:=node_kind_lt (by rw [hnode,hd]; decide)
        obtain ⟨yn,bn,on,y1,p1,nd1⟩:=h5.at_ hnlt5
        rw [hnode] at nd1
        obtain ⟨_,_,c2,_⟩:=nd1.cell
        have hen:=entryV s (BitVec.ofNat 16 T.free)
        simp only [F.f70_j3,nilCk_p,addOff_ptr,load1_ptr,Nat.add_zero,Nat.zero_add,hh4,cell_cells_z,TreeI.at0,lo,q1,q2,hh5,p1,c2,hen,tk_eq,opt_some]
        refine S.f86 hE yn.l (T.node n).ents nd1.2.2 (by omega) s (BitVec.ofNat 16 T.free) fun v' H6 e6 g6 f6 =>?_
        have hh6:=(h5.mono e6).head
        obtain ⟨H7,s7,u7⟩:=h5.newL hnlt5 y1 p1 (Nd.addE s (BitVec.ofNat 16 T.free)) (fun _=>rfl) e6 (by rw [hnode]; exact g6) f6 (by rw [hnode]; rfl)
        have h7:=u7.ref h5
        obtain ⟨H8,s8,u8⟩:=h7.tick
        have hh7:=h7.head
        have hcc:((T.put T.free (Nd.made n k text)).upd n (Nd.addE s (BitVec.ofNat 16 T.free))).change=T.change:=rfl
        rw [hcc] at s8 hh7
        refine ⟨by simp only [load1_ptr,hh6,hh5],?_⟩
        simp only [p1,addOff_ptr,s7,nilCk_p,load1_ptr,hh7,cell_cells_z,Nat.zero_add,TreeI.at4,i64_add (a:=T.change) (b:=1) (by omega) (by omega),s8,tk_eq,opt_some]
        have hfin:=hQ _ _ _ (UpdR.after (e1.trans e2) (u3.trans (UpdR.after ((Ext.refl H3).new _) (u5.trans (u7.trans u8)))))
        exact hfin
      have k2:=kind2 k
      have k3:=kind3 k
      simp only [F.f70_j1,madeV (k.toNat:Int),tk_eq,opt_some]
      simp only [allocW_eq,zeroN,storeN_ptr,AH.get_new_self,NodeI.cells_length,NodeI.splice_cells,AH.new_put,List.size_toArray,Nat.zero_add,Nat.le_refl,show (NodeI.cells ⟨(k.toNat:Int),nilS,nilS,0,[],1,0⟩).all plain1=true from rfl,and_self,if_true,tk_eq,opt_some,i64_eql,k2,addOff_ptr,store1_ptr,plain1_int_z,F.f70_j2,k3]
      by_cases c2:k=2#8
      · have c3:¬ k=3#8:=by rw [c2]; decide
        simp only [ifB_true,ifB_false,F.f70_j2,i64_eql,k3,eq_true c2,eq_false c3,decide_true,decide_false,ifB_true,ifB_false,addOff_ptr,Nat.zero_add,store1_ptr,plain1_int_z,if_true,AH.get_new_self,NodeI.cells_length,show (3<7)=True from by simp,AH.new_put,NodeI.set3,tk_eq,opt_some]
        refine last2 _ ?_
        congr 2
        subst c2
        rfl
      · by_cases c3:k=3#8
        · simp only [F.f70_j2,i64_eql,k3,eq_false c2,eq_true c3,decide_true,decide_false,ifB_true,ifB_false,addOff_ptr,Nat.zero_add,store1_ptr,plain1_str_z,if_true,AH.get_new_self,NodeI.cells_length,show (4<7)=True from by simp,AH.new_put,NodeI.set4,tk_eq,opt_some]
          refine last2 _ ?_
          congr 2
          subst c3
          rfl
        · simp only [F.f70_j2,i64_eql,k3,eq_false c2,eq_false c3,decide_false,ifB_false,tk_eq,opt_some]
          refine last2 _ ?_
          congr 2
          simp [refI,Nd.made,c2,c3]
    refine LoopL.ind (fun i l H'=>H2=H'/\∃ a:Nat,l=[ptr t 0,vi (n.toNat:Int),str s,vi (k.toNat:Int),str text,vi a]/\1<=a/\i+a=T.free) ?_ (T.free - 1) ⟨rfl,1,rfl,by omega,by have:=hfree.pos; omega⟩
    rintro i _ _ X hX ⟨rfl,a,rfl,ha,hia⟩
    have hls:=h2.lenSlc
    have hflt:=hfree.lt
    have hfle:=hfree.le
    have hat:(BitVec.ofNat 16 a).toNat=a:=by rw [BitVec.toNat_ofNat,Nat.mod_eq_of_lt (by omega)]
    by_cases hlt:a<T.free
    · have hu:=hfree.used a ha hlt
      have hal:(a:Int)<T.N.length:=by omega
      obtain ⟨y,b,o,q1,q2,q3⟩:=h2.at_ (n:=BitVec.ofNat 16 a) (by rw [hat]; omega)
      rw [hat] at q2
      obtain ⟨c0,_⟩:=q3.cell
      have hk:(0:Int)<((T.node (BitVec.ofNat 16 a)).kind.toNat:Int):=by
        have:¬ ((T.node (BitVec.ofNat 16 a)).kind.toNat:Int)=0:=by rw [kind0]; exact hu
        omega
      simp only [F.f70_l1,nth_0,nth_1,nth_2,nth_3,nth_4,nth_5,nilCk_p,addOff_ptr,load1_ptr,Nat.add_zero,Nat.zero_add,hh2,cell_cells_z,TreeI.at0,hls,i64_lss,hal,decide_true,gd_tt,q2,c0,i64_gtr,gt_iff_lt,hk,pick_true_z,i64_succ a (by omega),tk_eq,opt_some,ifB_true]
      exact hX (i - 1) (by omega) _ _ ⟨rfl,a+1,rfl,by omega,by omega⟩
    · have:a=T.free:=by omega
      subst this
      by_cases hlen:T.free<T.N.length
      · have hal:(T.free:Int)<T.N.length:=by omega
        have hne:¬ (T.free:Int)=T.N.length:=by omega
        obtain ⟨y,b,o,q1,q2,q3⟩:=h2.at_ (n:=BitVec.ofNat 16 T.free) (by rw [hat]; omega)
        rw [hat] at q2
        obtain ⟨c0,_⟩:=q3.cell
        have hk:¬ (0:Int)<((T.node (BitVec.ofNat 16 T.free)).kind.toNat:Int):=by rw [hfree.zero]; decide
        have hf:=fin _ _ _ _ (h2.same (Ext.refl _)) hlen fun x=>Tr.put_same x hlen hflt
        rw [hft] at hf
        simp only [F.f70_l1,nth_0,nth_1,nth_2,nth_3,nth_4,nth_5,nilCk_p,addOff_ptr,load1_ptr,Nat.add_zero,Nat.zero_add,hh2,cell_cells_z,TreeI.at0,hls,i64_lss,hal,decide_true,gd_tt,q2,c0,i64_gtr,gt_iff_lt,hk,decide_false,pick_true_z,i64_eql,hne,tk_eq,opt_some,ifB_false]
        exact hf
      · have hal:¬ (T.free:Int)<T.N.length:=by omega
        have heq:T.free=T.N.length:=by omega
        have hne:(T.free:Int)=T.N.length:=by omega
        obtain ⟨v',H4,H5,a1,a2,u5⟩:=h2.push hN.2
        have hf:=fin _ _ _ _ u5 (by simp; omega) fun x=>by rw [heq]; exact Tr.put_push x (by omega)
        rw [hft] at hf
        have hb1:buildS 1 7 #[(.int .i64 0),(.slice none 0 0),(.slice none 0 0),(.int .i64 0),(.string ⟨#[]⟩),(.int .i64 0),(.int .i64 0)] [(0,.agg (refI Nd.none ⟨nilS,nilS⟩).cells.toArray)]=some (.cells (refI Nd.none ⟨nilS,nilS⟩).cells none,mkSlc 1 1):=NodeI.build1 _
        simp only [F.f70_l1,nth_0,nth_1,nth_2,nth_3,nth_4,nth_5,nilCk_p,addOff_ptr,load1_ptr,Nat.add_zero,Nat.zero_add,hh2,cell_cells_z,TreeI.at0,hls,i64_lss,hal,Int.lt_irrefl,decide_false,gd_ft,pick_false_z,i64_eql,hne,decide_true,noneV,hb1,AM.mk_some,mkSlc_eq,a1,opt2_some,a2,tk_eq,opt_some,ifB_false,ifB_true]
        rw [hne] at hf
        exact hf
  have hkn:∀ j:Nat,j<256->(((k.toNat:Int)=(j:Int))=(k=BitVec.ofNat 8 j)):=fun j hj=>propext (toNat_kind k j hj)
  have hk0:((k.toNat:Int)<1)=(k=0#8):=by
    rw [<- kind0,eq_iff_iff]; omega
  have hk3l:((3:Int)<k.toNat)=(3#8<k):=by
    rw [eq_iff_iff,BitVec.lt_def]
    show (3:Int)<k.toNat↔3<k.toNat
    omega
  have k3:=kind3 k
  have k2:=kind2 k
  have rest:(¬ (k=0#8\/3#8<k\/(k=3#8/\(text.length<1\/120<text.length)))) ->
      (opt (nilCk (ptr t 0)) fun v20=>opt (addOff v20 1) fun v21=>opt (load1 v21 H1) fun v22=>E.call (E.fid i.f68) [ptr t 0] H1 fun v23 H16=>load1 v21 H16=load1 v21 H1 /\
       opt (binInt .geq v23 v22) fun v24 =>
       gd v24 false (fun k'=>k' (vi (k.toNat:Int)) H16) H16 fun v25 H17 =>
       gd v24 false (fun k=>opt (binInt .eql v25 (.int .i64 2)) fun v=>k v H17) H17 fun v26 H18 =>
       gd v24 false (fun k=>k v26 H18) H18 fun v27 H19 =>
       gd v27 true (fun k=>k (ptr t 0) H19) H19 fun v28 H20 =>
       gd v27 true (fun k=>k (vi (n.toNat:Int)) H20) H20 fun v29 H21 =>
       gd v27 true (fun k=>E.call (E.fid i.f78) [v28,v29] H21 fun v h=>k v h) H21 fun v30 H22 =>
       gd v27 true (fun k=>opt (binInt .geq v30 (.int .i64 16)) fun v=>k v H22) H22 fun v31 H23 =>
       gd v24 false (fun k=>opt (pick v27 v31 (.bool false)) fun v=>k v H23) H23 fun v32 H24 =>
       opt (pick v24 (.bool true) v32) fun v33 =>
       ifB v33 (Q (.tuple #[(.int .i64 0),(.int .i64 28)]) H24) (
       LoopL (fun l H X0=>F.f70_l1 E Q (nth l 0) (nth l 1) (nth l 2) (nth l 3) (nth l 4) (nth l 5) H X0) [ptr t 0,vi (n.toNat:Int),str s,vi (k.toNat:Int),str text,(.int .i64 1)] H24)):=by
    intro g1
    have last:=last g1
    simp only [g1,if_false] at hQ
    have hh:=h1.head
    simp only [nilCk_p,addOff_ptr,load1_ptr,Nat.zero_add,hh,cell_cells_z,TreeI.at1,tk_eq,opt_some]
    refine S.f68 hE h1 ?_
    refine ⟨rfl,?_⟩
    by_cases t4:T.limit<=T.len
    · simp [t4] at hQ
      simp only [i64_geq,ge_iff_le,t4,decide_true,gd_tf,pick_true_z,tk_eq,opt_some,ifB_true]
      exact hQ _ _ _ (h.same e1)
    by_cases t5:k=2#8
    · simp only [i64_geq,ge_iff_le,t4,decide_false,gd_ff,i64_eql,k2,eq_true t5,decide_true,gd_tt,tk_eq,opt_some]
      refine S.f78 hE h1 n fun H2 e2 =>?_
      rw [hdp t5 r0]
      by_cases t6:16<=T.deep n
      · have t6':(16:Int)<=T.deep n:=by omega
        simp [t4,t5,t6] at hQ
        simp only [gd_tt,gd_ff,i64_geq,ge_iff_le,t6',decide_true,pick_true_z,pick_false_z,tk_eq,opt_some,ifB_true]
        exact hQ _ _ _ (h.same (e1.trans e2))
      · have t6':¬ (16:Int)<=T.deep n:=by omega
        simp only [gd_tt,gd_ff,i64_geq,ge_iff_le,t6',decide_false,pick_true_z,pick_false_z,tk_eq,opt_some,ifB_false]
        exact last (by simp only [t4,t6,and_false,or_self,not_false_eq_true]) _ e2
    · simp only [i64_geq,ge_iff_le,t4,decide_false,gd_ff,gd_ft,i64_eql,k2,eq_false t5,pick_true_z,pick_false_z,tk_eq,opt_some,ifB_false]
      exact last (by simp [t4,t5]) _ (Ext.refl _)
  by_cases t1:k=0#8
  · simp [t1] at hQ
    simp only [i64_lss,hk0,eq_true t1,decide_true,gd_tf,pick_true_z,tk_eq,opt_some,ifB_true]
    exact hQ _ _ _ (h.same e1)
  by_cases t2:3#8<k
  · simp [t2] at hQ
    simp only [i64_lss,hk0,eq_false t1,decide_false,gd_ff,i64_gtr,gt_iff_lt,hk3l,eq_true t2,decide_true,gd_tf,pick_true_z,pick_false_z,tk_eq,opt_some,ifB_true]
    exact hQ _ _ _ (h.same e1)
  by_cases t3:k=3#8
  · by_cases t7:text.length<1
    · have:(text.length:Int)<1:=by omega
      simp [t3,t7] at hQ
      simp only [i64_lss,hk0,eq_false t1,decide_false,gd_ff,i64_gtr,gt_iff_lt,hk3l,eq_false t2,i64_eql,k3,eq_true t3,decide_true,gd_tt,gd_tf,lenStr_s,this,pick_true_z,pick_false_z,tk_eq,opt_some,ifB_true]
      exact hQ _ _ _ (h.same e1)
    have t7':¬ (text.length:Int)<1:=by omega
    by_cases t8:120<text.length
    · have:(120:Int)<text.length:=by omega
      simp [t3,t8] at hQ
      simp only [i64_lss,hk0,eq_false t1,decide_false,gd_ff,i64_gtr,gt_iff_lt,hk3l,eq_false t2,i64_eql,k3,eq_true t3,decide_true,gd_tt,gd_tf,lenStr_s,t7',this,pick_true_z,pick_false_z,tk_eq,opt_some,ifB_true]
      exact hQ _ _ _ (h.same e1)
    have t8':¬ (120:Int)<text.length:=by omega
    have:=rest (by simp [t1,t2,t7,t8])
    simp only [i64_lss,hk0,eq_false t1,decide_false,gd_ff,i64_gtr,gt_iff_lt,hk3l,eq_false t2,i64_eql,k3,eq_true t3,decide_true,gd_tt,gd_tf,lenStr_s,t7',t8',pick_true_z,pick_false_z,tk_eq,opt_some,ifB_false]
    exact this
  · have:=rest (by simp [t1,t2,t3])
    simp only [i64_lss,hk0,eq_false t1,decide_false,gd_ff,gd_ft,i64_gtr,gt_iff_lt,hk3l,eq_false t2,i64_eql,k3,eq_false t3,pick_true_z,pick_false_z,tk_eq,opt_some,ifB_false]
    exact this
end
end Go.AM
end
section
namespace Go.AM
section
variable {E:Sy} {H0 H H' H'' H1:AH} {Q:Value->AH->Prop} {t:Nat} {nv nv' nv'' mv:Value} {nx:Int} {mr:List (List Value)} {Y Y' Y'':List RLy} {T T' T'':Tr}
theorem Tr.deepF_le (T:Tr):∀ (f:Nat) (n:BitVec 16),T.deepF f n<=f
 | 0,_=>Nat.le_refl _
 | f+1,n=>by
  have:=Tr.deepF_le T f (T.node n).parent
  simp only [Tr.deepF]
  split <;> omega
theorem refT_move_fin (hE:Fold E) (h:RefT H t nv mv nx mr Y T) (fr to n:BitVec 16) (s other:NameL) (hn:(T.node n).kind≠0#8) (T1:Tr) (Y1:List RLy) (H1:AH) (u1:UpdR t nv mv nx mr Y T nv Y1 T1 H H1) (hc1 : -9223372036854775808<=T1.change/\T1.change<9223372036854775807) (a1:(T1.node fr).kind=2#8) (a2:(T1.node to).kind=2#8) (a3:(T1.node n).kind=(T.node n).kind)
  (a4:alook s (T1.node fr).ents=some n) (a5:(T1.node fr).ents.length<2 ^ 35) (a6:(T1.node to).ents.length<2 ^ 35) (hQ:∀ Y' H',UpdR t nv mv nx mr Y T nv Y' (Tr.moved T1 fr s to other n) H H'->Q (vi 0) H') :
  F.f71_j1 E Q (ptr t 0) (vi (fr.toNat:Int)) (str s) (vi (to.toNat:Int)) (str other) (vi (n.toNat:Int)) (vb (decide ((T.node n).kind=2#8))) H1:=by
 have h1:=u1.ref h
 have frlt1:fr.toNat<T1.N.length:=node_kind_lt (by rw [a1]; decide)
 have tolt1:to.toNat<T1.N.length:=node_kind_lt (by rw [a2]; decide)
 have nlt1:n.toNat<T1.N.length:=node_kind_lt (by rw [a3]; exact hn)
 have b1:(T1.node fr).kind≠0#8:=by rw [a1]; decide
 have hh:=h1.head
 obtain ⟨yn,bn,on,y1,p1,nd1⟩:=h1.at_ frlt1
 obtain ⟨_,_,c2n,_⟩:=nd1.cell
 obtain ⟨j,hj,j1,j2,j3⟩:=nameIx_some s _ n a4
 simp only [F.f71_j1,nilCk_p,addOff_ptr,load1_ptr,Nat.add_zero,Nat.zero_add,hh,cell_cells_z,TreeI.at0,p1,c2n,tk_eq,opt_some]
 refine S.f72 hE h1 fr fun bz oz yz H3 e3 hnz hatz =>?_
 obtain ⟨rfl,hyz,hpz⟩:=hatz frlt1
 refine ⟨rfl,rfl,rfl,?_⟩
 refine S.f85 hE hnz s (by omega) ?_
 refine ⟨rfl,rfl,rfl,?_⟩
 rw [j1]
 refine S.f87 hE yn.l (T1.node fr).ents nd1.2.2 (by omega) j hj fun v' H4 e4 g4 f4 =>?_
 rw [<- j3] at g4
 have hh4:=(h1.mono e4).head
 obtain ⟨H5,s5,u5⟩:=h1.newL frlt1 y1 p1 (Nd.delE s) (fun _=>rfl) e4 g4 f4 rfl
 have h5:=u5.ref h1
 have hh5:=h5.head
 have hc5:(T1.upd fr (Nd.delE s)).change=T1.change:=rfl
 have hnode5:=fun w=>Tr.node_upd b1 (Nd.delE s) w
 have tolt5:to.toNat<(T1.upd fr (Nd.delE s)).N.length:=by simpa [Tr.upd] using tolt1
 have hlen5:((T1.upd fr (Nd.delE s)).node to).ents.length<2 ^ 35:=by
  rw [hnode5]
  split
  ·show (adel s (T1.node fr).ents).length<_
   exact Nat.lt_of_le_of_lt (adel_sub _ _).length_le a5
  ·exact a6
 have hkind5:∀ w,((T1.upd fr (Nd.delE s)).node w).kind=(T1.node w).kind:=by
  intro w
  rw [hnode5]
  split
  ·rename_i e; rw [e]; rfl
  ·rfl
 obtain ⟨yt,bt,ot,y5,p5,nd5⟩:=h5.at_ tolt5
 obtain ⟨_,_,c5,_⟩:=nd5.cell
 refine ⟨by simp only [load1_ptr,hh4,hh],?_⟩
 simp only [p1,addOff_ptr,s5,nilCk_p,load1_ptr,hh5,cell_cells_z,Nat.zero_add,TreeI.at0,p5,c5,entryV,tk_eq,opt_some]
 refine S.f86 hE yt.l _ nd5.2.2 (by omega) other n fun v6 H6 e6 g6 f6 =>?_
 have hh6:=(h5.mono e6).head
 obtain ⟨H7,s7,u7⟩:=h5.newL tolt5 y5 p5 (Nd.addE other n) (fun _=>rfl) e6 g6 f6 rfl
 have h7:=u7.ref h5
 have hh7:=h7.head
 have b5:((T1.upd fr (Nd.delE s)).node to).kind≠0#8:=by rw [hkind5,a2]; decide
 have nlt7:n.toNat<((T1.upd fr (Nd.delE s)).upd to (Nd.addE other n)).N.length:=by simpa [Tr.upd] using nlt1
 refine ⟨by simp only [load1_ptr,hh6,hh5],?_⟩
 simp only [p5,addOff_ptr,s7,tk_eq,opt_some]
 have hcc:((T1.upd fr (Nd.delE s)).upd to (Nd.addE other n)).change=T1.change:=rfl
 unfold Tr.moved at hQ
 by_cases d1:(T.node n).kind=2#8
 ·simp only [a3,d1,if_true] at hQ
  obtain ⟨y8,b8,o8,q8,p8,nd8⟩:=h7.at_ nlt7
  obtain ⟨H8,s8,u8⟩:=h7.num nlt7 q8 p8 (fun x=>{ x with parent:=to }) (fun _=>⟨rfl,rfl⟩) (k:=3) (by omega) (v:=(to.toNat:Int)) rfl
  have h8:=u8.ref h7
  have hh8:=h8.head
  obtain ⟨H9,s9,u9⟩:=h8.tick
  have hc8:(((T1.upd fr (Nd.delE s)).upd to (Nd.addE other n)).upd n (fun x=>{ x with parent:=to })).change=T1.change:=rfl
  rw [hc8] at s9 hh8
  simp only [eq_true d1,decide_true,ifB_true,nilCk_p,addOff_ptr,load1_ptr,hh7,cell_cells_z,Nat.zero_add,TreeI.at0,p8,s8,F.f71_j2,hh8,TreeI.at4,i64_add (a:=T1.change) (b:=1) (by omega) (by omega),s9,tk_eq,opt_some]
  exact hQ _ _ (u1.trans (u5.trans (u7.trans (u8.trans u9))))
 ·simp only [a3,d1,if_false] at hQ
  obtain ⟨H9,s9,u9⟩:=h7.tick
  rw [hcc] at s9 hh7
  simp only [eq_false d1,decide_false,ifB_false,F.f71_j2,nilCk_p,addOff_ptr,load1_ptr,hh7,cell_cells_z,Nat.zero_add,TreeI.at4,i64_add (a:=T1.change) (b:=1) (by omega) (by omega),s9,tk_eq,opt_some]
  exact hQ _ _ (u1.trans (u5.trans (u7.trans u9)))
theorem refT_move_drop (hE:Fold E) (h:RefT H t nv mv nx mr Y T) (hs:T.small) (fr to n:BitVec 16) (s other:NameL) (hc : -9223372036854775808<=T.change/\T.change<9223372036854775806)
  (hn:(T.node n).kind≠0#8) (k1:(T.node fr).kind=2#8) (k2:alook s (T.node fr).ents=some n) (c2:T.dir to=0) (k3:(T.node to).kind=2#8)
  (hold:∀ y,(T.node to).kind=2#8->alook other (T.node to).ents=some y->(T.node y).kind≠0#8/\0<=(T.node y).links/\(T.node y).links<9223372036854775807)
  (hnd:(T.node to).kind=2#8->((T.node to).ents.map Prod.fst).Nodup) (hel:(T.node fr).ents.length<2 ^ 35/\(T.node to).ents.length<2 ^ 35)
  (o:BitVec 16) (ho:alook other (T.node to).ents=some o) (hon:o≠n) (hpos0:0<(T.node to).ents.length) (H4:AH) (ex4:Ext H H4) (dm:T.mayOld n (some o)=0)
  (hQ:∀ Y' H',UpdR t nv mv nx mr Y T nv Y' (Tr.moved (T.drop to other (decide ((T.node n).kind=2#8))).1 fr s to other n) H H'->Q (vi 0) H') :
  (E.call (E.fid i.f65) [(ptr t 0),(vi (to.toNat:Int)),(str other),(vb (decide ((T.node n).kind=2#8)))] H4 fun v92 H61 =>
    F.f71_j1 E Q (ptr t 0) (vi (fr.toNat:Int)) (str s) (vi (to.toNat:Int)) (str other) (vi (n.toNat:Int)) (vb (decide ((T.node n).kind=2#8))) H61):=by
 obtain ⟨o1,o2,o3⟩:=hold o k3 ho
 have hlk:T.look to other=(o,0):=by
  unfold Tr.look
  simp [c2,ho]
 obtain ⟨g1,g2⟩:=Tr.drop_ok k3 ho dm o1
 refine S.f65 hE (h.mono ex4) hs to other _ ⟨hc.1,by omega⟩ (fun _=>by rw [hlk]; exact ⟨o1,by show -9223372036854775807<=(T.node o).links; omega,o3⟩) (by omega) fun Y5 H5 u5 =>?_
 have hm:=dm
 unfold Tr.mayOld at hm
 have of:fr≠o:=by
  rintro rfl
  have hpos:0<(T.node fr).ents.length:=by
   cases he:(T.node fr).ents with
   | nil=>rw [he] at k2; simp [alook] at k2
   | cons a b=>simp
  simp only [k1] at hm
  by_cases d1:(T.node n).kind=2#8
  ·simp [d1,hpos] at hm
  ·simp [d1] at hm
 have ot:to≠o:=by
  rintro rfl
  have hpos:0<(T.node to).ents.length:=by omega
  simp only [k3] at hm
  by_cases d1:(T.node n).kind=2#8
  ·simp [d1,hpos] at hm
  ·simp [d1] at hm
 have hchg:=Tr.drop_change (T:=T) to other (decide ((T.node n).kind=2#8))
 have hkk:∀ w,w≠o->((T.drop to other (decide ((T.node n).kind=2#8))).1.node w).kind=(T.node w).kind:=by
  intro w hw
  rw [g2 w hw]
  split
  ·rename_i e; rw [e]; rfl
  ·rfl
 have hso:other≠s\/fr≠to:=by
  by_cases e:fr=to
  ·refine .inl ?_
   rintro rfl
   rw [e,ho] at k2
   exact hon (Option.some.inj k2)
  ·exact .inr e
 refine refT_move_fin hE h fr to n s other hn _ Y5 H5 (UpdR.after ex4 u5) ⟨by omega,by omega⟩ (by rw [hkk fr of]; exact k1) (by rw [hkk to ot]; exact k3) (hkk n (fun e=>hon e.symm)) ?_ ?_ ?_ hQ
 ·rw [g2 fr of]
  split
  ·rename_i e
   show alook s (adel other (T.node to).ents)=some n
   rw [alook_adel _ _ (hnd k3),if_neg,<- e,k2]
   rcases hso with g | g
   ·exact fun e=>g e.symm
   ·exact (g e).elim
  ·exact k2
 ·rw [g2 fr of]
  split
  ·exact Nat.lt_of_le_of_lt (adel_sub _ _).length_le hel.2
  ·exact hel.1
 ·rw [g2 to ot,if_pos rfl]
  exact Nat.lt_of_le_of_lt (adel_sub _ _).length_le hel.2
theorem refT_move_tail (hE:Fold E) (h:RefT H t nv mv nx mr Y T) (hs:T.small) (fr to n:BitVec 16) (s other:NameL) (hc : -9223372036854775808<=T.change/\T.change<9223372036854775806)
    (hn:(T.node n).kind≠0#8) (k1:(T.node fr).kind=2#8) (k2:alook s (T.node fr).ents=some n) (c2:T.dir to=0) (k3:(T.node to).kind=2#8)
    (hold:∀ y,(T.node to).kind=2#8->alook other (T.node to).ents=some y->(T.node y).kind≠0#8/\0<=(T.node y).links/\(T.node y).links<9223372036854775807)
    (hnd:(T.node to).kind=2#8->((T.node to).ents.map Prod.fst).Nodup) (hel:(T.node fr).ents.length<2 ^ 35/\(T.node to).ents.length<2 ^ 35)
    (i8:Int) (old:Option (BitVec 16)) (d:Bool) (Hx:AH) (ex:Ext H Hx) (hd:d=decide ((T.node n).kind=2#8)) (ho:alook other (T.node to).ents=old) (hcase:((i8 = -1/\old=none)\/∃ (j:Nat) (hj:j<(T.node to).ents.length) (o:BitVec 16),i8=j/\old=some o/\(T.node to).ents[j]=(other,o)/\o≠n))
    (hQ:∀ Y' H',UpdR t nv mv nx mr Y T nv Y' (if T.mayOld n old≠0 then (T,T.mayOld n old) else (Tr.moved (if old.isSome then (T.drop to other (decide ((T.node n).kind=2#8))).1 else T) fr s to other n,0)).1 H H'->Q (vi (if T.mayOld n old≠0 then (T,T.mayOld n old) else (Tr.moved (if old.isSome then (T.drop to other (decide ((T.node n).kind=2#8))).1 else T) fr s to other n,0)).2) H') :
      (
       opt (binInt .geq (vi i8) (.int .i64 0)) fun v63 =>
       ifB v63 (
       E.call (E.fid i.f72) [(ptr t 0),(vi (to.toNat:Int))] Hx fun v64 H43 =>
       opt (nilCk v64) fun v65 =>
       opt (addOff v65 2) fun v66 =>
       opt (load1 v66 H43) fun v67 =>
       opt (ixSlc 2 v67 (vi i8)) fun v68 =>
       opt (addOff v68 1) fun v69 =>
       opt (load1 v69 H43) fun v70 =>
       E.call (E.fid i.f72) [(ptr t 0),v70] H43 fun v71 H44 =>
       gd (vb d) true (fun k=>k v71 H44) H44 fun v72 H45 =>
       gd (vb d) true (fun k=>opt (nilCk v72) fun v=>k v H45) H45 fun v73 H46 =>
       gd (vb d) true (fun k=>opt (addOff v73 0) fun v=>k v H46) H46 fun v74 H47 =>
       gd (vb d) true (fun k=>opt (load1 v74 H47) fun v=>k v H47) H47 fun v75 H48 =>
       gd (vb d) true (fun k=>opt (binInt .neq v75 (.int .i64 2)) fun v=>k v H48) H48 fun v76 H49 =>
       opt (pick (vb d) v76 (.bool false)) fun v77 =>
       ifB v77 (
       Q (.int .i64 20) H49) (
       opt (un .not (vb d)) fun v78 =>
       gd v78 true (fun k=>k v71 H49) H49 fun v79 H50 =>
       gd v78 true (fun k=>opt (nilCk v79) fun v=>k v H50) H50 fun v80 H51 =>
       gd v78 true (fun k=>opt (addOff v80 0) fun v=>k v H51) H51 fun v81 H52 =>
       gd v78 true (fun k=>opt (load1 v81 H52) fun v=>k v H52) H52 fun v82 H53 =>
       gd v78 true (fun k=>opt (binInt .eql v82 (.int .i64 2)) fun v=>k v H53) H53 fun v83 H54 =>
       opt (pick v78 v83 (.bool false)) fun v84 =>
       ifB v84 (
       Q (.int .i64 21) H54) (
       gd (vb d) true (fun k=>k v71 H54) H54 fun v85 H55 =>
       gd (vb d) true (fun k=>opt (nilCk v85) fun v=>k v H55) H55 fun v86 H56 =>
       gd (vb d) true (fun k=>opt (addOff v86 2) fun v=>k v H56) H56 fun v87 H57 =>
       gd (vb d) true (fun k=>opt (load1 v87 H57) fun v=>k v H57) H57 fun v88 H58 =>
       gd (vb d) true (fun k=>opt (lenSlc v88) fun v=>k v H58) H58 fun v89 H59 =>
       gd (vb d) true (fun k=>opt (binInt .gtr v89 (.int .i64 0)) fun v=>k v H59) H59 fun v90 H60 =>
       opt (pick (vb d) v90 (.bool false)) fun v91 =>
       ifB v91 (
       Q (.int .i64 39) H60) (
       E.call (E.fid i.f65) [(ptr t 0),(vi (to.toNat:Int)),(str other),(vb d)] H60 fun v92 H61 =>
       F.f71_j1 E Q (ptr t 0) (vi (fr.toNat:Int)) (str s) (vi (to.toNat:Int)) (str other) (vi (n.toNat:Int)) (vb d) H61)))) (
       F.f71_j1 E Q (ptr t 0) (vi (fr.toNat:Int)) (str s) (vi (to.toNat:Int)) (str other) (vi (n.toNat:Int)) (vb d) Hx)):=by
  subst hd
  rcases hcase with ⟨rfl,rfl⟩ | ⟨j,hj,o,rfl,rfl,hjo,hon⟩
  · simp [Tr.mayOld] at hQ
    simp only [i64_geq,ge_iff_le,show ¬ (0:Int) <= -1 from by omega,decide_false,tk_eq,opt_some,ifB_false]
    exact refT_move_fin hE h fr to n s other hn T Y Hx (h.same ex) ⟨hc.1,by omega⟩ k1 k3 rfl k2 hel.1 hel.2 hQ
  · have hj0:(0:Int)<=j:=by omega
    obtain ⟨o1,o2,o3⟩:=hold o k3 ho
    have olt:=node_kind_lt o1
    simp only [i64_geq,ge_iff_le,hj0,decide_true,tk_eq,opt_some,ifB_true]
    refine S.f72 hE (h.mono ex) to fun b1 q1 y1 H3 e3 n3 hat3 =>?_
    obtain ⟨_,_,c3,_⟩:=n3.cell
    obtain ⟨b',o',f1,f2⟩:=n3.2.2.ix (i:=j) (by rw [entR_length]; exact hj)
    have hrow:(entR (T.node to).ents)[j]'(by rw [entR_length]; exact hj)=[str other,vi (o.toNat:Int)]:=by simp [entR,hjo]
    rw [hrow] at f2
    have f3:(H3.get b').cell (o'+1)=some (vi (o.toNat:Int)):=by have:=row_at f2 (j:=1) (by omega); simpa using this
    simp only [nilCk_p,addOff_ptr,load1_ptr,c3,f1,f3,tk_eq,opt_some]
    refine S.f72 hE (h.mono (ex.trans e3)) o fun b2 q2 y2 H4 e4 n4 hat4 =>?_
    obtain ⟨d0,_,d2,_⟩:=n4.cell
    have dl:=n4.lenL
    have ex4:=ex.trans (e3.trans e4)
    have hko:=kind2 (T.node o).kind
    have drop:=fun dm=>refT_move_drop (Q:=Q) hE h hs fr to n s other hc hn k1 k2 c2 k3 hold hnd hel o ho hon (by omega) H4 ex4 dm
    by_cases d1:(T.node n).kind=2#8
    · by_cases d2':(T.node o).kind=2#8
      · by_cases d3:0<(T.node o).ents.length
        · have d3':(0:Int)<(T.node o).ents.length:=by omega
          have hm:T.mayOld n (some o)=39:=by simp [Tr.mayOld,d1,d2',d3]
          simp [hm] at hQ
          simp only [eq_true d1,decide_true,Bool.not_true,un_not_z,gd_tt,gd_ft,nilCk_p,addOff_ptr,load1_ptr,Nat.add_zero,d0,i64_neq,i64_gtr,gt_iff_lt,ne_eq,hko,eq_true d2',not_true,decide_false,d2,dl,d3',pick_true_z,pick_false_z,tk_eq,opt_some,ifB_true,ifB_false]
          exact hQ _ _ (h.same ex4)
        · have d3':¬ (0:Int)<(T.node o).ents.length:=by omega
          have hm:T.mayOld n (some o)=0:=by simp [Tr.mayOld,d1,d2',d3]
          have:=drop hm (by simpa [hm] using hQ)
          rw [show decide ((T.node n).kind=2#8)=true by simp [d1]] at this
          simp only [eq_true d1,decide_true,Bool.not_true,un_not_z,gd_tt,gd_ft,nilCk_p,addOff_ptr,load1_ptr,Nat.add_zero,d0,i64_neq,i64_gtr,gt_iff_lt,ne_eq,hko,eq_true d2',not_true,decide_false,d2,dl,d3',pick_true_z,pick_false_z,tk_eq,opt_some,ifB_true,ifB_false]
          rw [show decide ((T.node n).kind=2#8)=true by simp [d1]]
          exact this
      · have hm:T.mayOld n (some o)=20:=by simp [Tr.mayOld,d1,d2']
        simp [hm] at hQ
        simp only [eq_true d1,decide_true,Bool.not_true,un_not_z,gd_tt,gd_ft,nilCk_p,addOff_ptr,load1_ptr,Nat.add_zero,d0,i64_neq,i64_gtr,gt_iff_lt,ne_eq,hko,eq_false d2',not_false_iff,decide_false,pick_true_z,pick_false_z,tk_eq,opt_some,ifB_true,ifB_false]
        exact hQ _ _ (h.same ex4)
    · by_cases d2':(T.node o).kind=2#8
      · have hm:T.mayOld n (some o)=21:=by simp [Tr.mayOld,d1,d2']
        simp [hm] at hQ
        simp only [eq_false d1,decide_false,Bool.not_false,un_not_z,gd_tt,gd_ft,nilCk_p,addOff_ptr,load1_ptr,Nat.add_zero,d0,i64_eql,hko,eq_true d2',decide_true,pick_true_z,pick_false_z,tk_eq,opt_some,ifB_true,ifB_false]
        exact hQ _ _ (h.same ex4)
      · have hm:T.mayOld n (some o)=0:=by simp [Tr.mayOld,d1,d2']
        have:=drop hm (by simpa [hm] using hQ)
        rw [show decide ((T.node n).kind=2#8)=false by simp [d1]] at this
        simp only [eq_false d1,decide_false,Bool.not_false,un_not_z,gd_tt,gd_ft,nilCk_p,addOff_ptr,load1_ptr,Nat.add_zero,d0,i64_eql,hko,eq_false d2',pick_true_z,pick_false_z,tk_eq,opt_some,ifB_true,ifB_false]
        rw [show decide ((T.node n).kind=2#8)=false by simp [d1]]
        exact this
theorem refT_move_key (hE:Fold E) (h:RefT H t nv mv nx mr Y T) (hs:T.small) (fr to n:BitVec 16) (s other:NameL) (hc : -9223372036854775808<=T.change/\T.change<9223372036854775806)
    (hn:(T.node n).kind≠0#8) (k1:(T.node fr).kind=2#8) (k2:alook s (T.node fr).ents=some n) (c2:T.dir to=0) (k3:(T.node to).kind=2#8)
    (hold:∀ y,(T.node to).kind=2#8->alook other (T.node to).ents=some y->(T.node y).kind≠0#8/\0<=(T.node y).links/\(T.node y).links<9223372036854775807)
    (hnd:(T.node to).kind=2#8->((T.node to).ents.map Prod.fst).Nodup) (hel:(T.node fr).ents.length<2 ^ 35/\(T.node to).ents.length<2 ^ 35)
    (hsl:other.length<2 ^ 63) (hdp:(T.node n).kind=2#8->(T.node to).links≠0->(T.node to).kind=2#8->T.deepF 20 to=T.deep to/\T.withinF n 20 to=T.within n to) {f:Nat} (hf:(T.node n).kind=2#8->T.fitsF f n) (hf20:f<=20)
    (i8:Int) (old:Option (BitVec 16)) (Hx:AH) (ex:Ext H Hx) (ho:alook other (T.node to).ents=old) (hcase:((i8 = -1/\old=none)\/∃ (j:Nat) (hj:j<(T.node to).ents.length) (o:BitVec 16),i8=j/\old=some o/\(T.node to).ents[j]=(other,o)/\o≠n))
    (hQ:∀ Y' H',UpdR t nv mv nx mr Y T nv Y' (if T.may n to other old≠0 then (T,T.may n to other old) else (Tr.moved (if old.isSome then (T.drop to other (decide ((T.node n).kind=2#8))).1 else T) fr s to other n,0)).1 H H'->Q (vi (if T.may n to other old≠0 then (T,T.may n to other old) else (Tr.moved (if old.isSome then (T.drop to other (decide ((T.node n).kind=2#8))).1 else T) fr s to other n,0)).2) H') :
      (
       E.call (E.fid i.f56) [(str other)] Hx fun v37 H28 =>
       opt (un .not v37) fun v38 =>
       ifB v38 (
       Q (.int .i64 22) H28) (
       E.call (E.fid i.f72) [(ptr t 0),(vi (to.toNat:Int))] H28 fun v39 H29 =>
       opt (nilCk v39) fun v40 =>
       opt (addOff v40 5) fun v41 =>
       opt (load1 v41 H29) fun v42 =>
       opt (binInt .eql v42 (.int .i64 0)) fun v43 =>
       ifB v43 (
       Q (.int .i64 2) H29) (
       E.call (E.fid i.f72) [(ptr t 0),(vi (n.toNat:Int))] H29 fun v44 H30 =>
       opt (nilCk v44) fun v45 =>
       opt (addOff v45 0) fun v46 =>
       opt (load1 v46 H30) fun v47 =>
       opt (binInt .eql v47 (.int .i64 2)) fun v48 =>
       gd v48 true (fun k=>k (ptr t 0) H30) H30 fun v49 H31 =>
       gd v48 true (fun k=>k (vi (to.toNat:Int)) H31) H31 fun v50 H32 =>
       gd v48 true (fun k=>k (vi (n.toNat:Int)) H32) H32 fun v51 H33 =>
       gd v48 true (fun k=>E.call (E.fid i.f75) [v49,v50,v51] H33 fun v h=>k v h) H33 fun v52 H34 =>
       opt (pick v48 v52 (.bool false)) fun v53 =>
       ifB v53 (
       Q (.int .i64 22) H34) (
       gd v48 true (fun k=>k (ptr t 0) H34) H34 fun v54 H35 =>
       gd v48 true (fun k=>k (vi (to.toNat:Int)) H35) H35 fun v55 H36 =>
       gd v48 true (fun k=>E.call (E.fid i.f78) [v54,v55] H36 fun v h=>k v h) H36 fun v56 H37 =>
       gd v48 true (fun k=>k (ptr t 0) H37) H37 fun v57 H38 =>
       gd v48 true (fun k=>k (vi (n.toNat:Int)) H38) H38 fun v58 H39 =>
       gd v48 true (fun k=>E.call (E.fid i.f83) [v57,v58] H39 fun v h=>k v h) H39 fun v59 H40 =>
       gd v48 true (fun k=>opt (binInt .add v56 v59) fun v=>k v H40) H40 fun v60 H41 =>
       gd v48 true (fun k=>opt (binInt .gtr v60 (.int .i64 16)) fun v=>k v H41) H41 fun v61 H42 =>
       opt (pick v48 v61 (.bool false)) fun v62 =>
       ifB v62 (
       Q (.int .i64 28) H42) (
       opt (binInt .geq (vi i8) (.int .i64 0)) fun v63 =>
       ifB v63 (
       E.call (E.fid i.f72) [(ptr t 0),(vi (to.toNat:Int))] H42 fun v64 H43 =>
       opt (nilCk v64) fun v65 =>
       opt (addOff v65 2) fun v66 =>
       opt (load1 v66 H43) fun v67 =>
       opt (ixSlc 2 v67 (vi i8)) fun v68 =>
       opt (addOff v68 1) fun v69 =>
       opt (load1 v69 H43) fun v70 =>
       E.call (E.fid i.f72) [(ptr t 0),v70] H43 fun v71 H44 =>
       gd v48 true (fun k=>k v71 H44) H44 fun v72 H45 =>
       gd v48 true (fun k=>opt (nilCk v72) fun v=>k v H45) H45 fun v73 H46 =>
       gd v48 true (fun k=>opt (addOff v73 0) fun v=>k v H46) H46 fun v74 H47 =>
       gd v48 true (fun k=>opt (load1 v74 H47) fun v=>k v H47) H47 fun v75 H48 =>
       gd v48 true (fun k=>opt (binInt .neq v75 (.int .i64 2)) fun v=>k v H48) H48 fun v76 H49 =>
       opt (pick v48 v76 (.bool false)) fun v77 =>
       ifB v77 (
       Q (.int .i64 20) H49) (
       opt (un .not v48) fun v78 =>
       gd v78 true (fun k=>k v71 H49) H49 fun v79 H50 =>
       gd v78 true (fun k=>opt (nilCk v79) fun v=>k v H50) H50 fun v80 H51 =>
       gd v78 true (fun k=>opt (addOff v80 0) fun v=>k v H51) H51 fun v81 H52 =>
       gd v78 true (fun k=>opt (load1 v81 H52) fun v=>k v H52) H52 fun v82 H53 =>
       gd v78 true (fun k=>opt (binInt .eql v82 (.int .i64 2)) fun v=>k v H53) H53 fun v83 H54 =>
       opt (pick v78 v83 (.bool false)) fun v84 =>
       ifB v84 (
       Q (.int .i64 21) H54) (
       gd v48 true (fun k=>k v71 H54) H54 fun v85 H55 =>
       gd v48 true (fun k=>opt (nilCk v85) fun v=>k v H55) H55 fun v86 H56 =>
       gd v48 true (fun k=>opt (addOff v86 2) fun v=>k v H56) H56 fun v87 H57 =>
       gd v48 true (fun k=>opt (load1 v87 H57) fun v=>k v H57) H57 fun v88 H58 =>
       gd v48 true (fun k=>opt (lenSlc v88) fun v=>k v H58) H58 fun v89 H59 =>
       gd v48 true (fun k=>opt (binInt .gtr v89 (.int .i64 0)) fun v=>k v H59) H59 fun v90 H60 =>
       opt (pick v48 v90 (.bool false)) fun v91 =>
       ifB v91 (
       Q (.int .i64 39) H60) (
       E.call (E.fid i.f65) [(ptr t 0),(vi (to.toNat:Int)),(str other),v48] H60 fun v92 H61 =>
       F.f71_j1 E Q (ptr t 0) (vi (fr.toNat:Int)) (str s) (vi (to.toNat:Int)) (str other) (vi (n.toNat:Int)) v48 H61)))) (
       F.f71_j1 E Q (ptr t 0) (vi (fr.toNat:Int)) (str s) (vi (to.toNat:Int)) (str other) (vi (n.toNat:Int)) v48 H42)))))):=by
  have tail:=fun Hx ex=>refT_move_tail (Q:=Q) hE h hs fr to n s other hc hn k1 k2 c2 k3 hold hnd hel i8 old (decide ((T.node n).kind=2#8)) Hx ex
  unfold Tr.may at hQ
  refine S.f56 hE other hsl ?_
  by_cases p1:okName other=false
  · simp [p1] at hQ
    simp only [p1,un_not_z,Bool.not_false,tk_eq,opt_some,ifB_true]
    exact hQ _ _ (h.same ex)
  have p1:okName other=true:=by simpa using p1
  simp only [p1,un_not_z,Bool.not_true,tk_eq,opt_some,ifB_false]
  refine S.f72 hE (h.mono ex) to fun b1 q1 y1 H3 e3 n3 _ =>?_
  obtain ⟨_,_,_,_,_,c5,_⟩:=n3.cell
  have ex3:=ex.trans e3
  by_cases p2:(T.node to).links=0
  · simp [p1,p2] at hQ
    simp only [nilCk_p,addOff_ptr,load1_ptr,c5,p2,i64_eql,decide_true,tk_eq,opt_some,ifB_true]
    exact hQ _ _ (h.same ex3)
  simp only [nilCk_p,addOff_ptr,load1_ptr,c5,p2,i64_eql,decide_false,tk_eq,opt_some,ifB_false]
  refine S.f72 hE (h.mono ex3) n fun b2 q2 y2 H4 e4 n4 _ =>?_
  obtain ⟨d0,_⟩:=n4.cell
  have ex4:=ex3.trans e4
  have hkn:=kind2 (T.node n).kind
  simp only [p1,p2,Bool.true_eq_false,if_false] at hQ
  by_cases d1:(T.node n).kind=2#8
  · obtain ⟨hdp1,hdp2⟩:=hdp d1 p2 k3
    simp only [nilCk_p,addOff_ptr,load1_ptr,Nat.add_zero,d0,i64_eql,hkn,eq_true d1,decide_true,gd_tt,tk_eq,opt_some]
    refine S.f75 hE (h.mono ex4) to n fun H5 e5 =>?_
    have ex5:=ex4.trans e5
    rw [hdp2]
    by_cases p3:T.within n to=true
    · simp only [d1,p3,and_self,if_true] at hQ
      simp only [p3,pick_true_z,tk_eq,opt_some,ifB_true]
      exact hQ _ _ (h.same ex5)
    have p3:T.within n to=false:=by simpa using p3
    simp only [p3,pick_true_z,tk_eq,opt_some,ifB_false,gd_tt]
    refine S.f78 hE (h.mono ex5) to fun H6 e6 =>?_
    have ex6:=ex5.trans e6
    rw [hdp1]
    simp only [gd_tt,tk_eq]
    refine S.f83 hE hs f (h.mono ex6) n (hf d1) hf20 fun H7 e7 =>?_
    have ex7:=ex6.trans e7
    have hdle:T.deep to<=17:=Tr.deepF_le T 17 to
    have htle:T.tall n<=20:=Tr.tallF_le T 20 n
    by_cases p4:16<T.deep to+T.tall n
    · have p4':(16:Int)<(T.deep to:Int)+(T.tall n:Int):=by omega
      simp only [d1,p3,p4,Bool.false_eq_true,and_false,and_self,if_true,if_false] at hQ
      simp only [gd_tt,i64_add (a:=(T.deep to:Int)) (b:=(T.tall n:Int)) (by omega) (by omega),i64_gtr,gt_iff_lt,p4',decide_true,pick_true_z,tk_eq,opt_some,ifB_true]
      exact hQ _ _ (h.same ex7)
    · have p4':¬ (16:Int)<(T.deep to:Int)+(T.tall n:Int):=by omega
      simp only [d1,p3,p4,Bool.false_eq_true,and_false,if_false] at hQ
      simp only [gd_tt,i64_add (a:=(T.deep to:Int)) (b:=(T.tall n:Int)) (by omega) (by omega),i64_gtr,gt_iff_lt,p4',decide_false,pick_true_z,tk_eq,opt_some,ifB_false]
      have:=tail H7 ex7 rfl ho hcase (by simpa only [d1] using hQ)
      simp only [eq_true d1,decide_true] at this
      exact this
  · simp only [d1,false_and,if_false] at hQ
    simp only [nilCk_p,addOff_ptr,load1_ptr,Nat.add_zero,d0,i64_eql,hkn,eq_false d1,decide_false,gd_ft,pick_false_z,tk_eq,opt_some,ifB_false]
    have:=tail H4 ex4 rfl ho hcase (by simpa only [d1] using hQ)
    simp only [eq_false d1,decide_false] at this
    exact this
theorem S.f71 (hE:Fold E) (h:RefT H t nv mv nx mr Y T) (hs:T.small) (fr to:BitVec 16) (s other:NameL) (hsl:other.length<2 ^ 63)
  (hc : -9223372036854775808<=T.change/\T.change<9223372036854775806)
  (hn:(T.look fr s).2=0->(T.node (T.look fr s).1).kind≠0#8)
  (hdp:(T.node (T.look fr s).1).kind=2#8->(T.node to).links≠0->(T.node to).kind=2#8->T.deepF 20 to=T.deep to/\T.withinF (T.look fr s).1 20 to=T.within (T.look fr s).1 to)
  {f:Nat} (hf:(T.look fr s).2=0->(T.node (T.look fr s).1).kind=2#8->T.fitsF f (T.look fr s).1) (hf20:f<=20)
  (hold:∀ y,(T.node to).kind=2#8->alook other (T.node to).ents=some y->(T.node y).kind≠0#8/\0<=(T.node y).links/\(T.node y).links<9223372036854775807)
  (hnd:(T.node to).kind=2#8->((T.node to).ents.map Prod.fst).Nodup) (hel:(T.node fr).ents.length<2 ^ 35/\(T.node to).ents.length<2 ^ 35)
  (hQ:∀ Y' H',UpdR t nv mv nx mr Y T nv Y' (T.move fr s to other).1 H H'->Q (vi (T.move fr s to other).2) H') :
  E.call (E.fid i.f71) [ptr t 0,vi (fr.toNat:Int),str s,vi (to.toNat:Int),str other] H Q:=by
 apply hE.f71
 simp only [F.f71]
 refine S.f69 hE h hs fr s fun H1 e1 =>?_
 unfold Tr.move at hQ
 by_cases c1:(T.look fr s).2=0
 rotate_left
 ·simp [c1] at hQ
  simp only [tk_eq,ext_tuple,List.getElem?_cons_zero,List.getElem?_cons_succ,c1,i64_neq,ne_eq,not_false_iff,decide_true,opt_some,ifB_true]
  exact hQ _ _ (h.same e1)
 obtain ⟨k1,k2⟩:=Tr.look_ok c1
 have hn:=hn c1
 have hf:=hf c1
 simp only [c1,ne_eq,not_true,if_false] at hQ
 simp only [tk_eq,ext_tuple,List.getElem?_cons_zero,List.getElem?_cons_succ,c1,i64_neq,ne_eq,not_true,decide_false,opt_some,ifB_false]
 generalize hnn:(T.look fr s).1=n at *
 refine S.f79 hE (h.mono e1) to fun H2 e2 =>?_
 have x2:=e1.trans e2
 by_cases c2:T.dir to=0
 rotate_left
 ·simp only [c2,ne_eq,not_false_eq_true,if_true] at hQ
  simp only [c2,i64_neq,ne_eq,not_false_iff,decide_true,tk_eq,opt_some,ifB_true]
  exact hQ _ _ (h.same x2)
 have k3:=Tr.dir_zero.1 c2
 have tolt:to.toNat<T.N.length:=node_kind_lt (by rw [k3]; decide)
 have frlt:fr.toNat<T.N.length:=node_kind_lt (by rw [k1]; decide)
 simp only [c2,ne_eq,not_true,if_false] at hQ
 simp only [c2,i64_neq,ne_eq,not_true,decide_false,tk_eq,opt_some,ifB_false]
 refine S.f72 hE (h.mono x2) to fun bt ot yt H3 e3 n3 hat3 =>?_
 have x3:=x2.trans e3
 obtain ⟨_,_,t2,_⟩:=n3.cell
 have tl:=n3.lenL
 refine S.f85 hE n3 other (by omega) ?_
 cases c3:alook other (T.node to).ents with
 | none =>
  rw [nameIx_none _ _ c3]
  have key:=fun Hx ex=>refT_move_key (Q:=Q) hE h hs fr to n s other hc hn k1 k2 c2 k3 hold hnd hel hsl hdp hf hf20 (-1) none Hx ex
  simp only [c3] at hQ
  simp only [i64_geq,ge_iff_le,show ¬ (0:Int) <= -1 from by omega,decide_false,gd_ft,pick_false_z,tk_eq,opt_some,ifB_false,i64_lss,show ((-1:Int)<0)=True from by simp,decide_true,gd_tt,i64_neq,ne_eq,num_eq,pick_true_z]
  by_cases c4:fr=to
  ·subst c4
   simp [c3] at hQ
   simp only [not_true,decide_false,gd_ft,pick_false_z,tk_eq,opt_some,ifB_false]
   exact key H3 x3 c3 (.inl ⟨rfl,rfl⟩) (by simpa using hQ)
  ·simp only [c4,not_false_iff,decide_true,gd_tt,tk_eq]
   refine S.f72 hE (h.mono x3) to fun b4 o4 y4 H4 e4 n4 _ =>?_
   obtain ⟨_,_,u2,_⟩:=n4.cell
   have ul:=n4.lenL
   have x4:=x3.trans e4
   by_cases c5:32<=(T.node to).ents.length
   ·have c5':(32:Int)<=(T.node to).ents.length:=by omega
    simp [c4,c5] at hQ
    simp only [c4,not_false_iff,not_false_eq_true,decide_true,gd_tt,nilCk_p,addOff_ptr,load1_ptr,u2,ul,i64_geq,ge_iff_le,c5',decide_true,pick_true_z,tk_eq,opt_some,ifB_true]
    exact hQ _ _ (h.same x4)
   ·have c5':¬ (32:Int)<=(T.node to).ents.length:=by omega
    simp [c4,c5] at hQ
    simp only [c4,not_false_iff,not_false_eq_true,decide_true,gd_tt,nilCk_p,addOff_ptr,load1_ptr,u2,ul,i64_geq,ge_iff_le,c5',decide_false,pick_true_z,tk_eq,opt_some,ifB_false]
    exact key H4 x4 c3 (.inl ⟨rfl,rfl⟩) (by simpa using hQ)
 | some o =>
  obtain ⟨j,hj,j1,j2,_⟩:=nameIx_some other _ o c3
  rw [j1]
  have hj0:(0:Int)<=j:=by omega
  have hj1:¬ (j:Int)<0:=by omega
  simp only [i64_geq,ge_iff_le,hj0,decide_true,gd_tt,tk_eq,opt_some]
  refine S.f72 hE (h.mono x3) to fun b4 o4 y4 H4 e4 n4 _ =>?_
  have x4:=x3.trans e4
  obtain ⟨_,_,u2,_⟩:=n4.cell
  obtain ⟨b',o',f1,f2⟩:=n4.2.2.ix (i:=j) (by rw [entR_length]; exact hj)
  have hrow:(entR (T.node to).ents)[j]'(by rw [entR_length]; exact hj)=[str other,vi (o.toNat:Int)]:=by simp [entR,j2]
  rw [hrow] at f2
  have f3:(H4.get b').cell (o'+1)=some (vi (o.toNat:Int)):=by have:=row_at f2 (j:=1) (by omega); simpa using this
  by_cases c4:o=n
  ·simp [c3,c4] at hQ
   simp only [gd_tt,nilCk_p,addOff_ptr,load1_ptr,u2,f1,f3,i64_eql,num_eq,eq_true c4,decide_true,pick_true_z,tk_eq,opt_some,ifB_true]
   exact hQ _ _ (h.same x4)
  ·simp [c3,c4] at hQ
   simp only [gd_tt,gd_ft,nilCk_p,addOff_ptr,load1_ptr,u2,f1,f3,i64_eql,i64_lss,hj1,num_eq,eq_false c4,decide_false,pick_true_z,pick_false_z,tk_eq,opt_some,ifB_false]
   exact refT_move_key (Q:=Q) hE h hs fr to n s other hc hn k1 k2 c2 k3 hold hnd hel hsl hdp hf hf20 j (some o) H4 x4 c3 (.inr ⟨j,hj,o,rfl,rfl,j2,c4⟩) (by simpa using hQ)
end
end Go.AM
end
section
namespace Go.AM
section
variable {E:Sy} {H0 H H' H'' H1:AH} {Q:Value->AH->Prop} {t:Nat} {nv nv' nv'' mv:Value} {nx:Int} {mr:List (List Value)} {Y Y' Y'':List RLy} {T T' T'':Tr}
def mntTop:List (List Value):=[MntI.cells ⟨0,1,PlaceI.zero,0⟩]
theorem S.f57 (hE:Fold E) (limit:Int) (hQ:∀ t nv mv Y H',Ext H H'->RefT H' t nv mv 1 mntTop Y (Tr.new limit)->(∀ b∈(refR t nv mv 1 mntTop Y (Tr.new limit)).fp,H.next<=b)->Q (ptr t 0) H'):E.call (E.fid i.f57) [vi limit] H Q:=by
 apply hE.f57
 have e1:(if (1:Int) > limit then 1 else limit)=max limit 1:=by omega
 have e2:∀ x:Int,(if (256:Int)<x then 256 else x)=min x 256:=fun x=>by omega
 have hb1:buildV [(0,1),(1,1),(2,1),(3,1),(4,1),(5,1),(6,1)] #[(.int .i64 0),(.slice none 0 0),(.slice none 0 0),(.int .i64 0),(.string ⟨#[]⟩),(.int .i64 0),(.int .i64 0)] []=some (NodeI.v NodeI.zero):=rfl
 have hb2:buildV [(0,1),(1,1),(2,1),(3,1),(4,1),(5,1),(6,1)] #[(.int .i64 0),(.slice none 0 0),(.slice none 0 0),(.int .i64 0),(.string ⟨#[]⟩),(.int .i64 0),(.int .i64 0)] [(0,(.int .i64 2)),(3,(.int .i64 1)),(5,(.int .i64 1))]=some (NodeI.v ⟨2,nilS,nilS,1,[],1,0⟩):=rfl
 have hb3:buildS 2 7 #[(.int .i64 0),(.slice none 0 0),(.slice none 0 0),(.int .i64 0),(.string ⟨#[]⟩),(.int .i64 0),(.int .i64 0)] [(0,NodeI.v NodeI.zero),(1,NodeI.v ⟨2,nilS,nilS,1,[],1,0⟩)]=some (.cells (NodeI.zero.cells++(⟨2,nilS,nilS,1,[],1,0⟩:NodeI).cells) none,mkSlc 2 2):=NodeI.buildS [NodeI.zero,⟨2,nilS,nilS,1,[],1,0⟩]
 have hb4:buildV [(0,1),(1,1),(2,2),(4,1)] #[(.int .i64 0),(.int .i64 0),(.int .i64 0),(.int .i64 0),(.int .i64 0)] [(1,(.int .i64 1))]=some (MntI.v ⟨0,1,PlaceI.zero,0⟩):=rfl
 have hb5:buildS 1 5 #[(.int .i64 0),(.int .i64 0),(.int .i64 0),(.int .i64 0),(.int .i64 0)] [(0,MntI.v ⟨0,1,PlaceI.zero,0⟩)]=some (.cells (MntI.cells ⟨0,1,PlaceI.zero,0⟩) none,mkSlc 1 1):=MntI.build1 _
 generalize hlim:min (max limit 1) 256=lim
 have hb6:∀ a b,buildV [(0,1),(1,1),(2,1),(3,1),(4,1)] #[(.slice none 0 0),(.int .i64 0),(.slice none 0 0),(.int .i64 0),(.int .i64 0)] [(0,slc a 0 2 2),(1,vi lim),(2,slc b 0 1 1),(3,(.int .i64 1))]=some (TreeI.v ⟨slc a 0 2 2,lim,slc b 0 1 1,1,0⟩):=fun _ _=>rfl
 have hmm:(fold2 max2 [vi limit,(.int .i64 1)])=some (vi (max limit 1)):=by simp [e1]
 have hmn:(fold2 min2 [vi (max limit 1),(.int .i64 256)])=some (vi lim):=by simp [e2,hlim]
 have hbx:∀ x:TreeI,boxO (TreeI.v x)=some (.cells x.cells none,fun b=>ptr b 0):=fun x=>rfl
 simp only [F.f57,hb1,hb2,hb3,hb4,hb5,hmm,hmn,AM.mk_some,mkSlc_eq,hb6,hbx,tk_eq,opt_some]
 have hT:Tr.new limit=⟨[Nd.none,{ Nd.none with kind:=2#8,parent:=1#16,links:=1 }],lim,0⟩:=by unfold Tr.new; rw [hlim]
 rw [hT] at hQ
 refine hQ (H.next+2) (slc H.next 0 2 2) (slc (H.next+1) 0 1 1) [⟨nilS,nilS⟩,⟨nilS,nilS⟩] _ ((((Ext.refl H).new _).new _).new _) ⟨⟨?_,?_,?_⟩,rfl,by simp⟩ ?_
 ·intro r hr
  simp only [refRs,List.zip,List.zipWith,List.map_cons,List.map_nil,List.mem_cons,List.not_mem_nil,or_false] at hr
  have g0:((((H.new (.cells (NodeI.zero.cells++(⟨2,nilS,nilS,1,[],1,0⟩:NodeI).cells) none)).new (.cells (MntI.cells ⟨0,1,PlaceI.zero,0⟩) none)).new (.cells (TreeI.cells ⟨slc H.next 0 2 2,lim,slc (H.next+1) 0 1 1,1,0⟩) none))).get H.next = .cells (NodeI.zero.cells++(⟨2,nilS,nilS,1,[],1,0⟩:NodeI).cells) none:=by
   rw [AH.get_new_ne _ _ (by simp; omega),AH.get_new_ne _ _ (by simp),AH.get_new_self]
  have g1:((((H.new (.cells (NodeI.zero.cells++(⟨2,nilS,nilS,1,[],1,0⟩:NodeI).cells) none)).new (.cells (MntI.cells ⟨0,1,PlaceI.zero,0⟩) none)).new (.cells (TreeI.cells ⟨slc H.next 0 2 2,lim,slc (H.next+1) 0 1 1,1,0⟩) none))).get (H.next+1) = .cells (MntI.cells ⟨0,1,PlaceI.zero,0⟩) none:=by
   rw [AH.get_new_ne _ _ (by simp)]
   exact AH.get_new_self _ _
  have g2:((((H.new (.cells (NodeI.zero.cells++(⟨2,nilS,nilS,1,[],1,0⟩:NodeI).cells) none)).new (.cells (MntI.cells ⟨0,1,PlaceI.zero,0⟩) none)).new (.cells (TreeI.cells ⟨slc H.next 0 2 2,lim,slc (H.next+1) 0 1 1,1,0⟩) none))).get (H.next+2) = .cells (TreeI.cells ⟨slc H.next 0 2 2,lim,slc (H.next+1) 0 1 1,1,0⟩) none:=AH.get_new_self _ _
  rcases hr with rfl | rfl | rfl | rfl | rfl
  ·exact g2
  ·exact Grow.made (f:=none) (zH_get _) (g0.trans rfl) (.inl rfl) rfl (by
    intro r hr
    simp only [nodeRows,List.zip,List.zipWith,List.map_cons,List.map_nil,List.mem_cons,List.not_mem_nil,or_false] at hr
    rcases hr with rfl | rfl <;> exact ⟨rfl,rfl⟩)
  ·exact Grow.made (f:=none) (zH_get _) (g1.trans rfl) (.inl rfl) rfl (by
    intro r hr
    simp only [mntTop,List.mem_cons,List.not_mem_nil,or_false] at hr
    subst hr
    exact ⟨rfl,rfl⟩)
  ·intro r hr
   simp only [List.mem_cons,List.not_mem_nil,or_false] at hr
   rcases hr with rfl | rfl
   ·exact Grow.nil _ _ _
   ·exact Grow.nil _ _ _
  ·intro r hr
   simp only [List.mem_cons,List.not_mem_nil,or_false] at hr
   rcases hr with rfl | rfl
   ·exact Grow.nil _ _ _
   ·exact Grow.nil _ _ _
 ·intro b hb
  simp [refR,joinR,refRs,boxR,growR,nodeRR,blkL,blk] at hb ⊢
  omega
 ·simp [refR,joinR,refRs,boxR,growR,nodeRR,blkL,blk]
 ·intro b hb
  simp [refR,joinR,refRs,boxR,growR,nodeRR,blkL,blk] at hb
  omega
end
end Go.AM
end
section
namespace Go.AM
theorem Grow.cut {Z H:AH} {sz:Nat} {v:Value} {rows:List (List Value)} (h:Grow Z H sz v rows) {k:Nat} (hk:k<=rows.length) :
  ∃ v',slSlc sz v none (some (vi k)) none H=some v'/\Grow Z H sz v' (rows.take k)/\blk v'=blk v:=by
 have hs:=(h.toRows.slice' (lo:=none) (hi:=some (vi k)) (i:=0) (j:=k) (.inr ⟨rfl,rfl⟩) (.inl rfl) (Nat.zero_le _) hk).1
 refine ⟨_,hs,?_⟩
 rcases h.2 with ⟨rfl,rfl⟩ | ⟨b,f,c,cs,g1,rfl,g3,g4,g5,g6,g7⟩
 ·have:k=0:=by simpa using hk
  subst this
  exact ⟨⟨by simp,.inl ⟨by simp,rfl⟩⟩,rfl⟩
 ·have e:sliceV sz (slc b 0 rows.length c) 0 k=slc b 0 k c:=by
   simp [sliceV,Addr.add]
  rw [e]
  refine ⟨⟨fun r hr=>h.1 r (List.mem_of_mem_take hr),.inr ⟨b,f,c,cs,g1,by rw [List.length_take,Nat.min_eq_left hk],g3,by rw [List.length_take]; omega,g5,?_,g7⟩⟩,rfl⟩
  rw [List.length_take,Nat.min_eq_left hk,<- flatten_take rows (fun r hr=>(h.1 r hr).1),<- g6,List.take_take,Nat.min_eq_left (Nat.mul_le_mul_right _ hk)]
theorem byteR_set (l:List (BitVec 8)) (i:Nat) (x:BitVec 8):byteR (l.set i x)=(byteR l).set i [u8 x]:=by simp [byteR,List.map_set]
theorem byteR_append (a b:List (BitVec 8)):byteR (a++b)=byteR a++byteR b:=by simp [byteR]
theorem byteR_take (a:List (BitVec 8)) (k:Nat):byteR (a.take k)=(byteR a).take k:=by simp [byteR,List.map_take]
section
variable {E:Sy} {H0 H H' H'' H1:AH} {Q:Value->AH->Prop} {t:Nat} {nv nv' nv'' mv:Value} {nx:Int} {mr:List (List Value)} {Y Y' Y'':List RLy} {T T' T'':Tr}
theorem RefT.newD (h:RefT H t nv mv nx mr Y T) {n:BitVec 16} (hn:n.toNat<T.N.length) {y:RLy} (hy:Y[n.toNat]? = some y) {b o:Nat} (hp:ixSlc 7 nv (vi (n.toNat:Int))=some (ptr b o)) (f:Nd->Nd)
  (hf:∀ x:Nd,(f x).ents=x.ents) {v':Value} (e:Ext H H1) (g:Grow zH H1 1 v' (byteR (f (T.node n)).data)) (fr:FreshV H.next v') (hc:(refI (f (T.node n)) { y with data:=v' }).cells=(refI (T.node n) y).cells.set 1 v') :
  ∃ H',store1 (ptr b (o+1)) v' H1=some H'/\UpdR t nv mv nx mr Y T nv (Y.set n.toNat { y with data:=v' }) (T.upd n f) H H' :=
 h.cell hn hy hp f _ (nodeRR.setD (h.node_y hn hy) (hf _) e g fr) (by omega) g.plain hc
theorem zero_more {H0 H:AH} {v:Value} {l:List (BitVec 8)} (g:Grow zH H 1 v (byteR l)) (e:Ext H0 H) (f:FreshV H0.next v) (hl:l.length<2 ^ 40) :
  ∃ v' H',AM.app 1 1 v (slc H.next 0 1 1) (H.new (.cells [u8 0#8] none))=some (v',H')/\Grow zH H' 1 v' (byteR (l++[0#8]))/\Ext H0 H'/\FreshV H0.next v':=by
 obtain ⟨v',H',a1,a2,a3⟩:=g.app1 (Nat.zero_le _) (bytes:=1) [u8 0#8] rfl rfl (by decide) (by decide) (by rw [byteR_length]; omega)
 obtain ⟨q1,q2⟩:=grew_ext a3 e f
 refine ⟨v',H',a1,?_,q1,q2⟩
 rw [byteR_append]; exact a2
theorem S.f62 (hE:Fold E) (h:RefT H t nv mv nx mr Y T) (n:BitVec 16) (size:Int) (hc : -9223372036854775808<=T.change/\T.change<9223372036854775807) (hdl:(T.node n).data.length<2 ^ 39)
  (hQ:∀ Y' H',UpdR t nv mv nx mr Y T nv Y' (T.cut n size).1 H H'->Q (vi (T.cut n size).2) H'):E.call (E.fid i.f62) [ptr t 0,vi (n.toNat:Int),vi size] H Q:=by
 apply hE.f62
 simp only [F.f62]
 refine S.f72 hE h n fun b o y H1 e1 hn hat =>?_
 obtain ⟨c0,c1,_⟩:=hn.cell
 have k1:=kind1 (T.node n).kind
 have k2:=kind2 (T.node n).kind
 have k0:=kind0 (T.node n).kind
 unfold Tr.cut at hQ
 by_cases g0:(T.node n).kind=0#8
 ·simp [g0] at hQ
  simp only [nilCk_p,addOff_ptr,load1_ptr,Nat.add_zero,c0,i64_eql,k0,eq_true g0,decide_true,tk_eq,opt_some,ifB_true]
  exact hQ _ _ (h.same e1)
 have hlt:=node_kind_lt g0
 obtain ⟨rfl,hy,hp⟩:=hat hlt
 by_cases g2:(T.node n).kind=2#8
 ·simp [g2] at hQ
  simp only [nilCk_p,addOff_ptr,load1_ptr,Nat.add_zero,c0,i64_eql,k0,k2,eq_false g0,eq_true g2,decide_true,decide_false,tk_eq,opt_some,ifB_true,ifB_false]
  exact hQ _ _ (h.same e1)
 by_cases g1:(T.node n).kind=1#8
 rotate_left
 ·simp [g0,g2,g1] at hQ
  simp only [nilCk_p,addOff_ptr,load1_ptr,Nat.add_zero,c0,i64_eql,i64_neq,ne_eq,k0,k1,k2,eq_false g0,eq_false g2,eq_false g1,not_false_eq_true,decide_true,decide_false,gd_tf,pick_true_z,tk_eq,opt_some,ifB_true,ifB_false]
  exact hQ _ _ (h.same e1)
 by_cases g3:size<0
 ·simp [g0,g2,g1,g3] at hQ
  simp only [nilCk_p,addOff_ptr,load1_ptr,Nat.add_zero,c0,i64_eql,i64_neq,ne_eq,k0,k1,k2,eq_false g0,eq_false g2,eq_true g1,not_true,i64_lss,g3,decide_true,decide_false,gd_ff,pick_true_z,pick_false_z,tk_eq,opt_some,ifB_true,ifB_false]
  exact hQ _ _ (h.same e1)
 by_cases g4:1024<size
 ·simp [g0,g2,g1,g3,g4] at hQ
  simp only [nilCk_p,addOff_ptr,load1_ptr,Nat.add_zero,c0,i64_eql,i64_neq,i64_gtr,gt_iff_lt,ne_eq,k0,k1,k2,eq_false g0,eq_false g2,eq_true g1,not_true,i64_lss,g3,g4,decide_true,decide_false,gd_ff,pick_true_z,pick_false_z,tk_eq,opt_some,ifB_true,ifB_false]
  exact hQ _ _ (h.same e1)
 simp [g0,g2,g1,g3,g4] at hQ
 have hb0:buildS 0 1 #[(.int .u8 0)] []=some (.cells [] none,mkSlc 0 0):=buildS0 1 [u8 0#8] rfl
 have e9:Ext H1 (H1.new (.cells [] none)):=(Ext.refl H1).new _
 have gr9:Grow zH (H1.new (.cells [] none)) 1 (slc H1.next 0 0 0) []:=Grow.room (zH_get _) (AH.get_new_self _ _) rfl
 have c1':((H1.new (.cells [] none)).get b).cell (o+1)=some y.data:=by
  rw [AH.get_new_lt _ _ (AH.lt_of_get (row_notdead hn.1))]
  exact c1
 simp only [nilCk_p,addOff_ptr,load1_ptr,Nat.add_zero,c0,i64_eql,i64_neq,i64_gtr,gt_iff_lt,ne_eq,k0,k1,k2,eq_false g0,eq_false g2,eq_true g1,not_true,i64_lss,g3,g4,decide_false,gd_ff,pick_true_z,pick_false_z,hb0,AM.mk_some,mkSlc_eq,c1',tk_eq,opt_some,ifB_false]
 obtain ⟨v18,H11,a1,a2,a3⟩:=gr9.app (bytes:=1) (Nat.zero_le _) (hn.2.1.mono e9) (byteR_plain _) (by decide) (by decide) (by simp [byteR_length]; omega) (by simp [byteR_length]; omega)
 obtain ⟨e11,f11⟩:=grew_ext a3 e9 (fun b hb=>by simp [blk] at hb; omega)
 have a1':app 1 1 (slc H1.next 0 0 0) y.data (H1.new (.cells [] none))=some (v18,H11):=a1
 simp only [a1',opt2_some,tk_eq]
 obtain ⟨sz,rfl⟩:∃ sz:Nat,size=sz:=⟨size.toNat,by omega⟩
 rw [List.nil_append] at a2
 have hb1:buildS 1 1 #[(.int .u8 0)] [(0,(.int .u8 0))]=some (.cells [u8 0#8] none,mkSlc 1 1):=buildS_one 1 [u8 0#8] [u8 0#8] rfl rfl
 generalize hD:(T.node n).data=D at *
 refine LoopL.ind (fun j ls H'=>∃ v,∃ k:Nat,ls=[ptr t 0,vi sz,ptr b o,v]/\Ext H1 H'/\FreshV H1.next v/\Grow zH H' 1 v (byteR (D++List.replicate k 0#8))/\(k=0\/D.length+k<=sz)/\j=sz - (D.length+k)) ?_ (sz - D.length) ⟨v18,0,rfl,e11,f11,by simpa using a2,.inl rfl,by omega⟩
 rintro j _ H3 X hX ⟨v,k,rfl,e3,f3,g5,hk,rfl⟩
 have hlv:=g5.toRows.lenSlc
 rw [byteR_length,List.length_append,List.length_replicate] at hlv
 by_cases hlt2:D.length+k<sz
 ·have hlt2':((D.length+k:Nat):Int)<(sz:Int):=by omega
  obtain ⟨v',H4,b1,b2,b3,b4⟩:=zero_more g5 e3 f3 (by simp; omega)
  simp only [F.f62_l1,nth_0,nth_1,nth_2,nth_3,hlv,i64_lss,hlt2',decide_true,hb1,AM.mk_some,mkSlc_eq,b1,opt2_some,tk_eq,opt_some,ifB_true]
  refine hX (sz - (D.length+(k+1))) (by omega) _ _ ⟨v',k+1,rfl,b3,b4,?_,.inr (by omega),rfl⟩
  rw [List.replicate_succ',<- List.append_assoc]
  exact b2
 ·have hlt2':¬ ((D.length+k:Nat):Int)<(sz:Int):=by omega
  obtain ⟨v',s1,s2,s3⟩:=g5.cut (k:=sz) (by rw [byteR_length,List.length_append,List.length_replicate]; omega)
  have hcut:byteR ((fun x:Nd=>{ x with data:=cutL x.data sz }) (T.node n)).data=(byteR (D++List.replicate k 0#8)).take sz:=by
   rw [<- byteR_take]
   show byteR (cutL (T.node n).data sz)=_
   rw [hD]
   congr 1
   unfold cutL
   rw [List.take_append]
   congr 1
   rw [List.take_replicate]
   congr 1
   rcases hk with rfl | hk <;> omega
  obtain ⟨H4,s4,u4⟩:=h.newD (v':=v') hlt hy hp (fun x=>{ x with data:=cutL x.data sz }) (fun _=>rfl) e3 (by rw [hcut]; exact s2) (fun b hb=>f3 b (by rw [<- s3]; exact hb)) rfl
  have h4:=u4.ref h
  have hh4:=h4.head
  obtain ⟨H5,s5,u5⟩:=h4.tick
  have hcc:(T.upd n (fun x=>{ x with data:=cutL x.data sz })).change=T.change:=rfl
  rw [hcc] at s5 hh4
  simp only [F.f62_l1,nth_0,nth_1,nth_2,nth_3,hlv,i64_lss,hlt2',decide_false,s1,nilCk_p,addOff_ptr,s4,load1_ptr,hh4,cell_cells_z,Nat.zero_add,TreeI.at4,i64_add (a:=T.change) (b:=1) (by omega) (by omega),s5,tk_eq,opt_some,ifB_false]
  exact hQ _ _ (u4.trans u5)
end
end Go.AM
end
section
namespace Go.AM
theorem spliceB_step (e b:List (BitVec 8)) (i j:Nat) (hj:j<b.length) (hi:i+j<e.length):(spliceB e i (b.take j)).set (i+j) b[j]=spliceB e i (b.take (j+1)):=by
 unfold spliceB
 have h1:(e.take i).length=i:=by rw [List.length_take]; omega
 have h2:(b.take j).length=j:=by rw [List.length_take]; omega
 have h3:(b.take (j+1)).length=j+1:=by rw [List.length_take]; omega
 rw [h2,h3,List.set_append_right _ _ (by rw [List.length_append,h1,h2]; omega),List.length_append,h1,h2,Nat.sub_self]
 rw [List.drop_eq_getElem_cons hi,List.set_cons_zero]
 simp [Nat.add_assoc]
 rw [List.take_succ_eq_append_getElem hj]
 simp only [List.append_assoc,List.singleton_append]
theorem spliceB_length (e b:List (BitVec 8)) (i:Nat) (h:i+b.length<=e.length):(spliceB e i b).length=e.length:=by
 simp [spliceB]; omega
section
variable {E:Sy} {H0 H H' H'' H1:AH} {Q:Value->AH->Prop} {t:Nat} {nv nv' nv'' mv:Value} {nx:Int} {mr:List (List Value)} {Y Y' Y'':List RLy} {T T' T'':Tr}
theorem refT_write2 (h:RefT H1 t nv mv nx mr Y T) (n:BitVec 16) (hlt:n.toNat<T.N.length) {y:RLy} {b o:Nat} (hy:Y[n.toNat]? = some y) (hp:ixSlc 7 nv (vi (n.toNat:Int))=some (ptr b o)) (at_:Nat) (xv:Value) (x:List (BitVec 8)) (hx:Rows H1 1 xv (byteR x)) (hc : -9223372036854775808<=T.change/\T.change<9223372036854775807)
  (hat:at_<=1024/\at_+x.length<=1024) (e:List (BitVec 8)) (he:at_+x.length<=e.length) (hw:writeL (T.node n).data at_ x=spliceB e at_ x) (v:Value) (H3:AH) (e3:Ext H1 H3) (f3:FreshV H1.next v) (g3:Grow zH H3 1 v (byteR e))
  (hQ:∀ Y' H',UpdR t nv mv nx mr Y T nv Y' ((T.upd n (fun z=>{ z with data:=writeL z.data at_ x })).bump) H1 H'->Q (vi 0) H') :
  LoopL (fun l H X0=>F.f76_l2 E Q (nth l 0) (nth l 1) (nth l 2) (nth l 3) (nth l 4) (nth l 5) H X0) [ptr t 0,vi at_,xv,ptr b o,v,(.int .i64 0)] H3:=by
 refine LoopL.count x.length (fun j ls H'=>ls=[ptr t 0,vi at_,xv,ptr b o,v,vi j]/\Ext H1 H'/\Grow zH H' 1 v (byteR (spliceB e at_ (x.take j)))) ?_ ⟨rfl,e3,by simpa [spliceB] using g3⟩
 rintro j _ H4 X hj hX ⟨rfl,e4,g4⟩
 have hxl:=(hx.mono e4).lenSlc
 rw [byteR_length] at hxl
 by_cases hjl:j<x.length
 ·have hjl':(j:Int)<x.length:=by omega
  obtain ⟨b1,o1,p1,p2⟩:=(hx.mono e4).ix (i:=j) (by rw [byteR_length]; exact hjl)
  have hrow:(byteR x)[j]'(by rw [byteR_length]; exact hjl)=[u8 x[j]]:=by simp [byteR]
  rw [hrow] at p2
  have p3:(H4.get b1).cell o1=some (u8 x[j]):=by have:=row_at p2 (j:=0) (by omega); simpa using this
  have hls:(spliceB e at_ (x.take j)).length=e.length:=spliceB_length _ _ _ (by rw [List.length_take]; omega)
  have hi:at_+j<(byteR (spliceB e at_ (x.take j))).length:=by rw [byteR_length,hls]; omega
  obtain ⟨b2,o2,H5,q1,q2,q3,q4,q5⟩:=g4.store (i:=at_+j) (k:=0) hi (by omega) (u8 x[j]) rfl
  have hadd:binInt .add (vi at_) (vi j)=some (vi ((at_+j:Nat):Int)):=by rw [i64_add (by omega) (by omega)]; simp
  have hjj:=i64_succ j (by omega)
  have hset:(byteR (spliceB e at_ (x.take j))).set (at_+j) ((byteR (spliceB e at_ (x.take j)))[at_+j].set 0 (u8 x[j]))=byteR (spliceB e at_ (x.take (j+1))):=by
   rw [<- spliceB_step e x at_ j hjl (by omega),byteR_set]
   congr 1
   simp [byteR]
  rw [hset] at q4
  rw [Nat.add_zero] at q3
  have q3':store1 (ptr b2 o2) (u8 x[j]) H4=some H5:=q3
  generalize hj1:j+1=j1 at *
  simp only [F.f76_l2,nth_0,nth_1,nth_2,nth_3,nth_4,nth_5,hxl,i64_lss,hjl',decide_true,hadd,p1,load1_ptr,p3,q1,q3',hjj,tk_eq,opt_some,ifB_true]
  refine hX hjl _ _ ⟨rfl,q5.ext e4 fun b hb=>f3 b (mem_blkL.1 hb),q4⟩
 ·have hjl':¬ (j:Int)<x.length:=by omega
  have hje:j=x.length:=by omega
  have hD:byteR ((fun z:Nd=>{ z with data:=writeL z.data at_ x }) (T.node n)).data=byteR (spliceB e at_ (x.take j)):=by
   show byteR (writeL (T.node n).data at_ x)=_
   rw [hw,hje,List.take_length]
  obtain ⟨H5,s5,u5⟩:=h.newD (v':=v) hlt hy hp (fun z=>{ z with data:=writeL z.data at_ x }) (fun _=>rfl) e4 (by rw [hD]; exact g4) f3 rfl
  have h5:=u5.ref h
  have hh5:=h5.head
  obtain ⟨H6,s6,u6⟩:=h5.tick
  have hcc:(T.upd n (fun z=>{ z with data:=writeL z.data at_ x })).change=T.change:=rfl
  rw [hcc] at s6 hh5
  simp only [F.f76_l2,nth_0,nth_1,nth_2,nth_3,nth_4,nth_5,hxl,i64_lss,hjl',decide_false,nilCk_p,addOff_ptr,s5,load1_ptr,hh5,cell_cells_z,Nat.zero_add,TreeI.at4,i64_add (a:=T.change) (b:=1) (by omega) (by omega),s6,tk_eq,opt_some,ifB_false]
  exact hQ _ _ (u5.trans u6)
theorem S.f76 (hE:Fold E) (h:RefT H t nv mv nx mr Y T) (n:BitVec 16) (at_:Int) (xv:Value) (x:List (BitVec 8)) (hx:Rows H 1 xv (byteR x)) (hxl:x.length<2 ^ 62) (hc : -9223372036854775808<=T.change/\T.change<9223372036854775807) (hdl:(T.node n).data.length<2 ^ 39)
  (hQ:∀ Y' H',UpdR t nv mv nx mr Y T nv Y' (T.write n at_ x).1 H H'->Q (vi (T.write n at_ x).2) H'):E.call (E.fid i.f76) [ptr t 0,vi (n.toNat:Int),vi at_,xv] H Q:=by
 apply hE.f76
 simp only [F.f76]
 refine S.f72 hE h n fun b o y H1 e1 hn hat =>?_
 obtain ⟨c0,c1,_⟩:=hn.cell
 have k1:=kind1 (T.node n).kind
 have k2:=kind2 (T.node n).kind
 have k0:=kind0 (T.node n).kind
 unfold Tr.write at hQ
 by_cases g0:(T.node n).kind=0#8
 ·simp [g0] at hQ
  simp only [nilCk_p,addOff_ptr,load1_ptr,Nat.add_zero,c0,i64_eql,k0,eq_true g0,decide_true,tk_eq,opt_some,ifB_true]
  exact hQ _ _ (h.same e1)
 have hlt:=node_kind_lt g0
 obtain ⟨rfl,hy,hp⟩:=hat hlt
 by_cases g2:(T.node n).kind=2#8
 ·simp [g2] at hQ
  simp only [nilCk_p,addOff_ptr,load1_ptr,Nat.add_zero,c0,i64_eql,k0,k2,eq_false g0,eq_true g2,decide_true,decide_false,tk_eq,opt_some,ifB_true,ifB_false]
  exact hQ _ _ (h.same e1)
 by_cases g1:(T.node n).kind=1#8
 rotate_left
 ·simp [g0,g2,g1] at hQ
  simp only [nilCk_p,addOff_ptr,load1_ptr,Nat.add_zero,c0,i64_eql,i64_neq,ne_eq,k0,k1,k2,eq_false g0,eq_false g2,eq_false g1,not_false_eq_true,decide_true,decide_false,gd_tf,pick_true_z,tk_eq,opt_some,ifB_true,ifB_false]
  exact hQ _ _ (h.same e1)
 by_cases g3:at_<0
 ·simp [g0,g2,g1,g3] at hQ
  simp only [nilCk_p,addOff_ptr,load1_ptr,Nat.add_zero,c0,i64_eql,i64_neq,ne_eq,k0,k1,k2,eq_false g0,eq_false g2,eq_true g1,not_true,i64_lss,g3,decide_true,decide_false,gd_ff,pick_true_z,pick_false_z,tk_eq,opt_some,ifB_true,ifB_false]
  exact hQ _ _ (h.same e1)
 by_cases g4:1024<at_
 ·simp [g0,g2,g1,g3,g4] at hQ
  simp only [nilCk_p,addOff_ptr,load1_ptr,Nat.add_zero,c0,i64_eql,i64_neq,i64_gtr,gt_iff_lt,ne_eq,k0,k1,k2,eq_false g0,eq_false g2,eq_true g1,not_true,i64_lss,g3,g4,decide_true,decide_false,gd_tf,gd_ff,pick_true_z,pick_false_z,tk_eq,opt_some,ifB_true,ifB_false]
  exact hQ _ _ (h.same e1)
 have hxs:=hx.lenSlc
 rw [byteR_length] at hxs
 have hadd:binInt .add (vi at_) (vi x.length)=some (vi (at_+x.length)):=i64_add (by omega) (by omega)
 by_cases g5:1024<at_+(x.length:Int)
 ·simp [g0,g2,g1,g3,g4,g5] at hQ
  simp only [nilCk_p,addOff_ptr,load1_ptr,Nat.add_zero,c0,i64_eql,i64_neq,i64_gtr,gt_iff_lt,ne_eq,k0,k1,k2,eq_false g0,eq_false g2,eq_true g1,not_true,i64_lss,g3,g4,hxs,hadd,g5,decide_true,decide_false,gd_ff,pick_true_z,pick_false_z,tk_eq,opt_some,ifB_true,ifB_false]
  exact hQ _ _ (h.same e1)
 simp [g0,g2,g1,g3,g4,g5] at hQ
 have hb0:buildS 0 1 #[(.int .u8 0)] []=some (.cells [] none,mkSlc 0 0):=buildS0 1 [u8 0#8] rfl
 have e9:Ext H1 (H1.new (.cells [] none)):=(Ext.refl H1).new _
 have gr9:Grow zH (H1.new (.cells [] none)) 1 (slc H1.next 0 0 0) []:=Grow.room (zH_get _) (AH.get_new_self _ _) rfl
 have c1':((H1.new (.cells [] none)).get b).cell (o+1)=some y.data:=by
  rw [AH.get_new_lt _ _ (AH.lt_of_get (row_notdead hn.1))]
  exact c1
 simp only [nilCk_p,addOff_ptr,load1_ptr,Nat.add_zero,c0,i64_eql,i64_neq,i64_gtr,gt_iff_lt,ne_eq,k0,k1,k2,eq_false g0,eq_false g2,eq_true g1,not_true,i64_lss,g3,g4,hxs,hadd,g5,decide_false,gd_ff,pick_true_z,pick_false_z,hb0,AM.mk_some,mkSlc_eq,c1',tk_eq,opt_some,ifB_false]
 obtain ⟨v18,H11,a1,a2,a3⟩:=gr9.app (bytes:=1) (Nat.zero_le _) (hn.2.1.mono e9) (byteR_plain _) (by decide) (by decide) (by simp [byteR_length]; omega) (by simp [byteR_length]; omega)
 obtain ⟨e11,f11⟩:=grew_ext a3 e9 (fun b hb=>by simp [blk] at hb; omega)
 have a1':app 1 1 (slc H1.next 0 0 0) y.data (H1.new (.cells [] none))=some (v18,H11):=a1
 simp only [a1',opt2_some,tk_eq]
 obtain ⟨sz,rfl⟩:∃ sz:Nat,at_=sz:=⟨at_.toNat,by omega⟩
 rw [List.nil_append] at a2
 have hb1:buildS 1 1 #[(.int .u8 0)] [(0,(.int .u8 0))]=some (.cells [u8 0#8] none,mkSlc 1 1):=buildS_one 1 [u8 0#8] [u8 0#8] rfl rfl
 have hw:=@refT_write2 E H1 Q t nv mv nx mr Y T h n hlt y b o hy hp sz xv x hx hc (by omega)
 generalize hD:(T.node n).data=D at *
 refine LoopL.ind (fun j ls H'=>∃ v,∃ k:Nat,ls=[ptr t 0,vi sz,xv,ptr b o,v]/\Ext H1 H'/\FreshV H1.next v/\Grow zH H' 1 v (byteR (D++List.replicate k 0#8))/\(k=0\/D.length+k<=sz+x.length)/\j=sz+x.length - (D.length+k)) ?_ (sz+x.length - D.length) ⟨v18,0,rfl,e11,f11,by simpa using a2,.inl rfl,by omega⟩
 rintro j _ H3 X hX ⟨v,k,rfl,e3,f3,g6,hk,rfl⟩
 have hlv:=g6.toRows.lenSlc
 rw [byteR_length,List.length_append,List.length_replicate] at hlv
 have hxs3:=(hx.mono e3).lenSlc
 rw [byteR_length] at hxs3
 by_cases hlt2:D.length+k<sz+x.length
 ·have hlt2':((D.length+k:Nat):Int)<(sz:Int)+x.length:=by omega
  obtain ⟨v',H4,b1,b2,b3,b4⟩:=zero_more g6 e3 f3 (by simp; omega)
  simp only [F.f76_l1,nth_0,nth_1,nth_2,nth_3,nth_4,hlv,hxs,hadd,i64_lss,hlt2',decide_true,hb1,AM.mk_some,mkSlc_eq,b1,opt2_some,tk_eq,opt_some,ifB_true]
  refine hX (sz+x.length - (D.length+(k+1))) (by omega) _ _ ⟨v',k+1,rfl,b3,b4,?_,.inr (by omega),rfl⟩
  rw [List.replicate_succ',<- List.append_assoc]
  exact b2
 ·have hlt2':¬ ((D.length+k:Nat):Int)<(sz:Int)+x.length:=by omega
  have hk':k=sz+x.length - D.length:=by rcases hk with rfl | hk <;> omega
  have:=hw (D++List.replicate k 0#8) (by simp; omega) (by unfold writeL spliceB; rw [hk']) v H3 e3 f3 g6 hQ
  simp only [F.f76_l1,nth_0,nth_1,nth_2,nth_3,nth_4,hlv,hxs,hadd,i64_lss,hlt2',decide_false,tk_eq,opt_some,ifB_false]
  exact this
end
end Go.AM
end
section
namespace Go.AM
structure TwoX (X:List Res) (H0 H:AH) (p m:Nat) (L:LyL) (T:Tr) (t:Nat) (nv mv:Value) (nx:Int) (mr:List (List Value)) (Y:List RLy) (T2:Tr):Prop where
 ext:Ext H0 H
 ow:Ow (joinR (inoR p m L T :: refR t nv mv nx mr Y T2 :: X)) H
 own:∀ b∈(joinR (inoR p m L T :: refR t nv mv nx mr Y T2 :: X)).fp,H0.next<=b
 cov:Cov L T
 len:Y.length=T2.N.length
 fit:T2.N.length<=60000
section
variable {X:List Res} {E:Sy} {H0 H H' H'':AH} {Q:Value->AH->Prop} {p m:Nat} {L L' L'':LyL} {T T' T'' T2 T2':Tr} {t:Nat} {nv nv' mv:Value} {nx:Int} {mr:List (List Value)} {Y Y':List RLy}
theorem TwoX.ino (h:TwoX X H0 H p m L T t nv mv nx mr Y T2):Ino H p m L T:=⟨h.ow.part (k:=0) rfl,h.cov⟩
theorem TwoX.ref (h:TwoX X H0 H p m L T t nv mv nx mr Y T2):RefT H t nv mv nx mr Y T2:=⟨h.ow.part (k:=1) rfl,h.len,h.fit⟩
theorem TwoX.upd {r:Res} (h:TwoX X H0 H p m L T t nv mv nx mr Y T2) (u:Upd (joinR (inoR p m L T :: refR t nv mv nx mr Y T2 :: X)) r H H'):Ext H0 H'/\Ow r H'/\∀ b∈r.fp,H0.next<=b :=
 ⟨u.only.ext h.ext h.own,h.ow.upd u,fun b hb=>(u.fp b hb).1.elim (h.own b) fun k=>Nat.le_trans h.ext.1 k⟩
theorem TwoX.step1 (h:TwoX X H0 H p m L T t nv mv nx mr Y T2) (u:UpdI p m L T L' T' H H'):TwoX X H0 H' p m L' T' t nv mv nx mr Y T2:=by
 obtain ⟨q1,q2,q3⟩:=h.upd (h.ow.set (k:=0) rfl u.upd)
 exact ⟨q1,q2,q3,u.cov,h.len,h.fit⟩
theorem TwoX.step2 (h:TwoX X H0 H p m L T t nv mv nx mr Y T2) (u:UpdR t nv mv nx mr Y T2 nv' Y' T2' H H'):TwoX X H0 H' p m L T t nv' mv nx mr Y' T2':=by
 obtain ⟨q1,q2,q3⟩:=h.upd (h.ow.set (k:=1) rfl u.upd)
 exact ⟨q1,q2,q3,h.cov,u.len,u.fit⟩
theorem TwoX.mono (h:TwoX X H0 H p m L T t nv mv nx mr Y T2) (e:Ext H H'):TwoX X H0 H' p m L T t nv mv nx mr Y T2:=h.step1 (h.ino.same e)
theorem TwoX.box (h:TwoX X H0 H p m L T t nv mv nx mr Y T2) (c:List Value):TwoX (X++[boxR H.next c]) H0 (H.new (.cells c none)) p m L T t nv mv nx mr Y T2:=by
 obtain ⟨q1,q2,q3⟩:=h.upd (h.ow.add (boxR H.next c) ((Ext.refl H).new _) (AH.get_new_self _ _) (fun b hb=>by simp [boxR] at hb; subst hb; simp) (by simp [boxR]))
 exact ⟨q1,q2,q3,h.cov,h.len,h.fit⟩
theorem TwoX.held {k:Nat} {c:List Value} (h:TwoX (X++[boxR k c]) H0 H p m L T t nv mv nx mr Y T2):H.get k = .cells c none:=h.ow.holds (boxR k c) (by simp)
theorem TwoX.drop {r:Res} (h:TwoX (X++[r]) H0 H p m L T t nv mv nx mr Y T2):TwoX X H0 H p m L T t nv mv nx mr Y T2:=by
 have u:=h.ow.erase (X.length+2)
 have e:(inoR p m L T :: refR t nv mv nx mr Y T2 :: (X++[r])).eraseIdx (X.length+2)=inoR p m L T :: refR t nv mv nx mr Y T2 :: X:=by simp [List.eraseIdx_append]
 rw [e] at u
 obtain ⟨q1,q2,q3⟩:=h.upd u
 exact ⟨q1,q2,q3,h.cov,h.len,h.fit⟩
theorem Tr.WF.small (h:T.WF):T.small:=fun n=>by have:=h.size n; omega
theorem TwoX.cMake (hE:Fold E) (h:TwoX X H0 H p m L T t nv mv nx mr Y T2) (w:T.WF) (n:BitVec 16) (s:NameL) (hs:s.length<2 ^ 63) (k:BitVec 8) (text:List UInt8) (ht:text.length<2 ^ 63) (hc : -9223372036854775808<=T.change/\T.change<9223372036854775807)
  (hQ:∀ L' H',TwoX X H0 H' p m L' (T.make n s k text).1 t nv mv nx mr Y T2->Q (.tuple #[u16 (T.make n s k text).2.1,vi (T.make n s k text).2.2]) H'):E.call (E.fid i.f9) [ptr p 0,u16 n,str s,u8 k,str text] H Q:=by
 have hlen:=w.len16
 have hl2:=w.len.1
 exact S.f9 hE h.ino n s hs k text ht hc ⟨by omega,by omega⟩ (fun _ r=>w.chain ⟨(Tr.room_ok r).1,(Tr.room_ok r).2.2.1⟩ 17) fun L1 H1 _ u1=>hQ _ _ (h.step1 u1)
theorem TwoX.rMake (hE:Fold E) (h:TwoX X H0 H p m L T t nv mv nx mr Y T2) (w:T2.WF) (n:BitVec 16) (s:NameL) (hs:s.length<2 ^ 63) (k:BitVec 8) (text:List UInt8) (hc : -9223372036854775808<=T2.change/\T2.change<9223372036854775807)
  (hQ:∀ nv' Y' H',TwoX X H0 H' p m L T t nv' mv nx mr Y' (T2.make n s k text).1->Q (.tuple #[vi ((T2.make n s k text).2.1.toNat:Int),vi (T2.make n s k text).2.2]) H'):E.call (E.fid i.f70) [ptr t 0,vi (n.toNat:Int),str s,vi (k.toNat:Int),str text] H Q:=by
 have hlen:=w.len16
 have hl2:=w.len.1
 exact S.f70 hE h.ref w.small n s hs k text hc ⟨by omega,by omega⟩ (fun _ r=>w.deep20 ⟨(Tr.room_ok r).1,(Tr.room_ok r).2.2.1⟩) fun nv2 Y2 H2 u2=>hQ _ _ _ (h.step2 u2)
theorem Tr.WF.look_bd (w:T.WF) (n:BitVec 16) (s:NameL) (h:(T.look n s).2=0):(T.node (T.look n s).1).kind≠0#8/\0<=(T.node (T.look n s).1).links/\(T.node (T.look n s).1).links<=8224 :=
 ⟨(w.pos (Tr.look_ok h).2).2.2.2.1,(w.links_bd _).1,(w.links_bd _).2⟩
theorem TwoX.cAdd (hE:Fold E) (h:TwoX X H0 H p m L T t nv mv nx mr Y T2) (w:T.WF) (n:BitVec 16) (s:NameL) (hs:s.length<2 ^ 63) (v:BitVec 16) (hc : -9223372036854775808<=T.change/\T.change<9223372036854775807)
  (hQ:∀ L' H',TwoX X H0 H' p m L' (T.add n s v).1 t nv mv nx mr Y T2->Q (vi (T.add n s v).2) H'):E.call (E.fid i.f3) [ptr p 0,u16 n,str s,u16 v] H Q :=
 S.f3 hE h.ino n s hs v hc (w.links_bd v).1 fun L1 H1 _ u1=>hQ _ _ (h.step1 u1)
theorem TwoX.rAdd (hE:Fold E) (h:TwoX X H0 H p m L T t nv mv nx mr Y T2) (w:T2.WF) (n:BitVec 16) (s:NameL) (hs:s.length<2 ^ 63) (v:BitVec 16) (hc : -9223372036854775808<=T2.change/\T2.change<9223372036854775807)
  (hQ:∀ Y' H',TwoX X H0 H' p m L T t nv mv nx mr Y' (T2.add n s v).1->Q (vi (T2.add n s v).2) H'):E.call (E.fid i.f60) [ptr t 0,vi (n.toNat:Int),str s,vi (v.toNat:Int)] H Q :=
 S.f60 hE h.ref w.small n s hs v hc (w.links_bd v).1 fun Y2 H2 u2=>hQ _ _ (h.step2 u2)
theorem TwoX.cDrop (hE:Fold E) (h:TwoX X H0 H p m L T t nv mv nx mr Y T2) (w:T.WF) (n:BitVec 16) (s:NameL) (d:Bool) (hc : -9223372036854775808<=T.change/\T.change<9223372036854775807)
  (hQ:∀ L' H',TwoX X H0 H' p m L' (T.drop n s d).1 t nv mv nx mr Y T2->Q (vi (T.drop n s d).2) H'):E.call (E.fid i.f5) [ptr p 0,u16 n,str s,vb d] H Q :=
 S.f5 hE h.ino n s d hc (fun e=>by have:=w.look_bd n s e; exact ⟨this.1,by omega,by omega⟩) fun L1 H1 _ _ u1=>hQ _ _ (h.step1 u1)
theorem TwoX.rDrop (hE:Fold E) (h:TwoX X H0 H p m L T t nv mv nx mr Y T2) (w:T2.WF) (n:BitVec 16) (s:NameL) (d:Bool) (hc : -9223372036854775808<=T2.change/\T2.change<9223372036854775807)
  (hQ:∀ Y' H',TwoX X H0 H' p m L T t nv mv nx mr Y' (T2.drop n s d).1->Q (vi (T2.drop n s d).2) H'):E.call (E.fid i.f65) [ptr t 0,vi (n.toNat:Int),str s,vb d] H Q :=
 S.f65 hE h.ref w.small n s d hc (fun e=>by have:=w.look_bd n s e; exact ⟨this.1,by omega,by omega⟩) (by have:=w.size n; omega) fun Y2 H2 u2=>hQ _ _ (h.step2 u2)
theorem TwoX.cHold (hE:Fold E) (h:TwoX X H0 H p m L T t nv mv nx mr Y T2) (w:T.WF) (n:BitVec 16) (more:Bool) (hb:(T.node n).held<9223372036854775807)
  (hQ:∀ L' H',TwoX X H0 H' p m L' (T.hold n more).1 t nv mv nx mr Y T2->Q (vi (T.hold n more).2) H'):E.call (E.fid i.f7) [ptr p 0,u16 n,vb more] H Q:=by
 refine S.f7 hE h.ino n more ⟨w.held n,hb⟩ ?_
 intros
 apply hQ
 rename_i u1
 exact h.step1 u1
theorem TwoX.rHold (hE:Fold E) (h:TwoX X H0 H p m L T t nv mv nx mr Y T2) (w:T2.WF) (n:BitVec 16) (more:Bool) (hb:(T2.node n).held<9223372036854775807)
  (hQ:∀ Y' H',TwoX X H0 H' p m L T t nv mv nx mr Y' (T2.hold n more).1->Q (vi (T2.hold n more).2) H'):E.call (E.fid i.f67) [ptr t 0,vi (n.toNat:Int),vb more] H Q :=
 S.f67 hE h.ref n more ⟨w.held n,hb⟩ fun Y2 H2 u2=>hQ _ _ (h.step2 u2)
theorem TwoX.cMove (hE:Fold E) (h:TwoX X H0 H p m L T t nv mv nx mr Y T2) (w:T.WF) (fr to:BitVec 16) (s other:NameL) (hs:other.length<2 ^ 63) (hc : -9223372036854775808<=T.change/\T.change<9223372036854775806)
  (hQ:∀ L' H',TwoX X H0 H' p m L' (T.move fr s to other).1 t nv mv nx mr Y T2->Q (vi (T.move fr s to other).2) H'):E.call (E.fid i.f10) [ptr p 0,u16 fr,str s,u16 to,str other] H Q:=by
 exact S.f10 hE h.ino fr to s other hs hc (fun e=>(w.look_bd fr s e).1) (fun _ hk h1=>w.chain ⟨hk,h1⟩ 17) (f:=17) (fun e hk=>w.fits17 (w.look_live (Tr.look_ok e).2 hk)) (by omega)
  (fun y hk hy=>⟨(w.pos hy).2.2.2.1,(w.links_bd y).1,by have:=(w.links_bd y).2; omega⟩) fun L1 H1 _ _ u1=>hQ _ _ (h.step1 u1)
theorem TwoX.rMove (hE:Fold E) (h:TwoX X H0 H p m L T t nv mv nx mr Y T2) (w:T2.WF) (fr to:BitVec 16) (s other:NameL) (hs:other.length<2 ^ 63) (hc : -9223372036854775808<=T2.change/\T2.change<9223372036854775806)
  (hQ:∀ Y' H',TwoX X H0 H' p m L T t nv mv nx mr Y' (T2.move fr s to other).1->Q (vi (T2.move fr s to other).2) H'):E.call (E.fid i.f71) [ptr t 0,vi (fr.toNat:Int),str s,vi (to.toNat:Int),str other] H Q :=
 S.f71 hE h.ref w.small fr to s other hs hc (fun e=>(w.look_bd fr s e).1) (fun _ h1 hk=>⟨w.deep20 ⟨hk,h1⟩,w.within20 ⟨hk,h1⟩ _⟩) (f:=17) (fun e hk=>w.fits17 (w.look_live (Tr.look_ok e).2 hk)) (by omega)
  (fun y hk hy=>⟨(w.pos hy).2.2.2.1,(w.links_bd y).1,by have:=(w.links_bd y).2; omega⟩) (fun _=>(w.rising to).nodup) ⟨by have:=w.size fr; omega,by have:=w.size to; omega⟩ fun Y2 H2 u2=>hQ _ _ (h.step2 u2)
theorem TwoX.cWrite (hE:Fold E) (h:TwoX X H0 H p m L T t nv mv nx mr Y T2) (w:T.WF) (n:BitVec 16) (at_:Int) (v:Value) (b:List (BitVec 8)) (hv:Rows H 1 v (byteR b)) (hb:b.length<2 ^ 63) (hat : -9223372036854775808<=at_/\at_<9223372036854775808) (hc : -9223372036854775808<=T.change/\T.change<9223372036854775807)
  (hQ:∀ L' H',TwoX X H0 H' p m L' (T.write n at_ b).1 t nv mv nx mr Y T2->Q (vi (T.write n at_ b).2) H'):E.call (E.fid i.f12) [ptr p 0,u16 n,vi at_,v] H Q :=
 S.f12 hE h.ino n at_ v b hv hb hc hat (by have:=w.data n; omega) fun L1 H1 _ u1=>hQ _ _ (h.step1 u1)
theorem TwoX.rWrite (hE:Fold E) (h:TwoX X H0 H p m L T t nv mv nx mr Y T2) (w:T2.WF) (n:BitVec 16) (at_:Int) (v:Value) (b:List (BitVec 8)) (hv:Rows H 1 v (byteR b)) (hb:b.length<2 ^ 62) (hc : -9223372036854775808<=T2.change/\T2.change<9223372036854775807)
  (hQ:∀ Y' H',TwoX X H0 H' p m L T t nv mv nx mr Y' (T2.write n at_ b).1->Q (vi (T2.write n at_ b).2) H'):E.call (E.fid i.f76) [ptr t 0,vi (n.toNat:Int),vi at_,v] H Q :=
 S.f76 hE h.ref n at_ v b hv hb hc (by have:=w.data n; omega) fun Y2 H2 u2=>hQ _ _ (h.step2 u2)
theorem TwoX.cCut (hE:Fold E) (h:TwoX X H0 H p m L T t nv mv nx mr Y T2) (w:T.WF) (n:BitVec 16) (size:Int) (hc : -9223372036854775808<=T.change/\T.change<9223372036854775807)
  (hQ:∀ L' H',TwoX X H0 H' p m L' (T.cut n size).1 t nv mv nx mr Y T2->Q (vi (T.cut n size).2) H'):E.call (E.fid i.f4) [ptr p 0,u16 n,vi size] H Q:=by
 exact S.f4 hE h.ino n size hc fun L1 H1 _ u1=>hQ _ _ (h.step1 u1)
theorem TwoX.rCut (hE:Fold E) (h:TwoX X H0 H p m L T t nv mv nx mr Y T2) (w:T2.WF) (n:BitVec 16) (size:Int) (hc : -9223372036854775808<=T2.change/\T2.change<9223372036854775807)
  (hQ:∀ Y' H',TwoX X H0 H' p m L T t nv mv nx mr Y' (T2.cut n size).1->Q (vi (T2.cut n size).2) H'):E.call (E.fid i.f62) [ptr t 0,vi (n.toNat:Int),vi size] H Q :=
 S.f62 hE h.ref n size hc (by have:=w.data n; omega) fun Y2 H2 u2=>hQ _ _ (h.step2 u2)
end
end Go.AM
end
section
namespace Go.AM
theorem Ow.perm {rs rs':List Res} {H:AH} (h:Ow (joinR rs) H) (hp:rs.Perm rs'):Ow (joinR rs') H :=
 ⟨fun r hr=>h.holds r (hp.mem_iff.2 hr),fun b hb=>h.lt b ((hp.flatMap_right Res.fp).mem_iff.2 hb),(hp.flatMap_right Res.fp).nodup_iff.1 h.nd⟩
def wkRs (p m:Nat) (L:LyL) (T:Tr) (q:Nat) (v:Value) (M:List MntD) (nx:Int) (w:Nat) (X:List Res):List Res:=inoR p m L T :: tabR q v M nx :: boxR w [ptr p 0,ptr q 0] :: X
def WkO (X:List Res) (H0 H:AH) (w:Nat) (T:Tr) (M:List MntD) (nx:Int):Prop :=
 ∃ p m L q v,Ext H0 H/\Ow (joinR (wkRs p m L T q v M nx w X)) H/\(∀ b∈(joinR (wkRs p m L T q v M nx w X)).fp,H0.next<=b)/\Cov L T/\TabOk M nx
section
variable {E:Sy} {X:List Res} {H H' H0 Z:AH} {Q:Value->AH->Prop} {w:Nat} {T T':Tr} {M M':List MntD} {nx nx':Int} {L:List Res}
theorem WkO.ext (h:WkO X H0 H w T M nx):Ext H0 H:=by obtain ⟨_,_,_,_,_,h,_⟩:=h; exact h
theorem WkO.tab (h:WkO X H0 H w T M nx):TabOk M nx:=by obtain ⟨_,_,_,_,_,_,_,_,_,h⟩:=h; exact h
theorem own_upd {r r':Res} (e:Ext H0 H) (o:Ow r H) (own:∀ b∈r.fp,H0.next<=b) (u:Upd r r' H H'):Ext H0 H'/\Ow r' H'/\∀ b∈r'.fp,H0.next<=b :=
 ⟨u.only.ext e own,o.upd u,fun b hb=>(u.fp b hb).1.elim (own b) fun k=>Nat.le_trans e.1 k⟩
theorem WkO.open_ (h:WkO X H0 H w T M nx):∃ p q,H.get w = .cells [ptr p 0,ptr q 0] none /\
  (∃ m L,Ino H p m L T/\∀ L' T' H',UpdI p m L T L' T' H H'->WkO X H0 H' w T' M nx) /\
  (∃ v,(tabR q v M nx).P H/\(tabR q v M nx).fp.Nodup/\∀ v' M' nx' H',Upd (tabR q v M nx) (tabR q v' M' nx') H H'->TabOk M' nx'->WkO X H0 H' w T M' nx'):=by
 obtain ⟨p,m,L,q,v,e,o,own,cov,tab⟩:=h
 refine ⟨p,q,o.holds (boxR w [ptr p 0,ptr q 0]) (by simp [wkRs]),⟨m,L,⟨o.part (k:=0) rfl,cov⟩,fun L' T' H' u =>?_⟩,⟨v,o.holds (tabR q v M nx) (by simp [wkRs]),(o.part (k:=1) rfl).nd,fun v' M' nx' H' u ok =>?_⟩⟩
 ·obtain ⟨a,b,c⟩:=own_upd e o own (o.set (k:=0) rfl u.upd)
  exact ⟨p,m,L',q,v,a,b,c,u.cov,tab⟩
 ·obtain ⟨a,b,c⟩:=own_upd e o own (o.set (k:=1) rfl u)
  exact ⟨p,m,L,q,v',a,b,c,cov,ok⟩
theorem WkO.openX (h:WkO X H0 H w T M nx) {k:Nat} {r:Res} (hk:X[k]? = some r):Ow r H/\∀ r' H',Upd r r' H H'->WkO (X.set k r') H0 H' w T M nx:=by
 obtain ⟨p,m,L,q,v,e,o,own,cov,tab⟩:=h
 have hk':(wkRs p m L T q v M nx w X)[k+3]? = some r:=by simpa [wkRs] using hk
 refine ⟨o.part hk',fun r' H' u =>?_⟩
 obtain ⟨a,b,c⟩:=own_upd e o own (o.set hk' u)
 exact ⟨p,m,L,q,v,a,b,c,cov,tab⟩
theorem WkO.mono (h:WkO X H0 H w T M nx) (e:Ext H H'):WkO X H0 H' w T M nx:=by
 obtain ⟨p,m,L,q,v,e0,o,own,cov,tab⟩:=h
 exact ⟨p,m,L,q,v,e0.trans e,o.mono e,own,cov,tab⟩
theorem WkO.add (h:WkO X H0 H w T M nx) {r:Res} (n:NewRes r H H'):WkO (X++[r]) H0 H' w T M nx:=by
 obtain ⟨p,m,L,q,v,e0,o,own,cov,tab⟩:=h
 obtain ⟨a,b,c⟩:=own_upd e0 o own (o.add r n.1 n.2.1 n.2.2.1 n.2.2.2)
 exact ⟨p,m,L,q,v,a,b,c,cov,tab⟩
theorem newbox (H:AH) (c:List Value):NewRes (boxR H.next c) H (H.new (.cells c none)):=⟨(Ext.refl H).new _,AH.get_new_self _ _,fun b hb=>by simp [boxR] at hb; subst hb; simp,by simp [boxR]⟩
theorem WkO.box (h:WkO X H0 H w T M nx) (c:List Value):WkO (X++[boxR H.next c]) H0 (H.new (.cells c none)) w T M nx:=h.add (newbox H c)
theorem WkO.drop {r:Res} (h:WkO (X++[r]) H0 H w T M nx):WkO X H0 H w T M nx:=by
 obtain ⟨p,m,L,q,v,e0,o,own,cov,tab⟩:=h
 have u:=o.erase (X.length+3)
 have e:(wkRs p m L T q v M nx w (X++[r])).eraseIdx (X.length+3)=wkRs p m L T q v M nx w X:=by simp [wkRs,List.eraseIdx_append]
 rw [e] at u
 obtain ⟨a,b,c⟩:=own_upd e0 o own u
 exact ⟨p,m,L,q,v,a,b,c,cov,tab⟩
theorem WkO.held {k:Nat} {c:List Value} (h:WkO (X++[boxR k c]) H0 H w T M nx):H.get k = .cells c none:=(h.openX (k:=X.length) (r:=boxR k c) (by simp)).1.holds
theorem WkO.put {k:Nat} {c:List Value} (h:WkO (X++[boxR k c]) H0 H w T M nx) (c':List Value):WkO (X++[boxR k c']) H0 (H.put k (.cells c' none)) w T M nx:=by
 have:=(h.openX (k:=X.length) (r:=boxR k c) (by simp)).2 _ _ (boxR.put h.held c')
 rwa [set_last] at this
theorem WkO.at_ (h:WkO X H0 H w T M nx):WkAt H w T M:=by
 obtain ⟨p,q,hw,⟨m,L,hi,_⟩,⟨v,ht,_,_⟩⟩:=h.open_
 have:=h.tab.len
 exact ⟨⟨p,m,L,q,nx,hw,hi,tabR.at_ ht (by omega)⟩,h.tab.older⟩
theorem WkO.two {t:Nat} {nv mv:Value} {mr:List (List Value)} {Y:List RLy} {T2:Tr} {rx:Int} (h:WkO (refR t nv mv rx mr Y T2 :: X) H0 H w T M nx) (hl:Y.length=T2.N.length) (hf:T2.N.length<=60000) :
  ∃ p q v m L,TwoX (tabR q v M nx :: boxR w [ptr p 0,ptr q 0] :: X) H0 H p m L T t nv mv rx mr Y T2 /\
   ∀ L' T' nv' Y' T2' H',TwoX (tabR q v M nx :: boxR w [ptr p 0,ptr q 0] :: X) H0 H' p m L' T' t nv' mv rx mr Y' T2'->WkO (refR t nv' mv rx mr Y' T2' :: X) H0 H' w T' M nx:=by
 obtain ⟨p,m,L,q,v,e0,o,own,cov,tab⟩:=h
 have perm:∀ (a b c d:Res),(a :: b :: c :: d :: X).Perm (a :: d :: b :: c :: X):=fun a b c d=>by
  refine .cons _ ?_
  exact (List.Perm.cons _ (.swap _ _ _)).trans (.swap _ _ _)
 refine ⟨p,q,v,m,L,⟨e0,o.perm (perm _ _ _ _),fun b hb=>own b (((perm _ _ _ _).flatMap_right Res.fp).mem_iff.2 hb),cov,hl,hf⟩,fun L' T' nv' Y' T2' H' h2 =>?_⟩
 exact ⟨p,m,L',q,v,h2.ext,h2.ow.perm (perm _ _ _ _).symm,fun b hb=>h2.own b (((perm _ _ _ _).flatMap_right Res.fp).mem_iff.1 hb),h2.cov,tab⟩
theorem S.f107 (hE:Fold E) (limit:Int) (hQ:∀ w H',WkO [] H H' w (Tr.new limit) tab0 1->Q (ptr w 0) H'):E.call (E.fid i.f107) [vi limit] H Q:=by
 apply hE.f107
 simp only [F.f107]
 refine S.f2' hE limit fun p m L H1 h1 =>?_
 refine S.f27 hE fun q v H2 n2 =>?_
 have hb:buildV [(0,1),(1,1)] #[(.pointer none),(.pointer none)] [(0,ptr p 0),(1,ptr q 0)]=some (.agg #[ptr p 0,ptr q 0]):=rfl
 simp only [hb,boxO_agg_z,AM.mk_some,mkPtr_eq_z,stdZ]
 refine hQ H2.next _ ⟨p,m,L,q,v,?_⟩
 have o1:Ow (joinR [inoR p m L (Tr.new limit)]) H1:=by
  refine ⟨fun r hr=>by rw [List.mem_singleton] at hr; rw [hr]; exact h1.ino.ow.holds,?_,?_⟩
  ·intro b hb; exact h1.ino.ow.lt b (by simpa [joinR] using hb)
  ·simpa [joinR] using h1.ino.ow.nd
 have own1:∀ b∈(joinR [inoR p m L (Tr.new limit)]).fp,H.next<=b:=fun b hb=>h1.own b (by simpa [joinR] using hb)
 obtain ⟨a2,b2,c2⟩:=own_upd h1.ext o1 own1 (o1.add _ n2.1 n2.2.1 n2.2.2.1 n2.2.2.2)
 have n3:=newbox H2 [ptr p 0,ptr q 0]
 obtain ⟨a3,b3,c3⟩:=own_upd a2 b2 c2 (b2.add _ n3.1 n3.2.1 n3.2.2.1 n3.2.2.2)
 exact ⟨a3,b3,c3,h1.ino.cov,tabOk0⟩
end
end Go.AM
end
