/- CONTRACTS ON THE PRINTED FUNCTIONS. -/
import Derived.Test.YtgeenpollgalkaaGreatDoorV3d26C1
set_option linter.all false
section
namespace Go.AM
section
variable {E:Sy} {H0 H H' H'' H1:AH} {Q:Value->AH->Prop} {t:Nat} {nv nv' nv'' mv:Value} {nx:Int} {mr:List (List Value)} {Y Y' Y'':List RLy} {T T' T'':Tr}
def mntTop:List (List Value):=[MntI.cells ⟨0,1,PlaceI.zero,0⟩]
theorem S.f54 (hE:Fold E) (limit:Int) (hQ:∀ t nv mv Y H',Ext H H'->RefT H' t nv mv 1 mntTop Y (Tr.new limit)->(∀ b∈(refR t nv mv 1 mntTop Y (Tr.new limit)).fp,H.next<=b)->Q (ptr t 0) H'):E.call (E.fid i.f54) [vi limit] H Q:=by
 apply hE.f54
 have e1:(if (1:Int) > limit then 1 else limit)=max limit 1:=by omega
 have e2:∀ x:Int,(if (256:Int)<x then 256 else x)=min x 256:=fun x=>by omega
 have hb1:buildV [(0,1),(1,1),(2,1),(3,1),(4,1),(5,1),(6,1)] #[(.int .i64 0),(.slice none 0 0),(.slice none 0 0),(.int .i64 0),(.string ⟨#[]⟩),(.int .i64 0),(.int .i64 0)] []=some (NodeI.v NodeI.zero):=rfl
 have hb2:buildV [(0,1),(1,1),(2,1),(3,1),(4,1),(5,1),(6,1)] #[(.int .i64 0),(.slice none 0 0),(.slice none 0 0),(.int .i64 0),(.string ⟨#[]⟩),(.int .i64 0),(.int .i64 0)] [(0,(.int .i64 2)),(3,(.int .i64 1)),(5,(.int .i64 1))]=some (NodeI.v ⟨2,nilS,nilS,1,[],1,0⟩):=rfl
 have hb3:buildS 2 7 #[(.int .i64 0),(.slice none 0 0),(.slice none 0 0),(.int .i64 0),(.string ⟨#[]⟩),(.int .i64 0),(.int .i64 0)] [(0,NodeI.v NodeI.zero),(1,NodeI.v ⟨2,nilS,nilS,1,[],1,0⟩)]=some (.cells (NodeI.zero.cells++(⟨2,nilS,nilS,1,[],1,0⟩:NodeI).cells) none,mkSlc 2 2):=NodeI.buildS [NodeI.zero,⟨2,nilS,nilS,1,[],1,0⟩]
 have hb4:buildV [(0,1),(1,1),(2,2),(4,1)] #[(.int .i64 0),(.int .i64 0),(.int .i64 0),(.int .i64 0),(.int .i64 0)] [(1,(.int .i64 1))]=some (MntI.v ⟨0,1,PlaceI.zero,0⟩):=rfl
 have hb5:buildS 1 5 #[(.int .i64 0),(.int .i64 0),(.int .i64 0),(.int .i64 0),(.int .i64 0)] [(0,MntI.v ⟨0,1,PlaceI.zero,0⟩)]=some (.cells (MntI.cells ⟨0,1,PlaceI.zero,0⟩) none,mkSlc 1 1):=MntI.build1 _
 generalize hlim:min (max limit 1) 256=lim
 have hb6:∀ a b,buildV [(0,1),(1,1),(2,1),(3,1),(4,1)] #[(.slice none 0 0),(.int .i64 0),(.slice none 0 0),(.int .i64 0),(.int .i64 0)] [(0,slc a 0 2 2),(1,vi lim),(2,slc b 0 1 1),(3,(.int .i64 1))]=some (TreeI.v ⟨slc a 0 2 2,lim,slc b 0 1 1,1,0⟩):=fun _ _=>rfl
 have hmm:(fold2 max2 [vi limit,(.int .i64 1)])=some (vi (max limit 1)):=by simp [e1]
 have hmn:(fold2 min2 [vi (max limit 1),(.int .i64 256)])=some (vi lim):=by simp [e2,hlim]
 have hbx:∀ x:TreeI,boxO (TreeI.v x)=some (.cells x.cells none,fun b=>ptr b 0):=fun x=>rfl
 simp only [F.f54,hb1,hb2,hb3,hb4,hb5,hmm,hmn,AM.mk_some,mkSlc_eq,hb6,hbx,tk_eq,opt_some]
 have hT:Tr.new limit=⟨[Nd.none,{ Nd.none with kind:=2#8,parent:=1#16,links:=1 }],lim,0⟩:=by unfold Tr.new; rw [hlim]
 rw [hT] at hQ
 refine hQ (H.next+2) (slc H.next 0 2 2) (slc (H.next+1) 0 1 1) [⟨nilS,nilS⟩,⟨nilS,nilS⟩] _ ((((Ext.refl H).new _).new _).new _) ⟨⟨?_,?_,?_⟩,rfl,by simp⟩ ?_
 ·intro r hr
  simp only [refRs,List.zip,List.zipWith,List.map_cons,List.map_nil,List.mem_cons,List.not_mem_nil,or_false] at hr
  have g0:((((H.new (.cells (NodeI.zero.cells++(⟨2,nilS,nilS,1,[],1,0⟩:NodeI).cells) none)).new (.cells (MntI.cells ⟨0,1,PlaceI.zero,0⟩) none)).new (.cells (TreeI.cells ⟨slc H.next 0 2 2,lim,slc (H.next+1) 0 1 1,1,0⟩) none))).get H.next = .cells (NodeI.zero.cells++(⟨2,nilS,nilS,1,[],1,0⟩:NodeI).cells) none:=by
   rw [AH.get_new_ne _ _ (by simp; omega),AH.get_new_ne _ _ (by simp),AH.get_new_self]
  have g1:((((H.new (.cells (NodeI.zero.cells++(⟨2,nilS,nilS,1,[],1,0⟩:NodeI).cells) none)).new (.cells (MntI.cells ⟨0,1,PlaceI.zero,0⟩) none)).new (.cells (TreeI.cells ⟨slc H.next 0 2 2,lim,slc (H.next+1) 0 1 1,1,0⟩) none))).get (H.next+1) = .cells (MntI.cells ⟨0,1,PlaceI.zero,0⟩) none:=by
   rw [AH.get_new_ne _ _ (by simp)]
   exact AH.get_new_self _ _
  have g2:((((H.new (.cells (NodeI.zero.cells++(⟨2,nilS,nilS,1,[],1,0⟩:NodeI).cells) none)).new (.cells (MntI.cells ⟨0,1,PlaceI.zero,0⟩) none)).new (.cells (TreeI.cells ⟨slc H.next 0 2 2,lim,slc (H.next+1) 0 1 1,1,0⟩) none))).get (H.next+2) = .cells (TreeI.cells ⟨slc H.next 0 2 2,lim,slc (H.next+1) 0 1 1,1,0⟩) none:=AH.get_new_self _ _
  rcases hr with rfl | rfl | rfl | rfl | rfl
  ·exact g2
  ·exact Grow.made (f:=none) (zH_get _) (g0.trans rfl) (.inl rfl) rfl (by
    intro r hr
    simp only [nodeRows,List.zip,List.zipWith,List.map_cons,List.map_nil,List.mem_cons,List.not_mem_nil,or_false] at hr
    rcases hr with rfl | rfl <;> exact ⟨rfl,rfl⟩)
  ·exact Grow.made (f:=none) (zH_get _) (g1.trans rfl) (.inl rfl) rfl (by
    intro r hr
    simp only [mntTop,List.mem_cons,List.not_mem_nil,or_false] at hr
    subst hr
    exact ⟨rfl,rfl⟩)
  ·intro r hr
   simp only [List.mem_cons,List.not_mem_nil,or_false] at hr
   rcases hr with rfl | rfl
   ·exact Grow.nil _ _ _
   ·exact Grow.nil _ _ _
  ·intro r hr
   simp only [List.mem_cons,List.not_mem_nil,or_false] at hr
   rcases hr with rfl | rfl
   ·exact Grow.nil _ _ _
   ·exact Grow.nil _ _ _
 ·intro b hb
  simp [refR,joinR,refRs,boxR,growR,nodeRR,blkL,blk] at hb ⊢
  omega
 ·simp [refR,joinR,refRs,boxR,growR,nodeRR,blkL,blk]
 ·intro b hb
  simp [refR,joinR,refRs,boxR,growR,nodeRR,blkL,blk] at hb
  omega
end
end Go.AM
end
section
namespace Go.AM
theorem Grow.cut {Z H:AH} {sz:Nat} {v:Value} {rows:List (List Value)} (h:Grow Z H sz v rows) {k:Nat} (hk:k<=rows.length) :
  ∃ v',slSlc sz v none (some (vi k)) none H=some v'/\Grow Z H sz v' (rows.take k)/\blk v'=blk v:=by
 have hs:=(h.toRows.slice' (lo:=none) (hi:=some (vi k)) (i:=0) (j:=k) (.inr ⟨rfl,rfl⟩) (.inl rfl) (Nat.zero_le _) hk).1
 refine ⟨_,hs,?_⟩
 rcases h.2 with ⟨rfl,rfl⟩ | ⟨b,f,c,cs,g1,rfl,g3,g4,g5,g6,g7⟩
 ·have:k=0:=by simpa using hk
  subst this
  exact ⟨⟨by simp,.inl ⟨by simp,rfl⟩⟩,rfl⟩
 ·have e:sliceV sz (slc b 0 rows.length c) 0 k=slc b 0 k c:=by
   simp [sliceV,Addr.add]
  rw [e]
  refine ⟨⟨fun r hr=>h.1 r (List.mem_of_mem_take hr),.inr ⟨b,f,c,cs,g1,by rw [List.length_take,Nat.min_eq_left hk],g3,by rw [List.length_take]; omega,g5,?_,g7⟩⟩,rfl⟩
  rw [List.length_take,Nat.min_eq_left hk,<- flatten_take rows (fun r hr=>(h.1 r hr).1),<- g6,List.take_take,Nat.min_eq_left (Nat.mul_le_mul_right _ hk)]
theorem byteR_set (l:List (BitVec 8)) (i:Nat) (x:BitVec 8):byteR (l.set i x)=(byteR l).set i [u8 x]:=by simp [byteR,List.map_set]
theorem byteR_append (a b:List (BitVec 8)):byteR (a++b)=byteR a++byteR b:=by simp [byteR]
theorem byteR_take (a:List (BitVec 8)) (k:Nat):byteR (a.take k)=(byteR a).take k:=by simp [byteR,List.map_take]
section
variable {E:Sy} {H0 H H' H'' H1:AH} {Q:Value->AH->Prop} {t:Nat} {nv nv' nv'' mv:Value} {nx:Int} {mr:List (List Value)} {Y Y' Y'':List RLy} {T T' T'':Tr}
theorem RefT.newD (h:RefT H t nv mv nx mr Y T) {n:BitVec 16} (hn:n.toNat<T.N.length) {y:RLy} (hy:Y[n.toNat]? = some y) {b o:Nat} (hp:ixSlc 7 nv (vi (n.toNat:Int))=some (ptr b o)) (f:Nd->Nd)
  (hf:∀ x:Nd,(f x).ents=x.ents) {v':Value} (e:Ext H H1) (g:Grow zH H1 1 v' (byteR (f (T.node n)).data)) (fr:FreshV H.next v') (hc:(refI (f (T.node n)) { y with data:=v' }).cells=(refI (T.node n) y).cells.set 1 v') :
  ∃ H',store1 (ptr b (o+1)) v' H1=some H'/\UpdR t nv mv nx mr Y T nv (Y.set n.toNat { y with data:=v' }) (T.upd n f) H H' :=
 h.cell hn hy hp f _ (nodeRR.setD (h.node_y hn hy) (hf _) e g fr) (by omega) g.plain hc
theorem zero_more {H0 H:AH} {v:Value} {l:List (BitVec 8)} (g:Grow zH H 1 v (byteR l)) (e:Ext H0 H) (f:FreshV H0.next v) (hl:l.length<2 ^ 40) :
  ∃ v' H',AM.app 1 1 v (slc H.next 0 1 1) (H.new (.cells [u8 0#8] none))=some (v',H')/\Grow zH H' 1 v' (byteR (l++[0#8]))/\Ext H0 H'/\FreshV H0.next v':=by
 obtain ⟨v',H',a1,a2,a3⟩:=g.app1 (Nat.zero_le _) (bytes:=1) [u8 0#8] rfl rfl (by decide) (by decide) (by rw [byteR_length]; omega)
 obtain ⟨q1,q2⟩:=grew_ext a3 e f
 refine ⟨v',H',a1,?_,q1,q2⟩
 rw [byteR_append]; exact a2
theorem S.f57 (hE:Fold E) (h:RefT H t nv mv nx mr Y T) (n:BitVec 16) (size:Int) (hc : -9223372036854775808<=T.change/\T.change<9223372036854775807) (hdl:(T.node n).data.length<2 ^ 39)
  (hQ:∀ Y' H',UpdR t nv mv nx mr Y T nv Y' (T.cut n size).1 H H'->Q (vi (T.cut n size).2) H'):E.call (E.fid i.f57) [ptr t 0,vi (n.toNat:Int),vi size] H Q:=by
 apply hE.f57
 simp only [F.f57]
 refine S.f64 hE h n fun b o y H1 e1 hn hat =>?_
 obtain ⟨c0,c1,_⟩:=hn.cell
 have k1:=kind1 (T.node n).kind
 have k2:=kind2 (T.node n).kind
 have k0:=kind0 (T.node n).kind
 unfold Tr.cut at hQ
 by_cases g0:(T.node n).kind=0#8
 ·simp [g0] at hQ
  simp only [nilCk_p,addOff_ptr,load1_ptr,Nat.add_zero,c0,i64_eql,k0,eq_true g0,decide_true,tk_eq,opt_some,ifB_true]
  exact hQ _ _ (h.same e1)
 have hlt:=node_kind_lt g0
 obtain ⟨rfl,hy,hp⟩:=hat hlt
 by_cases g2:(T.node n).kind=2#8
 ·simp [g2] at hQ
  simp only [nilCk_p,addOff_ptr,load1_ptr,Nat.add_zero,c0,i64_eql,k0,k2,eq_false g0,eq_true g2,decide_true,decide_false,tk_eq,opt_some,ifB_true,ifB_false]
  exact hQ _ _ (h.same e1)
 by_cases g1:(T.node n).kind=1#8
 rotate_left
 ·simp [g0,g2,g1] at hQ
  simp only [nilCk_p,addOff_ptr,load1_ptr,Nat.add_zero,c0,i64_eql,i64_neq,ne_eq,k0,k1,k2,eq_false g0,eq_false g2,eq_false g1,not_false_eq_true,decide_true,decide_false,gd_tf,pick_true_z,tk_eq,opt_some,ifB_true,ifB_false]
  exact hQ _ _ (h.same e1)
 by_cases g3:size<0
 ·simp [g0,g2,g1,g3] at hQ
  simp only [nilCk_p,addOff_ptr,load1_ptr,Nat.add_zero,c0,i64_eql,i64_neq,ne_eq,k0,k1,k2,eq_false g0,eq_false g2,eq_true g1,not_true,i64_lss,g3,decide_true,decide_false,gd_ff,pick_true_z,pick_false_z,tk_eq,opt_some,ifB_true,ifB_false]
  exact hQ _ _ (h.same e1)
 by_cases g4:1024<size
 ·simp [g0,g2,g1,g3,g4] at hQ
  simp only [nilCk_p,addOff_ptr,load1_ptr,Nat.add_zero,c0,i64_eql,i64_neq,i64_gtr,gt_iff_lt,ne_eq,k0,k1,k2,eq_false g0,eq_false g2,eq_true g1,not_true,i64_lss,g3,g4,decide_true,decide_false,gd_ff,pick_true_z,pick_false_z,tk_eq,opt_some,ifB_true,ifB_false]
  exact hQ _ _ (h.same e1)
 simp [g0,g2,g1,g3,g4] at hQ
 have hb0:buildS 0 1 #[(.int .u8 0)] []=some (.cells [] none,mkSlc 0 0):=buildS0 1 [u8 0#8] rfl
 have e9:Ext H1 (H1.new (.cells [] none)):=(Ext.refl H1).new _
 have gr9:Grow zH (H1.new (.cells [] none)) 1 (slc H1.next 0 0 0) []:=Grow.room (zH_get _) (AH.get_new_self _ _) rfl
 have c1':((H1.new (.cells [] none)).get b).cell (o+1)=some y.data:=by
  rw [AH.get_new_lt _ _ (AH.lt_of_get (row_notdead hn.1))]
  exact c1
 simp only [nilCk_p,addOff_ptr,load1_ptr,Nat.add_zero,c0,i64_eql,i64_neq,i64_gtr,gt_iff_lt,ne_eq,k0,k1,k2,eq_false g0,eq_false g2,eq_true g1,not_true,i64_lss,g3,g4,decide_false,gd_ff,pick_true_z,pick_false_z,hb0,AM.mk_some,mkSlc_eq,c1',tk_eq,opt_some,ifB_false]
 obtain ⟨v18,H11,a1,a2,a3⟩:=gr9.app (bytes:=1) (Nat.zero_le _) (hn.2.1.mono e9) (byteR_plain _) (by decide) (by decide) (by simp [byteR_length]; omega) (by simp [byteR_length]; omega)
 obtain ⟨e11,f11⟩:=grew_ext a3 e9 (fun b hb=>by simp [blk] at hb; omega)
 have a1':app 1 1 (slc H1.next 0 0 0) y.data (H1.new (.cells [] none))=some (v18,H11):=a1
 simp only [a1',opt2_some,tk_eq]
 obtain ⟨sz,rfl⟩:∃ sz:Nat,size=sz:=⟨size.toNat,by omega⟩
 rw [List.nil_append] at a2
 have hb1:buildS 1 1 #[(.int .u8 0)] [(0,(.int .u8 0))]=some (.cells [u8 0#8] none,mkSlc 1 1):=buildS_one 1 [u8 0#8] [u8 0#8] rfl rfl
 generalize hD:(T.node n).data=D at *
 refine LoopL.ind (fun j ls H'=>∃ v,∃ k:Nat,ls=[ptr t 0,vi sz,ptr b o,v]/\Ext H1 H'/\FreshV H1.next v/\Grow zH H' 1 v (byteR (D++List.replicate k 0#8))/\(k=0\/D.length+k<=sz)/\j=sz - (D.length+k)) ?_ (sz - D.length) ⟨v18,0,rfl,e11,f11,by simpa using a2,.inl rfl,by omega⟩
 rintro j _ H3 X hX ⟨v,k,rfl,e3,f3,g5,hk,rfl⟩
 have hlv:=g5.toRows.lenSlc
 rw [byteR_length,List.length_append,List.length_replicate] at hlv
 by_cases hlt2:D.length+k<sz
 ·have hlt2':((D.length+k:Nat):Int)<(sz:Int):=by omega
  obtain ⟨v',H4,b1,b2,b3,b4⟩:=zero_more g5 e3 f3 (by simp; omega)
  simp only [F.f57_l1,nth_0,nth_1,nth_2,nth_3,hlv,i64_lss,hlt2',decide_true,hb1,AM.mk_some,mkSlc_eq,b1,opt2_some,tk_eq,opt_some,ifB_true]
  refine hX (sz - (D.length+(k+1))) (by omega) _ _ ⟨v',k+1,rfl,b3,b4,?_,.inr (by omega),rfl⟩
  rw [List.replicate_succ',<- List.append_assoc]
  exact b2
 ·have hlt2':¬ ((D.length+k:Nat):Int)<(sz:Int):=by omega
  obtain ⟨v',s1,s2,s3⟩:=g5.cut (k:=sz) (by rw [byteR_length,List.length_append,List.length_replicate]; omega)
  have hcut:byteR ((fun x:Nd=>{ x with data:=cutL x.data sz }) (T.node n)).data=(byteR (D++List.replicate k 0#8)).take sz:=by
   rw [<- byteR_take]
   show byteR (cutL (T.node n).data sz)=_
   rw [hD]
   congr 1
   unfold cutL
   rw [List.take_append]
   congr 1
   rw [List.take_replicate]
   congr 1
   rcases hk with rfl | hk <;> omega
  obtain ⟨H4,s4,u4⟩:=h.newD (v':=v') hlt hy hp (fun x=>{ x with data:=cutL x.data sz }) (fun _=>rfl) e3 (by rw [hcut]; exact s2) (fun b hb=>f3 b (by rw [<- s3]; exact hb)) rfl
  have h4:=u4.ref h
  have hh4:=h4.head
  obtain ⟨H5,s5,u5⟩:=h4.tick
  have hcc:(T.upd n (fun x=>{ x with data:=cutL x.data sz })).change=T.change:=rfl
  rw [hcc] at s5 hh4
  simp only [F.f57_l1,nth_0,nth_1,nth_2,nth_3,hlv,i64_lss,hlt2',decide_false,s1,nilCk_p,addOff_ptr,s4,load1_ptr,hh4,cell_cells_z,Nat.zero_add,TreeI.at4,i64_add (a:=T.change) (b:=1) (by omega) (by omega),s5,tk_eq,opt_some,ifB_false]
  exact hQ _ _ (u4.trans u5)
end
end Go.AM
end
section
namespace Go.AM
theorem spliceB_step (e b:List (BitVec 8)) (i j:Nat) (hj:j<b.length) (hi:i+j<e.length):(spliceB e i (b.take j)).set (i+j) b[j]=spliceB e i (b.take (j+1)):=by
 unfold spliceB
 have h1:(e.take i).length=i:=by rw [List.length_take]; omega
 have h2:(b.take j).length=j:=by rw [List.length_take]; omega
 have h3:(b.take (j+1)).length=j+1:=by rw [List.length_take]; omega
 rw [h2,h3,List.set_append_right _ _ (by rw [List.length_append,h1,h2]; omega),List.length_append,h1,h2,Nat.sub_self]
 rw [List.drop_eq_getElem_cons hi,List.set_cons_zero]
 simp [Nat.add_assoc]
 rw [List.take_succ_eq_append_getElem hj]
 simp only [List.append_assoc,List.singleton_append]
theorem spliceB_length (e b:List (BitVec 8)) (i:Nat) (h:i+b.length<=e.length):(spliceB e i b).length=e.length:=by
 simp [spliceB]; omega
section
variable {E:Sy} {H0 H H' H'' H1:AH} {Q:Value->AH->Prop} {t:Nat} {nv nv' nv'' mv:Value} {nx:Int} {mr:List (List Value)} {Y Y' Y'':List RLy} {T T' T'':Tr}
theorem refT_write2 (h:RefT H1 t nv mv nx mr Y T) (n:BitVec 16) (hlt:n.toNat<T.N.length) {y:RLy} {b o:Nat} (hy:Y[n.toNat]? = some y) (hp:ixSlc 7 nv (vi (n.toNat:Int))=some (ptr b o)) (at_:Nat) (xv:Value) (x:List (BitVec 8)) (hx:Rows H1 1 xv (byteR x)) (hc : -9223372036854775808<=T.change/\T.change<9223372036854775807)
  (hat:at_<=1024/\at_+x.length<=1024) (e:List (BitVec 8)) (he:at_+x.length<=e.length) (hw:writeL (T.node n).data at_ x=spliceB e at_ x) (v:Value) (H3:AH) (e3:Ext H1 H3) (f3:FreshV H1.next v) (g3:Grow zH H3 1 v (byteR e))
  (hQ:∀ Y' H',UpdR t nv mv nx mr Y T nv Y' ((T.upd n (fun z=>{ z with data:=writeL z.data at_ x })).bump) H1 H'->Q (vi 0) H') :
  LoopL (fun l H X0=>F.f67_l2 E Q (nth l 0) (nth l 1) (nth l 2) (nth l 3) (nth l 4) (nth l 5) H X0) [ptr t 0,vi at_,xv,ptr b o,v,(.int .i64 0)] H3:=by
 refine LoopL.count x.length (fun j ls H'=>ls=[ptr t 0,vi at_,xv,ptr b o,v,vi j]/\Ext H1 H'/\Grow zH H' 1 v (byteR (spliceB e at_ (x.take j)))) ?_ ⟨rfl,e3,by simpa [spliceB] using g3⟩
 rintro j _ H4 X hj hX ⟨rfl,e4,g4⟩
 have hxl:=(hx.mono e4).lenSlc
 rw [byteR_length] at hxl
 by_cases hjl:j<x.length
 ·have hjl':(j:Int)<x.length:=by omega
  obtain ⟨b1,o1,p1,p2⟩:=(hx.mono e4).ix (i:=j) (by rw [byteR_length]; exact hjl)
  have hrow:(byteR x)[j]'(by rw [byteR_length]; exact hjl)=[u8 x[j]]:=by simp [byteR]
  rw [hrow] at p2
  have p3:(H4.get b1).cell o1=some (u8 x[j]):=by have:=row_at p2 (j:=0) (by omega); simpa using this
  have hls:(spliceB e at_ (x.take j)).length=e.length:=spliceB_length _ _ _ (by rw [List.length_take]; omega)
  have hi:at_+j<(byteR (spliceB e at_ (x.take j))).length:=by rw [byteR_length,hls]; omega
  obtain ⟨b2,o2,H5,q1,q2,q3,q4,q5⟩:=g4.store (i:=at_+j) (k:=0) hi (by omega) (u8 x[j]) rfl
  have hadd:binInt .add (vi at_) (vi j)=some (vi ((at_+j:Nat):Int)):=by rw [i64_add (by omega) (by omega)]; simp
  have hjj:=i64_succ j (by omega)
  have hset:(byteR (spliceB e at_ (x.take j))).set (at_+j) ((byteR (spliceB e at_ (x.take j)))[at_+j].set 0 (u8 x[j]))=byteR (spliceB e at_ (x.take (j+1))):=by
   rw [<- spliceB_step e x at_ j hjl (by omega),byteR_set]
   congr 1
   simp [byteR]
  rw [hset] at q4
  rw [Nat.add_zero] at q3
  have q3':store1 (ptr b2 o2) (u8 x[j]) H4=some H5:=q3
  generalize hj1:j+1=j1 at *
  simp only [F.f67_l2,nth_0,nth_1,nth_2,nth_3,nth_4,nth_5,hxl,i64_lss,hjl',decide_true,hadd,p1,load1_ptr,p3,q1,q3',hjj,tk_eq,opt_some,ifB_true]
  refine hX hjl _ _ ⟨rfl,q5.ext e4 fun b hb=>f3 b (mem_blkL.1 hb),q4⟩
 ·have hjl':¬ (j:Int)<x.length:=by omega
  have hje:j=x.length:=by omega
  have hD:byteR ((fun z:Nd=>{ z with data:=writeL z.data at_ x }) (T.node n)).data=byteR (spliceB e at_ (x.take j)):=by
   show byteR (writeL (T.node n).data at_ x)=_
   rw [hw,hje,List.take_length]
  obtain ⟨H5,s5,u5⟩:=h.newD (v':=v) hlt hy hp (fun z=>{ z with data:=writeL z.data at_ x }) (fun _=>rfl) e4 (by rw [hD]; exact g4) f3 rfl
  have h5:=u5.ref h
  have hh5:=h5.head
  obtain ⟨H6,s6,u6⟩:=h5.tick
  have hcc:(T.upd n (fun z=>{ z with data:=writeL z.data at_ x })).change=T.change:=rfl
  rw [hcc] at s6 hh5
  simp only [F.f67_l2,nth_0,nth_1,nth_2,nth_3,nth_4,nth_5,hxl,i64_lss,hjl',decide_false,nilCk_p,addOff_ptr,s5,load1_ptr,hh5,cell_cells_z,Nat.zero_add,TreeI.at4,i64_add (a:=T.change) (b:=1) (by omega) (by omega),s6,tk_eq,opt_some,ifB_false]
  exact hQ _ _ (u5.trans u6)
theorem S.f67 (hE:Fold E) (h:RefT H t nv mv nx mr Y T) (n:BitVec 16) (at_:Int) (xv:Value) (x:List (BitVec 8)) (hx:Rows H 1 xv (byteR x)) (hxl:x.length<2 ^ 62) (hc : -9223372036854775808<=T.change/\T.change<9223372036854775807) (hdl:(T.node n).data.length<2 ^ 39)
  (hQ:∀ Y' H',UpdR t nv mv nx mr Y T nv Y' (T.write n at_ x).1 H H'->Q (vi (T.write n at_ x).2) H'):E.call (E.fid i.f67) [ptr t 0,vi (n.toNat:Int),vi at_,xv] H Q:=by
 apply hE.f67
 simp only [F.f67]
 refine S.f64 hE h n fun b o y H1 e1 hn hat =>?_
 obtain ⟨c0,c1,_⟩:=hn.cell
 have k1:=kind1 (T.node n).kind
 have k2:=kind2 (T.node n).kind
 have k0:=kind0 (T.node n).kind
 unfold Tr.write at hQ
 by_cases g0:(T.node n).kind=0#8
 ·simp [g0] at hQ
  simp only [nilCk_p,addOff_ptr,load1_ptr,Nat.add_zero,c0,i64_eql,k0,eq_true g0,decide_true,tk_eq,opt_some,ifB_true]
  exact hQ _ _ (h.same e1)
 have hlt:=node_kind_lt g0
 obtain ⟨rfl,hy,hp⟩:=hat hlt
 by_cases g2:(T.node n).kind=2#8
 ·simp [g2] at hQ
  simp only [nilCk_p,addOff_ptr,load1_ptr,Nat.add_zero,c0,i64_eql,k0,k2,eq_false g0,eq_true g2,decide_true,decide_false,tk_eq,opt_some,ifB_true,ifB_false]
  exact hQ _ _ (h.same e1)
 by_cases g1:(T.node n).kind=1#8
 rotate_left
 ·simp [g0,g2,g1] at hQ
  simp only [nilCk_p,addOff_ptr,load1_ptr,Nat.add_zero,c0,i64_eql,i64_neq,ne_eq,k0,k1,k2,eq_false g0,eq_false g2,eq_false g1,not_false_eq_true,decide_true,decide_false,gd_tf,pick_true_z,tk_eq,opt_some,ifB_true,ifB_false]
  exact hQ _ _ (h.same e1)
 by_cases g3:at_<0
 ·simp [g0,g2,g1,g3] at hQ
  simp only [nilCk_p,addOff_ptr,load1_ptr,Nat.add_zero,c0,i64_eql,i64_neq,ne_eq,k0,k1,k2,eq_false g0,eq_false g2,eq_true g1,not_true,i64_lss,g3,decide_true,decide_false,gd_ff,pick_true_z,pick_false_z,tk_eq,opt_some,ifB_true,ifB_false]
  exact hQ _ _ (h.same e1)
 by_cases g4:1024<at_
 ·simp [g0,g2,g1,g3,g4] at hQ
  simp only [nilCk_p,addOff_ptr,load1_ptr,Nat.add_zero,c0,i64_eql,i64_neq,i64_gtr,gt_iff_lt,ne_eq,k0,k1,k2,eq_false g0,eq_false g2,eq_true g1,not_true,i64_lss,g3,g4,decide_true,decide_false,gd_tf,gd_ff,pick_true_z,pick_false_z,tk_eq,opt_some,ifB_true,ifB_false]
  exact hQ _ _ (h.same e1)
 have hxs:=hx.lenSlc
 rw [byteR_length] at hxs
 have hadd:binInt .add (vi at_) (vi x.length)=some (vi (at_+x.length)):=i64_add (by omega) (by omega)
 by_cases g5:1024<at_+(x.length:Int)
 ·simp [g0,g2,g1,g3,g4,g5] at hQ
  simp only [nilCk_p,addOff_ptr,load1_ptr,Nat.add_zero,c0,i64_eql,i64_neq,i64_gtr,gt_iff_lt,ne_eq,k0,k1,k2,eq_false g0,eq_false g2,eq_true g1,not_true,i64_lss,g3,g4,hxs,hadd,g5,decide_true,decide_false,gd_ff,pick_true_z,pick_false_z,tk_eq,opt_some,ifB_true,ifB_false]
  exact hQ _ _ (h.same e1)
 simp [g0,g2,g1,g3,g4,g5] at hQ
 have hb0:buildS 0 1 #[(.int .u8 0)] []=some (.cells [] none,mkSlc 0 0):=buildS0 1 [u8 0#8] rfl
 have e9:Ext H1 (H1.new (.cells [] none)):=(Ext.refl H1).new _
 have gr9:Grow zH (H1.new (.cells [] none)) 1 (slc H1.next 0 0 0) []:=Grow.room (zH_get _) (AH.get_new_self _ _) rfl
 have c1':((H1.new (.cells [] none)).get b).cell (o+1)=some y.data:=by
  rw [AH.get_new_lt _ _ (AH.lt_of_get (row_notdead hn.1))]
  exact c1
 simp only [nilCk_p,addOff_ptr,load1_ptr,Nat.add_zero,c0,i64_eql,i64_neq,i64_gtr,gt_iff_lt,ne_eq,k0,k1,k2,eq_false g0,eq_false g2,eq_true g1,not_true,i64_lss,g3,g4,hxs,hadd,g5,decide_false,gd_ff,pick_true_z,pick_false_z,hb0,AM.mk_some,mkSlc_eq,c1',tk_eq,opt_some,ifB_false]
 obtain ⟨v18,H11,a1,a2,a3⟩:=gr9.app (bytes:=1) (Nat.zero_le _) (hn.2.1.mono e9) (byteR_plain _) (by decide) (by decide) (by simp [byteR_length]; omega) (by simp [byteR_length]; omega)
 obtain ⟨e11,f11⟩:=grew_ext a3 e9 (fun b hb=>by simp [blk] at hb; omega)
 have a1':app 1 1 (slc H1.next 0 0 0) y.data (H1.new (.cells [] none))=some (v18,H11):=a1
 simp only [a1',opt2_some,tk_eq]
 obtain ⟨sz,rfl⟩:∃ sz:Nat,at_=sz:=⟨at_.toNat,by omega⟩
 rw [List.nil_append] at a2
 have hb1:buildS 1 1 #[(.int .u8 0)] [(0,(.int .u8 0))]=some (.cells [u8 0#8] none,mkSlc 1 1):=buildS_one 1 [u8 0#8] [u8 0#8] rfl rfl
 have hw:=@refT_write2 E H1 Q t nv mv nx mr Y T h n hlt y b o hy hp sz xv x hx hc (by omega)
 generalize hD:(T.node n).data=D at *
 refine LoopL.ind (fun j ls H'=>∃ v,∃ k:Nat,ls=[ptr t 0,vi sz,xv,ptr b o,v]/\Ext H1 H'/\FreshV H1.next v/\Grow zH H' 1 v (byteR (D++List.replicate k 0#8))/\(k=0\/D.length+k<=sz+x.length)/\j=sz+x.length - (D.length+k)) ?_ (sz+x.length - D.length) ⟨v18,0,rfl,e11,f11,by simpa using a2,.inl rfl,by omega⟩
 rintro j _ H3 X hX ⟨v,k,rfl,e3,f3,g6,hk,rfl⟩
 have hlv:=g6.toRows.lenSlc
 rw [byteR_length,List.length_append,List.length_replicate] at hlv
 have hxs3:=(hx.mono e3).lenSlc
 rw [byteR_length] at hxs3
 by_cases hlt2:D.length+k<sz+x.length
 ·have hlt2':((D.length+k:Nat):Int)<(sz:Int)+x.length:=by omega
  obtain ⟨v',H4,b1,b2,b3,b4⟩:=zero_more g6 e3 f3 (by simp; omega)
  simp only [F.f67_l1,nth_0,nth_1,nth_2,nth_3,nth_4,hlv,hxs,hadd,i64_lss,hlt2',decide_true,hb1,AM.mk_some,mkSlc_eq,b1,opt2_some,tk_eq,opt_some,ifB_true]
  refine hX (sz+x.length - (D.length+(k+1))) (by omega) _ _ ⟨v',k+1,rfl,b3,b4,?_,.inr (by omega),rfl⟩
  rw [List.replicate_succ',<- List.append_assoc]
  exact b2
 ·have hlt2':¬ ((D.length+k:Nat):Int)<(sz:Int)+x.length:=by omega
  have hk':k=sz+x.length - D.length:=by rcases hk with rfl | hk <;> omega
  have:=hw (D++List.replicate k 0#8) (by simp; omega) (by unfold writeL spliceB; rw [hk']) v H3 e3 f3 g6 hQ
  simp only [F.f67_l1,nth_0,nth_1,nth_2,nth_3,nth_4,hlv,hxs,hadd,i64_lss,hlt2',decide_false,tk_eq,opt_some,ifB_false]
  exact this
end
end Go.AM
end
section
namespace Go.AM
structure TwoX (X:List Res) (H0 H:AH) (p m:Nat) (L:LyL) (T:Tr) (t:Nat) (nv mv:Value) (nx:Int) (mr:List (List Value)) (Y:List RLy) (T2:Tr):Prop where
 ext:Ext H0 H
 ow:Ow (joinR (inoR p m L T :: refR t nv mv nx mr Y T2 :: X)) H
 own:∀ b∈(joinR (inoR p m L T :: refR t nv mv nx mr Y T2 :: X)).fp,H0.next<=b
 cov:Cov L T
 len:Y.length=T2.N.length
 fit:T2.N.length<=60000
section
variable {X:List Res} {E:Sy} {H0 H H' H'':AH} {Q:Value->AH->Prop} {p m:Nat} {L L' L'':LyL} {T T' T'' T2 T2':Tr} {t:Nat} {nv nv' mv:Value} {nx:Int} {mr:List (List Value)} {Y Y':List RLy}
theorem TwoX.ino (h:TwoX X H0 H p m L T t nv mv nx mr Y T2):Ino H p m L T:=⟨h.ow.part (k:=0) rfl,h.cov⟩
theorem TwoX.ref (h:TwoX X H0 H p m L T t nv mv nx mr Y T2):RefT H t nv mv nx mr Y T2:=⟨h.ow.part (k:=1) rfl,h.len,h.fit⟩
theorem TwoX.upd {r:Res} (h:TwoX X H0 H p m L T t nv mv nx mr Y T2) (u:Upd (joinR (inoR p m L T :: refR t nv mv nx mr Y T2 :: X)) r H H'):Ext H0 H'/\Ow r H'/\∀ b∈r.fp,H0.next<=b :=
 ⟨u.only.ext h.ext h.own,h.ow.upd u,fun b hb=>(u.fp b hb).1.elim (h.own b) fun k=>Nat.le_trans h.ext.1 k⟩
theorem TwoX.step1 (h:TwoX X H0 H p m L T t nv mv nx mr Y T2) (u:UpdI p m L T L' T' H H'):TwoX X H0 H' p m L' T' t nv mv nx mr Y T2:=by
 obtain ⟨q1,q2,q3⟩:=h.upd (h.ow.set (k:=0) rfl u.upd)
 exact ⟨q1,q2,q3,u.cov,h.len,h.fit⟩
theorem TwoX.step2 (h:TwoX X H0 H p m L T t nv mv nx mr Y T2) (u:UpdR t nv mv nx mr Y T2 nv' Y' T2' H H'):TwoX X H0 H' p m L T t nv' mv nx mr Y' T2':=by
 obtain ⟨q1,q2,q3⟩:=h.upd (h.ow.set (k:=1) rfl u.upd)
 exact ⟨q1,q2,q3,h.cov,u.len,u.fit⟩
theorem TwoX.mono (h:TwoX X H0 H p m L T t nv mv nx mr Y T2) (e:Ext H H'):TwoX X H0 H' p m L T t nv mv nx mr Y T2:=h.step1 (h.ino.same e)
theorem TwoX.box (h:TwoX X H0 H p m L T t nv mv nx mr Y T2) (c:List Value):TwoX (X++[boxR H.next c]) H0 (H.new (.cells c none)) p m L T t nv mv nx mr Y T2:=by
 obtain ⟨q1,q2,q3⟩:=h.upd (h.ow.add (boxR H.next c) ((Ext.refl H).new _) (AH.get_new_self _ _) (fun b hb=>by simp [boxR] at hb; subst hb; simp) (by simp [boxR]))
 exact ⟨q1,q2,q3,h.cov,h.len,h.fit⟩
theorem TwoX.held {k:Nat} {c:List Value} (h:TwoX (X++[boxR k c]) H0 H p m L T t nv mv nx mr Y T2):H.get k = .cells c none:=h.ow.holds (boxR k c) (by simp)
theorem TwoX.drop {r:Res} (h:TwoX (X++[r]) H0 H p m L T t nv mv nx mr Y T2):TwoX X H0 H p m L T t nv mv nx mr Y T2:=by
 have u:=h.ow.erase (X.length+2)
 have e:(inoR p m L T :: refR t nv mv nx mr Y T2 :: (X++[r])).eraseIdx (X.length+2)=inoR p m L T :: refR t nv mv nx mr Y T2 :: X:=by simp [List.eraseIdx_append]
 rw [e] at u
 obtain ⟨q1,q2,q3⟩:=h.upd u
 exact ⟨q1,q2,q3,h.cov,h.len,h.fit⟩
theorem Tr.WF.small (h:T.WF):T.small:=fun n=>by have:=h.size n; omega
theorem TwoX.cMake (hE:Fold E) (h:TwoX X H0 H p m L T t nv mv nx mr Y T2) (w:T.WF) (n:BitVec 16) (s:NameL) (hs:s.length<2 ^ 63) (k:BitVec 8) (text:List UInt8) (ht:text.length<2 ^ 63) (hc : -9223372036854775808<=T.change/\T.change<9223372036854775807)
  (hQ:∀ L' H',TwoX X H0 H' p m L' (T.make n s k text).1 t nv mv nx mr Y T2->Q (.tuple #[u16 (T.make n s k text).2.1,vi (T.make n s k text).2.2]) H'):E.call (E.fid i.f11) [ptr p 0,u16 n,str s,u8 k,str text] H Q:=by
 have hlen:=w.len16
 have hl2:=w.len.1
 exact S.f11 hE h.ino n s hs k text ht hc ⟨by omega,by omega⟩ (fun _ r=>w.chain ⟨(Tr.room_ok r).1,(Tr.room_ok r).2.2.1⟩ 17) fun L1 H1 _ u1=>hQ _ _ (h.step1 u1)
theorem TwoX.rMake (hE:Fold E) (h:TwoX X H0 H p m L T t nv mv nx mr Y T2) (w:T2.WF) (n:BitVec 16) (s:NameL) (hs:s.length<2 ^ 63) (k:BitVec 8) (text:List UInt8) (hc : -9223372036854775808<=T2.change/\T2.change<9223372036854775807)
  (hQ:∀ nv' Y' H',TwoX X H0 H' p m L T t nv' mv nx mr Y' (T2.make n s k text).1->Q (.tuple #[vi ((T2.make n s k text).2.1.toNat:Int),vi (T2.make n s k text).2.2]) H'):E.call (E.fid i.f62) [ptr t 0,vi (n.toNat:Int),str s,vi (k.toNat:Int),str text] H Q:=by
 have hlen:=w.len16
 have hl2:=w.len.1
 exact S.f62 hE h.ref w.small n s hs k text hc ⟨by omega,by omega⟩ (fun _ r=>w.deep20 ⟨(Tr.room_ok r).1,(Tr.room_ok r).2.2.1⟩) fun nv2 Y2 H2 u2=>hQ _ _ _ (h.step2 u2)
theorem Tr.WF.look_bd (w:T.WF) (n:BitVec 16) (s:NameL) (h:(T.look n s).2=0):(T.node (T.look n s).1).kind≠0#8/\0<=(T.node (T.look n s).1).links/\(T.node (T.look n s).1).links<=8224 :=
 ⟨(w.pos (Tr.look_ok h).2).2.2.2.1,(w.links_bd _).1,(w.links_bd _).2⟩
theorem TwoX.cAdd (hE:Fold E) (h:TwoX X H0 H p m L T t nv mv nx mr Y T2) (w:T.WF) (n:BitVec 16) (s:NameL) (hs:s.length<2 ^ 63) (v:BitVec 16) (hc : -9223372036854775808<=T.change/\T.change<9223372036854775807)
  (hQ:∀ L' H',TwoX X H0 H' p m L' (T.add n s v).1 t nv mv nx mr Y T2->Q (vi (T.add n s v).2) H'):E.call (E.fid i.f5) [ptr p 0,u16 n,str s,u16 v] H Q :=
 S.f5 hE h.ino n s hs v hc (w.links_bd v).1 fun L1 H1 _ u1=>hQ _ _ (h.step1 u1)
theorem TwoX.rAdd (hE:Fold E) (h:TwoX X H0 H p m L T t nv mv nx mr Y T2) (w:T2.WF) (n:BitVec 16) (s:NameL) (hs:s.length<2 ^ 63) (v:BitVec 16) (hc : -9223372036854775808<=T2.change/\T2.change<9223372036854775807)
  (hQ:∀ Y' H',TwoX X H0 H' p m L T t nv mv nx mr Y' (T2.add n s v).1->Q (vi (T2.add n s v).2) H'):E.call (E.fid i.f55) [ptr t 0,vi (n.toNat:Int),str s,vi (v.toNat:Int)] H Q :=
 S.f55 hE h.ref w.small n s hs v hc (w.links_bd v).1 fun Y2 H2 u2=>hQ _ _ (h.step2 u2)
theorem TwoX.cDrop (hE:Fold E) (h:TwoX X H0 H p m L T t nv mv nx mr Y T2) (w:T.WF) (n:BitVec 16) (s:NameL) (d:Bool) (hc : -9223372036854775808<=T.change/\T.change<9223372036854775807)
  (hQ:∀ L' H',TwoX X H0 H' p m L' (T.drop n s d).1 t nv mv nx mr Y T2->Q (vi (T.drop n s d).2) H'):E.call (E.fid i.f7) [ptr p 0,u16 n,str s,vb d] H Q :=
 S.f7 hE h.ino n s d hc (fun e=>by have:=w.look_bd n s e; exact ⟨this.1,by omega,by omega⟩) fun L1 H1 _ _ u1=>hQ _ _ (h.step1 u1)
theorem TwoX.rDrop (hE:Fold E) (h:TwoX X H0 H p m L T t nv mv nx mr Y T2) (w:T2.WF) (n:BitVec 16) (s:NameL) (d:Bool) (hc : -9223372036854775808<=T2.change/\T2.change<9223372036854775807)
  (hQ:∀ Y' H',TwoX X H0 H' p m L T t nv mv nx mr Y' (T2.drop n s d).1->Q (vi (T2.drop n s d).2) H'):E.call (E.fid i.f58) [ptr t 0,vi (n.toNat:Int),str s,vb d] H Q :=
 S.f58 hE h.ref w.small n s d hc (fun e=>by have:=w.look_bd n s e; exact ⟨this.1,by omega,by omega⟩) (by have:=w.size n; omega) fun Y2 H2 u2=>hQ _ _ (h.step2 u2)
theorem TwoX.cHold (hE:Fold E) (h:TwoX X H0 H p m L T t nv mv nx mr Y T2) (w:T.WF) (n:BitVec 16) (more:Bool) (hb:(T.node n).held<9223372036854775807)
  (hQ:∀ L' H',TwoX X H0 H' p m L' (T.hold n more).1 t nv mv nx mr Y T2->Q (vi (T.hold n more).2) H'):E.call (E.fid i.f9) [ptr p 0,u16 n,vb more] H Q:=by
 refine S.f9 hE h.ino n more ⟨w.held n,hb⟩ ?_
 intros
 apply hQ
 rename_i u1
 exact h.step1 u1
theorem TwoX.rHold (hE:Fold E) (h:TwoX X H0 H p m L T t nv mv nx mr Y T2) (w:T2.WF) (n:BitVec 16) (more:Bool) (hb:(T2.node n).held<9223372036854775807)
  (hQ:∀ Y' H',TwoX X H0 H' p m L T t nv mv nx mr Y' (T2.hold n more).1->Q (vi (T2.hold n more).2) H'):E.call (E.fid i.f59) [ptr t 0,vi (n.toNat:Int),vb more] H Q :=
 S.f59 hE h.ref n more ⟨w.held n,hb⟩ fun Y2 H2 u2=>hQ _ _ (h.step2 u2)
theorem TwoX.cMove (hE:Fold E) (h:TwoX X H0 H p m L T t nv mv nx mr Y T2) (w:T.WF) (fr to:BitVec 16) (s other:NameL) (hs:other.length<2 ^ 63) (hc : -9223372036854775808<=T.change/\T.change<9223372036854775806)
  (hQ:∀ L' H',TwoX X H0 H' p m L' (T.move fr s to other).1 t nv mv nx mr Y T2->Q (vi (T.move fr s to other).2) H'):E.call (E.fid i.f12) [ptr p 0,u16 fr,str s,u16 to,str other] H Q:=by
 exact S.f12 hE h.ino fr to s other hs hc (fun e=>(w.look_bd fr s e).1) (fun _ hk h1=>w.chain ⟨hk,h1⟩ 17) (f:=17) (fun e hk=>w.fits17 (w.look_live (Tr.look_ok e).2 hk)) (by omega)
  (fun y hk hy=>⟨(w.pos hy).2.2.2.1,(w.links_bd y).1,by have:=(w.links_bd y).2; omega⟩) fun L1 H1 _ _ u1=>hQ _ _ (h.step1 u1)
theorem TwoX.rMove (hE:Fold E) (h:TwoX X H0 H p m L T t nv mv nx mr Y T2) (w:T2.WF) (fr to:BitVec 16) (s other:NameL) (hs:other.length<2 ^ 63) (hc : -9223372036854775808<=T2.change/\T2.change<9223372036854775806)
  (hQ:∀ Y' H',TwoX X H0 H' p m L T t nv mv nx mr Y' (T2.move fr s to other).1->Q (vi (T2.move fr s to other).2) H'):E.call (E.fid i.f63) [ptr t 0,vi (fr.toNat:Int),str s,vi (to.toNat:Int),str other] H Q :=
 S.f63 hE h.ref w.small fr to s other hs hc (fun e=>(w.look_bd fr s e).1) (fun _ h1 hk=>⟨w.deep20 ⟨hk,h1⟩,w.within20 ⟨hk,h1⟩ _⟩) (f:=17) (fun e hk=>w.fits17 (w.look_live (Tr.look_ok e).2 hk)) (by omega)
  (fun y hk hy=>⟨(w.pos hy).2.2.2.1,(w.links_bd y).1,by have:=(w.links_bd y).2; omega⟩) (fun _=>(w.rising to).nodup) ⟨by have:=w.size fr; omega,by have:=w.size to; omega⟩ fun Y2 H2 u2=>hQ _ _ (h.step2 u2)
theorem TwoX.cWrite (hE:Fold E) (h:TwoX X H0 H p m L T t nv mv nx mr Y T2) (w:T.WF) (n:BitVec 16) (at_:Int) (v:Value) (b:List (BitVec 8)) (hv:Rows H 1 v (byteR b)) (hb:b.length<2 ^ 63) (hat : -9223372036854775808<=at_/\at_<9223372036854775808) (hc : -9223372036854775808<=T.change/\T.change<9223372036854775807)
  (hQ:∀ L' H',TwoX X H0 H' p m L' (T.write n at_ b).1 t nv mv nx mr Y T2->Q (vi (T.write n at_ b).2) H'):E.call (E.fid i.f15) [ptr p 0,u16 n,vi at_,v] H Q :=
 S.f15 hE h.ino n at_ v b hv hb hc hat (by have:=w.data n; omega) fun L1 H1 _ u1=>hQ _ _ (h.step1 u1)
theorem TwoX.rWrite (hE:Fold E) (h:TwoX X H0 H p m L T t nv mv nx mr Y T2) (w:T2.WF) (n:BitVec 16) (at_:Int) (v:Value) (b:List (BitVec 8)) (hv:Rows H 1 v (byteR b)) (hb:b.length<2 ^ 62) (hc : -9223372036854775808<=T2.change/\T2.change<9223372036854775807)
  (hQ:∀ Y' H',TwoX X H0 H' p m L T t nv mv nx mr Y' (T2.write n at_ b).1->Q (vi (T2.write n at_ b).2) H'):E.call (E.fid i.f67) [ptr t 0,vi (n.toNat:Int),vi at_,v] H Q :=
 S.f67 hE h.ref n at_ v b hv hb hc (by have:=w.data n; omega) fun Y2 H2 u2=>hQ _ _ (h.step2 u2)
theorem TwoX.cCut (hE:Fold E) (h:TwoX X H0 H p m L T t nv mv nx mr Y T2) (w:T.WF) (n:BitVec 16) (size:Int) (hc : -9223372036854775808<=T.change/\T.change<9223372036854775807)
  (hQ:∀ L' H',TwoX X H0 H' p m L' (T.cut n size).1 t nv mv nx mr Y T2->Q (vi (T.cut n size).2) H'):E.call (E.fid i.f6) [ptr p 0,u16 n,vi size] H Q:=by
 exact S.f6 hE h.ino n size hc fun L1 H1 _ u1=>hQ _ _ (h.step1 u1)
theorem TwoX.rCut (hE:Fold E) (h:TwoX X H0 H p m L T t nv mv nx mr Y T2) (w:T2.WF) (n:BitVec 16) (size:Int) (hc : -9223372036854775808<=T2.change/\T2.change<9223372036854775807)
  (hQ:∀ Y' H',TwoX X H0 H' p m L T t nv mv nx mr Y' (T2.cut n size).1->Q (vi (T2.cut n size).2) H'):E.call (E.fid i.f57) [ptr t 0,vi (n.toNat:Int),vi size] H Q :=
 S.f57 hE h.ref n size hc (by have:=w.data n; omega) fun Y2 H2 u2=>hQ _ _ (h.step2 u2)
end
end Go.AM
end
section
namespace Go.AM
theorem Ow.perm {rs rs':List Res} {H:AH} (h:Ow (joinR rs) H) (hp:rs.Perm rs'):Ow (joinR rs') H :=
 ⟨fun r hr=>h.holds r (hp.mem_iff.2 hr),fun b hb=>h.lt b ((hp.flatMap_right Res.fp).mem_iff.2 hb),(hp.flatMap_right Res.fp).nodup_iff.1 h.nd⟩
def wkRs (p m:Nat) (L:LyL) (T:Tr) (q:Nat) (v:Value) (M:List MntD) (nx:Int) (w:Nat) (X:List Res):List Res:=inoR p m L T :: tabR q v M nx :: boxR w [ptr p 0,ptr q 0] :: X
def WkO (X:List Res) (H0 H:AH) (w:Nat) (T:Tr) (M:List MntD) (nx:Int):Prop :=
 ∃ p m L q v,Ext H0 H/\Ow (joinR (wkRs p m L T q v M nx w X)) H/\(∀ b∈(joinR (wkRs p m L T q v M nx w X)).fp,H0.next<=b)/\Cov L T/\TabOk M nx
section
variable {E:Sy} {X:List Res} {H H' H0 Z:AH} {Q:Value->AH->Prop} {w:Nat} {T T':Tr} {M M':List MntD} {nx nx':Int} {L:List Res}
theorem WkO.ext (h:WkO X H0 H w T M nx):Ext H0 H:=by obtain ⟨_,_,_,_,_,h,_⟩:=h; exact h
theorem WkO.tab (h:WkO X H0 H w T M nx):TabOk M nx:=by obtain ⟨_,_,_,_,_,_,_,_,_,h⟩:=h; exact h
theorem own_upd {r r':Res} (e:Ext H0 H) (o:Ow r H) (own:∀ b∈r.fp,H0.next<=b) (u:Upd r r' H H'):Ext H0 H'/\Ow r' H'/\∀ b∈r'.fp,H0.next<=b :=
 ⟨u.only.ext e own,o.upd u,fun b hb=>(u.fp b hb).1.elim (own b) fun k=>Nat.le_trans e.1 k⟩
theorem WkO.open_ (h:WkO X H0 H w T M nx):∃ p q,H.get w = .cells [ptr p 0,ptr q 0] none /\
  (∃ m L,Ino H p m L T/\∀ L' T' H',UpdI p m L T L' T' H H'->WkO X H0 H' w T' M nx) /\
  (∃ v,(tabR q v M nx).P H/\(tabR q v M nx).fp.Nodup/\∀ v' M' nx' H',Upd (tabR q v M nx) (tabR q v' M' nx') H H'->TabOk M' nx'->WkO X H0 H' w T M' nx'):=by
 obtain ⟨p,m,L,q,v,e,o,own,cov,tab⟩:=h
 refine ⟨p,q,o.holds (boxR w [ptr p 0,ptr q 0]) (by simp [wkRs]),⟨m,L,⟨o.part (k:=0) rfl,cov⟩,fun L' T' H' u =>?_⟩,⟨v,o.holds (tabR q v M nx) (by simp [wkRs]),(o.part (k:=1) rfl).nd,fun v' M' nx' H' u ok =>?_⟩⟩
 ·obtain ⟨a,b,c⟩:=own_upd e o own (o.set (k:=0) rfl u.upd)
  exact ⟨p,m,L',q,v,a,b,c,u.cov,tab⟩
 ·obtain ⟨a,b,c⟩:=own_upd e o own (o.set (k:=1) rfl u)
  exact ⟨p,m,L,q,v',a,b,c,cov,ok⟩
theorem WkO.openX (h:WkO X H0 H w T M nx) {k:Nat} {r:Res} (hk:X[k]? = some r):Ow r H/\∀ r' H',Upd r r' H H'->WkO (X.set k r') H0 H' w T M nx:=by
 obtain ⟨p,m,L,q,v,e,o,own,cov,tab⟩:=h
 have hk':(wkRs p m L T q v M nx w X)[k+3]? = some r:=by simpa [wkRs] using hk
 refine ⟨o.part hk',fun r' H' u =>?_⟩
 obtain ⟨a,b,c⟩:=own_upd e o own (o.set hk' u)
 exact ⟨p,m,L,q,v,a,b,c,cov,tab⟩
theorem WkO.mono (h:WkO X H0 H w T M nx) (e:Ext H H'):WkO X H0 H' w T M nx:=by
 obtain ⟨p,m,L,q,v,e0,o,own,cov,tab⟩:=h
 exact ⟨p,m,L,q,v,e0.trans e,o.mono e,own,cov,tab⟩
theorem WkO.add (h:WkO X H0 H w T M nx) {r:Res} (n:NewRes r H H'):WkO (X++[r]) H0 H' w T M nx:=by
 obtain ⟨p,m,L,q,v,e0,o,own,cov,tab⟩:=h
 obtain ⟨a,b,c⟩:=own_upd e0 o own (o.add r n.1 n.2.1 n.2.2.1 n.2.2.2)
 exact ⟨p,m,L,q,v,a,b,c,cov,tab⟩
theorem newbox (H:AH) (c:List Value):NewRes (boxR H.next c) H (H.new (.cells c none)):=⟨(Ext.refl H).new _,AH.get_new_self _ _,fun b hb=>by simp [boxR] at hb; subst hb; simp,by simp [boxR]⟩
theorem WkO.box (h:WkO X H0 H w T M nx) (c:List Value):WkO (X++[boxR H.next c]) H0 (H.new (.cells c none)) w T M nx:=h.add (newbox H c)
theorem WkO.drop {r:Res} (h:WkO (X++[r]) H0 H w T M nx):WkO X H0 H w T M nx:=by
 obtain ⟨p,m,L,q,v,e0,o,own,cov,tab⟩:=h
 have u:=o.erase (X.length+3)
 have e:(wkRs p m L T q v M nx w (X++[r])).eraseIdx (X.length+3)=wkRs p m L T q v M nx w X:=by simp [wkRs,List.eraseIdx_append]
 rw [e] at u
 obtain ⟨a,b,c⟩:=own_upd e0 o own u
 exact ⟨p,m,L,q,v,a,b,c,cov,tab⟩
theorem WkO.held {k:Nat} {c:List Value} (h:WkO (X++[boxR k c]) H0 H w T M nx):H.get k = .cells c none:=(h.openX (k:=X.length) (r:=boxR k c) (by simp)).1.holds
theorem WkO.put {k:Nat} {c:List Value} (h:WkO (X++[boxR k c]) H0 H w T M nx) (c':List Value):WkO (X++[boxR k c']) H0 (H.put k (.cells c' none)) w T M nx:=by
 have:=(h.openX (k:=X.length) (r:=boxR k c) (by simp)).2 _ _ (boxR.put h.held c')
 rwa [set_last] at this
theorem WkO.at_ (h:WkO X H0 H w T M nx):WkAt H w T M:=by
 obtain ⟨p,q,hw,⟨m,L,hi,_⟩,⟨v,ht,_,_⟩⟩:=h.open_
 have:=h.tab.len
 exact ⟨⟨p,m,L,q,nx,hw,hi,tabR.at_ ht (by omega)⟩,h.tab.older⟩
theorem WkO.two {t:Nat} {nv mv:Value} {mr:List (List Value)} {Y:List RLy} {T2:Tr} {rx:Int} (h:WkO (refR t nv mv rx mr Y T2 :: X) H0 H w T M nx) (hl:Y.length=T2.N.length) (hf:T2.N.length<=60000) :
  ∃ p q v m L,TwoX (tabR q v M nx :: boxR w [ptr p 0,ptr q 0] :: X) H0 H p m L T t nv mv rx mr Y T2 /\
   ∀ L' T' nv' Y' T2' H',TwoX (tabR q v M nx :: boxR w [ptr p 0,ptr q 0] :: X) H0 H' p m L' T' t nv' mv rx mr Y' T2'->WkO (refR t nv' mv rx mr Y' T2' :: X) H0 H' w T' M nx:=by
 obtain ⟨p,m,L,q,v,e0,o,own,cov,tab⟩:=h
 have perm:∀ (a b c d:Res),(a :: b :: c :: d :: X).Perm (a :: d :: b :: c :: X):=fun a b c d=>by
  refine .cons _ ?_
  exact (List.Perm.cons _ (.swap _ _ _)).trans (.swap _ _ _)
 refine ⟨p,q,v,m,L,⟨e0,o.perm (perm _ _ _ _),fun b hb=>own b (((perm _ _ _ _).flatMap_right Res.fp).mem_iff.2 hb),cov,hl,hf⟩,fun L' T' nv' Y' T2' H' h2 =>?_⟩
 exact ⟨p,m,L',q,v,h2.ext,h2.ow.perm (perm _ _ _ _).symm,fun b hb=>h2.own b (((perm _ _ _ _).flatMap_right Res.fp).mem_iff.1 hb),h2.cov,tab⟩
theorem S.f110 (hE:Fold E) (limit:Int) (hQ:∀ w H',WkO [] H H' w (Tr.new limit) tab0 1->Q (ptr w 0) H'):E.call (E.fid i.f110) [vi limit] H Q:=by
 apply hE.f110
 simp only [F.f110]
 refine S.f4' hE limit fun p m L H1 h1 =>?_
 refine S.f32 hE fun q v H2 n2 =>?_
 have hb:buildV [(0,1),(1,1)] #[(.pointer none),(.pointer none)] [(0,ptr p 0),(1,ptr q 0)]=some (.agg #[ptr p 0,ptr q 0]):=rfl
 simp only [hb,boxO_agg_z,AM.mk_some,mkPtr_eq_z,stdZ]
 refine hQ H2.next _ ⟨p,m,L,q,v,?_⟩
 have o1:Ow (joinR [inoR p m L (Tr.new limit)]) H1:=by
  refine ⟨fun r hr=>by rw [List.mem_singleton] at hr; rw [hr]; exact h1.ino.ow.holds,?_,?_⟩
  ·intro b hb; exact h1.ino.ow.lt b (by simpa [joinR] using hb)
  ·simpa [joinR] using h1.ino.ow.nd
 have own1:∀ b∈(joinR [inoR p m L (Tr.new limit)]).fp,H.next<=b:=fun b hb=>h1.own b (by simpa [joinR] using hb)
 obtain ⟨a2,b2,c2⟩:=own_upd h1.ext o1 own1 (o1.add _ n2.1 n2.2.1 n2.2.2.1 n2.2.2.2)
 have n3:=newbox H2 [ptr p 0,ptr q 0]
 obtain ⟨a3,b3,c3⟩:=own_upd a2 b2 c2 (b2.add _ n3.1 n3.2.1 n3.2.2.1 n3.2.2.2)
 exact ⟨a3,b3,c3,h1.ino.cov,tabOk0⟩
end
end Go.AM
end
section
namespace Go.AM
def Tr.Each (P:Nd->Prop) (T:Tr):Prop:=∀ n,P (T.node n)
structure Keeps (P:Nd->Prop):Prop where
 none:P Nd.none
 addE:∀ s k x,P x->P (Nd.addE s k x)
 delE:∀ s x,P x->P (Nd.delE s x)
 addL:∀ k x,P x->P (Nd.addL k x)
 addH:∀ k x,P x->P (Nd.addH k x)
 par:∀ (q:BitVec 16) (x:Nd),P x->P { x with parent:=q }
 made:∀ inn k text,¬ (k=0#8\/3#8<k\/(k=3#8/\(text.length<1\/120<text.length)))->P (Nd.made inn k text)
 data:∀ (x:Nd) (d:List (BitVec 8)),x.kind=1#8->P x->P { x with data:=d }
section
variable {T:Tr} {P:Nd->Prop} (K:Keeps P)
theorem Tr.Each.upd (h:T.Each P) {n:BitVec 16} {f:Nd->Nd} (hf:∀ x:Nd,P x->P (f x)):(T.upd n f).Each P:=by
 intro k
 rcases T.upd_or n k f with e | e
 ·rw [e]; exact h k
 ·rw [e]; exact hf _ (h k)
theorem Tr.Each.updAt (h:T.Each P) {n:BitVec 16} {f:Nd->Nd} (hf:P (f (T.node n))):(T.upd n f).Each P:=by
 intro k
 unfold Tr.upd Tr.node
 simp only [List.getD_eq_getElem?_getD,List.getElem?_modify]
 have hk:=h k
 unfold Tr.node at hk hf
 simp only [List.getD_eq_getElem?_getD] at hk hf
 by_cases e:n.toNat=k.toNat
 ·rw [e] at hf
  cases hh:T.N[k.toNat]? with
  | none=>rw [hh] at hk; exact hk
  | some x=>rw [hh] at hf; simpa [e] using hf
 ·simp only [e,if_false]
  cases hh:T.N[k.toNat]? with
  | none=>rw [hh] at hk; exact hk
  | some x=>rw [hh] at hk; exact hk
theorem Tr.Each.bump (h:T.Each P):T.bump.Each P:=h
include K
theorem Tr.Each.tidy (h:T.Each P) (n:BitVec 16):(T.tidy n).Each P:=by
 unfold Tr.tidy
 split
 ·exact h.upd fun _ _=>K.none
 ·exact h
theorem Tr.Each.put (h:T.Each P) (a:Nat) (x:Nd) (hx:P x):(T.put a x).Each P:=by
 intro k
 unfold Tr.put Tr.node
 simp only [List.getD_eq_getElem?_getD]
 have hk:=h k
 unfold Tr.node at hk
 simp only [List.getD_eq_getElem?_getD] at hk
 split
 ·rw [List.getElem?_set]
  split
  ·exact hx
  ·exact hk
 ·rw [List.getElem?_append]
  split
  ·exact hk
  ·cases hz:([x][k.toNat - T.N.length]? : Option Nd) with
   | none=>exact K.none
   | some z =>
    have:=List.mem_of_getElem? hz
    simp at this
    subst this
    exact hx
theorem Tr.Each.make (h:T.Each P) (inn:BitVec 16) (s:NameL) (kd:BitVec 8) (text:List UInt8):(T.make inn s kd text).1.Each P:=by
 unfold Tr.make
 split
 ·exact h
 split
 ·exact h
 rename_i hc
 split
 ·exact h
 exact ((h.put K T.free (Nd.made inn kd text) (K.made inn kd text hc)).upd (f:=Nd.addE s (BitVec.ofNat 16 T.free)) fun x hx=>K.addE _ _ _ hx).bump
theorem Tr.Each.add (h:T.Each P) (inn:BitVec 16) (s:NameL) (v:BitVec 16):(T.add inn s v).1.Each P:=by
 unfold Tr.add
 repeat' split
 all_goals try exact h
 exact ((h.upd (f:=Nd.addE s v) fun x hx=>K.addE _ _ _ hx).upd (f:=Nd.addL 1) fun x hx=>K.addL _ _ hx).bump
theorem Tr.Each.drop (h:T.Each P) (inn:BitVec 16) (s:NameL) (d:Bool):(T.drop inn s d).1.Each P:=by
 unfold Tr.drop
 repeat' split
 all_goals try exact h
 exact Tr.Each.tidy K ((h.upd (f:=Nd.delE s) fun x hx=>K.delE _ _ hx).upd (f:=Nd.addL (-1)) fun x hx=>K.addL _ _ hx).bump _
theorem Tr.Each.hold (h:T.Each P) (n:BitVec 16) (more:Bool):(T.hold n more).1.Each P:=by
 unfold Tr.hold
 repeat' split
 all_goals try exact h
 ·exact h.upd fun x hx=>K.addH _ _ hx
 ·exact Tr.Each.tidy K (h.upd fun x hx=>K.addH _ _ hx) _
theorem Tr.Each.move (h:T.Each P) (fr:BitVec 16) (s:NameL) (to:BitVec 16) (other:NameL):(T.move fr s to other).1.Each P:=by
 have key:∀ (U:Tr) (n:BitVec 16),U.Each P->(Tr.moved U fr s to other n).Each P:=by
  intro U n hU
  have h2:((U.upd fr (Nd.delE s)).upd to (Nd.addE other n)).Each P:=(hU.upd (f:=Nd.delE s) fun x hx=>K.delE _ _ hx).upd (f:=Nd.addE other n) fun x hx=>K.addE _ _ _ hx
  unfold Tr.moved
  simp only
  split
  ·exact (h2.upd (f:=fun x=>{ x with parent:=to }) fun x hx=>K.par _ _ hx).bump
  ·exact h2.bump
 unfold Tr.move
 split
 ·exact h
 split
 ·exact h
 split
 ·exact h
 split
 ·exact h
 split
 ·exact h
 refine key _ _ ?_
 split
 ·exact h.drop K _ _ _
 ·exact h
theorem Tr.Each.write (h:T.Each P) (n:BitVec 16) (at_:Int) (b:List (BitVec 8)):(T.write n at_ b).1.Each P:=by
 unfold Tr.write
 split
 ·exact h
 split
 ·exact h
 split
 ·exact h
 rename_i hc
 split
 ·exact h
 refine Tr.Each.bump (Tr.Each.updAt h ?_)
 exact K.data _ _ (by simp only [not_or,Decidable.not_not] at hc; exact hc.1) (h n)
theorem Tr.Each.cut (h:T.Each P) (n:BitVec 16) (size:Int):(T.cut n size).1.Each P:=by
 unfold Tr.cut
 split
 ·exact h
 split
 ·exact h
 split
 ·exact h
 rename_i hc
 split
 ·exact h
 refine Tr.Each.bump (Tr.Each.updAt h ?_)
 exact K.data _ _ (by simp only [not_or,Decidable.not_not] at hc; exact hc.1) (h n)
omit K in
theorem Tr.Each.new (limit:Int) (h0:P Nd.none) (h1:P { Nd.none with kind:=2#8,parent:=1#16,links:=1 }):(Tr.new limit).Each P:=by
 intro n
 unfold Tr.new Tr.node
 simp only [List.getD_eq_getElem?_getD]
 by_cases e0:n.toNat=0
 ·rw [e0]; exact h0
 ·by_cases e1:n.toNat=1
  ·rw [e1]; exact h1
  ·rw [List.getElem?_eq_none (by simp; omega)]; exact h0
end
structure Nd.KD (x:Nd):Prop where
 kind:x.kind=0#8\/x.kind=1#8\/x.kind=2#8\/x.kind=3#8
 text:x.kind=3#8->x.text≠[]/\x.text.length<=120
 notext:x.kind≠3#8->x.text=[]
 nodata:x.kind≠1#8->x.data=[]
theorem keeps_KD:Keeps Nd.KD where
 none:=⟨.inl rfl,by simp [Nd.none],by simp [Nd.none],by simp [Nd.none]⟩
 addE:=fun _ _ _ h=>⟨h.kind,h.text,h.notext,h.nodata⟩
 delE:=fun _ _ h=>⟨h.kind,h.text,h.notext,h.nodata⟩
 addL:=fun _ _ h=>⟨h.kind,h.text,h.notext,h.nodata⟩
 addH:=fun _ _ h=>⟨h.kind,h.text,h.notext,h.nodata⟩
 par:=fun _ _ h=>⟨h.kind,h.text,h.notext,h.nodata⟩
 made:=fun inn k text h=>by
  simp only [not_or,not_and] at h
  obtain ⟨h1,h2,h3⟩:=h
  have hk:k=1#8\/k=2#8\/k=3#8:=by
   have h2:¬ (3<k.toNat):=h2
   have h1:k.toNat≠0:=fun e=>h1 (BitVec.eq_of_toNat_eq e)
   have:k.toNat=1\/k.toNat=2\/k.toNat=3:=by omega
   rcases this with e | e | e
   ·exact .inl (BitVec.eq_of_toNat_eq e)
   ·exact .inr (.inl (BitVec.eq_of_toNat_eq e))
   ·exact .inr (.inr (BitVec.eq_of_toNat_eq e))
  refine ⟨.inr hk,fun e =>?_,fun e =>?_,fun _=>rfl⟩
  ·have e:k=3#8:=e
   obtain ⟨a,b⟩:=h3 e
   have ht:(Nd.made inn k text).text=text:=by simp [Nd.made,e]
   rw [ht]
   refine ⟨fun e0=>a (by rw [e0]; decide),by omega⟩
  ·have e:k≠3#8:=e
   simp [Nd.made,e]
 data:=fun x d hk h=>⟨h.kind,h.text,h.notext,fun e=>(e hk).elim⟩
abbrev Tr.KD (T:Tr):Prop:=T.Each Nd.KD
theorem Tr.KD.new (limit:Int):(Tr.new limit).KD:=Tr.Each.new limit keeps_KD.none ⟨.inr (.inr (.inl rfl)),by simp,by simp [Nd.none],by simp [Nd.none]⟩
end Go.AM
end
section
namespace Go.AM
section
variable {E:Sy} {X:List Res} {H H' H0 Z:AH} {Q:Value->AH->Prop} {w p m:Nat} {T T':Tr} {M M':List MntD} {nx nx':Int} {L:LyL}
abbrev Tr.CO (T:Tr):Prop := -9223372036854775808<=T.change/\T.change<9223372036854775806
theorem Ino.cMake (hE:Fold E) (h:Ino H p m L T) (wf:T.WF) (n:BitVec 16) (s:NameL) (hs:s.length<2 ^ 63) (k:BitVec 8) (text:List UInt8) (ht:text.length<2 ^ 63) (hc:T.CO)
  (hQ:∀ L' H',UpdI p m L T L' (T.make n s k text).1 H H'->Q (.tuple #[u16 (T.make n s k text).2.1,vi (T.make n s k text).2.2]) H'):E.call (E.fid i.f11) [ptr p 0,u16 n,str s,u8 k,str text] H Q:=by
 have hlen:=wf.len16
 have hl2:=wf.len.1
 exact S.f11 hE h n s hs k text ht ⟨hc.1,by have:=hc.2; omega⟩ ⟨by omega,by omega⟩ (fun _ r=>wf.chain ⟨(Tr.room_ok r).1,(Tr.room_ok r).2.2.1⟩ 17) fun L1 H1 _ u1=>hQ _ _ u1
theorem Ino.cMove (hE:Fold E) (h:Ino H p m L T) (wf:T.WF) (fr to:BitVec 16) (s other:NameL) (hs:other.length<2 ^ 63) (hc:T.CO)
  (hQ:∀ L' H',UpdI p m L T L' (T.move fr s to other).1 H H'->Q (vi (T.move fr s to other).2) H'):E.call (E.fid i.f12) [ptr p 0,u16 fr,str s,u16 to,str other] H Q:=by
 exact S.f12 hE h fr to s other hs hc (fun e=>(wf.look_bd fr s e).1) (fun _ hk h1=>wf.chain ⟨hk,h1⟩ 17) (f:=17) (fun e hk=>wf.fits17 (wf.look_live (Tr.look_ok e).2 hk)) (by omega)
  (fun y hk hy=>⟨(wf.pos hy).2.2.2.1,(wf.links_bd y).1,by have:=(wf.links_bd y).2; omega⟩) fun L1 H1 _ _ u1=>hQ _ _ u1
theorem Tr.KD.lt (h:T.KD):T.LT:=fun n hk=>(h n).text hk
end
end Go.AM
end
section
namespace Go.AM
section
variable {E:Sy} {X:List Res} {H H' H0 Z:AH} {Q:Value->AH->Prop} {t w:Nat} {T T':Tr} {M M':List MntD} {nx nx':Int} {L:List Res} {s:Nat}
theorem two_store {H:AH} {z c:List Value} (hz:z.length=2) (hc:c.length=2) (hp:c.all plain1=true):storeN 2 (ptr H.next 0) (.agg c.toArray) (H.new (.cells z none))=some (H.new (.cells c none)):=by
 rw [storeN_ptr,AH.get_new_self]
 have:AM.splice z 0 c=c:=by simp [splice,hz,hc]
 simp only [List.size_toArray,List.toList_toArray,hc,hz,hp,Nat.zero_add,Nat.le_refl,and_self,if_true,this,AH.new_put]
end
end Go.AM
end
section
namespace Go.AM
section
variable {X:List Res} {E:Sy} {H0 H H' H'':AH} {Q:Value->AH->Prop} {p m:Nat} {L L' L'':LyL} {T T' T'' T2 T2':Tr} {t:Nat} {nv nv' mv:Value} {nx:Int} {mr:List (List Value)} {Y Y':List RLy}
theorem ofInt_nat16 (j:Nat):BitVec.ofInt 16 (j:Int)=BitVec.ofNat 16 j:=by
 apply BitVec.eq_of_toNat_eq
 simp
theorem conv16 (a:Nat):convInt .u16 (vi a)=some (u16 (BitVec.ofNat 16 a)):=by rw [i64_to_u16,ofInt_nat16]
theorem convN (a:BitVec 16):convInt .u16 (vi (a.toNat:Int))=some (u16 a):=by rw [conv16]; simp
end
end Go.AM
end
section
namespace Go.AM
structure ActD where
 kind:BitVec 8
 in_:BitVec 8
 to:BitVec 8
 name:BitVec 8
 other:BitVec 8
 any:List UInt8
 n:Int
 bytes:Value
 bl:List (BitVec 8)
 flag:Bool
 raw:Bool
def ActD.cells (x:ActD):List Value:=[u8 x.kind,u8 x.in_,u8 x.to,u8 x.name,u8 x.other,str x.any,vi x.n,x.bytes,vb x.flag,vb x.raw]
abbrev actSh:Sh := .struct [.int .u8,.int .u8,.int .u8,.int .u8,.int .u8,.str,.int .i64,.slice 1 (.int .u8),.bool,.bool]
structure ActD.ok (H:AH) (x:ActD):Prop where
 any:x.any.length<=9223372036854775807
 n : -9223372036854775808<=x.n/\x.n<9223372036854775808
 bytes:Rows H 1 x.bytes (byteR x.bl)
 bl:x.bl.length<=9223372036854775807
theorem ActD.ok.mono {H H':AH} {x:ActD} (h:x.ok H) (e:Ext H H'):x.ok H':=⟨h.any,h.n,h.bytes.mono e,h.bl⟩
theorem SV.act {H:AH} {cs:List Value} (h:SV H actSh cs):∃ x:ActD,cs=x.cells/\x.ok H:=by
 obtain ⟨c0,e0,rfl,h0,c1,e1,rfl,h1,c2,e2,rfl,h2,c3,e3,rfl,h3,c4,e4,rfl,h4,c5,e5,rfl,h5,c6,e6,rfl,h6,c7,e7,rfl,h7,c8,e8,rfl,h8,c9,e9,rfl,h9,rfl⟩:=h
 obtain ⟨x0,rfl⟩:=h0.u8
 obtain ⟨x1,rfl⟩:=h1.u8
 obtain ⟨x2,rfl⟩:=h2.u8
 obtain ⟨x3,rfl⟩:=h3.u8
 obtain ⟨x4,rfl⟩:=h4.u8
 obtain ⟨x5,rfl,g5⟩:=h5
 obtain ⟨x6,rfl,g6⟩:=h6.i64
 obtain ⟨v7,x7,rfl,g7,l7⟩:=SV.vals (fun r hr=>SV.u8 hr) h7
 obtain ⟨x8,rfl⟩:=h8
 obtain ⟨x9,rfl⟩:=h9
 refine ⟨⟨x0,x1,x2,x3,x4,x5,x6,v7,x7,x8,x9⟩,rfl,g5,g6,?_,by simpa using l7⟩
 show Rows H 1 v7 (byteR x7)
 have:byteR x7=(x7.map AM.u8).map fun v=>[v]:=by simp [byteR]
 rw [this]; exact g7
section
variable {X:List Res} {E:Sy} {H0 H H' H'':AH} {Q:Value->AH->Prop} {p m:Nat} {L L' L'':LyL} {T T' T'' T2 T2':Tr} {t:Nat} {nv nv' mv:Value} {nx:Int} {mr:List (List Value)} {Y Y':List RLy}
def actNames:List NameL:=[[97],[98],[99],[100,46,101],[102],[103],[],[46,46],[97,47,98]]
theorem S.f45 (hE:Fold E) (hQ:∀ v H',Ext H H'->Rows H' 1 v (strR actNames)->Q v H'):E.call (E.fid i.f45) [] H Q:=by
 apply hE.f45
 have hb:buildS 9 1 #[(.string ⟨#[]⟩)] [(0,(.string ⟨#[97]⟩)),(1,(.string ⟨#[98]⟩)),(2,(.string ⟨#[99]⟩)),(3,(.string ⟨#[100,46,101]⟩)),(4,(.string ⟨#[102]⟩)),(5,(.string ⟨#[103]⟩)),(6,(.string ⟨#[]⟩)),(7,(.string ⟨#[46,46]⟩)),(8,(.string ⟨#[97,47,98]⟩))]=some (.cells (actNames.map str) none,mkSlc 9 9):=by
  have:=buildS_full 9 1 [str []] [(0,str [97]),(1,str [98]),(2,str [99]),(3,str [100,46,101]),(4,str [102]),(5,str [103]),(6,str []),(7,str [46,46]),(8,str [97,47,98])] (actNames.map str) rfl rfl rfl rfl (by
   intro v hv
   obtain ⟨s,_,rfl⟩:=List.mem_map.1 hv
   rfl)
  simpa [actNames] using this
 simp only [F.f45,hb,AM.mk_some,mkSlc_eq,tk_eq]
 refine hQ _ _ ((Ext.refl H).new _) (Rows.made (f:=none) (by rw [AH.get_new_self]; rfl) (.inl rfl) rfl ?_)
 intro r hr
 obtain ⟨s,_,rfl⟩:=List.mem_map.1 hr
 rfl
theorem actZero:([(.int .u8 0),(.int .u8 0),(.int .u8 0),(.int .u8 0),(.int .u8 0),(.string ⟨#[]⟩),(.int .i64 0),(.slice none 0 0),(.bool false),(.bool false)]:List Value)=(ActD.mk 0#8 0#8 0#8 0#8 0#8 [] 0 nilS [] false false).cells:=rfl
theorem ActD.all_plain (x:ActD) (h:plain1 x.bytes=true):x.cells.all plain1=true:=by
 simp only [ActD.cells,List.all_cons,List.all_nil,h]; rfl
theorem act_store {x:ActD} (hp:plain1 x.bytes=true) (z:ActD):storeN 10 (ptr H.next 0) (.agg x.cells.toArray) (H.new (.cells z.cells none))=some (H.new (.cells x.cells none)):=by
 rw [storeN_ptr,AH.get_new_self]
 have hs:AM.splice z.cells 0 x.cells=x.cells:=rfl
 have h1:x.cells.length=10:=rfl
 have h2:z.cells.length=10:=rfl
 simp only [List.size_toArray,List.toList_toArray,h1,h2,ActD.all_plain x hp,Nat.zero_add,Nat.le_refl,and_self,if_true,hs,AH.new_put]
theorem rows_plain {v:Value} {rows:List (List Value)} {sz:Nat} (h:Rows H sz v rows):plain1 v=true:=by
 rcases h.at_ with ⟨_,c,rfl⟩ | ⟨b,o,c,rfl,_⟩
 ·cases c <;> rfl
 ·rfl
end
end Go.AM
end
section
namespace Go.AM
section
variable {X:List Res} {E:Sy} {H0 H H' H'':AH} {Q:Value->AH->Prop} {p m:Nat} {L L' L'':LyL} {T T' T'' T2 T2':Tr} {t:Nat} {nv nv' mv:Value} {nx:Int} {mr:List (List Value)} {Y Y':List RLy}
structure ActTo (X:List Res) (H0 H':AH) (p m t:Nat) (mv:Value) (nx:Int) (mr:List (List Value)) (T:Tr) (B:Int) (L':LyL) (nv':Value) (Y':List RLy) (T':Tr):Prop where
 two:TwoX X H0 H' p m L' T' t nv' mv nx mr Y' T'
 wf:T'.WF
 cb:T.CB T'
 hb:T'.HB (B+1)
inductive Tr.Did (up:Bool) (T:Tr):Tr->Prop
 | make (a:BitVec 16) (s:NameL) (k:BitVec 8) (text:List UInt8):T.Did up (T.make a s k text).1
 | add (a:BitVec 16) (s:NameL) (b:BitVec 16):T.Did up (T.add a s b).1
 | drop (a:BitVec 16) (s:NameL) (d:Bool):T.Did up (T.drop a s d).1
 | move (a:BitVec 16) (s:NameL) (b:BitVec 16) (o:NameL):T.Did up (T.move a s b o).1
 | hold (a:BitVec 16):T.Did up (T.hold a up).1
 | write (a:BitVec 16) (n:Int) (l:List (BitVec 8)):T.Did up (T.write a n l).1
 | cut (a:BitVec 16) (n:Int):T.Did up (T.cut a n).1
 | refl:T.Did up T
theorem tab5 (o:BitVec 8) (k:BitVec 8) (hk:k<5#8):∃ kd:BitVec 8,([[u8 1#8],[u8 2#8],[u8 2#8],[u8 3#8],[u8 o]]:List (List Value))[k.toNat]? = some [u8 kd]:=by
 have h:k.toNat<5:=hk
 have:k.toNat=0\/k.toNat=1\/k.toNat=2\/k.toNat=3\/k.toNat=4:=by omega
 rcases this with e | e | e | e | e <;> rw [e]
 ·exact ⟨_,rfl⟩
 ·exact ⟨_,rfl⟩
 ·exact ⟨_,rfl⟩
 ·exact ⟨_,rfl⟩
 ·exact ⟨_,rfl⟩
theorem do_j1 (hE:Fold E) {bx:Nat} {x:ActD} (h:TwoX (X++[boxR bx x.cells]) H0 H p m L T t nv mv nx mr Y T) (w:T.WF) {B:Int} (hb:T.HB B) (hB:0<=B/\B<1000000) (hc:0<=T.change/\T.change<1000000) (hx:x.ok H0) (hl:x.any.length<=200/\x.bl.length<=200) {up:Bool} (hup:x.kind % 15#8=11#8->x.flag=up)
  (a b:BitVec 16) (s o:NameL) (hs:s.length<2 ^ 63) (ho:o.length<2 ^ 63) (hQ:∀ L' nv' Y' T' H',ActTo X H0 H' p m t mv nx mr T B L' nv' Y' T'->T.Did up T'->Q (vb true) H') :
  F.f44_j1 E Q (ptr p 0) (ptr t 0) (ptr bx 0) (vi (a.toNat:Int)) (vi (b.toNat:Int)) (str s) (str o) H:=by
 have hbx:=h.held
 have c0:x.cells[0]? = some (u8 x.kind):=rfl
 have c4:x.cells[4]? = some (u8 x.other):=rfl
 have c5:x.cells[5]? = some (str x.any):=rfl
 have c6:x.cells[6]? = some (vi x.n):=rfl
 have c7:x.cells[7]? = some x.bytes:=rfl
 have c8:x.cells[8]? = some (vb x.flag):=rfl
 have hrem:binInt .rem (u8 x.kind) (.int .u8 15)=some (u8 (x.kind % 15#8)):=u8_rem x.kind 15#8 (by decide)
 have hlt:(x.kind % 15#8).toNat<15:=by rw [BitVec.toNat_umod]; exact Nat.mod_lt _ (by decide)
 have n5:(.int .u8 5:Value)=u8 5#8:=rfl
 have n8:(.int .u8 8:Value)=u8 8#8:=rfl
 have n11:(.int .u8 11:Value)=u8 11#8:=rfl
 have n12:(.int .u8 12:Value)=u8 12#8:=rfl
 have n13:(.int .u8 13:Value)=u8 13#8:=rfl
 simp only [F.f44_j1,convN,addOff_ptr,load1_ptr,Nat.zero_add,hbx,cell_cells_z,c0,hrem,tk_eq,opt_some]
 generalize x.kind % 15#8=k at *
 have lss:∀ c:BitVec 8,binInt .lss (u8 k) (u8 c)=some (vb (decide (k<c))):=fun c=>by rw [u8_lss]; rfl
 by_cases k5:k<5#8
 ·have q1:binInt .lss (u8 k) (.int .u8 5)=some (vb true):=by rw [n5,lss]; simp [k5]
  have k5n:k.toNat<5:=k5
  obtain ⟨kd,hkd⟩:=tab5 x.other k k5
  have hbS:buildS 5 1 #[(.int .u8 0)] [(0,(.int .u8 1)),(1,(.int .u8 2)),(2,(.int .u8 2)),(3,(.int .u8 3)),(4,u8 x.other)]=some (.cells [u8 1#8,u8 2#8,u8 2#8,u8 3#8,u8 x.other] none,mkSlc 5 5):=by
   have:=buildS_full 5 1 [u8 0#8] [(0,u8 1#8),(1,u8 2#8),(2,u8 2#8),(3,u8 3#8),(4,u8 x.other)] [u8 1#8,u8 2#8,u8 2#8,u8 3#8,u8 x.other] rfl rfl rfl rfl (by intro v hv; simp at hv; rcases hv with rfl | rfl | rfl | rfl <;> rfl)
   simpa using this
  have hx1:Ext H (H.new (.cells [u8 1#8,u8 2#8,u8 2#8,u8 3#8,u8 x.other] none)):=(Ext.refl H).new _
  have hr:Rows (H.new (.cells [u8 1#8,u8 2#8,u8 2#8,u8 3#8,u8 x.other] none)) 1 (slc H.next 0 5 5) [[u8 1#8],[u8 2#8],[u8 2#8],[u8 3#8],[u8 x.other]]:=Rows.made (f:=none) (by rw [AH.get_new_self]; rfl) (.inl rfl) rfl (by intro r hr; simp at hr; rcases hr with rfl | rfl | rfl | rfl <;> rfl)
  obtain ⟨b1,o1,p1,p2⟩:=hr.ix (i:=k.toNat) k5n
  rw [List.getElem?_eq_getElem (by simpa using k5n)] at hkd
  rw [Option.some.inj hkd] at p2
  have p3:((H.new (.cells [u8 1#8,u8 2#8,u8 2#8,u8 3#8,u8 x.other] none)).get b1).cell o1=some (u8 kd):=by have:=row_at p2 (j:=0) (by omega); simpa using this
  have h1:=h.mono hx1
  simp only [q1,addOff_ptr,load1_ptr,Nat.zero_add,hbx,cell_cells_z,c4,hbS,AM.mk_some,mkSlc_eq,ixSlc_u8,p1,p3,h1.held,c5,tk_eq,opt_some,ifB_true]
  refine TwoX.cMake hE h1 w a s hs kd x.any (by omega) ⟨by omega,by omega⟩ fun L2 H2 h2 =>?_
  simp only [ext_tuple,List.getElem?_cons_zero,List.getElem?_cons_succ,u8_to_i64,addOff_ptr,load1_ptr,Nat.zero_add,h2.held,cell_cells_z,c5,tk_eq,opt_some]
  refine TwoX.rMake hE h2 w a s hs kd x.any ⟨by omega,by omega⟩ fun nv3 Y3 H3 h3 =>?_
  simp only [ext_tuple,List.getElem?_cons_zero,List.getElem?_cons_succ,u16_to_i64,i64_eql,decide_true,gd_tt,pick_true_z,tk_eq,opt_some]
  exact hQ _ _ _ _ _ ⟨h3.drop,w.make a s kd x.any,.make a s kd x.any,(hb.make hB.1 a s kd x.any).mono (by omega)⟩ (.make a s kd x.any)
 by_cases e5:k=5#8
 ·have q1:binInt .lss (u8 k) (.int .u8 5)=some (vb false):=by rw [n5,lss]; simp [k5]
  have q2:binInt .eql (u8 k) (.int .u8 5)=some (vb true):=by rw [n5]; simp [e5]
  simp only [q1,q2,tk_eq,opt_some,ifB_false,ifB_true]
  refine TwoX.cAdd hE h w a s hs b ⟨by omega,by omega⟩ fun L1 H1 h1 =>?_
  refine TwoX.rAdd hE h1 w a s hs b ⟨by omega,by omega⟩ fun Y2 H2 h2 =>?_
  simp only [i64_eql,decide_true,tk_eq,opt_some]
  exact hQ _ _ _ _ _ ⟨h2.drop,w.add a s b,.add a s b,(hb.add a s b).mono (by omega)⟩ (.add a s b)
 by_cases k8:k<8#8
 ·have q1:binInt .lss (u8 k) (.int .u8 5)=some (vb false):=by rw [n5,lss]; simp [k5]
  have q2:binInt .eql (u8 k) (.int .u8 5)=some (vb false):=by rw [n5]; simp [e5]
  have q3:binInt .lss (u8 k) (.int .u8 8)=some (vb true):=by rw [n8,lss]; simp [k8]
  simp only [q1,q2,q3,addOff_ptr,load1_ptr,Nat.zero_add,hbx,cell_cells_z,c8,tk_eq,opt_some,ifB_false,ifB_true]
  refine TwoX.cDrop hE h w a s x.flag ⟨by omega,by omega⟩ fun L1 H1 h1 =>?_
  refine ⟨by rw [load1_ptr,load1_ptr,h1.held,hbx],?_⟩
  refine TwoX.rDrop hE h1 w a s x.flag ⟨by omega,by omega⟩ fun Y2 H2 h2 =>?_
  simp only [i64_eql,decide_true,tk_eq,opt_some]
  exact hQ _ _ _ _ _ ⟨h2.drop,w.drop a s x.flag,.drop a s x.flag,(hb.drop hB.1 a s x.flag).mono (by omega)⟩ (.drop a s x.flag)
 by_cases k11:k<11#8
 ·have q1:binInt .lss (u8 k) (.int .u8 5)=some (vb false):=by rw [n5,lss]; simp [k5]
  have q2:binInt .eql (u8 k) (.int .u8 5)=some (vb false):=by rw [n5]; simp [e5]
  have q3:binInt .lss (u8 k) (.int .u8 8)=some (vb false):=by rw [n8,lss]; simp [k8]
  have q4:binInt .lss (u8 k) (.int .u8 11)=some (vb true):=by rw [n11,lss]; simp [k11]
  simp only [q1,q2,q3,q4,tk_eq,opt_some,ifB_false,ifB_true]
  refine TwoX.cMove hE h w a b s o ho ⟨by omega,by omega⟩ fun L1 H1 h1 =>?_
  refine TwoX.rMove hE h1 w a b s o ho ⟨by omega,by omega⟩ fun Y2 H2 h2 =>?_
  simp only [i64_eql,decide_true,tk_eq,opt_some]
  exact hQ _ _ _ _ _ ⟨h2.drop,w.move a s b o,.move a s b o,(hb.move hB.1 a s b o).mono (by omega)⟩ (.move a s b o)
 have q1:binInt .lss (u8 k) (.int .u8 5)=some (vb false):=by rw [n5,lss]; simp [k5]
 have q2:binInt .eql (u8 k) (.int .u8 5)=some (vb false):=by rw [n5]; simp [e5]
 have q3:binInt .lss (u8 k) (.int .u8 8)=some (vb false):=by rw [n8,lss]; simp [k8]
 have q4:binInt .lss (u8 k) (.int .u8 11)=some (vb false):=by rw [n11,lss]; simp [k11]
 by_cases e11:k=11#8
 ·have q5:binInt .eql (u8 k) (.int .u8 11)=some (vb true):=by rw [n11]; simp [e11]
  simp only [q1,q2,q3,q4,q5,addOff_ptr,load1_ptr,Nat.zero_add,hbx,cell_cells_z,c8,tk_eq,opt_some,ifB_false,ifB_true]
  refine TwoX.cHold hE h w a x.flag (by have:=hb a; omega) fun L1 H1 h1 =>?_
  refine ⟨by rw [load1_ptr,load1_ptr,h1.held,hbx],?_⟩
  refine TwoX.rHold hE h1 w a x.flag (by have:=hb a; omega) fun Y2 H2 h2 =>?_
  simp only [i64_eql,decide_true,tk_eq,opt_some]
  exact hQ _ _ _ _ _ ⟨h2.drop,w.hold a x.flag,.hold a x.flag,hb.hold hB.1 a x.flag⟩ (hup e11 ▸ .hold a)
 have q5:binInt .eql (u8 k) (.int .u8 11)=some (vb false):=by rw [n11]; simp [e11]
 by_cases e12:k=12#8
 ·have q6:binInt .eql (u8 k) (.int .u8 12)=some (vb true):=by rw [n12]; simp [e12]
  simp only [q1,q2,q3,q4,q5,q6,addOff_ptr,load1_ptr,Nat.zero_add,hbx,cell_cells_z,c6,c7,tk_eq,opt_some,ifB_false,ifB_true]
  refine TwoX.cWrite hE h w a x.n x.bytes x.bl (hx.bytes.mono h.ext) (by omega) hx.n ⟨by omega,by omega⟩ fun L1 H1 h1 =>?_
  refine ⟨by rw [load1_ptr,load1_ptr,h1.held,hbx],by rw [load1_ptr,load1_ptr,h1.held,hbx],?_⟩
  refine TwoX.rWrite hE h1 w a x.n x.bytes x.bl (hx.bytes.mono h1.ext) (by omega) ⟨by omega,by omega⟩ fun Y2 H2 h2 =>?_
  simp only [i64_eql,decide_true,tk_eq,opt_some]
  exact hQ _ _ _ _ _ ⟨h2.drop,w.write a x.n x.bl,.write a x.n x.bl,(hb.write a x.n x.bl).mono (by omega)⟩ (.write a x.n x.bl)
 have q6:binInt .eql (u8 k) (.int .u8 12)=some (vb false):=by rw [n12]; simp [e12]
 by_cases e13:k=13#8
 ·have q7:binInt .eql (u8 k) (.int .u8 13)=some (vb true):=by rw [n13]; simp [e13]
  simp only [q1,q2,q3,q4,q5,q6,q7,addOff_ptr,load1_ptr,Nat.zero_add,hbx,cell_cells_z,c6,tk_eq,opt_some,ifB_false,ifB_true]
  refine TwoX.cCut hE h w a x.n ⟨by omega,by omega⟩ fun L1 H1 h1 =>?_
  refine ⟨by rw [load1_ptr,load1_ptr,h1.held,hbx],?_⟩
  refine TwoX.rCut hE h1 w a x.n ⟨by omega,by omega⟩ fun Y2 H2 h2 =>?_
  simp only [i64_eql,decide_true,tk_eq,opt_some]
  exact hQ _ _ _ _ _ ⟨h2.drop,w.cut a x.n,.cut a x.n,(hb.cut a x.n).mono (by omega)⟩ (.cut a x.n)
 have q7:binInt .eql (u8 k) (.int .u8 13)=some (vb false):=by rw [n13]; simp [e13]
 simp only [q1,q2,q3,q4,q5,q6,q7,tk_eq,opt_some,ifB_false]
 refine S.f10 hE h.ino a s ?_
 simp only [ext_tuple,List.getElem?_cons_zero,List.getElem?_cons_succ,tk_eq,opt_some]
 refine S.f61 hE h.ref w.small a s fun H2 e2 =>?_
 simp only [ext_tuple,List.getElem?_cons_zero,List.getElem?_cons_succ,u16_to_i64,i64_eql,decide_true,gd_tt,pick_true_z,tk_eq,opt_some]
 exact hQ _ _ _ _ _ ⟨(h.mono e2).drop,w,.refl,hb.mono (by omega)⟩ .refl
theorem names_at {v:Value} (h:Rows H 1 v (strR actNames)) (k:Nat):∃ b o s,ixSlc 1 v (vi ((k % 9:Nat):Int))=some (ptr b o)/\(∀ H',Ext H H'->(H'.get b).cell o=some (str s))/\s.length<2 ^ 63:=by
 have hk:k % 9<9:=Nat.mod_lt _ (by omega)
 have hlen:(strR actNames).length=9:=rfl
 obtain ⟨b,o,p1,p2⟩:=h.ix (i:=k % 9) (by rw [hlen]; exact hk)
 have hmem:(strR actNames)[k % 9]'(by rw [hlen]; exact hk)∈strR actNames:=List.getElem_mem _
 obtain ⟨s,hs,he⟩:=List.mem_map.1 hmem
 rw [<- he] at p2
 refine ⟨b,o,s,p1,fun H' e =>?_,?_⟩
 ·rw [e.get (AH.lt_of_get (row_notdead p2))]
  have:=row_at p2 (j:=0) (by omega)
  simpa using this
 ·have:∀ s∈actNames,s.length<2 ^ 63:=by decide
  exact this s hs
theorem S.f44 (hE:Fold E) {x:ActD} (h:TwoX X H0 H p m L T t nv mv nx mr Y T) (w:T.WF) {B:Int} (hb:T.HB B) (hB:0<=B/\B<1000000) (hc:0<=T.change/\T.change<1000000) (hx:x.ok H0) (hl:x.any.length<=200/\x.bl.length<=200) (hraw:x.raw=false) {up:Bool} (hup:x.kind % 15#8=11#8->x.flag=up)
  (hQ:∀ L' nv' Y' T' H',ActTo X H0 H' p m t mv nx mr T B L' nv' Y' T'->T.Did up T'->Q (vb true) H'):E.call (E.fid i.f44) [ptr p 0,ptr t 0,.agg x.cells.toArray] H Q:=by
 apply hE.f44
 have hbo:boxO (.agg x.cells.toArray)=some (.cells x.cells none,fun b=>ptr b 0):=by
  have:x.cells.all plain1=true:=x.all_plain (rows_plain hx.bytes)
  first
   | rfl
   | simp [boxO,this]
 have h1:=h.box x.cells
 have hb1:=h1.held
 have c1:x.cells[1]? = some (u8 x.in_):=rfl
 have c2:x.cells[2]? = some (u8 x.to):=rfl
 have c3:x.cells[3]? = some (u8 x.name):=rfl
 have c4:x.cells[4]? = some (u8 x.other):=rfl
 have c9:x.cells[9]? = some (vb x.raw):=rfl
 have r1:binInt .rem (u8 x.in_) (.int .u8 8)=some (u8 (x.in_ % 8#8)):=u8_rem _ 8#8 (by decide)
 have r2:binInt .rem (u8 x.to) (.int .u8 8)=some (u8 (x.to % 8#8)):=u8_rem _ 8#8 (by decide)
 have n1:(((x.in_ % 8#8).setWidth 16:BitVec 16).toNat)=(x.in_ % 8#8).toNat:=by simp; omega
 have n2:(((x.to % 8#8).setWidth 16:BitVec 16).toNat)=(x.to % 8#8).toNat:=by simp; omega
 simp only [F.f44,hbo,AM.mk_some,addOff_ptr,load1_ptr,Nat.zero_add,hb1,cell_cells_z,c1,c2,c3,c4,r1,r2,u8_to_i64,tk_eq,opt_some]
 generalize hH1:H.new (.cells x.cells none)=H1 at *
 have ld:∀ {H'} (k:Nat),Ext H1 H'->load1 (ptr H.next k) H'=load1 (ptr H.next k) H1:=fun k e=>by rw [load1_ptr,load1_ptr,(h1.mono e).held,hb1]
 refine S.f45 hE fun v2 H2 e2 s2 =>?_
 refine ⟨ld 4 e2,ld 3 e2,?_⟩
 refine S.f45 hE fun v3 H3 e3 s3 =>?_
 have e13:=e2.trans e3
 refine ⟨ld 4 e13,ld 3 e13,?_⟩
 have l3:AM.lenSlc v3=some (vi (9:Nat)):=s3.lenSlc
 obtain ⟨b4,o4,sn,p4,q4,w4⟩:=names_at s2 x.name.toNat
 simp only [l3,i64_rem_nat x.name.toNat 9 (by omega),p4,load1_ptr,q4 H3 e3,tk_eq,opt_some]
 refine S.f45 hE fun v5 H5 e5 s5 =>?_
 have e15:=e13.trans e5
 refine ⟨by rw [load1_ptr,load1_ptr,q4 H5 (e3.trans e5),q4 H3 e3],ld 4 e15,ld 3 e15,?_⟩
 refine S.f45 hE fun v6 H6 e6 s6 =>?_
 have e16:=e15.trans e6
 refine ⟨by rw [load1_ptr,load1_ptr,q4 H6 (e3.trans (e5.trans e6)),q4 H3 e3],ld 4 e16,ld 3 e16,?_⟩
 have l6:AM.lenSlc v6=some (vi (9:Nat)):=s6.lenSlc
 obtain ⟨b7,o7,so,p7,q7,w7⟩:=names_at s5 x.other.toNat
 have h6:=h1.mono e16
 have hj:=do_j1 (Q:=Q) hE h6 w hb hB hc hx hl hup ((x.in_ % 8#8).setWidth 16) ((x.to % 8#8).setWidth 16) sn so w4 w7 hQ
 rw [n1,n2] at hj
 simp only [l6,i64_rem_nat x.other.toNat 9 (by omega),p7,load1_ptr,q7 H6 e6,addOff_ptr,Nat.zero_add,h6.held,cell_cells_z,c9,hraw,tk_eq,opt_some,ifB_false]
 exact hj
end
end Go.AM
end
section
namespace Go.AM
def Tr.Stay (T T':Tr):Prop:=∀ n,(T.node n).kind≠0#8->1<=(T.node n).held->(T'.node n).kind=(T.node n).kind/\(T.node n).held<=(T'.node n).held
section
variable {T T' T'':Tr}
theorem Tr.node_upd_ne {n k:BitVec 16} (h:k≠n) (f:Nd->Nd):(T.upd n f).node k=T.node k:=by
 have e:¬ n.toNat=k.toNat:=fun e=>h (BitVec.eq_of_toNat_eq e.symm)
 unfold Tr.upd Tr.node
 simp only [List.getD_eq_getElem?_getD,List.getElem?_modify,e,if_false]
 cases T.N[k.toNat]? <;> rfl
theorem Tr.Stay.refl:T.Stay T:=fun _ _ _=>⟨rfl,Int.le_refl _⟩
theorem Tr.Stay.trans (h:T.Stay T') (h':T'.Stay T''):T.Stay T'':=fun n hk hh=>by
 obtain ⟨a,b⟩:=h n hk hh
 obtain ⟨c,d⟩:=h' n (by rw [a]; exact hk) (by omega)
 exact ⟨c.trans a,by omega⟩
theorem Tr.Stay.upd (n:BitVec 16) (f:Nd->Nd) (hf:∀ x:Nd,(f x).kind=x.kind/\x.held<=(f x).held):T.Stay (T.upd n f):=fun k _ _=>by
 rcases T.upd_or n k f with e | e
 ·rw [e]; exact ⟨rfl,Int.le_refl _⟩
 ·rw [e]; exact hf _
theorem Tr.Stay.bump (h:T.Stay T'):T.Stay T'.bump:=h
theorem Tr.Stay.tidy (n:BitVec 16):T.Stay (T.tidy n):=fun k hk hh=>by
 unfold Tr.tidy
 split
 ·rename_i hc
  have e:k≠n:=by rintro rfl; omega
  rw [Tr.node_upd_ne e]
  exact ⟨rfl,Int.le_refl _⟩
 ·exact ⟨rfl,Int.le_refl _⟩
theorem Tr.Stay.make (w:T.WF) (inn:BitVec 16) (s:NameL) (kd:BitVec 8) (text:List UInt8):T.Stay (T.make inn s kd text).1:=by
 rcases w.make_node inn s kd text with e | ⟨_,_,A,_,hA,hi,hn⟩
 ·rw [e]; exact .refl
 ·intro n hk hh
  rw [hn]
  split
  ·rename_i e; subst e; exact ⟨rfl,Int.le_refl _⟩
  ·split
   ·rename_i e; subst e; exact (hk hA).elim
   ·exact ⟨rfl,Int.le_refl _⟩
theorem Tr.Stay.add (inn:BitVec 16) (s:NameL) (v:BitVec 16):T.Stay (T.add inn s v).1:=by
 unfold Tr.add
 repeat' split
 all_goals try exact .refl
 exact (Tr.Stay.upd inn (Nd.addE s v) fun _=>⟨rfl,Int.le_refl _⟩).trans (Tr.Stay.upd v (Nd.addL 1) fun _=>⟨rfl,Int.le_refl _⟩)
theorem Tr.Stay.drop (inn:BitVec 16) (s:NameL) (d:Bool):T.Stay (T.drop inn s d).1:=by
 unfold Tr.drop
 repeat' split
 all_goals try exact .refl
 exact ((Tr.Stay.upd inn (Nd.delE s) fun _=>⟨rfl,Int.le_refl _⟩).trans (Tr.Stay.upd _ (Nd.addL (-1)) fun _=>⟨rfl,Int.le_refl _⟩)).bump.trans (Tr.Stay.tidy _)
theorem Tr.Stay.hold (n:BitVec 16):T.Stay (T.hold n true).1:=by
 unfold Tr.hold
 repeat' split
 all_goals try exact .refl
 ·exact Tr.Stay.upd n (Nd.addH 1) fun x=>⟨rfl,by show x.held<=x.held+1; omega⟩
 ·rename_i h _; exact (h rfl).elim
theorem Tr.Stay.move (fr:BitVec 16) (s:NameL) (to:BitVec 16) (other:NameL):T.Stay (T.move fr s to other).1:=by
 have key:∀ (U:Tr) (n:BitVec 16),U.Stay (Tr.moved U fr s to other n):=by
  intro U n
  have h2:U.Stay ((U.upd fr (Nd.delE s)).upd to (Nd.addE other n)):=(Tr.Stay.upd fr (Nd.delE s) fun _=>⟨rfl,Int.le_refl _⟩).trans (Tr.Stay.upd to (Nd.addE other n) fun _=>⟨rfl,Int.le_refl _⟩)
  unfold Tr.moved
  simp only
  split
  ·exact (h2.trans (Tr.Stay.upd n (fun x=>{ x with parent:=to }) fun _=>⟨rfl,Int.le_refl _⟩)).bump
  ·exact h2.bump
 unfold Tr.move
 split
 ·exact .refl
 split
 ·exact .refl
 split
 ·exact .refl
 split
 ·exact .refl
 split
 ·exact .refl
 refine Tr.Stay.trans ?_ (key _ _)
 split
 ·exact .drop _ _ _
 ·exact .refl
theorem Tr.Stay.write (n:BitVec 16) (at_:Int) (b:List (BitVec 8)):T.Stay (T.write n at_ b).1:=by
 unfold Tr.write
 repeat' split
 all_goals try exact .refl
 exact (Tr.Stay.upd n (fun x=>{ x with data:=writeL x.data at_.toNat b }) fun _=>⟨rfl,Int.le_refl _⟩).bump
theorem Tr.Stay.cut (n:BitVec 16) (size:Int):T.Stay (T.cut n size).1:=by
 unfold Tr.cut
 repeat' split
 all_goals try exact .refl
 exact (Tr.Stay.upd n (fun x=>{ x with data:=cutL x.data size.toNat }) fun _=>⟨rfl,Int.le_refl _⟩).bump
theorem Tr.Did.stay (h:T.Did true T') (w:T.WF):T.Stay T':=by
 cases h
 ·exact .make w _ _ _ _
 ·exact .add _ _ _
 ·exact .drop _ _ _
 ·exact .move _ _ _ _
 ·exact .hold _
 ·exact .write _ _ _
 ·exact .cut _ _
 ·exact .refl
theorem Tr.Did.kd {up:Bool} (h:T.Did up T') (k:T.KD):T'.KD:=by
 cases h
 ·exact k.make keeps_KD _ _ _ _
 ·exact k.add keeps_KD _ _ _
 ·exact k.drop keeps_KD _ _ _
 ·exact k.move keeps_KD _ _ _ _
 ·exact k.hold keeps_KD _ _
 ·exact k.write keeps_KD _ _ _
 ·exact k.cut keeps_KD _ _
 ·exact k
end
end Go.AM
end
section
namespace Go.AM
def Tr.dead (T:Tr) (n:BitVec 16):Prop:=(T.node n).kind=2#8/\(T.node n).links=0
structure Tr.Order (T:Tr):Prop where
 rank:∃ (r:BitVec 16->Nat) (B:Nat),(∀ n,r n<B)/\∀ n,T.dead n->T.dead (T.node n).parent->r n<r (T.node n).parent
 par:∀ n,(T.node n).kind≠2#8->(T.node n).parent=0#16
def Tr.DAt (T T':Tr) (n:BitVec 16):Prop:=(T'.dead n->(T'.node n).parent=(T.node n).parent/\(T.dead n\/¬ T'.dead (T'.node n).parent))/\((T'.node n).kind≠2#8->(T'.node n).parent=0#16\/((T.node n).kind≠2#8/\(T'.node n).parent=(T.node n).parent))
def Tr.DStep (T T':Tr):Prop:=∀ n,T.DAt T' n
section
variable {T T' T'':Tr}
open Classical in
theorem Tr.Order.step (h:T.Order) (d:T.DStep T'):T'.Order:=by
 obtain ⟨r,B,hr,ho⟩:=h.rank
 refine ⟨⟨fun n=>if T.dead n then r n else B,B+1,fun n =>?_,fun n hn hp =>?_⟩,fun n hk =>?_⟩
 ·have:=hr n
  simp only
  split <;> omega
 ·obtain ⟨e,h1⟩:=(d n).1 hn
  rcases h1 with h1 | h1
  ·simp only [if_pos h1]
   split
   ·rename_i h2
    rw [e] at h2 ⊢
    exact ho n h1 h2
   ·exact hr n
  ·exact (h1 hp).elim
 ·rcases (d n).2 hk with e | ⟨a,b⟩
  ·exact e
  ·rw [b]; exact h.par n a
theorem Tr.DAt.same {n:BitVec 16} (h1:(T'.node n).kind=(T.node n).kind) (h2:(T'.node n).parent=(T.node n).parent) (h3:(T'.node n).links=(T.node n).links):T.DAt T' n :=
 ⟨fun h=>⟨h2,.inl ⟨by rw [<- h1]; exact h.1,by rw [<- h3]; exact h.2⟩⟩,fun h => .inr ⟨by rw [<- h1]; exact h,h2⟩⟩
theorem Tr.DAt.none {n:BitVec 16} (h:T'.node n=Nd.none):T.DAt T' n :=
 ⟨fun hd=>by have:=hd.1; rw [h] at this; simp [Nd.none] at this,fun _ => .inl (by rw [h]; rfl)⟩
theorem Tr.DAt.file {n:BitVec 16} (h:(T'.node n).kind≠2#8) (h1:(T.node n).kind≠2#8) (h2:(T'.node n).parent=(T.node n).parent):T.DAt T' n :=
 ⟨fun hd=>(h hd.1).elim,fun _ => .inr ⟨h1,h2⟩⟩
theorem Tr.DAt.live {n:BitVec 16} (h:(T'.node n).kind=2#8) (h1:(T'.node n).links≠0):T.DAt T' n :=
 ⟨fun hd=>(h1 hd.2).elim,fun hk=>(hk h).elim⟩
theorem Tr.DStep.refl:T.DStep T:=fun _ => .same rfl rfl rfl
theorem Tr.DStep.upd (n:BitVec 16) (f:Nd->Nd) (hf:∀ x:Nd,(f x).kind=x.kind/\(f x).parent=x.parent/\(f x).links=x.links):T.DStep (T.upd n f):=fun k=>by
 rcases T.upd_or n k f with e | e
 ·exact .same (by rw [e]) (by rw [e]) (by rw [e])
 ·obtain ⟨a,b,c⟩:=hf (T.node k)
  exact .same (by rw [e,a]) (by rw [e,b]) (by rw [e,c])
theorem Tr.DStep.make (w:T.WF) (inn:BitVec 16) (s:NameL) (kd:BitVec 8) (text:List UInt8):T.DStep (T.make inn s kd text).1:=by
 rcases w.make_node inn s kd text with e | ⟨_,_,A,_,hA,hi,hn⟩
 ·rw [e]; exact .refl
 ·intro n
  have hn:=hn n
  generalize (T.make inn s kd text).1=T' at *
  by_cases e:n=inn
  ·subst e
   rw [if_pos rfl] at hn
   exact .same (by rw [hn]; rfl) (by rw [hn]; rfl) (by rw [hn]; rfl)
  rw [if_neg e] at hn
  by_cases e2:n=A
  ·subst e2
   rw [if_pos rfl] at hn
   by_cases hk:kd=2#8
   ·exact .live (by rw [hn]; exact hk) (by rw [hn]; exact Int.one_ne_zero)
   ·exact ⟨fun hd=>by have:=hd.1; rw [hn] at this; exact (hk this).elim,fun _ => .inl (by rw [hn]; exact if_neg hk)⟩
  ·rw [if_neg e2] at hn
   exact .same (by rw [hn]) (by rw [hn]) (by rw [hn])
theorem Tr.DStep.add (inn:BitVec 16) (s:NameL) (v:BitVec 16):T.DStep (T.add inn s v).1:=by
 unfold Tr.add
 split
 ·exact .refl
 split
 ·exact .refl
 split
 ·exact .refl
 split
 ·exact .refl
 split
 ·exact .refl
 rename_i h2 _ _ _
 intro k
 have hV:((T.upd inn (Nd.addE s v)).node k).kind=(T.node k).kind/\((T.upd inn (Nd.addE s v)).node k).parent=(T.node k).parent/\((T.upd inn (Nd.addE s v)).node k).links=(T.node k).links:=by
  rcases T.upd_or inn k (Nd.addE s v) with e | e <;> rw [e] <;> exact ⟨rfl,rfl,rfl⟩
 obtain ⟨a,b,c⟩:=hV
 by_cases e:k=v
 ·subst e
  have:(((T.upd inn (Nd.addE s k)).upd k (Nd.addL 1)).node k).kind=(T.node k).kind/\(((T.upd inn (Nd.addE s k)).upd k (Nd.addL 1)).node k).parent=(T.node k).parent:=by
   rcases (T.upd inn (Nd.addE s k)).upd_or k k (Nd.addL 1) with e | e <;> rw [e] <;> exact ⟨a,b⟩
  exact .file (by show ¬ _=_; rw [Tr.bump_node,this.1]; exact h2) h2 this.2
 ·have hn:(((T.upd inn (Nd.addE s v)).upd v (Nd.addL 1)).bump.node k)=(T.upd inn (Nd.addE s v)).node k:=Tr.node_upd_ne e _
  exact .same (by rw [hn,a]) (by rw [hn,b]) (by rw [hn,c])
theorem Tr.DStep.hold (n:BitVec 16) (up:Bool):T.DStep (T.hold n up).1:=by
 unfold Tr.hold
 split
 ·exact .refl
 split
 ·exact .upd n _ fun _=>⟨rfl,rfl,rfl⟩
 split
 ·exact .refl
 intro k
 have hV:((T.upd n (Nd.addH (-1))).node k).kind=(T.node k).kind/\((T.upd n (Nd.addH (-1))).node k).parent=(T.node k).parent/\((T.upd n (Nd.addH (-1))).node k).links=(T.node k).links:=by
  rcases T.upd_or n k (Nd.addH (-1)) with e | e <;> rw [e] <;> exact ⟨rfl,rfl,rfl⟩
 obtain ⟨a,b,c⟩:=hV
 unfold Tr.tidy
 split
 ·rcases (T.upd n (Nd.addH (-1))).upd_or n k (fun _=>Nd.none) with e | e
  ·exact .same (by rw [e,a]) (by rw [e,b]) (by rw [e,c])
  ·exact .none e
 ·exact .same a b c
theorem Tr.DStep.drop (w:T.WF) (inn:BitVec 16) (s:NameL) (d:Bool):T.DStep (T.drop inn s d).1:=by
 unfold Tr.drop
 split
 ·exact .refl
 split
 ·exact .refl
 split
 ·exact .refl
 split
 ·exact .refl
 rename_i c1 _ _ _
 have c1:(T.look inn s).2=0:=by simpa using c1
 obtain ⟨k1,k2⟩:=Tr.look_ok c1
 generalize (T.look inn s).1=y at *
 obtain ⟨e1,e2,e3,o0,o1,e6⟩:=w.pos k2
 have hyi:inn≠y:=by rintro rfl; exact w.no_self (alook_mem k2)
 intro k
 have hV:∀ k,((T.upd inn (Nd.delE s)).node k).kind=(T.node k).kind/\((T.upd inn (Nd.delE s)).node k).parent=(T.node k).parent/\((T.upd inn (Nd.delE s)).node k).links=(T.node k).links:=fun k=>by
  rcases T.upd_or inn k (Nd.delE s) with e | e <;> rw [e] <;> exact ⟨rfl,rfl,rfl⟩
 have hW:∀ k,k≠y->((((T.upd inn (Nd.delE s)).upd y (Nd.addL (-1))).bump).tidy y).node k=(T.upd inn (Nd.delE s)).node k:=fun k e=>by
  unfold Tr.tidy
  split
  ·rw [Tr.node_upd_ne e,Tr.bump_node,Tr.node_upd_ne e]
  ·rw [Tr.bump_node,Tr.node_upd_ne e]
 by_cases e:k=y
 ·subst e
  have hin:¬ ((((T.upd inn (Nd.delE s)).upd k (Nd.addL (-1))).bump).tidy k).dead inn:=fun hd=>by
   have h2:=hd.2
   rw [hW inn hyi,(hV inn).2.2] at h2
   exact e2 h2
  have hk:(((T.upd inn (Nd.delE s)).upd k (Nd.addL (-1))).node k).kind=(T.node k).kind/\(((T.upd inn (Nd.delE s)).upd k (Nd.addL (-1))).node k).parent=(T.node k).parent:=by
   rcases (T.upd inn (Nd.delE s)).upd_or k k (Nd.addL (-1)) with e | e <;> rw [e] <;> exact ⟨(hV k).1,(hV k).2.1⟩
  unfold Tr.tidy at hin ⊢
  split at hin
  ·rename_i hc
   rw [if_pos hc]
   have hz:((((T.upd inn (Nd.delE s)).upd k (Nd.addL (-1))).bump).upd k (fun _=>Nd.none)).node k=Nd.none:=by
    rw [Tr.node_upd (by rw [Tr.bump_node,hk.1]; exact o0),if_pos rfl]
   exact .none hz
  ·rename_i hc
   rw [if_neg hc]
   by_cases h2:(T.node k).kind=2#8
   ·refine ⟨fun _=>⟨hk.2,.inr ?_⟩,fun h=>(h (hk.1.trans h2)).elim⟩
    have:(((T.upd inn (Nd.delE s)).upd k (Nd.addL (-1))).bump.node k).parent=inn:=hk.2.trans (e6 h2)
    rw [this]
    exact hin
   ·exact .file (fun h=>h2 (hk.1.symm.trans h)) h2 hk.2
 ·obtain ⟨a,b,c⟩:=hV k
  have hn:=hW k e
  exact .same (by rw [hn,a]) (by rw [hn,b]) (by rw [hn,c])
theorem Tr.node_upd_lt {n:BitVec 16} (h:n.toNat<T.N.length) (f:Nd->Nd):(T.upd n f).node n=f (T.node n):=by
 unfold Tr.upd Tr.node
 simp [List.getD_eq_getElem?_getD,List.getElem?_modify,h]
theorem Tr.len_upd (n:BitVec 16) (f:Nd->Nd):(T.upd n f).N.length=T.N.length:=by simp [Tr.upd]
theorem Tr.len_tidy (n:BitVec 16):(T.tidy n).N.length=T.N.length:=by
 unfold Tr.tidy
 split
 ·exact Tr.len_upd _ _
 ·rfl
theorem Tr.len_drop (inn:BitVec 16) (s:NameL) (d:Bool):(T.drop inn s d).1.N.length=T.N.length:=by
 unfold Tr.drop
 repeat' split
 all_goals try rfl
 rw [Tr.len_tidy]
 show ((T.upd _ _).upd _ _).N.length=_
 rw [Tr.len_upd,Tr.len_upd]
theorem Tr.DStep.moved {U:Tr} {fr to n:BitVec 16} {s other:NameL} (hl:to.toNat<U.N.length) (w:(Tr.moved U fr s to other n).WF):U.DStep (Tr.moved U fr s to other n):=by
 have hV:∀ m,(((U.upd fr (Nd.delE s)).upd to (Nd.addE other n)).node m).kind=(U.node m).kind/\(((U.upd fr (Nd.delE s)).upd to (Nd.addE other n)).node m).parent=(U.node m).parent/\(((U.upd fr (Nd.delE s)).upd to (Nd.addE other n)).node m).links=(U.node m).links:=fun m=>by
  have h1:((U.upd fr (Nd.delE s)).node m).kind=(U.node m).kind/\((U.upd fr (Nd.delE s)).node m).parent=(U.node m).parent/\((U.upd fr (Nd.delE s)).node m).links=(U.node m).links:=by
   rcases U.upd_or fr m (Nd.delE s) with e | e <;> rw [e] <;> exact ⟨rfl,rfl,rfl⟩
  rcases (U.upd fr (Nd.delE s)).upd_or to m (Nd.addE other n) with e | e <;> rw [e] <;> exact h1
 have hm:(other,n)∈(((U.upd fr (Nd.delE s)).upd to (Nd.addE other n)).node to).ents:=by
  rw [Tr.node_upd_lt (by rw [Tr.len_upd]; exact hl)]
  exact mem_insertE.2 (.inl rfl)
 unfold Tr.moved at w ⊢
 simp only at w ⊢
 split at w
 ·rename_i hk
  rw [if_pos hk]
  intro m
  by_cases e:m=n
  ·subst e
   have hk':((((U.upd fr (Nd.delE s)).upd to (Nd.addE other m)).upd m (fun x=>{ x with parent:=to })).bump.node m).kind=2#8:=by
    rw [Tr.bump_node]
    rcases ((U.upd fr (Nd.delE s)).upd to (Nd.addE other m)).upd_or m m (fun x=>{ x with parent:=to }) with e | e <;> rw [e] <;> exact (hV m).1.trans hk
   have hm':(other,m)∈((((U.upd fr (Nd.delE s)).upd to (Nd.addE other m)).upd m (fun x=>{ x with parent:=to })).bump.node to).ents:=by
    rw [Tr.bump_node]
    rcases ((U.upd fr (Nd.delE s)).upd to (Nd.addE other m)).upd_or m to (fun x=>{ x with parent:=to }) with e | e <;> rw [e] <;> exact hm
   have:=w.live_of hm' hk'
   exact .live this.1 this.2
  ·obtain ⟨a,b,c⟩:=hV m
   have hn:((((U.upd fr (Nd.delE s)).upd to (Nd.addE other n)).upd n (fun x=>{ x with parent:=to })).bump.node m)=((U.upd fr (Nd.delE s)).upd to (Nd.addE other n)).node m:=Tr.node_upd_ne e _
   exact .same (by rw [hn,a]) (by rw [hn,b]) (by rw [hn,c])
 ·rename_i hk
  rw [if_neg hk]
  intro m
  obtain ⟨a,b,c⟩:=hV m
  exact .same a b c
theorem Tr.Order.move (h:T.Order) (w:T.WF) (fr:BitVec 16) (s:NameL) (to:BitVec 16) (other:NameL):(T.move fr s to other).1.Order:=by
 have w':=w.move fr s to other
 unfold Tr.move at w' ⊢
 split
 ·exact h
 rename_i c1
 split
 ·exact h
 rename_i c2
 split
 ·exact h
 rename_i c3
 split
 ·exact h
 rename_i c4
 split
 ·exact h
 rename_i c5
 simp only [if_neg c1,if_neg c2,if_neg c3,if_neg c4,if_neg c5] at w'
 have hto:to.toNat<T.N.length:=by
  have c2:T.dir to=0:=by simpa using c2
  exact Tr.node_lt (by rw [Tr.dir_zero.1 c2]; decide)
 refine Tr.Order.step (T:=if (alook other (T.node to).ents).isSome then (T.drop to other (decide ((T.node (T.look fr s).1).kind=2#8))).1 else T) ?_ (Tr.DStep.moved ?_ w')
 ·split
  ·exact h.step (.drop w _ _ _)
  ·exact h
 ·split
  ·rw [Tr.len_drop]; exact hto
  ·exact hto
theorem Tr.Did.order {up:Bool} (h:T.Did up T') (w:T.WF) (o:T.Order):T'.Order:=by
 cases h
 ·exact o.step (.make w _ _ _ _)
 ·exact o.step (.add _ _ _)
 ·exact o.step (.drop w _ _ _)
 ·exact o.move w _ _ _ _
 ·exact o.step (.hold _ _)
 ·unfold Tr.write
  repeat' split
  all_goals try exact o
  exact o.step (.upd _ _ fun _=>⟨rfl,rfl,rfl⟩)
 ·unfold Tr.cut
  repeat' split
  all_goals try exact o
  exact o.step (.upd _ _ fun _=>⟨rfl,rfl,rfl⟩)
 ·exact o
theorem Tr.Order.new (limit:Int):(Tr.new limit).Order:=by
 have hp:∀ n,((Tr.new limit).node n).kind≠2#8->((Tr.new limit).node n).parent=0#16:=by
  intro n hk
  unfold Tr.new Tr.node at hk ⊢
  simp only [List.getD_eq_getElem?_getD] at hk ⊢
  by_cases e0:n.toNat=0
  ·rw [e0]; rfl
  ·by_cases e1:n.toNat=1
   ·rw [e1] at hk; exact (hk rfl).elim
   ·rw [List.getElem?_eq_none (by simp; omega)]; rfl
 refine ⟨⟨fun _=>0,1,fun _=>Nat.zero_lt_one,fun n hd _ =>?_⟩,hp⟩
 obtain ⟨a,b⟩:=hd
 unfold Tr.new Tr.node at a b
 simp only [List.getD_eq_getElem?_getD] at a b
 by_cases e0:n.toNat=0
 ·rw [e0] at a; exact absurd a (by decide)
 ·by_cases e1:n.toNat=1
  ·rw [e1] at b; exact absurd b (by decide)
  ·rw [List.getElem?_eq_none (by simp; omega)] at a; exact absurd a (by decide)
end
end Go.AM
end
section
namespace Go.AM
def Nd.Kept (x:Nd):Prop:=x.kind≠0#8->x.links≠0\/x.held≠0
def Tr.Tidy (T:Tr):Prop:=∀ n,(T.node n).Kept
def Tr.TidyX (T:Tr) (a:BitVec 16):Prop:=∀ n,n≠a->(T.node n).Kept
section
variable {T T':Tr} {n:BitVec 16} {f:Nd->Nd}
theorem Nd.Kept.none:Nd.none.Kept:=fun h=>(h rfl).elim
theorem kept_delE (s:NameL) (x:Nd) (h:x.Kept):(Nd.delE s x).Kept:=h
theorem kept_addE (s:NameL) (k:BitVec 16) (x:Nd) (h:x.Kept):(Nd.addE s k x).Kept:=h
theorem kept_par (q:BitVec 16) (x:Nd) (h:x.Kept):({ x with parent:=q }:Nd).Kept:=h
theorem kept_data (d:List (BitVec 8)) (x:Nd) (h:x.Kept):({ x with data:=d }:Nd).Kept:=h
theorem Tr.Tidy.upd (h:T.Tidy) (hf:∀ x:Nd,x.Kept->(f x).Kept):(T.upd n f).Tidy:=fun k=>by
 rcases T.upd_or n k f with e | e
 ·rw [e]; exact h k
 ·rw [e]; exact hf _ (h k)
theorem Tr.Tidy.updX (h:T.Tidy):(T.upd n f).TidyX n:=fun k hk=>by
 rw [Tr.node_upd_ne hk]; exact h k
theorem Tr.Tidy.updAt (h:T.Tidy) (hf:(f (T.node n)).Kept):(T.upd n f).Tidy:=fun k=>by
 by_cases e:k=n
 ·subst e
  rcases T.upd_or k k f with e | e
  ·rw [e]; exact h k
  ·rw [e]; exact hf
 ·rw [Tr.node_upd_ne e]; exact h k
theorem Tr.TidyX.tidy (h:T.TidyX n):(T.tidy n).Tidy:=by
 intro k
 unfold Tr.tidy
 split
 ·by_cases e:k=n
  ·subst e
   rcases Nat.lt_or_ge k.toNat T.N.length with hl | hl
   ·rw [Tr.node_upd_lt hl]; exact Nd.Kept.none
   ·have:(T.upd k fun _=>Nd.none).node k=Nd.none:=by
     unfold Tr.node
     rw [List.getD_eq_getElem?_getD,List.getElem?_eq_none (by rw [Tr.len_upd]; exact hl)]; rfl
    rw [this]; exact Nd.Kept.none
  ·rw [Tr.node_upd_ne e]; exact h k e
 ·rename_i hz
  by_cases e:k=n
  ·subst e
   intro _
   exact Classical.byContradiction fun hc=>hz ⟨Classical.byContradiction fun a=>hc (.inl a),Classical.byContradiction fun a=>hc (.inr a)⟩
  ·exact h k e
theorem Tr.Tidy.bump (h:T.Tidy):T.bump.Tidy:=h
theorem Tr.TidyX.bump (h:T.TidyX n):T.bump.TidyX n:=h
theorem Tr.Tidy.put (h:T.Tidy) (a:Nat) (x:Nd) (hx:x.Kept):(T.put a x).Tidy:=by
 intro k
 unfold Tr.put Tr.node
 simp only [List.getD_eq_getElem?_getD]
 have hk:=h k
 unfold Tr.node at hk
 simp only [List.getD_eq_getElem?_getD] at hk
 split
 ·rw [List.getElem?_set]
  split
  ·exact hx
  ·exact hk
 ·rw [List.getElem?_append]
  split
  ·exact hk
  ·cases hz:([x][k.toNat - T.N.length]? : Option Nd) with
   | none=>exact Nd.Kept.none
   | some y =>
    have:=List.mem_of_getElem? hz
    simp at this
    subst this
    exact hx
theorem Tr.Tidy.drop (h:T.Tidy) (a:BitVec 16) (s:NameL) (d:Bool):(T.drop a s d).1.Tidy:=by
 unfold Tr.drop
 repeat' split
 all_goals try exact h
 exact (Tr.Tidy.updX (h.upd (kept_delE s))).bump.tidy
theorem Tr.Tidy.moved (h:T.Tidy) (fr:BitVec 16) (s:NameL) (to:BitVec 16) (o:NameL) (m:BitVec 16):(Tr.moved T fr s to o m).Tidy:=by
 unfold Tr.moved
 have h2:((T.upd fr (Nd.delE s)).upd to (Nd.addE o m)).Tidy:=(h.upd (kept_delE s)).upd (kept_addE o m)
 simp only
 split
 ·exact (h2.upd (kept_par to)).bump
 ·exact h2.bump
theorem Tr.Tidy.make (h:T.Tidy) (a:BitVec 16) (s:NameL) (k:BitVec 8) (text:List UInt8):(T.make a s k text).1.Tidy:=by
 unfold Tr.make
 repeat' split
 all_goals try exact h
 exact ((h.put _ (Nd.made a k text) fun _ => .inl (by show (1:Int)≠0; decide)).upd (kept_addE _ _)).bump
theorem Tr.Tidy.hold (h:T.Tidy) (w:T.WF) (a:BitVec 16) (b:Bool):(T.hold a b).1.Tidy:=by
 unfold Tr.hold
 repeat' split
 all_goals try exact h
 ·refine h.updAt fun _ => .inr ?_
  have:=w.held a
  show (T.node a).held+1≠0
  omega
 ·exact h.updX.tidy
theorem Tr.Tidy.move (h:T.Tidy) (a:BitVec 16) (s:NameL) (b:BitVec 16) (o:NameL):(T.move a s b o).1.Tidy:=by
 unfold Tr.move
 split
 ·exact h
 split
 ·exact h
 split
 ·exact h
 split
 ·exact h
 split
 ·exact h
 refine Tr.Tidy.moved ?_ _ _ _ _ _
 split
 ·exact h.drop _ _ _
 ·exact h
theorem Tr.Tidy.add (h:T.Tidy) (w:T.WF) (a:BitVec 16) (s:NameL) (b:BitVec 16):(T.add a s b).1.Tidy:=by
 unfold Tr.add
 repeat' split
 all_goals try exact h
 rename_i h0 h2 _ hl _
 refine Tr.Tidy.bump (Tr.Tidy.updAt (h.upd (kept_addE s b)) fun _ => .inl ?_)
 have hb:b≠1#16:=fun e=>h2 (by rw [e]; exact w.root.1)
 have hln:=w.links b hb h0
 have hm:((T.upd a (Nd.addE s b)).node b).links=(T.node b).links:=by
  rcases T.upd_or a b (Nd.addE s b) with e | e <;> rw [e]
  rfl
 show ((T.upd a (Nd.addE s b)).node b).links+1≠0
 rw [hm,hln]
 omega
theorem Tr.Did.tidy {up:Bool} (d:T.Did up T') (h:T.Tidy) (w:T.WF):T'.Tidy:=by
 cases d
 ·exact h.make _ _ _ _
 ·exact h.add w _ _ _
 ·exact h.drop _ _ _
 ·exact h.move _ _ _ _
 ·exact h.hold w _ _
 ·unfold Tr.write
  repeat' split
  all_goals try exact h
  exact (h.upd fun x hx=>kept_data _ x hx).bump
 ·unfold Tr.cut
  repeat' split
  all_goals try exact h
  exact (h.upd fun x hx=>kept_data _ x hx).bump
 ·exact h
theorem Tr.Tidy.new (limit:Int):(Tr.new limit).Tidy:=by
 intro n
 unfold Tr.node Tr.new
 simp only [List.getD_eq_getElem?_getD]
 cases hz:([Nd.none,{ Nd.none with kind:=2#8,parent:=1#16,links:=1 }][n.toNat]? : Option Nd) with
 | none=>exact Nd.Kept.none
 | some y =>
  have:=List.mem_of_getElem? hz
  simp at this
  rcases this with rfl | rfl
  ·exact Nd.Kept.none
  ·exact fun _ => .inl (by decide)
end
end Go.AM
end
section
namespace Go.AM
variable {E:Sy} {H:AH} {Q:Value->AH->Prop}
def RefAt (H:AH) (p:Nat) (t:TreeI) (M:List MntI):Prop:=H.get p = .cells t.cells none/\M.length<2 ^ 62/\Rows H 5 t.m (M.map MntI.cells)
theorem RefAt.mono {H H':AH} {p:Nat} {t:TreeI} {M:List MntI} (h:RefAt H p t M) (e:Ext H H'):RefAt H' p t M:=⟨e.cells h.1,h.2.1,h.2.2.mono e⟩
theorem RefAt.len {H:AH} {p:Nat} {t:TreeI} {M:List MntI} (h:RefAt H p t M):lenSlc t.m=some (vi M.length):=by
 have:=h.2.2.lenSlc
 simpa using this
theorem S.f70 (hE:Fold E) (p:Nat) (t:TreeI) (M:List MntI) (hT:RefAt H p t M) (id:Int) (hQ:Q (vi (ixOf (fun m:MntI=>decide (m.id=id)) M)) H):E.call (E.fid i.f70) [ptr p 0,vi id] H Q:=by
 apply hE.f70
 have hl:=hT.len
 have h0:=hT.2.1
 simp [F.f70]
 refine LoopL.count M.length (fun j s H'=>s=[ptr p 0,vi id,vi j]/\H'=H/\∀ i (hi:i<M.length),i<j->¬ M[i].id=id) ?_ ⟨rfl,rfl,fun i _ h=>by omega⟩
 rintro j _ _ X hj hX ⟨rfl,rfl,hn⟩
 simp only [F.f70_l1,nth_0,nth_s]
 simp [hT.1,hl]
 refine ifB_split (fun h =>?_) (fun h =>?_)
 ·have hjl:j<M.length:=by omega
  obtain ⟨b,o,f1,f2,f3,_⟩:=MntI.elem hT.2.2 hjl
  simp [hT.1,f1,f3]
  refine ifB_split (fun h =>?_) (fun h =>?_)
  ·have:ixOf (fun m:MntI=>decide (m.id=id)) M=(j:Int):=by
    have:M.findIdx? (fun m:MntI=>decide (m.id=id))=some j:=List.findIdx?_eq_some_iff_getElem.2 ⟨hjl,by simpa using h,fun i hi=>by simpa using hn i (by omega) hi⟩
    simp [ixOf,this]
   rw [<- this]
   exact hQ
  ·rw [i64_inc (by omega),opt_some]
   refine hX hjl _ _ ⟨rfl,rfl,fun i hi hij =>?_⟩
   by_cases e:i=j
   ·subst e; exact h
   ·exact hn i hi (by omega)
 ·have:j=M.length:=by omega
  subst this
  have:ixOf (fun m:MntI=>decide (m.id=id)) M = -1:=by
   have:M.findIdx? (fun m:MntI=>decide (m.id=id))=none:=by
    rw [List.findIdx?_eq_none_iff]
    intro x hx
    obtain ⟨i,hi,rfl⟩:=List.getElem_of_mem hx
    simpa using hn i hi hi
   simp [ixOf,this]
  rw [<- this]
  exact hQ
def standsI (p:PlaceI) (m:MntI):Bool:=decide (m.id≠0)&&decide (m.at_=p)
def lastIx {α:Type} (P:α->Bool) (l:List α):Int:=match (List.range l.length).reverse.find? (fun i=>(l[i]?).any P) with | some i=>(i:Int) | none => -1
theorem lastIx_snoc {α:Type} (P:α->Bool) (l:List α) (x:α):lastIx P (l++[x])=if P x then (l.length:Int) else lastIx P l:=by
 unfold lastIx
 rw [List.length_append,List.length_singleton,List.range_succ,List.reverse_append,List.reverse_singleton,List.singleton_append,List.find?_cons]
 have h0:((l++[x])[l.length]?).any P=P x:=by simp
 rw [h0]
 cases P x with
 | true=>simp
 | false =>
  simp only [Bool.false_eq_true,if_false]
  have:∀ (L:List Nat),(∀ i∈L,i<l.length)->L.find? (fun i=>((l++[x])[i]?).any P)=L.find? (fun i=>(l[i]?).any P):=by
   intro L hL
   induction L with
   | nil=>rfl
   | cons a L ih =>
    have ha:=hL a (by simp)
    rw [List.find?_cons,List.find?_cons,List.getElem?_append_left ha,ih fun i hi=>hL i (by simp [hi])]
  rw [this _ (fun i hi=>by simpa using hi)]
theorem lastIx_cases {α:Type} (P:α->Bool) (l:List α):(lastIx P l = -1/\∀ x∈l,P x=false)\/∃ (i:Nat) (hi:i<l.length),lastIx P l=i/\P l[i]=true:=by
 unfold lastIx
 cases h:(List.range l.length).reverse.find? (fun i=>(l[i]?).any P) with
 | none =>
  refine .inl ⟨rfl,fun x hx =>?_⟩
  obtain ⟨i,hi,rfl⟩:=List.getElem_of_mem hx
  have:=List.find?_eq_none.1 h i (by simpa using hi)
  simpa [hi] using this
 | some i =>
  have h1:=List.find?_some h
  have h2:=List.mem_of_find?_eq_some h
  have hi:i<l.length:=by simpa using h2
  exact .inr ⟨i,hi,rfl,by simpa [hi] using h1⟩
def seenI (M:List MntI):Nat->PlaceI->PlaceI
 | 0,p=>p
 | n+1,p=>if h:0<=lastIx (standsI p) M/\(lastIx (standsI p) M).toNat<M.length then seenI M n ⟨(M[(lastIx (standsI p) M).toNat]'h.2).id,(M[(lastIx (standsI p) M).toNat]'h.2).root⟩ else p
theorem S.f65 (hE:Fold E) (p:Nat) (t:TreeI) (M:List MntI) (hT:RefAt H p t M) (q:PlaceI) (hQ:∀ H',Ext H H'->Q (seenI M 20 q).v H'):E.call (E.fid i.f65) [ptr p 0,q.v] H Q:=by
 apply hE.f65
 have hl:=hT.len
 have h0:=hT.2.1
 simp [F.f65]
 generalize hH2:(H.new _).new _=H2
 have x2:Ext H H2:=by subst hH2; exact ((Ext.refl H).new _).new _
 have k1:H2.get H.next = .cells q.cells none:=by subst hH2; simp [AH.get_new]
 have k2:H2.get (H.next+1) = .cells [vi 0,vi 0] none:=by subst hH2; simp [AH.get_new]
 clear hH2
 refine LoopL.count 20 (fun k s H'=>∃ r,s=[ptr p 0,ptr H.next 0,ptr (H.next+1) 0,vi k]/\Ext H H'/\seenI M (20 - k) r=seenI M 20 q/\H'.get H.next = .cells r.cells none/\H'.get (H.next+1) = .cells [vi 0,vi 0] none) ?_ ⟨q,rfl,x2,rfl,k1,k2⟩
 rintro k _ H' X hk hX ⟨r,rfl,e1,hs,m1,m2⟩
 have hT1:=hT.mono e1
 have l1:=AH.lt_cells m1
 have l2:=AH.lt_cells m2
 have leave:seenI M 20 q=r->Q (seenI M 20 q).v (H'.put (H.next+1) (.cells r.cells none)):=by
  intro h
  exact hQ _ (e1.put (b:=H.next+1) (by omega) _)
 simp only [F.f65_l1,nth_0,nth_s]
 simp
 by_cases hk20:(k:Int)<20
 ·simp [hk20]
  refine LoopL.count M.length (fun j s H''=>s=[ptr p 0,ptr H.next 0,ptr (H.next+1) 0,vi k,vi (lastIx (standsI r) (M.take j)),vi j]/\H''=H') ?_ ⟨rfl,rfl⟩
  rintro j _ _ X1 hj hX1 ⟨rfl,rfl⟩
  simp only [F.f65_l2,nth_0,nth_s]
  simp [hT1.1,hl]
  refine ifB_split (fun h =>?_) (fun h =>?_)
  ·have hjl:j<M.length:=by omega
   obtain ⟨b,o,f1,f2,f3,f4,f5,f6,f7,f8⟩:=MntI.elem hT1.2.2 hjl
   have htk:M.take (j+1)=M.take j++[M[j]]:=by rw [List.take_succ,List.getElem?_eq_getElem hjl]; rfl
   have hln:(M.take j).length=j:=by rw [List.length_take]; omega
   by_cases hid:M[j].id=0
   ·simp [hT1.1,f1,f3,hid]
    rw [i64_inc (by omega),opt_some]
    refine hX1 hjl _ _ ⟨?_,rfl⟩
    rw [htk,lastIx_snoc]
    simp [standsI,hid]
   ·by_cases hat:M[j].at_=r
    ·simp [hT1.1,f1,f3,hid,m1,f8,hat]
     rw [i64_inc (by omega),opt_some]
     refine hX1 hjl _ _ ⟨?_,rfl⟩
     rw [htk,lastIx_snoc,hln]
     simp [standsI,hid,hat]
    ·simp [hT1.1,f1,f3,hid,m1,f8,hat]
     rw [i64_inc (by omega),opt_some]
     refine hX1 hjl _ _ ⟨?_,rfl⟩
     rw [htk,lastIx_snoc]
     simp [standsI,hid,hat]
  ·have:j=M.length:=by omega
   subst this
   rw [List.take_length]
   have hstep:seenI M (20 - k) r=if h:0<=lastIx (standsI r) M/\(lastIx (standsI r) M).toNat<M.length then seenI M (20 - (k+1)) ⟨(M[(lastIx (standsI r) M).toNat]'h.2).id,(M[(lastIx (standsI r) M).toNat]'h.2).root⟩ else r:=by
    rw [show 20 - k=(20 - (k+1))+1 by omega]
    rfl
   rcases lastIx_cases (standsI r) M with ⟨h1,_⟩ | ⟨i,hi,h1,_⟩
   ·rw [h1] at hstep
    simp at hstep
    simp [h1,m1,m2]
    have:=leave (by rw [<- hs,hstep])
    rw [<- hs,hstep] at this
    simpa [l2] using this
   ·rw [h1] at hstep
    simp [hi] at hstep
    have hneg:¬ ((i:Int)<0):=by omega
    obtain ⟨b,o,f1,f2,f3,f4,f5,f6,f7,f8⟩:=MntI.elem hT1.2.2 hi
    simp [hT1.1,h1,hneg,f1,f3,f4,m1]
    rw [i64_inc (by omega),opt_some]
    refine hX (by omega) _ _ ⟨⟨M[i].id,M[i].root⟩,rfl,e1.put (b:=H.next) (by omega) _,by rw [<- hs,hstep,show 20 - (k+1)=19 - k by omega],?_,?_⟩
    ·simp [l1]
    ·rw [AH.get_put_ne _ _ (by omega)]; exact m2
 ·have:k=20:=by omega
  subst this
  simp at hs
  simp [m1,m2]
  have:=leave (by rw [<- hs]; rfl)
  rw [<- hs] at this
  simpa [l2,seenI] using this
end Go.AM
end
section
namespace Go.AM
variable {E:Sy} {H:AH} {Q:Value->AH->Prop}
def refMR (p:Nat) (t:TreeI) (N:List NodeI) (M:List MntI):Res:=⟨p :: (blkL t.n++blkL t.m),fun H=>H.get p = .cells t.cells none/\Grow zH H 7 t.n (N.map NodeI.cells)/\Grow zH H 5 t.m (M.map MntI.cells),
 fun h e=>⟨by rw [e _ (by simp)]; exact h.1,h.2.1.keep fun b hb _=>e b (by simp [mem_blkL.2 hb]),h.2.2.keep fun b hb _=>e b (by simp [mem_blkL.2 hb])⟩⟩
section
variable {p:Nat} {t:TreeI} {N:List NodeI} {M M':List MntI} {H1:AH} {v':Value}
theorem refMR.at_ (h:(refMR p t N M).P H) (hn:M.length<2 ^ 62):RefAt H p t M:=⟨h.1,hn,h.2.2.toRows⟩
theorem refMR.nodup (hnd:(refMR p t N M).fp.Nodup):p ∉ blkL t.n/\p ∉ blkL t.m/\∀ b∈blkL t.n,b ∉ blkL t.m:=by
 simp only [refMR,List.nodup_cons,List.mem_append,List.nodup_append,not_or] at hnd
 obtain ⟨⟨h1,h2⟩,h3,h4,h5⟩:=hnd
 exact ⟨h1,h2,fun b hb hm=>h5 b hb b hm rfl⟩
theorem refMR.fp_lt (hr:(refMR p t N M).P H):∀ b∈(refMR p t N M).fp,b<H.next:=by
 intro b hb
 simp only [refMR,List.mem_cons,List.mem_append] at hb
 rcases hb with rfl | hb | hb
 ·exact AH.lt_cells hr.1
 ·exact hr.2.1.blk_lt (mem_blkL.1 hb)
 ·exact hr.2.2.blk_lt (mem_blkL.1 hb)
theorem refMR.updM (h:(refMR p t N M).P H) (hnd:(refMR p t N M).fp.Nodup) (o:Only (p :: blkL t.m) H H1) (g:Grow zH H1 5 v' (M'.map MntI.cells)) (hb:∀ b,blk v'=some b->blk t.m=some b\/H.next<=b) (nx:Int) :
  Upd (refMR p t N M) (refMR p { t with m:=v',next:=nx } N M') H (H1.put p (.cells ({ t with m:=v',next:=nx }:TreeI).cells none)):=by
 obtain ⟨n1,n2,n3⟩:=refMR.nodup hnd
 have hlt:p<H.next:=AH.lt_cells h.1
 have hpb:p ∉ blkL v':=fun k=>by
  rcases hb p (mem_blkL.1 k) with k | k
  ·exact n2 (mem_blkL.2 k)
  ·omega
 have hN:∀ b,blk t.n=some b->b<H.next:=fun b hb=>h.2.1.blk_lt hb
 have hNn:∀ b,blk t.n=some b->b ∉ blkL v':=fun b hbn k=>by
  rcases hb b (mem_blkL.1 k) with k | k
  ·exact n3 b (mem_blkL.2 hbn) (mem_blkL.2 k)
  ·have:=hN b hbn; omega
 refine ⟨(o.put (.inl (by simp)) _).mono fun b hb => .inl ?_,⟨AH.get_put_self _ _ (Nat.lt_of_lt_of_le hlt o.1),?_,?_⟩,fun b hb' =>?_,?_⟩
 ·simp only [List.mem_cons,refMR,List.mem_append] at hb ⊢
  exact hb.imp id .inr
 ·refine h.2.1.keep fun b hb _ =>?_
  have hbp:b≠p:=by rintro rfl; exact n1 (mem_blkL.2 hb)
  rw [AH.get_put_ne _ _ hbp]
  exact o.get (hN b hb) (by simp only [List.mem_cons,not_or]; exact ⟨hbp,n3 b (mem_blkL.2 hb)⟩)
 ·exact g.keep fun b hb _=>AH.get_put_ne _ _ (by rintro rfl; exact hpb (mem_blkL.2 hb))
 ·simp only [refMR,List.mem_cons,List.mem_append] at hb' ⊢
  rcases hb' with rfl | hb' | hb'
  ·exact ⟨.inl (by simp),Nat.lt_of_lt_of_le hlt o.1⟩
  ·exact ⟨.inl (by simp [hb']),Nat.lt_of_lt_of_le (hN b (mem_blkL.1 hb')) o.1⟩
  ·exact ⟨(hb b (mem_blkL.1 hb')).imp (fun k=>by simp [mem_blkL.2 k]) id,g.blk_lt (mem_blkL.1 hb')⟩
 ·simp only [refMR,List.nodup_cons,List.mem_append,not_or,List.nodup_append]
  exact ⟨⟨n1,hpb⟩,blkL_nodup _,blkL_nodup _,fun a ha b hb' e=>hNn a (mem_blkL.1 ha) (e▸hb')⟩
end
end Go.AM
end
section
namespace Go.AM
variable {E:Sy} {H:AH} {Q:Value->AH->Prop}
structure BoundI where
 M:List MntI
 nx:Int
 n:Int
 e:Int
def bindI (M:List MntI) (nx root:Int) (q:PlaceI):BoundI :=
 if ixOf (fun m:MntI=>decide (m.id=q.mount)) M<0 then ⟨M,nx,0,22⟩ else if seenI M 20 q≠q then ⟨M,nx,0,16⟩ else if 16<=M.length then ⟨M,nx,0,28⟩ else ⟨M++[⟨nx,root,q,0⟩],nx+1,nx,0⟩
theorem S.f56 (hE:Fold E) (p:Nat) (t:TreeI) (N:List NodeI) (M:List MntI) (hr:(refMR p t N M).P H) (hnd:(refMR p t N M).fp.Nodup) (hn:M.length<2 ^ 20) (hx:0<=t.next/\t.next<2 ^ 61) (root:Int) (q:PlaceI)
  (hQ:∀ t' H',t'.next=(bindI M t.next root q).nx/\t'.n=t.n/\t'.limit=t.limit/\t'.change=t.change->Upd (refMR p t N M) (refMR p t' N (bindI M t.next root q).M) H H'->Q (.tuple #[vi (bindI M t.next root q).n,vi (bindI M t.next root q).e]) H'):E.call (E.fid i.f56) [ptr p 0,vi root,q.v] H Q:=by
 apply hE.f56
 have hT:=refMR.at_ hr (by omega)
 have same:∀ H',Ext H H'->Upd (refMR p t N M) (refMR p t N M) H H':=fun H' e=>(Upd.refl hr (refMR.fp_lt hr) hnd).ext e
 have x1:Ext H (H.new (.cells q.cells none)):=(Ext.refl H).new _
 have k1:(H.new (.cells q.cells none)).get H.next = .cells q.cells none:=AH.get_new_self _ _
 obtain ⟨n1,n2,n3⟩:=refMR.nodup hnd
 have hlp:=AH.lt_cells hr.1
 simp [F.f56]
 refine S.f70 hE p t M (hT.mono x1) q.mount ?_
 unfold bindI at hQ
 by_cases hf:ixOf (fun m:MntI=>decide (m.id=q.mount)) M<0
 ·simp only [hf,if_true] at hQ
  simp [hf]
  exact hQ t _ ⟨rfl,rfl,rfl,rfl⟩ (same _ x1)
 ·simp only [hf,if_false] at hQ
  simp [hf]
  refine S.f65 hE p t M (hT.mono x1) q fun H3 e3 =>?_
  have x3:=x1.trans e3
  have k3:=e3.cells k1
  simp [k3]
  by_cases hs:seenI M 20 q=q
  ·simp only [hs,ne_eq,not_true,if_false] at hQ
   have hT3:=hT.mono x3
   simp [hs,hT3.1,hT3.len]
   by_cases h16:16<=M.length
   ·simp only [h16,if_true] at hQ
    have h16':(16:Int)<=M.length:=by omega
    simp [h16']
    exact hQ t _ ⟨rfl,rfl,rfl,rfl⟩ (same _ x3)
   ·simp only [h16,if_false] at hQ
    have h16':¬ (16:Int)<=M.length:=by omega
    have l3:=AH.lt_cells hT3.1
    simp [h16',hT3.1]
    rw [i64_add (by omega) (by omega),opt_some]
    simp [hT3.1,l3]
    have hpk:H.next≠p:=by omega
    have k4:(H3.put p (.cells ({ t with next:=t.next+1 }:TreeI).cells none)).get H.next = .cells q.cells none:=by rw [AH.get_put_ne _ _ hpk]; exact k3
    have hg3:=hr.2.2.ext x3
    have hg4:Grow zH (H3.put p (.cells ({ t with next:=t.next+1 }:TreeI).cells none)) 5 t.m (M.map MntI.cells):=hg3.keep fun b hb _=>AH.get_put_ne _ _ (by rintro rfl; exact n2 (mem_blkL.2 hb))
    obtain ⟨v',H6,a1,a2,a3,a4⟩:=hg4.app1 (Nat.zero_le _) (bytes:=40) (MntI.cells ⟨t.next,root,q,0⟩) rfl rfl (by omega) (by omega) (by simp; omega)
    have hpv6:H6.get p = .cells ({ t with next:=t.next+1 }:TreeI).cells none:=a3.cells (AH.get_put_self _ _ l3) n2
    have l6:=AH.lt_cells hpv6
    simp only [AH.next_put] at a1
    simp [k4]
    rw [a1]
    simp [a2.plain,hpv6]
    refine hQ { t with m:=v',next:=t.next+1 } _ ⟨rfl,rfl,rfl,rfl⟩ ?_
    have hO:Only (p :: blkL t.m) H H6:=by
     refine ((x3.only (F:=p :: blkL t.m)).put (.inl (by simp)) _).trans a3 fun b hb => .inl (by simp [hb])
    exact refMR.updM hr hnd hO (by simpa using a2) (fun b hb=>(a4 b hb).imp id fun h=>by have:=x3.1; simp at h; omega) _
  ·simp only [hs,ne_eq,not_false_eq_true,if_true] at hQ
   simp [hs]
   exact hQ t _ ⟨rfl,rfl,rfl,rfl⟩ (same _ x3)
end Go.AM
end
section
namespace Go.AM
variable {E:Sy} {H0 Z H:AH} {L:List Res} {Q:Value->AH->Prop}
def PlaceD.toI (p:PlaceD):PlaceI:=⟨p.m,p.i.toNat⟩
def MntD.toI (m:MntD):MntI:=⟨m.id,m.root.toNat,m.at_.toI,m.held⟩
theorem toI_inj (p q:PlaceD):p.toI=q.toI↔p=q:=by
 simp only [PlaceD.toI,PlaceI.ext_iff,PlaceD.ext_iff]
 constructor
 ·rintro ⟨h1,h2⟩; exact ⟨h1,BitVec.eq_of_toNat_eq (by omega)⟩
 ·rintro ⟨h1,h2⟩; rw [h2]; exact ⟨h1,rfl⟩
theorem S.f46 (hE:Fold E) (q:PlaceD) (hQ:∀ H',Ext H H'->Q q.toI.v H'):E.call (E.fid i.f46) [q.v] H Q:=by
 apply hE.f46
 simp [F.f46,AH.get_new,PlaceD.cells]
 exact hQ _ (((Ext.refl H).new _).new _)
theorem ix_toI (T:List MntD) (k:Int):ixOf (fun m:MntI=>decide (m.id=k)) (T.map MntD.toI)=findT T k:=by
 unfold findT ixOf
 rw [List.findIdx?_map]; rfl
theorem stands_toI (p:PlaceD) (m:MntD):standsI p.toI m.toI=standsAt p m:=by
 simp only [standsI,standsAt,MntD.toI,toI_inj]
 congr
structure PInv (T:List MntD) (nx k:Int):Prop where
 older:Older T
 uniq:∀ a∈T,∀ b∈T,a.id≠0->b.id≠0->a.at_=b.at_->a.id=b.id
 nodup:(T.map MntD.id).Nodup
 len:T.length<=16
 ids:∀ m∈T,0<=m.id/\m.id<nx
 nx0:1<=nx
 nx1:nx<=1+k
 held:∀ m∈T,0<=m.held/\m.held<=k
theorem PInv.ok {T:List MntD} {nx k:Int} (h:PInv T nx k) (hk:k<=1000):TabOk T nx :=
 ⟨h.older,h.len,by have:=h.nx0; omega,by have:=h.nx1; omega,fun m hm=>by have:=h.held m hm; omega⟩
theorem PInv.mono {T:List MntD} {nx k k':Int} (h:PInv T nx k) (hk:k<=k'):PInv T nx k' :=
 { h with nx1:=by have:=h.nx1; omega,held:=fun m hm=>by have:=h.held m hm; omega }
theorem pinv0:PInv tab0 1 0:=⟨by unfold Older; simp [tab0],by simp [tab0],by simp [tab0],by simp [tab0],by simp [tab0],by omega,by omega,by simp [tab0]⟩
theorem PInv.inj {T:List MntD} {nx k:Int} (h:PInv T nx k) {i j:Nat} (hi:i<T.length) (hj:j<T.length) (e:T[i].id=T[j].id):i=j:=by
 have h1:i<(T.map MntD.id).length:=by simpa using hi
 have h2:j<(T.map MntD.id).length:=by simpa using hj
 have key:=List.pairwise_iff_getElem.1 h.nodup
 rcases Nat.lt_trichotomy i j with g | g | g
 ·exact absurd (by simpa using e) (key i j h1 h2 g)
 ·exact g
 ·exact absurd (by simpa using e.symm) (key j i h2 h1 g)
theorem last_toI {T:List MntD} {nx k:Int} (h:PInv T nx k) (p:PlaceD):lastIx (standsI p.toI) (T.map MntD.toI)=ixOf (standsAt p) T:=by
 have hs:∀ i (hi:i<T.length),standsI p.toI ((T.map MntD.toI)[i]'(by simpa using hi))=standsAt p T[i]:=fun i hi=>by rw [List.getElem_map,stands_toI]
 rcases lastIx_cases (standsI p.toI) (T.map MntD.toI) with ⟨h1,h2⟩ | ⟨i,hi,h1,h2⟩ <;> rcases ixOf_cases (standsAt p) T with ⟨g1,g2⟩ | ⟨j,hj,g1,_,g3,_⟩
 ·rw [h1,g2]
 ·have:=h2 _ (List.getElem_mem (by simpa using hj))
  rw [hs j hj,g3] at this
  simp at this
 ·have hi':i<T.length:=by simpa using hi
  rw [hs i hi'] at h2
  have:=List.find?_eq_none.1 g1 _ (List.getElem_mem hi')
  exact absurd h2 this
 ·have hi':i<T.length:=by simpa using hi
  rw [hs i hi'] at h2
  simp only [standsAt,Bool.and_eq_true,decide_eq_true_eq] at h2 g3
  have:=h.inj hi' hj (h.uniq _ (List.getElem_mem hi') _ (List.getElem_mem hj) h2.1 g3.1 (h2.2.trans g3.2.symm))
  subst this
  rw [h1,g1]
theorem seenI_toI {T:List MntD} {nx k:Int} (h:PInv T nx k):∀ (n:Nat) (p:PlaceD),seenI (T.map MntD.toI) n p.toI=(seenN T n p).toI
 | 0,p=>rfl
 | n+1,p=>by
  simp only [seenI,seenN,last_toI h]
  rcases ixOf_cases (standsAt p) T with ⟨g1,g2⟩ | ⟨j,hj,g1,g2,g3,_⟩
  ·simp [g2,g1]
  ·simp only [g1,g2,List.length_map]
   rw [dif_pos ⟨by omega,by simpa using hj⟩]
   have:=seenI_toI h n ⟨T[j].id,T[j].root⟩
   simp only [List.getElem_map]
   exact this
theorem seen20 {T:List MntD} {nx k:Int} (h:PInv T nx k) (p:PlaceD):seenI (T.map MntD.toI) 20 p.toI=(seen T p).toI:=by
 rw [seenI_toI h]
 have h1:=h.len
 have h2:=above_le T p
 have:=seenN_enough h.older p (20 - T.length) T.length h2
 rw [show T.length+(20 - T.length)=20 by omega] at this
 rw [this]; rfl
theorem seenN_ge {T:List MntD} (h:Older T):∀ (n:Nat) (p:PlaceD),p.m<=(seenN T n p).m
 | 0,p=>by simp [seenN]
 | n+1,p=>by
  rw [seenN]
  cases hf:T.find? (standsAt p) with
  | none=>simp
  | some m =>
   have h1:=List.find?_some hf
   have h2:=List.mem_of_find?_eq_some hf
   simp only [standsAt,Bool.and_eq_true,decide_eq_true_eq] at h1
   have h3:=h m h2 h1.1
   have h4:=seenN_ge h n ⟨m.id,m.root⟩
   rw [h1.2] at h3
   simp only at h4 ⊢
   omega
theorem seen_fix {T:List MntD} (h:Older T) {p:PlaceD} (e:seen T p=p):T.find? (standsAt p)=none:=by
 cases hf:T.find? (standsAt p) with
 | none=>rfl
 | some m =>
  have h1:=List.find?_some hf
  have h2:=List.mem_of_find?_eq_some hf
  simp only [standsAt,Bool.and_eq_true,decide_eq_true_eq] at h1
  have h3:=h m h2 h1.1
  have h4:=seenN_ge h T.length ⟨m.id,m.root⟩
  have h5:=seen_some h hf
  rw [e] at h5
  unfold seen at h5
  rw [<- h5] at h4
  rw [h1.2] at h3
  simp only at h4
  omega
theorem bind_toI {T:List MntD} {nx k:Int} (h:PInv T nx k) (r:BitVec 16) (p:PlaceD):(bindI (T.map MntD.toI) nx r.toNat p.toI).M=(bindT T nx r p).T.map MntD.toI/\(bindI (T.map MntD.toI) nx r.toNat p.toI).nx=(bindT T nx r p).nx /\
  (bindI (T.map MntD.toI) nx r.toNat p.toI).n=(bindT T nx r p).n/\(bindI (T.map MntD.toI) nx r.toNat p.toI).e=(bindT T nx r p).e:=by
 unfold bindI bindT
 have h0:p.toI.mount=p.m:=rfl
 rw [h0,ix_toI,seen20 h,List.length_map]
 simp only [ne_eq,toI_inj]
 split
 ·simp
 ·split
  ·simp
  ·split
   ·simp
   ·simp [MntD.toI]
theorem PInv.bind {T:List MntD} {nx k:Int} (h:PInv T nx k) (r:BitVec 16) (p:PlaceD):PInv (bindT T nx r p).T (bindT T nx r p).nx (k+1):=by
 have hk:PInv T nx (k+1):=h.mono (by omega)
 unfold bindT
 split
 ·exact hk
 ·rename_i hf
  split
  ·exact hk
  ·rename_i hs
   split
   ·exact hk
   ·rename_i hl
    have hs:seen T p=p:=Classical.not_not.1 hs
    have hno:=seen_fix h.older hs
    have hpm:p.m<nx:=by
     rcases ixOf_cases (fun m:MntD=>decide (m.id=p.m)) T with ⟨h1,h2⟩ | ⟨j,hj,h1,h2,h3,_⟩
     ·have h2:findT T p.m = -1:=h2
      omega
     ·have:=(h.ids _ (List.getElem_mem hj)).2
      simp only [decide_eq_true_eq] at h3
      omega
    have hnx:=h.nx0
    refine ⟨fun m hm h0 =>?_,fun a ha b hb a0 b0 e =>?_,?_,by simp; omega,fun m hm =>?_,by simp only; omega,by have:=h.nx1; simp only; omega,fun m hm =>?_⟩
    ·rcases List.mem_append.1 hm with hm | hm
     ·exact h.older m hm h0
     ·simp only [List.mem_singleton] at hm; subst hm; exact hpm
    ·rcases List.mem_append.1 ha with ha | ha <;> rcases List.mem_append.1 hb with hb | hb
     ·exact h.uniq a ha b hb a0 b0 e
     ·simp only [List.mem_singleton] at hb; subst hb
      exact absurd (by simp only [standsAt,Bool.and_eq_true,decide_eq_true_eq]; exact ⟨a0,e⟩) (List.find?_eq_none.1 hno a ha)
     ·simp only [List.mem_singleton] at ha; subst ha
      exact absurd (by simp only [standsAt,Bool.and_eq_true,decide_eq_true_eq]; exact ⟨b0,e.symm⟩) (List.find?_eq_none.1 hno b hb)
     ·simp only [List.mem_singleton] at ha hb; subst ha hb; rfl
    ·rw [List.map_append,List.nodup_append]
     refine ⟨h.nodup,by simp,fun a ha b hb =>?_⟩
     obtain ⟨m,hm,rfl⟩:=List.mem_map.1 ha
     simp at hb; subst hb
     have:=(h.ids m hm).2
     omega
    ·rcases List.mem_append.1 hm with hm | hm
     ·have:=h.ids m hm; simp only; omega
     ·simp only [List.mem_singleton] at hm; subst hm; simp only; omega
    ·rcases List.mem_append.1 hm with hm | hm
     ·have:=h.held m hm; omega
     ·simp only [List.mem_singleton] at hm; subst hm; simp only; have:=h.nx1; omega
end Go.AM
end
section
namespace Go.AM
theorem Upd.congr {r r' s s':Res} {H H':AH} (h:Upd r r' H H') (f:r.fp=s.fp) (f':r'.fp=s'.fp) (p':∀ H,r'.P H->s'.P H):Upd s s' H H':=by
 obtain ⟨a,b,c,d⟩:=h
 exact ⟨f▸a,p' _ b,by rw [<- f,<- f']; exact c,f'▸d⟩
def nodesI (T:Tr) (Y:List RLy):List NodeI:=(T.N.zip Y).map fun p=>refI p.1 p.2
theorem nodesI_rows (T:Tr) (Y:List RLy):(nodesI T Y).map NodeI.cells=nodeRows T Y:=by simp [nodesI,nodeRows]
def mntI (M:List MntD):List (List Value):=(M.map MntD.toI).map MntI.cells
section
variable {E:Sy} {H H':AH} {Q:Value->AH->Prop} {t:Nat} {nv mv mv':Value} {nx nx':Int} {Y:List RLy} {T:Tr} {M M':List MntI}
def restR (Y:List RLy) (T:Tr):List Res:=(T.N.zip Y).map fun p=>nodeRR p.1 p.2
theorem refR_fp:(refR t nv mv nx (M.map MntI.cells) Y T).fp=(joinR (refMR t ⟨nv,T.limit,mv,nx,T.change⟩ (nodesI T Y) M :: restR Y T)).fp:=by
 simp [refR,refRs,joinR,refMR,restR,boxR,growR]
theorem refR_holds (H:AH):(refR t nv mv nx (M.map MntI.cells) Y T).P H↔(joinR (refMR t ⟨nv,T.limit,mv,nx,T.change⟩ (nodesI T Y) M :: restR Y T)).P H:=by
 simp only [refR,refRs,joinR,restR,List.mem_cons,forall_eq_or_imp]
 constructor
 ·rintro ⟨a,b,c,d⟩
  exact ⟨⟨a,by rw [nodesI_rows]; exact b,c⟩,d⟩
 ·rintro ⟨⟨a,b,c⟩,d⟩
  exact ⟨a,by rw [nodesI_rows] at b; exact b,c,d⟩
theorem refR_toM (h:Ow (refR t nv mv nx (M.map MntI.cells) Y T) H):Ow (joinR (refMR t ⟨nv,T.limit,mv,nx,T.change⟩ (nodesI T Y) M :: restR Y T)) H :=
 ⟨(refR_holds H).1 h.holds,by rw [<- refR_fp]; exact h.lt,by rw [<- refR_fp]; exact h.nd⟩
theorem refR_upd (h:Ow (refR t nv mv nx (M.map MntI.cells) Y T) H) (u:Upd (refMR t ⟨nv,T.limit,mv,nx,T.change⟩ (nodesI T Y) M) (refMR t ⟨nv,T.limit,mv',nx',T.change⟩ (nodesI T Y) M') H H') :
  Upd (refR t nv mv nx (M.map MntI.cells) Y T) (refR t nv mv' nx' (M'.map MntI.cells) Y T) H H' :=
 ((refR_toM h).set (k:=0) rfl u).congr refR_fp.symm refR_fp.symm fun H h=>(refR_holds H).2 h
theorem S.pinfoldref16_Tree_BindT (hE:Fold E) (h:Ow (refR t nv mv nx (M.map MntI.cells) Y T) H) (hn:M.length<2 ^ 20) (hx:0<=nx/\nx<2 ^ 61) (root:Int) (q:PlaceI)
  (hQ:∀ mv' H',Upd (refR t nv mv nx (M.map MntI.cells) Y T) (refR t nv mv' (bindI M nx root q).nx ((bindI M nx root q).M.map MntI.cells) Y T) H H'->Q (.tuple #[vi (bindI M nx root q).n,vi (bindI M nx root q).e]) H') :
  E.call (E.fid i.f56) [ptr t 0,vi root,q.v] H Q:=by
 have o:=(refR_toM h).part (k:=0) rfl
 refine S.f56 hE t ⟨nv,T.limit,mv,nx,T.change⟩ (nodesI T Y) M o.holds o.nd hn hx root q fun t' H' ht u =>?_
 obtain ⟨a,b,c,d⟩:=ht
 obtain ⟨n',l',m',x',c'⟩:=t'
 simp only at a b c d
 subst a b c d
 exact hQ m' H' (refR_upd h u)
end
end Go.AM
end
section
namespace Go.AM
theorem Tr.Did.limit {up:Bool} {T T':Tr} (h:T.Did up T'):T'.limit=T.limit:=by
 have htd:∀ (U:Tr) (n:BitVec 16),(U.tidy n).limit=U.limit:=fun U n=>by unfold Tr.tidy; split <;> rfl
 have hdr:∀ (U:Tr) (n:BitVec 16) (s:NameL) (d:Bool),(U.drop n s d).1.limit=U.limit:=fun U n s d=>by
  unfold Tr.drop
  repeat' split
  all_goals try rfl
  rw [htd]; rfl
 have hmv:∀ (U:Tr) (fr to n:BitVec 16) (s o:NameL),(Tr.moved U fr s to o n).limit=U.limit:=fun U fr to n s o=>by
  unfold Tr.moved
  simp only
  split <;> rfl
 cases h
 ·unfold Tr.make
  repeat' split
  all_goals rfl
 ·unfold Tr.add
  repeat' split
  all_goals rfl
 ·exact hdr _ _ _ _
 ·unfold Tr.move
  split
  ·rfl
  split
  ·rfl
  split
  ·rfl
  split
  ·rfl
  split
  ·rfl
  rw [hmv]
  split
  ·exact hdr _ _ _ _
  ·rfl
 ·unfold Tr.hold
  repeat' split
  all_goals try rfl
  exact htd _ _
 ·unfold Tr.write
  repeat' split
  all_goals rfl
 ·unfold Tr.cut
  repeat' split
  all_goals rfl
 ·rfl
def topM:MntD:=⟨0,⟨0,0#16⟩,1#16,0⟩
structure GI (k:Int) (T:Tr) (M:List MntD) (nx l:Int):Prop where
 k0:0<=k
 k1:k<=900
 wf:T.WF
 kd:T.KD
 ord:T.Order
 tidy:T.Tidy
 lim:T.limit<=l
 hb:T.HB (2*k)
 c0:0<=T.change
 c1:T.change<=2*k
 pin:PInv M nx k
 top:getT M 0=some topM
 mnt:∀ m∈M,(T.node m.root).kind=2#8/\(m.id=0->m=topM)/\(m.id≠0->1<=(T.node m.root).held/\(T.node m.at_.i).kind=2#8/\1<=(T.node m.at_.i).held/\0<=m.at_.m/\m.at_.m<=2)
section
variable {T T':Tr} {M:List MntD} {nx k l:Int}
theorem GI.mono (g:GI k T M nx l) {k':Int} (h:k<=k') (h1:k'<=900):GI k' T M nx l :=
 { g with k0:=by have:=g.k0; omega,k1:=h1,hb:=g.hb.mono (by omega),c1:=by have:=g.c1; omega,pin:=g.pin.mono h }
theorem GI.stay (g:GI k T M nx l) (s:T.Stay T') (wf:T'.WF) (kd:T'.KD) (ord:T'.Order) (ti:T'.Tidy) (lim:T'.limit<=l) {k':Int} (hk:k<=k') (h1:k'<=900) (hb:T'.HB (2*k')) (c0:0<=T'.change) (c1:T'.change<=2*k'):GI k' T' M nx l where
 k0:=by have:=g.k0; omega
 k1:=h1
 wf:=wf
 kd:=kd
 ord:=ord
 tidy:=ti
 lim:=lim
 hb:=hb
 c0:=c0
 c1:=c1
 pin:=g.pin.mono hk
 top:=g.top
 mnt:=fun m hm=>by
  obtain ⟨a,b,c⟩:=g.mnt m hm
  refine ⟨?_,b,fun h0 =>?_⟩
  ·by_cases h0:m.id=0
   ·rw [b h0]; exact wf.root.1
   ·obtain ⟨c1,_⟩:=c h0
    rw [(s m.root (by rw [a]; decide) c1).1]; exact a
  ·obtain ⟨c1,c2,c3,c4⟩:=c h0
   have h1:=s m.root (by rw [a]; decide) c1
   have h2:=s m.at_.i (by rw [c2]; decide) c3
   exact ⟨by omega,by rw [h2.1]; exact c2,by omega,c4⟩
theorem GI.did (g:GI k T M nx l) (d:T.Did true T') (wf:T'.WF) (cb:T.CB T') (hb:T'.HB (2*k+1)) (h1:k+1<=900):GI (k+1) T' M nx l:=by
 have hc0:=g.c0
 have hc1:=g.c1
 exact g.stay (d.stay g.wf) wf (d.kd g.kd) (d.order g.wf g.ord) (d.tidy g.tidy g.wf) (by rw [d.limit]; exact g.lim) (by omega) h1 (hb.mono (by omega)) (by have:=cb.1; omega) (by have:=cb.2; omega)
theorem getT_append {l:List MntD} {x:MntD} {id:Int} {m:MntD} (h:getT l id=some m):getT (l++[x]) id=some m:=by
 unfold getT at h ⊢
 rw [List.find?_append,h]; rfl
theorem GI.new (limit l:Int) (hl:1<=l/\limit<=l):GI 0 (Tr.new limit) tab0 1 l where
 k0:=Int.le_refl _
 k1:=by decide
 wf:=Tr.new_wf limit
 kd:=Tr.KD.new limit
 ord:=Tr.Order.new limit
 tidy:=Tr.Tidy.new limit
 lim:=by show min (max limit 1) 256<=l; omega
 hb:=Tr.HB.new limit
 c0:=Int.le_refl _
 c1:=Int.le_refl _
 pin:=pinv0
 top:=rfl
 mnt:=fun m hm=>by
  simp [tab0] at hm
  subst hm
  exact ⟨(Tr.new_wf limit).root.1,fun _=>rfl,fun h=>(h rfl).elim⟩
theorem GI.bind (g:GI k T M nx l) (h1:k+1<=900) (root:BitVec 16) (p:PlaceD) (hp:0<=p.m/\p.m<=2) (hr:(T.node root).kind=2#8) (ha:(T.node p.i).kind=2#8) (ok:(bindT M nx root p).e=0) :
  GI (k+1) ((T.hold root true).1.hold p.i true).1 (bindT M nx root p).T (bindT M nx root p).nx l:=by
 have s1:T.Stay (T.hold root true).1 := .hold root
 have s2:(T.hold root true).1.Stay ((T.hold root true).1.hold p.i true).1 := .hold p.i
 have w1:=g.wf.hold root true
 have w2:=w1.hold p.i true
 have hk0:=g.k0
 have hc0:=g.c0
 have hc1:=g.c1
 have b1:=g.hb.hold (by omega) root true
 have b2:=b1.hold (by omega) p.i true
 have e1:(T.hold root true).1=T.upd root (Nd.addH 1):=by
  unfold Tr.hold
  rw [if_neg (by rw [hr]; decide),if_pos rfl]
 have n1:∀ m,(T.hold root true).1.node m=if m=root then Nd.addH 1 (T.node root) else T.node m:=fun m=>by
  rw [e1,Tr.node_upd (by rw [hr]; decide)]
 have ha1:((T.hold root true).1.node p.i).kind=2#8:=by
  rw [n1]; split
  ·exact hr
  ·exact ha
 have e2:((T.hold root true).1.hold p.i true).1=(T.hold root true).1.upd p.i (Nd.addH 1):=by
  show (Tr.hold _ _ _).1=_
  rw [Tr.hold,if_neg (by rw [ha1]; decide),if_pos rfl]
 have n2:∀ m,((T.hold root true).1.hold p.i true).1.node m=if m=p.i then Nd.addH 1 ((T.hold root true).1.node p.i) else (T.hold root true).1.node m:=fun m=>by
  rw [e2,Tr.node_upd (by rw [ha1]; decide)]
 have q1:=g.wf.held root
 have q2:=g.wf.held p.i
 have hr2:(((T.hold root true).1.hold p.i true).1.node root).kind=2#8/\1<=(((T.hold root true).1.hold p.i true).1.node root).held:=by
  rw [n2]
  split
  ·rename_i e
   refine ⟨ha1,?_⟩
   show 1<=((T.hold root true).1.node p.i).held+1
   have:=w1.held p.i
   omega
  ·rw [n1,if_pos rfl]
   refine ⟨hr,?_⟩
   show 1<=(T.node root).held+1
   omega
 have ha2:(((T.hold root true).1.hold p.i true).1.node p.i).kind=2#8/\1<=(((T.hold root true).1.hold p.i true).1.node p.i).held:=by
  rw [n2,if_pos rfl]
  refine ⟨ha1,?_⟩
  show 1<=((T.hold root true).1.node p.i).held+1
  have:=w1.held p.i
  omega
 have c1:(T.hold root true).1.change=T.change:=by rw [e1]; rfl
 have c2:((T.hold root true).1.hold p.i true).1.change=T.change:=by rw [e2]; exact c1
 have l1:(T.hold root true).1.limit=T.limit:=by rw [e1]; rfl
 have l2:((T.hold root true).1.hold p.i true).1.limit=T.limit:=by rw [e2]; exact l1
 have kd:=(g.kd.hold keeps_KD root true).hold keeps_KD p.i true
 have o2:=(g.ord.step (.hold root true)).step (.hold p.i true)
 have pin:=g.pin.bind root p
 have base:=g.stay (s1.trans s2) w2 kd o2 ((g.tidy.hold g.wf root true).hold w1 p.i true) (by rw [l2]; exact g.lim) (k':=k+1) (by omega) h1 (b2.mono (by omega)) (by rw [c2]; exact hc0) (by rw [c2]; omega)
 have hT:(bindT M nx root p).T=M++[⟨nx,p,root,0⟩]:=by
  unfold bindT at ok ⊢
  split at ok
  ·simp at ok
  ·rename_i h
   rw [if_neg h]
   split at ok
   ·simp at ok
   ·rename_i h
    rw [if_neg h]
    split at ok
    ·simp at ok
    ·rename_i h
     rw [if_neg h]
 refine { base with pin:=pin,top :=?_,mnt:=fun m hm =>?_ }
 ·rw [hT]; exact getT_append g.top
 ·rw [hT] at hm
  rcases List.mem_append.1 hm with hm | hm
  ·exact base.mnt m hm
  ·simp only [List.mem_singleton] at hm
   subst hm
   have:=g.pin.nx0
   exact ⟨hr2.1,fun h=>by simp only at h; omega,fun _=>⟨hr2.2,ha2.1,ha2.2,hp⟩⟩
end
end Go.AM
end
section
namespace Go.AM
set_option maxRecDepth 20000
structure GActD where
 kind:BitVec 8
 act:ActD
 root:BitVec 8
 seen:BitVec 8
 link:BitVec 8
def GActD.cells (x:GActD):List Value:=u8 x.kind :: (x.act.cells++[u8 x.root,u8 x.seen,u8 x.link])
abbrev gactSh:Sh := .struct [.int .u8,actSh,.int .u8,.int .u8,.int .u8]
theorem SV.gact {H:AH} {cs:List Value} (h:SV H gactSh cs):∃ x:GActD,cs=x.cells/\x.act.ok H:=by
 obtain ⟨c0,e0,rfl,h0,c1,e1,rfl,h1,c2,e2,rfl,h2,c3,e3,rfl,h3,c4,e4,rfl,h4,rfl⟩:=h
 obtain ⟨x0,rfl⟩:=h0.u8
 obtain ⟨x1,rfl,ok⟩:=SV.act h1
 obtain ⟨x2,rfl⟩:=h2.u8
 obtain ⟨x3,rfl⟩:=h3.u8
 obtain ⟨x4,rfl⟩:=h4.u8
 exact ⟨⟨x0,x1,x2,x3,x4⟩,by simp [GActD.cells],ok⟩
theorem ArgSV.gacts {H:AH} {v:Value} (h:ArgSV H (.slice 14 gactSh) v):∃ l:List GActD,Rows H 14 v (l.map GActD.cells)/\l.length<=9223372036854775807/\∀ x∈l,x.act.ok H:=ArgSV.rowsOf (fun _ h=>SV.gact h) h
theorem gactZero:([(.int .u8 0),(.int .u8 0),(.int .u8 0),(.int .u8 0),(.int .u8 0),(.int .u8 0),(.string ⟨#[]⟩),(.int .i64 0),(.slice none 0 0),(.bool false),(.bool false),(.int .u8 0),(.int .u8 0),(.int .u8 0)]:List Value)=(GActD.mk 0#8 (ActD.mk 0#8 0#8 0#8 0#8 0#8 [] 0 nilS [] false false) 0#8 0#8 0#8).cells:=rfl
theorem GActD.len (x:GActD):x.cells.length=14:=rfl
theorem GActD.all_plain (x:GActD) (h:plain1 x.act.bytes=true):x.cells.all plain1=true:=by
 have:=x.act.all_plain h
 simp only [GActD.cells,List.all_cons,List.all_append,this,List.all_nil,Bool.and_true,Bool.true_and]; rfl
theorem gact_store {H:AH} {x:GActD} (hp:plain1 x.act.bytes=true) (z:GActD):storeN 14 (ptr H.next 0) (.agg x.cells.toArray) (H.new (.cells z.cells none))=some (H.new (.cells x.cells none)):=by
 rw [storeN_ptr,AH.get_new_self]
 have hs:AM.splice z.cells 0 x.cells=x.cells:=rfl
 simp only [List.size_toArray,List.toList_toArray,GActD.len,GActD.all_plain x hp,Nat.zero_add,Nat.le_refl,and_self,if_true,hs,AH.new_put]
section
variable {X:List Res} {E:Sy} {H0 H H' H'':AH} {Q:Value->AH->Prop} {w t:Nat} {T T':Tr} {M M':List MntD} {nx nx' k l:Int}
def lightL (l:List GActD):Bool:=l.all fun x=>decide (x.act.any.length<=200)&&decide (x.act.bl.length<=200)
theorem S.f48 (hE:Fold E) (v:Value) (l:List GActD) (hv:Rows H 14 v (l.map GActD.cells)) (hll:l.length<=9223372036854775807) (hok:∀ x∈l,x.act.ok H)
  (hQ:∀ H',Ext H H'->Q (vb (lightL l)) H'):E.call (E.fid i.f48) [v] H Q:=by
 apply hE.f48
 have hl:=hv.lenSlc
 rw [List.length_map] at hl
 simp only [F.f48,hl,tk_eq,opt_some]
 refine LoopL.count l.length (fun j ls H'=>ls=[v,vi l.length,vi j]/\Ext H H'/\lightL (l.take j)=true) ?_ ⟨rfl,Ext.refl H,rfl⟩
 rintro j _ H1 X hj hX ⟨rfl,e1,hn⟩
 by_cases hjl:j<l.length
 ·have hjl':(j:Int)<l.length:=by omega
  have hX:=hX hjl
  have hjj:=i64_inc (i:=j) (by omega)
  obtain ⟨b,o,p1,p2⟩:=(hv.mono e1).ix (i:=j) (by simpa using hjl)
  rw [List.getElem_map] at p2
  have hmem:=List.getElem_mem hjl
  have hx:=(hok l[j] hmem).mono e1
  have htk:l.take (j+1)=l.take j++[l[j]]:=by rw [List.take_succ,List.getElem?_eq_getElem hjl]; rfl
  have hno:¬ (l[j].act.any.length<=200/\l[j].act.bl.length<=200)->lightL l=false:=by
   intro h
   unfold lightL
   rw [List.all_eq_false]
   refine ⟨l[j],hmem,?_⟩
   simpa using h
  have hyes:l[j].act.any.length<=200->l[j].act.bl.length<=200->lightL (l.take (j+1))=true:=by
   intro h1 h2
   unfold lightL at hn ⊢
   rw [htk,List.all_append,hn]
   simp [h1,h2]
  generalize l[j]=x at *
  generalize hj1:j+1=j1 at *
  have hlo:loadN 14 (ptr b o) H1=some (.agg x.cells.toArray):=by rw [loadN_ptr,p2]; rfl
  have hst:=gact_store (H:=H1) (rows_plain hx.bytes) (GActD.mk 0#8 (ActD.mk 0#8 0#8 0#8 0#8 0#8 [] 0 nilS [] false false) 0#8 0#8 0#8)
  have hx2:Ext H1 (H1.new (.cells x.cells none)):=(Ext.refl H1).new _
  have hb2:=AH.get_new_self H1 (.cells x.cells none)
  have c6:x.cells[6]? = some (str x.act.any):=rfl
  have c8:x.cells[8]? = some x.act.bytes:=rfl
  have hbl:=hx.bytes.lenSlc
  rw [byteR_length] at hbl
  by_cases a1:200<x.act.any.length
  ·have a1':(200:Int)<x.act.any.length:=by omega
   have hQ:=hQ _ (e1.trans hx2)
   rw [hno (by omega)] at hQ
   simp only [F.f48_l1,i64_lss,hjl',decide_true,p1,hlo,allocW_eq,gactZero,hst,hb2,c6,lenStr_s,i64_gtr,gt_iff_lt,a1',stdZ]
   exact hQ
  have a1':¬ (200:Int)<x.act.any.length:=by omega
  by_cases a2:200<x.act.bl.length
  ·have a2':(200:Int)<x.act.bl.length:=by omega
   have hQ:=hQ _ (e1.trans hx2)
   rw [hno (by omega)] at hQ
   simp only [F.f48_l1,i64_lss,hjl',decide_true,p1,hlo,allocW_eq,gactZero,hst,hb2,c6,c8,lenStr_s,i64_gtr,gt_iff_lt,a1',a2',decide_false,hbl,stdZ]
   exact hQ
  have a2':¬ (200:Int)<x.act.bl.length:=by omega
  simp only [F.f48_l1,i64_lss,hjl',decide_true,p1,hlo,allocW_eq,gactZero,hst,hb2,c6,c8,lenStr_s,i64_gtr,gt_iff_lt,a1',a2',decide_false,hbl,hjj,stdZ]
  exact hX _ _ ⟨rfl,e1.trans hx2,hyes (by omega) (by omega)⟩
 ·have hjl':¬ (j:Int)<l.length:=by omega
  have:j=l.length:=by omega
  subst this
  rw [List.take_length] at hn
  have hQ:=hQ _ e1
  rw [hn] at hQ
  simp only [F.f48_l1,i64_lss,hjl',decide_false,stdZ]
  exact hQ
def linkTexts:List NameL:=[[97],[47,97],[46,46,47,98],[98,47,99],[47],[46],[46,46],[47,98,47,46,46,47,97],[102],[97,47],[110,111,116,104,105,110,103],[47,97,47,98,47,99]]
theorem S.f50 (hE:Fold E) (hQ:∀ v H',Ext H H'->Rows H' 1 v (strR linkTexts)->Q v H'):E.call (E.fid i.f50) [] H Q:=by
 apply hE.f50
 have hb:=buildS_full 12 1 [str []] [(0,str [97]),(1,str [47,97]),(2,str [46,46,47,98]),(3,str [98,47,99]),(4,str [47]),(5,str [46]),(6,str [46,46]),(7,str [47,98,47,46,46,47,97]),(8,str [102]),(9,str [97,47]),(10,str [110,111,116,104,105,110,103]),(11,str [47,97,47,98,47,99])] (linkTexts.map str) rfl rfl rfl rfl (by
   intro v hv
   obtain ⟨s,_,rfl⟩:=List.mem_map.1 hv
   rfl)
 have hb:buildS 12 1 #[(.string ⟨#[]⟩)] [(0,(.string ⟨#[97]⟩)),(1,(.string ⟨#[47,97]⟩)),(2,(.string ⟨#[46,46,47,98]⟩)),(3,(.string ⟨#[98,47,99]⟩)),(4,(.string ⟨#[47]⟩)),(5,(.string ⟨#[46]⟩)),(6,(.string ⟨#[46,46]⟩)),(7,(.string ⟨#[47,98,47,46,46,47,97]⟩)),(8,(.string ⟨#[102]⟩)),(9,(.string ⟨#[97,47]⟩)),(10,(.string ⟨#[110,111,116,104,105,110,103]⟩)),(11,(.string ⟨#[47,97,47,98,47,99]⟩))]=some (.cells (linkTexts.map str) none,mkSlc 12 12):=by
  simpa [linkTexts] using hb
 simp only [F.f50,hb,AM.mk_some,mkSlc_eq,tk_eq]
 refine hQ _ _ ((Ext.refl H).new _) (Rows.made (f:=none) (by rw [AH.get_new_self]; rfl) (.inl rfl) rfl ?_)
 intro r hr
 obtain ⟨s,_,rfl⟩:=List.mem_map.1 hr
 rfl
def GwO (X:List Res) (H0 H:AH) (w t:Nat) (T:Tr) (M:List MntD) (nx:Int):Prop:=∃ nv mv Y,WkO (refR t nv mv nx (mntI M) Y T :: X) H0 H w T M nx/\Y.length=T.N.length/\T.N.length<=60000
theorem GwO.ext (h:GwO X H0 H w t T M nx):Ext H0 H:=by obtain ⟨_,_,_,h,_⟩:=h; exact h.ext
theorem GwO.mono (h:GwO X H0 H w t T M nx) (e:Ext H H'):GwO X H0 H' w t T M nx:=by obtain ⟨nv,mv,Y,h,a,b⟩:=h; exact ⟨nv,mv,Y,h.mono e,a,b⟩
theorem GwO.at_ (h:GwO X H0 H w t T M nx):WkAt H w T M:=by obtain ⟨nv,mv,Y,h,a,b⟩:=h; exact h.at_
theorem GwO.box (h:GwO X H0 H w t T M nx) (c:List Value):GwO (X++[boxR H.next c]) H0 (H.new (.cells c none)) w t T M nx:=by obtain ⟨nv,mv,Y,h,a,b⟩:=h; exact ⟨nv,mv,Y,h.box c,a,b⟩
theorem GwO.drop {r:Res} (h:GwO (X++[r]) H0 H w t T M nx):GwO X H0 H w t T M nx:=by obtain ⟨nv,mv,Y,h,a,b⟩:=h; exact ⟨nv,mv,Y,WkO.drop (X:=refR t nv mv nx (mntI M) Y T :: X) h,a,b⟩
theorem GwO.held {b:Nat} {c:List Value} (h:GwO (X++[boxR b c]) H0 H w t T M nx):H.get b = .cells c none:=by obtain ⟨nv,mv,Y,h,_⟩:=h; exact WkO.held (X:=refR t nv mv nx (mntI M) Y T :: X) h
theorem GwO.put {b:Nat} {c:List Value} (h:GwO (X++[boxR b c]) H0 H w t T M nx) (c':List Value):GwO (X++[boxR b c']) H0 (H.put b (.cells c' none)) w t T M nx:=by obtain ⟨nv,mv,Y,h,a,b⟩:=h; exact ⟨nv,mv,Y,WkO.put (X:=refR t nv mv nx (mntI M) Y T :: X) h c',a,b⟩
theorem more_j2 (hE:Fold E) {c:Nat} {x:ActD} (h:GwO (X++[boxR c x.cells]) H0 H w t T M nx) (g:GI k T M nx l) (hk:k+1<=900) (hx:x.ok H0) (hl:x.any.length<=200/\x.bl.length<=200) (hraw:x.raw=false) (hup:x.kind % 15#8=11#8->x.flag=true)
  {av nv:Value} {j:Nat} (hj:j<2 ^ 62) {X0:List Value->AH->Prop} (next:∀ T' H',GwO X H0 H' w t T' M nx->GI (k+1) T' M nx l->X0 [ptr w 0,ptr t 0,av,nv,vi ((j+1:Nat):Int)] H') :
  F.f49_j2 E Q X0 (ptr w 0) (ptr t 0) (ptr c 0) av nv (vi j) H:=by
 have hb:=h.held
 have hlo:loadN 10 (ptr c 0) H=some (.agg x.cells.toArray):=by rw [loadN_ptr,hb,row_all _ _ 10 rfl]; rfl
 obtain ⟨rv,mv,Y,h,hyl,hyf⟩:=h
 obtain ⟨p,q,hw,_⟩:=h.open_
 obtain ⟨p',q',v,m,L,h2,back⟩:=h.two hyl hyf
 have hw2:=h2.ow.holds (boxR w [ptr p' 0,ptr q' 0]) (by simp)
 have hw2:H.get w = .cells [ptr p' 0,ptr q' 0] none:=hw2
 have hjj:=i64_inc (i:=j) (by omega)
 have hk0:=g.k0
 have hc0:=g.c0
 have hc1:=g.c1
 generalize hj1:j+1=j1 at *
 simp only [F.f49_j2,hw2,hlo,stdZ]
 refine S.f44 hE h2 g.wf g.hb ⟨by omega,by omega⟩ ⟨by omega,by omega⟩ hx hl hraw hup fun L' nv' Y' T' H' ha hd =>?_
 simp only [hjj,stdZ]
 have ho:=back _ _ _ _ _ _ ha.two
 have hg:GwO (X++[boxR c x.cells]) H0 H' w t T' M nx:=⟨nv',mv,Y',ho,ha.two.len,ha.two.fit⟩
 exact next T' H' hg.drop (g.did hd ha.wf ha.cb ha.hb hk)
end
end Go.AM
end
section
namespace Go.AM
set_option maxRecDepth 20000
section
variable {X:List Res} {E:Sy} {H0 H H' H'':AH} {Q:Value->AH->Prop} {w t:Nat} {T T':Tr} {M M':List MntD} {nx nx' k l:Int}
theorem bindT_not {root:BitVec 16} {p:PlaceD} (h:(bindT M nx root p).e≠0):(bindT M nx root p).T=M/\(bindT M nx root p).nx=nx:=by
 unfold bindT at h ⊢
 split
 ·exact ⟨rfl,rfl⟩
 ·rename_i h1
  rw [if_neg h1] at h
  split
  ·exact ⟨rfl,rfl⟩
  ·rename_i h2
   rw [if_neg h2] at h
   split
   ·exact ⟨rfl,rfl⟩
   ·rename_i h3
    rw [if_neg h3] at h
    exact (h rfl).elim
theorem more_j1 (hE:Fold E) {a c:Nat} {z:GActD} {x:ActD} (h:GwO ((X++[boxR a z.cells])++[boxR c x.cells]) H0 H w t T M nx) (g:GI k T M nx l) (hk:k+1<=900) (hx:x.ok H0) (hl:x.any.length<=200/\x.bl.length<=200) (hraw:x.raw=false) (hup:x.kind % 15#8=11#8->x.flag=true)
  {av nv:Value} {j:Nat} (hj:j<2 ^ 62) {X0:List Value->AH->Prop} (next:∀ T' H',GwO X H0 H' w t T' M nx->GI (k+1) T' M nx l->X0 [ptr w 0,ptr t 0,av,nv,vi ((j+1:Nat):Int)] H') :
  F.f49_j1 E Q X0 (ptr w 0) (ptr t 0) (ptr a 0) (ptr c 0) av nv (vi j) H:=by
 have hb:=h.held
 have ha:=h.drop.held
 have c0:x.cells[0]? = some (u8 x.kind):=rfl
 have z13:z.cells[13]? = some (u8 z.link):=rfl
 have r1:binInt .rem (u8 x.kind) (.int .u8 15)=some (u8 (x.kind % 15#8)):=u8_rem _ 15#8 (by decide)
 have e1:binInt .eql (u8 (x.kind % 15#8)) (.int .u8 3)=some (vb (decide (x.kind % 15#8=3#8))):=u8_eql _ 3#8
 simp only [F.f49_j1,hb,c0,r1,e1,stdZ]
 by_cases h3:x.kind % 15#8=3#8
 ·simp only [h3,decide_true,ha,z13,u8_to_i64,stdZ]
  refine S.f50 hE fun v1 H1 x1 s1 =>?_
  refine ⟨by rw [load1_ptr,load1_ptr,x1.cells ha,ha],?_⟩
  refine S.f50 hE fun v2 H2 x2 s2 =>?_
  refine ⟨by rw [load1_ptr,load1_ptr,x2.cells (x1.cells ha),ha],?_⟩
  have l2:AM.lenSlc v2=some (vi ((12:Nat):Int)):=s2.lenSlc
  have hlen:(strR linkTexts).length=12:=rfl
  have hlt:z.link.toNat % 12<(strR linkTexts).length:=by rw [hlen]; exact Nat.mod_lt _ (by omega)
  obtain ⟨b,o,p1,p2⟩:=(s1.mono x2).ix hlt
  obtain ⟨s,hs,he⟩:=List.mem_map.1 (List.getElem_mem hlt)
  rw [<- he] at p2
  have p3:(H2.get b).cell o=some (str s):=by
   have:=row_at p2 (j:=0) (by omega)
   simpa using this
  have hsl:s.length<=120:=by
   have:∀ s∈linkTexts,s.length<=120:=by decide
   exact this s hs
  have h2:=(h.mono x1).mono x2
  have hst:store1 (ptr c 5) (str s) H2=some (H2.put c (.cells ({ x with any:=s }:ActD).cells none)):=by
   rw [store1_ptr,if_pos (show plain1 (str s)=true from rfl),h2.held]
   have q1:x.cells.length=10:=rfl
   have q2:x.cells.set 5 (str s)=({ x with any:=s }:ActD).cells:=rfl
   simp only [q1,q2,show (5<10)=True from by simp,if_true]
  simp only [l2,i64_rem_nat z.link.toNat 12 (by omega),p1,p3,hst,stdZ]
  exact more_j2 hE (h2.put ({ x with any:=s }:ActD).cells) g hk ⟨by show s.length<=_; omega,hx.n,hx.bytes,hx.bl⟩ ⟨by show s.length<=200; omega,hl.2⟩ hraw hup hj fun T' H' h' g'=>next T' H' h'.drop g'
 ·simp only [h3,decide_false,stdZ]
  exact more_j2 hE h g hk hx hl hraw hup hj fun T' H' h' g'=>next T' H' h'.drop g'
theorem more_l2 (hE:Fold E) {a b:BitVec 16} {c:Nat} (h:GwO (X++[boxR c [vi a.toNat,vi b.toNat]]) H0 H w t T M nx) (wf:T.WF) {B:Int} (hb:T.HB B) (hB:0<=B/\B<1000000)
  {av nv:Value} {j:Nat} (hj:j<2 ^ 62) {X0:List Value->AH->Prop} (next:∀ H',GwO X H0 H' w t ((T.hold a true).1.hold b true).1 M nx->X0 [ptr w 0,ptr t 0,av,nv,vi ((j+1:Nat):Int)] H') :
  LoopL (fun l H X1=>F.f49_l2 E Q X0 (nth l 0) (nth l 1) (nth l 2) (nth l 3) (nth l 4) (nth l 5) (nth l 6) (nth l 7) H X1) [ptr w 0,ptr t 0,av,nv,vi j,slc c 0 2 2,vi 2,(.int .i64 0)] H:=by
 have hjj:=i64_inc (i:=j) (by omega)
 generalize hj1:j+1=j1 at *
 have one:∀ {T:Tr} {H:AH} {B:Int} (n:BitVec 16) (Q1:Value->AH->Prop),GwO (X++[boxR c [vi a.toNat,vi b.toNat]]) H0 H w t T M nx->T.WF->T.HB B->B<1100000->(∀ H',GwO (X++[boxR c [vi a.toNat,vi b.toNat]]) H0 H' w t (T.hold n true).1 M nx->Q1 (.tuple #[]) H') ->
   ∃ p q,H.get w = .cells [ptr p 0,ptr q 0] none/\E.call (E.fid i.f9) [ptr p 0,u16 n,vb true] H fun _ H1=>E.call (E.fid i.f59) [ptr t 0,vi (n.toNat:Int),vb true] H1 fun _ H2=>Q1 (.tuple #[]) H2:=by
  intro T H B n Q1 h wf hb hB hQ1
  obtain ⟨rv,mv,Y,h,hyl,hyf⟩:=h
  obtain ⟨p',q',v,m,L,h2,back⟩:=h.two hyl hyf
  have hw2:=h2.ow.holds (boxR w [ptr p' 0,ptr q' 0]) (by simp)
  have hn:=hb n
  refine ⟨p',q',hw2,?_⟩
  refine TwoX.cHold hE h2 wf n true (by omega) fun L1 H1 h3 =>?_
  refine TwoX.rHold hE h3 wf n true (by omega) fun Y2 H2 h4 =>?_
  exact hQ1 _ ⟨rv,mv,Y2,back _ _ _ _ _ _ h4,h4.len,h4.fit⟩
 have conv:∀ x:BitVec 16,convInt .u16 (vi (x.toNat:Int))=some (u16 x):=fun x=>by
  rw [i64_to_u16]
  congr 2
  rw [BitVec.ofInt_natCast,BitVec.ofNat_toNat,BitVec.setWidth_eq]
 have i0:(.int .i64 0:Value)=vi ((0:Nat):Int):=rfl
 rw [i0]
 refine LoopL.count 2 (fun i ls H'=>ls=[ptr w 0,ptr t 0,av,nv,vi j,slc c 0 2 2,vi 2,vi i]/\((i=0/\GwO (X++[boxR c [vi a.toNat,vi b.toNat]]) H0 H' w t T M nx)\/(i=1/\GwO (X++[boxR c [vi a.toNat,vi b.toNat]]) H0 H' w t (T.hold a true).1 M nx)\/(i=2/\GwO (X++[boxR c [vi a.toNat,vi b.toNat]]) H0 H' w t ((T.hold a true).1.hold b true).1 M nx))) ?_ ⟨rfl,.inl ⟨rfl,h⟩⟩
 rintro i _ H1 X1 hi hX ⟨rfl,(⟨rfl,h1⟩ | ⟨rfl,h1⟩ | ⟨rfl,h1⟩)⟩
 ·have hX:=hX (by omega)
  have p1:ixSlc 1 (slc c 0 2 2) (vi ((0:Nat):Int))=some (ptr c 0):=rfl
  have p2:=h1.held
  obtain ⟨p,q,hw,hc⟩:=one a (fun v H=>X1 [ptr w 0,ptr t 0,av,nv,vi j,slc c 0 2 2,vi 2,vi ((1:Nat):Int)] H) h1 wf hb (by omega) fun H' h'=>hX _ _ ⟨rfl,.inr (.inl ⟨rfl,h'⟩)⟩
  have hlt:(((0:Nat):Int)<2)=True:=by simp
  have inc:binInt .add (vi ((0:Nat):Int)) (vi 1)=some (vi ((1:Nat):Int)):=i64_inc (i:=0) (by omega)
  simp only [F.f49_l2,i64_lss,hlt,decide_true,p1,p2,hw,conv,inc,stdZ]
  exact hc
 ·have hX:=hX (by omega)
  have p1:ixSlc 1 (slc c 0 2 2) (vi ((1:Nat):Int))=some (ptr c 1):=rfl
  have p2:=h1.held
  obtain ⟨p,q,hw,hc⟩:=one b (fun v H=>X1 [ptr w 0,ptr t 0,av,nv,vi j,slc c 0 2 2,vi 2,vi ((2:Nat):Int)] H) h1 (wf.hold a true) (hb.hold hB.1 a true) (by omega) fun H' h'=>hX _ _ ⟨rfl,.inr (.inr ⟨rfl,h'⟩)⟩
  have hlt:(((1:Nat):Int)<2)=True:=by simp
  have inc:binInt .add (vi ((1:Nat):Int)) (vi 1)=some (vi ((2:Nat):Int)):=i64_inc (i:=1) (by omega)
  simp only [F.f49_l2,i64_lss,hlt,decide_true,p1,p2,hw,conv,inc,stdZ]
  exact hc
 ·have hlt:(((2:Nat):Int)<2)=False:=by simp
  simp only [F.f49_l2,i64_lss,hlt,decide_false,hjj,stdZ]
  exact next _ h1.drop
end
end Go.AM
end
section
namespace Go.AM
set_option maxRecDepth 20000
section
variable {X:List Res} {E:Sy} {H0 H H' H'':AH} {Q:Value->AH->Prop} {w t:Nat} {T T':Tr} {M M':List MntD} {nx nx' k l:Int}
theorem dirP_kind {p:PlaceD} (h:dirP T M p=true):(T.node p.i).kind=2#8:=by
 unfold dirP at h
 simp only [Bool.and_eq_true,decide_eq_true_eq] at h
 exact h.2
theorem more_bind (hE:Fold E) {b:Nat} {p:PlaceD} (h:GwO (X++[boxR b p.cells]) H0 H w t T M nx) (g:GI k T M nx l) (hk:k+1<=900) (root:BitVec 16) (hp:0<=p.m/\p.m<=2) (hr:(T.node root).kind=2#8) (ha:(T.node p.i).kind=2#8)
  {av nv:Value} {j:Nat} (hj:j<2 ^ 62) {X0:List Value->AH->Prop} (next:∀ T' M' nx' H',GwO X H0 H' w t T' M' nx'->GI (k+1) T' M' nx' l->X0 [ptr w 0,ptr t 0,av,nv,vi ((j+1:Nat):Int)] H') :
  opt (nilCk (ptr w 0)) fun v42=>opt (addOff v42 1) fun v43=>opt (load1 v43 H) fun v44=>opt (convInt .u16 (vi (root.toNat:Int))) fun v45=>opt (loadN 2 (ptr b 0) H) fun v46 =>
  E.call (E.fid i.f33) [v44,v45,v46] H fun v47 H13 =>
  opt (ext v47 0) fun v48=>opt (ext v47 1) fun v49=>opt (binInt .eql v49 (.int .i64 0)) fun v50 =>
  ifB v50 (
  opt (loadN 2 (ptr b 0) H13) fun v51 =>
  E.call (E.fid i.f46) [v51] H13 fun v52 H14 =>
  E.call (E.fid i.f56) [(ptr t 0),(vi (root.toNat:Int)),v52] H14 fun v53 H15 =>
  opt (addOff (ptr b 0) 1) fun v54=>opt (load1 v54 H15) fun v55=>opt (convInt .i64 v55) fun v56 =>
  mk (buildS 2 1 #[(.int .i64 0)] [(0,(vi (root.toNat:Int))),(1,v56)]) H15 fun v57 H16 =>
  opt (lenSlc v57) fun v58 =>
  LoopL (fun l H X1=>F.f49_l2 E Q X0 (nth l 0) (nth l 1) (nth l 2) (nth l 3) (nth l 4) (nth l 5) (nth l 6) (nth l 7) H X1) [(ptr w 0),(ptr t 0),av,nv,(vi j),v57,v58,(.int .i64 0)] H16) (
  opt (binInt .add (vi j) (.int .i64 1)) fun v59 =>
  X0 [(ptr w 0),(ptr t 0),av,nv,v59] H13):=by
 have hb:=h.held
 have hlo:∀ {H':AH},H'.get b = .cells p.cells none->loadN 2 (ptr b 0) H'=some p.v:=fun hh=>by rw [loadN_ptr,hh]; rfl
 have conv:convInt .u16 (vi (root.toNat:Int))=some (u16 root):=by
  rw [i64_to_u16]
  congr 2
  rw [BitVec.ofInt_natCast,BitVec.ofNat_toNat,BitVec.setWidth_eq]
 have hjj:=i64_inc (i:=j) (by omega)
 have hk0:=g.k0
 generalize hj1:j+1=j1 at *
 obtain ⟨rv,mv,Y,h,hyl,hyf⟩:=h
 obtain ⟨pp,q,hw,_,⟨v,ht,hnd,back⟩⟩:=h.open_
 simp only [hw,conv,hlo hb,stdZ]
 have ok':=(g.pin.bind root p).ok (by omega)
 refine S.f33 hE q v M nx ht hnd h.tab root p fun v' H1 u1 =>?_
 have h1:=back _ _ _ _ u1 ok'
 obtain ⟨g1,g2,g3,g4⟩:=bind_toI g.pin root p
 have hb1:=WkO.held (X:=refR t rv mv nx (mntI M) Y T :: X) h1
 by_cases he:(bindT M nx root p).e=0
 ·have gb:=g.bind hk root p hp hr ha he
  simp only [he,i64_eql,decide_true,hlo hb1,stdZ]
  refine S.f46 hE p fun H2 e2 =>?_
  have h2:=h1.mono e2
  obtain ⟨o2,back2⟩:=WkO.openX (k:=0) h2 (r:=refR t rv mv nx (mntI M) Y T) rfl
  have hnx:=g.pin.nx0
  have hnx1:=g.pin.nx1
  have hlen:=g.pin.len
  refine S.pinfoldref16_Tree_BindT hE (M:=M.map MntD.toI) o2 (by rw [List.length_map]; omega) (by omega) _ _ fun mv' H3 u3 =>?_
  rw [g1,g2] at u3
  have h3:=back2 _ _ u3
  have h3:WkO ((refR t rv mv' (bindT M nx root p).nx (mntI (bindT M nx root p).T) Y T :: X)++[boxR b p.cells]) H0 H3 w T (bindT M nx root p).T (bindT M nx root p).nx:=h3
  have hb3:=h3.held
  have c1:p.cells[1]? = some (u16 p.i):=rfl
  have hbs:buildS 2 1 #[(.int .i64 0)] [(0,vi (root.toNat:Int)),(1,vi (p.i.toNat:Int))]=some (.cells [vi (root.toNat:Int),vi (p.i.toNat:Int)] none,mkSlc 2 2):=buildS_full 2 1 [vi 0] [(0,vi (root.toNat:Int)),(1,vi (p.i.toNat:Int))] [vi (root.toNat:Int),vi (p.i.toNat:Int)] rfl rfl rfl rfl (by
   intro v hv
   simp only [List.mem_cons,List.not_mem_nil,or_false] at hv
   rcases hv with rfl | rfl <;> rfl)
  have l2:AM.lenSlc (slc H3.next 0 2 2)=some (vi 2):=rfl
  simp only [hb3,c1,u16_to_i64,hbs,l2,stdZ]
  have h4:GwO (X++[boxR H3.next [vi (root.toNat:Int),vi (p.i.toNat:Int)]]) H0 (H3.new (.cells [vi (root.toNat:Int),vi (p.i.toNat:Int)] none)) w t T (bindT M nx root p).T (bindT M nx root p).nx:=⟨rv,mv',Y,WkO.box (X:=refR t rv mv' (bindT M nx root p).nx (mntI (bindT M nx root p).T) Y T :: X) (WkO.drop (X:=refR t rv mv' (bindT M nx root p).nx (mntI (bindT M nx root p).T) Y T :: X) h3) _,hyl,hyf⟩
  refine more_l2 hE h4 g.wf g.hb ⟨by omega,by have:=g.k1; omega⟩ hj fun H5 h5 =>?_
  rw [hj1]
  exact next _ _ _ _ h5 gb
 ·obtain ⟨t1,t2⟩:=bindT_not he
  rw [t1,t2] at h1
  simp only [he,i64_eql,decide_false,hjj,stdZ]
  exact next T M nx _ ⟨rv,mv,Y,WkO.drop (X:=refR t rv mv nx (mntI M) Y T :: X) h1,hyl,hyf⟩ (g.mono (by omega) hk)
end
end Go.AM
end
section
namespace Go.AM
set_option maxRecDepth 20000
section
variable {X:List Res} {E:Sy} {H0 H H' H'':AH} {Q:Value->AH->Prop} {w t:Nat} {T T':Tr} {M M':List MntD} {nx nx' k l:Int}
theorem more_act (hE:Fold E) {a:Nat} {z:GActD} (h:GwO (X++[boxR a z.cells]) H0 H w t T M nx) (g:GI k T M nx l) (hk:k+1<=900) (hx:z.act.ok H0) (hl:z.act.any.length<=200/\z.act.bl.length<=200)
  {av nv:Value} {j:Nat} (hj:j<2 ^ 62) {X0:List Value->AH->Prop} (next:∀ T' H',GwO X H0 H' w t T' M nx->GI (k+1) T' M nx l->X0 [ptr w 0,ptr t 0,av,nv,vi ((j+1:Nat):Int)] H') :
  opt (addOff (ptr a 0) 1) fun v10=>opt (loadN 10 v10 H) fun v11 =>
  allocW [(.int .u8 0),(.int .u8 0),(.int .u8 0),(.int .u8 0),(.int .u8 0),(.string ⟨#[]⟩),(.int .i64 0),(.slice none 0 0),(.bool false),(.bool false)] H fun v12 H3 =>
  opt (storeN 10 v12 v11 H3) fun H4=>opt (addOff v12 9) fun v13=>opt (store1 v13 (.bool false) H4) fun H5 =>
  opt (addOff v12 0) fun v14=>opt (load1 v14 H5) fun v15=>opt (binInt .rem v15 (.int .u8 15)) fun v16=>opt (binInt .eql v16 (.int .u8 11)) fun v17 =>
  ifB v17 (
  opt (addOff v12 8) fun v18=>opt (store1 v18 (.bool true) H5) fun H6 =>
  F.f49_j1 E Q X0 (ptr w 0) (ptr t 0) (ptr a 0) v12 av nv (vi j) H6) (
  F.f49_j1 E Q X0 (ptr w 0) (ptr t 0) (ptr a 0) v12 av nv (vi j) H5):=by
 have ha:=h.held
 have hlo:loadN 10 (ptr a 1) H=some (.agg z.act.cells.toArray):=by
  have hr:AObj.row (.cells z.cells none) 1 10=some z.act.cells:=by
   have h0:=row_all z.cells none 14 rfl
   exact row_part h0 (j:=1) (m:=10) (by omega)
  rw [loadN_ptr,ha,hr]; rfl
 have hst:=act_store (H:=H) (rows_plain hx.bytes) (ActD.mk 0#8 0#8 0#8 0#8 0#8 [] 0 nilS [] false false)
 have hs1:store1 (ptr H.next 9) (.bool false) (H.new (.cells z.act.cells none))=some (H.new (.cells ({ z.act with raw:=false }:ActD).cells none)):=by
  rw [store1_ptr,if_pos (show plain1 (.bool false)=true from rfl),AH.get_new_self]
  have h1:z.act.cells.length=10:=rfl
  have h2:z.act.cells.set 9 (.bool false)=({ z.act with raw:=false }:ActD).cells:=rfl
  simp only [h1,h2,show (9<10)=True from by simp,if_true,AH.new_put]
 have h5:=h.box ({ z.act with raw:=false }:ActD).cells
 have hb5:=h5.held
 have c0:({ z.act with raw:=false }:ActD).cells[0]? = some (u8 z.act.kind):=rfl
 have r1:binInt .rem (u8 z.act.kind) (.int .u8 15)=some (u8 (z.act.kind % 15#8)):=u8_rem _ 15#8 (by decide)
 have e1:binInt .eql (u8 (z.act.kind % 15#8)) (.int .u8 11)=some (vb (decide (z.act.kind % 15#8=11#8))):=u8_eql _ 11#8
 simp only [hlo,allocW_eq,actZero,hst,hs1,hb5,c0,r1,e1,stdZ]
 by_cases h11:z.act.kind % 15#8=11#8
 ·have hs2:store1 (ptr H.next 8) (.bool true) (H.new (.cells ({ z.act with raw:=false }:ActD).cells none))=some ((H.new (.cells ({ z.act with raw:=false }:ActD).cells none)).put H.next (.cells ({ z.act with raw:=false,flag:=true }:ActD).cells none)):=by
   rw [store1_ptr,if_pos (show plain1 (.bool true)=true from rfl),AH.get_new_self]
   have h1:({ z.act with raw:=false }:ActD).cells.length=10:=rfl
   have h2:({ z.act with raw:=false }:ActD).cells.set 8 (.bool true)=({ z.act with raw:=false,flag:=true }:ActD).cells:=rfl
   simp only [h1,h2,show (8<10)=True from by simp,if_true]
  have h6:=h5.put ({ z.act with raw:=false,flag:=true }:ActD).cells
  simp only [h11,decide_true,hs2,stdZ]
  exact more_j1 hE (x:={ z.act with raw:=false,flag:=true }) h6 g hk ⟨hx.any,hx.n,hx.bytes,hx.bl⟩ hl rfl (fun _=>rfl) hj next
 ·simp only [h11,decide_false,stdZ]
  exact more_j1 hE (x:={ z.act with raw:=false }) h5 g hk ⟨hx.any,hx.n,hx.bytes,hx.bl⟩ hl rfl (fun h=>(h11 h).elim) hj next
def GActD.rootN (z:GActD):BitVec 16:=BitVec.ofNat 16 (1+z.root.toNat % 8)
def GActD.atP (z:GActD):PlaceD:=⟨((z.link % 3#8).toNat:Int),(1#8+z.seen % 8#8).setWidth 16⟩
theorem S.f49 (hE:Fold E) (h:GwO X H0 H w t T M nx) (g:GI k T M nx l) (hk:k+60<=900) (av:Value) (acts:List GActD) (hv:Rows H0 14 av (acts.map GActD.cells)) (hll:acts.length<=9223372036854775807) (hok:∀ x∈acts,x.act.ok H0) (hlt:lightL acts=true)
  (hQ:∀ T' M' nx' H',GwO X H0 H' w t T' M' nx'->GI (k+60) T' M' nx' l->Q (.tuple #[]) H'):E.call (E.fid i.f49) [ptr w 0,ptr t 0,av] H Q:=by
 apply hE.f49
 have hl:=hv.mono h.ext
 have hl:=hl.lenSlc
 rw [List.length_map] at hl
 simp only [F.f49,hl,stdZ]
 have i0:(.int .i64 0:Value)=vi ((0:Nat):Int):=rfl
 rw [i0]
 refine LoopL.count acts.length (fun j ls H'=>j<=60/\∃ T' M' nx',ls=[ptr w 0,ptr t 0,av,vi acts.length,vi j]/\GwO X H0 H' w t T' M' nx'/\GI (k+j) T' M' nx' l) ?_ ⟨by omega,T,M,nx,rfl,h,by simpa using g⟩
 rintro j _ H1 X1 hj hX ⟨hj60,T,M,nx,rfl,h,g⟩
 by_cases hjl:j<acts.length
 rotate_left
 ·have hjl':¬ (j:Int)<acts.length:=by omega
  simp only [F.f49_l1,i64_lss,hjl',decide_false,stdZ]
  exact hQ _ _ _ _ h (g.mono (by omega) hk)
 have hjl':(j:Int)<acts.length:=by omega
 have hX:=hX hjl
 obtain ⟨b,o,p1,p2⟩:=(hv.mono h.ext).ix (i:=j) (by simpa using hjl)
 rw [List.getElem_map] at p2
 have hx:=hok acts[j] (List.getElem_mem hjl)
 have hxl:acts[j].act.any.length<=200/\acts[j].act.bl.length<=200:=by
  unfold lightL at hlt
  have:=List.all_eq_true.1 hlt _ (List.getElem_mem hjl)
  simpa using this
 generalize acts[j]=z at *
 have hlo:loadN 14 (ptr b o) H1=some (.agg z.cells.toArray):=by rw [loadN_ptr,p2]; rfl
 have hst:=gact_store (H:=H1) (rows_plain hx.bytes) (GActD.mk 0#8 (ActD.mk 0#8 0#8 0#8 0#8 0#8 [] 0 nilS [] false false) 0#8 0#8 0#8)
 have h2:=h.box z.cells
 have hb2:=h2.held
 by_cases h60:j<60
 rotate_left
 ·have h60':(60:Int)<=j:=by omega
  simp only [F.f49_l1,i64_lss,i64_geq,hjl',h60',ge_iff_le,decide_true,p1,hlo,allocW_eq,gactZero,hst,stdZ]
  exact hQ _ _ _ _ h2.drop (g.mono (by omega) hk)
 have h60':¬ (60:Int)<=j:=by omega
 have next:∀ T' M' nx' H',GwO X H0 H' w t T' M' nx'->GI (k+j+1) T' M' nx' l->X1 [ptr w 0,ptr t 0,av,vi acts.length,vi ((j+1:Nat):Int)] H':=fun T' M' nx' H' h' g' =>
  hX _ _ ⟨by omega,T',M',nx',rfl,h',g'.mono (by omega) (by omega)⟩
 have c0:z.cells[0]? = some (u8 z.kind):=rfl
 have r1:binInt .rem (u8 z.kind) (.int .u8 12)=some (u8 (z.kind % 12#8)):=u8_rem _ 12#8 (by decide)
 have e1:binInt .lss (u8 (z.kind % 12#8)) (.int .u8 10)=some (vb (decide (z.kind % 12#8<10#8))):=u8_lss _ 10#8
 by_cases h10:z.kind % 12#8<10#8
 ·have ha:=more_act (Q:=Q) hE h2 g (by omega) hx hxl (av:=av) (nv:=vi acts.length) (j:=j) (by omega) (X0:=X1) fun T' H' h' g'=>next T' M nx H' h' g'
  simp only [F.f49_l1,i64_lss,i64_geq,hjl',h60',ge_iff_le,decide_true,decide_false,p1,hlo,allocW_eq,gactZero,hst,hb2,c0,r1,e1,h10,stdZ] at ha ⊢
  exact ha
 generalize H1.new (.cells z.cells none)=H2 at *
 have c11:z.cells[11]? = some (u8 z.root):=rfl
 have c12:z.cells[12]? = some (u8 z.seen):=rfl
 have c13:z.cells[13]? = some (u8 z.link):=rfl
 have hr8:(z.rootN.toNat:Int)=((1+z.root.toNat % 8:Nat):Int):=by
  unfold GActD.rootN
  rw [BitVec.toNat_ofNat,Nat.mod_eq_of_lt (by omega)]
 have a1:binInt .add (.int .i64 1) (vi ((z.root.toNat % 8:Nat):Int))=some (vi (z.rootN.toNat:Int)):=by
  rw [hr8]
  have:=i64_add (a:=1) (b:=((z.root.toNat % 8:Nat):Int)) (by omega) (by omega)
  rw [show ((1+z.root.toNat % 8:Nat):Int)=1+((z.root.toNat % 8:Nat):Int) by omega]
  exact this
 have r8:binInt .rem (vi (z.root.toNat:Int)) (.int .i64 8)=some (vi ((z.root.toNat % 8:Nat):Int)):=i64_rem_nat z.root.toNat 8 (by omega)
 have r3:binInt .rem (u8 z.link) (.int .u8 3)=some (u8 (z.link % 3#8)):=u8_rem _ 3#8 (by decide)
 have r8':binInt .rem (u8 z.seen) (.int .u8 8)=some (u8 (z.seen % 8#8)):=u8_rem _ 8#8 (by decide)
 have a2:binInt .add (.int .u8 1) (u8 (z.seen % 8#8))=some (u8 (1#8+z.seen % 8#8)):=u8_add 1#8 _
 have hbv:buildV [(0,1),(1,1)] PlaceD.zero.cells.toArray [(0,vi ((z.link % 3#8).toNat:Int)),(1,u16 ((1#8+z.seen % 8#8).setWidth 16))]=some z.atP.v:=rfl
 have hz2:([(.int .i64 0),(.int .u16 0)]:List Value)=PlaceD.zero.cells:=rfl
 have hbv2:∀ n:BitVec 16,buildV [(0,1),(1,1)] PlaceD.zero.cells.toArray [(1,u16 n)]=some (PlaceD.v ⟨0,n⟩):=fun n=>rfl
 have conv:convInt .u16 (vi (z.rootN.toNat:Int))=some (u16 z.rootN):=by
  rw [i64_to_u16]
  congr 2
  rw [BitVec.ofInt_natCast,BitVec.ofNat_toNat,BitVec.setWidth_eq]
 have hst2:storeN 2 (ptr H2.next 0) z.atP.v (H2.new (.cells PlaceD.zero.cells none))=some (H2.new (.cells z.atP.cells none)):=two_store rfl rfl rfl
 have h3:=h2.drop.box z.atP.cells
 have hpm:0<=z.atP.m/\z.atP.m<=2:=by
  have:(z.link % 3#8).toNat=z.link.toNat % 3:=by simp
  unfold GActD.atP
  simp only
  omega
 generalize z.rootN=root at *
 generalize hp:z.atP=p at *
 have hjj:=i64_inc (i:=j) (by omega)
 simp only [F.f49_l1,i64_lss,i64_geq,hjl',h60',ge_iff_le,decide_true,decide_false,p1,hlo,allocW_eq,gactZero,hst,hb2,c0,r1,e1,h10,c11,c12,c13,u8_to_i64,r8,a1,r3,r8',a2,u8_to_u16,hz2,hbv,hst2,conv,stdZ]
 simp only [hz2,hst2,conv,hbv2,stdZ]
 have hlo3:∀ {H':AH},H'.get H2.next = .cells p.cells none->loadN 2 (ptr H2.next 0) H'=some p.v:=fun hh=>by rw [loadN_ptr,hh]; rfl
 generalize H2.new (.cells p.cells none)=H3 at *
 generalize H2.next=b3 at *
 refine S.f111 hE h3.at_ ⟨0,root⟩ fun H4 e4 =>?_
 have h4:=h3.mono e4
 cases hd:dirP T M ⟨0,root⟩ with
 | false =>
  simp only [hjj,stdZ]
  exact next T M nx _ h4.drop (g.mono (by omega) (by omega))
 | true =>
  simp only [hlo3 h4.held,stdZ]
  refine S.f111 hE h4.at_ p fun H5 e5 =>?_
  have h5:=h4.mono e5
  cases hd2:dirP T M p with
  | false =>
   simp only [hjj,stdZ]
   exact next T M nx _ h5.drop (g.mono (by omega) (by omega))
  | true =>
   have hf:=more_bind (Q:=Q) hE h5 g (by omega) root hpm (dirP_kind hd) (dirP_kind hd2) (av:=av) (nv:=vi acts.length) (j:=j) (by omega) (X0:=X1) fun T' M' nx' H' h' g'=>next T' M' nx' H' h' g'
   simp only [stdZ] at hf ⊢
   exact hf
theorem grow_new (hE:Fold E) (l:Int) {Q:Value->Value->AH->Prop} (hQ:∀ w t H',GwO [] H H' w t (Tr.new l) tab0 1->Q (ptr w 0) (ptr t 0) H') :
  E.call (E.fid i.f110) [vi l] H fun v1 H1=>E.call (E.fid i.f54) [vi l] H1 fun v2 H2=>Q v1 v2 H2:=by
 refine S.f110 hE l fun w H1 h1 =>?_
 refine S.f54 hE l fun t nv mv Y H2 e2 h2 f2 =>?_
 refine hQ w t H2 ⟨nv,mv,Y,?_,h2.len,h2.fit⟩
 obtain ⟨p,m,L,q,v,e,o,own,cov,tab⟩:=h1
 have o2:=o.ext e2
 have hm:mntI tab0=mntTop:=rfl
 rw [hm]
 have perm:(refR t nv mv 1 mntTop Y (Tr.new l) :: wkRs p m L (Tr.new l) q v tab0 1 w []).Perm (wkRs p m L (Tr.new l) q v tab0 1 w (refR t nv mv 1 mntTop Y (Tr.new l) :: [])):=by
  show List.Perm (_ :: ([_,_,_]++[])) ([_,_,_]++_ :: [])
  exact List.perm_middle.symm
 have ho:Ow (joinR (refR t nv mv 1 mntTop Y (Tr.new l) :: wkRs p m L (Tr.new l) q v tab0 1 w [])) H2:=by
  refine ⟨fun r hr =>?_,fun b hb =>?_,?_⟩
  ·rcases List.mem_cons.1 hr with rfl | hr
   ·exact h2.ow.holds
   ·exact o2.holds r hr
  ·have hb:b∈(refR t nv mv 1 mntTop Y (Tr.new l)).fp++(wkRs p m L (Tr.new l) q v tab0 1 w []).flatMap Res.fp:=hb
   rcases List.mem_append.1 hb with hb | hb
   ·exact h2.ow.lt b hb
   ·exact (o2.fp b hb).2
  ·show ((refR t nv mv 1 mntTop Y (Tr.new l)).fp++(wkRs p m L (Tr.new l) q v tab0 1 w []).flatMap Res.fp).Nodup
   rw [List.nodup_append]
   refine ⟨h2.ow.nd,o2.nd,fun a ha b hb =>?_⟩
   have h3:=f2 a ha
   have h4:=o.lt b hb
   omega
 refine ⟨p,m,L,q,v,e.trans e2,ho.perm perm,fun b hb =>?_,cov,tab⟩
 have hb:=((perm.flatMap_right Res.fp).mem_iff).2 hb
 rw [List.flatMap_cons,List.mem_append] at hb
 rcases hb with hb | hb
 ·exact Nat.le_trans e.1 (f2 b hb)
 ·exact own b hb
theorem S.f47 (hE:Fold E) (av:Value) (acts:List GActD) (hv:Rows H 14 av (acts.map GActD.cells)) (hll:acts.length<=9223372036854775807) (hok:∀ x∈acts,x.act.ok H) (hlt:lightL acts=true)
  (hQ:∀ w t T' M' nx' H',GwO [] H H' w t T' M' nx'->GI 60 T' M' nx' 60->Q (.tuple #[ptr w 0,ptr t 0]) H'):E.call (E.fid i.f47) [av] H Q:=by
 apply hE.f47
 simp only [F.f47,stdZ]
 refine grow_new (Q:=fun v1 v2 H2=>E.call (E.fid i.f49) [v1,v2,av] H2 fun v3 H3=>Q (.tuple #[v1,v2]) H3) hE 60 fun w t H1 h1 =>?_
 refine S.f49 hE h1 (GI.new 60 60 ⟨by omega,by omega⟩) (by omega) av acts hv hll hok hlt fun T' M' nx' H' h' g' =>?_
 exact hQ w t T' M' nx' H' h' g'
end
end Go.AM
end
section
namespace Go.AM
set_option maxRecDepth 20000
abbrev EntL:=List (NameL×BitVec 16)
end Go.AM
end
section
namespace Go.AM
theorem lookup_aset {K V:Type} [BEq K] [LawfulBEq K] [DecidableEq K] (k n:K) (v:V):∀ l:List (K×V),(aset k v l).lookup n=if n=k then some v else l.lookup n
 | []=>by
  simp only [aset,List.lookup]
  by_cases h:n=k
  ·simp [h]
  ·have:(n == k)=false:=by simpa using h
   simp [h,this]
 | p :: l=>by
  obtain ⟨a,b⟩:=p
  simp only [aset]
  by_cases e:a=k
  ·subst e
   simp only [if_true,List.lookup]
   by_cases h:n=a
   ·simp [h]
   ·have:(n == a)=false:=by simpa using h
    simp [h,this]
  ·simp only [e,if_false,List.lookup]
   by_cases h:n=a
   ·subst h
    simp [e]
   ·have h2:(n == a)=false:=by simpa using h
    simp only [h2]
    exact lookup_aset k n v l
end Go.AM
end
section
namespace Go.AM
set_option maxRecDepth 20000
def Tr.entsK (T:Tr) (n:BitVec 16):EntL:=if (T.node n).kind=2#8 then (T.node n).ents else []
def Tr.entOk (T:Tr) (n:BitVec 16) (e:NameL×BitVec 16):Bool:=okName e.1&&(decide ((T.node e.2).kind≠0#8)&&(decide ((T.node e.2).kind≠2#8)||decide ((T.node e.2).parent=n)))
def Tr.entsOk (T:Tr) (n:BitVec 16):Bool:=(T.entsK n).all (T.entOk n)
def Tr.cntR (T:Tr) (l:List (BitVec 16)) (k:BitVec 16):Nat:=(if k=1#16 then 1 else 0)+(l.map fun n=>cntE k (T.entsK n)).sum
def Tr.nodeOk (T:Tr) (n:BitVec 16):Bool :=
 decide ((T.node n).links=(T.cntR T.nums n:Int))&&(!(decide ((T.node n).links=0)&&decide ((T.node n).held=0)))&&(!(decide ((T.node n).kind=2#8)&&decide (1<(T.node n).links))) &&
  (!(decide ((T.node n).kind=2#8)&&decide (0<(T.node n).links))||T.within 1#16 n)
def Tr.mntOk (T:Tr) (m:MntD):Bool:=decide ((T.node m.root).kind=2#8)&&(decide (m.id=0)||decide ((T.node m.at_.i).kind=2#8))
def rightT (T:Tr) (M:List MntD):Bool:=T.nums.all T.entsOk&&(T.nums.all T.nodeOk&&M.all T.mntOk)
abbrev viI (n:Int):Value:=vi n
def CntM (L:List (BitVec 16×Int)) (f:BitVec 16->Nat):Prop:=∀ k,(L.lookup k).getD 0=(f k:Int)
section
variable {E:Sy} {H H' H0:AH} {Q:Value->AH->Prop} {w r:Nat} {T:Tr} {M:List MntD} {L:List (BitVec 16×Int)} {f:BitVec 16->Nat}
theorem CntM.look (h:MapAt u16 viI H r L) (c:CntM L f) (k:BitVec 16):AM.look 0 (.int .i64 0) false (.map (some r)) (u16 k) H=some (vi (f k:Int)):=by
 rw [h.look (kd:=0) (fun a b=>same_u16 a b) k,<- c k]
 cases L.lookup k <;> rfl
theorem CntM.set (c:CntM L f) (k:BitVec 16):CntM (aset k ((f k+1:Nat):Int) L) (fun j=>f j+if j=k then 1 else 0):=by
 intro j
 rw [lookup_aset]
 by_cases e:j=k
 ·rw [if_pos e]; simp [e]
 ·rw [if_neg e,c j]; simp [e]
theorem right_l2 (hE:Fold E) (hw:WkAt H0 w T M) (hnl:∀ n,∀ e∈(T.node n).ents,e.1.length<2 ^ 63) (hel:∀ n,(T.node n).ents.length<2 ^ 32) {n:BitVec 16} (hn:n∈T.nums) {nm:Option Nat} {ord:EntL} (hk:(T.node n).kind=2#8->∃ s,nm=some s/\MapAt str u16 H0 s ord/\ord.Perm (T.node n).ents) (hk':(T.node n).kind≠2#8->nm=none)
  (e0:Ext H0 H) (hr:H0.next<=r) (hm:MapAt u16 viI H r L) (c:CntM L f) (hf:∀ k,f k<=2 ^ 60) {o:AObj} {mkv:Nat->Value} (ho:rangeM (.map nm) H=some (o,mkv)) {X0:List Value->AH->Prop} {t25 t26:Value} {j:Nat} (hj:j<2 ^ 62)
  (hbad:T.entsOk n=false->∀ H',Ext H0 H'->Q (vb false) H')
  (next:T.entsOk n=true->∀ H' L',Ext H0 H'->Only [r] H H'->MapAt u16 viI H' r L'->CntM L' (fun k=>f k+cntE k (T.entsK n))->X0 [ptr w 0,.map (some r),t25,t26,vi ((j+1:Nat):Int)] H') :
  LoopL (fun l H X1=>F.f108_l2 E Q X0 (nth l 0) (nth l 1) (nth l 2) (nth l 3) (nth l 4) (nth l 5) (nth l 6) H X1) [ptr w 0,.map (some r),u16 n,t25,t26,vi j,mkv H.next] (H.new o):=by
 have hjj:=i64_inc (i:=j) (by omega)
 have hx0:ext (.tuple #[.bool false]) 0=some (.bool false):=rfl
 have hrlt:=hm.lt
 by_cases hkd:(T.node n).kind=2#8
 rotate_left
 ·
  have hnm:=hk' hkd
  subst hnm
  have ho':rangeM (.map none) H=some (.miter none 0 [] 0,mkPtr):=rfl
  rw [ho'] at ho
  simp only [Option.some.injEq,Prod.mk.injEq] at ho
  obtain ⟨rfl,rfl⟩:=ho
  have hek:T.entsK n=[]:=if_neg hkd
  have hok:T.entsOk n=true:=by unfold Tr.entsOk; rw [hek]; rfl
  have hnx:∀ K:Value->AH->Prop,nextM (ptr H.next 0) (H.new (.miter none 0 [] 0)) K=K (.tuple #[.bool false]) (H.new (.miter none 0 [] 0)):=fun K=>by
   simp only [nextM,AH.get_new_self]
  refine LoopL.step fun X _ =>?_
  simp only [F.f108_l2,nth_0,nth_1,nth_2,nth_3,nth_4,nth_5,nth_6,mkPtr_eq,hnx]
  simp only [hx0,hjj,stdZ]
  refine next hok _ L (e0.new _) ((Only.refl _ _).new _) (hm.keep (AH.get_new_lt _ _ hrlt)) fun k =>?_
  rw [hek]
  simpa [cntE] using c k
 obtain ⟨s,rfl,hms,hperm⟩:=hk hkd
 have hek:T.entsK n=(T.node n).ents:=if_pos hkd
 have hms1:=hms.keep (e0.get hms.lt)
 obtain ⟨o',o1,o2⟩:=IterAt.start hms1
 rw [ho] at o1
 simp only [Option.some.injEq,Prod.mk.injEq] at o1
 obtain ⟨rfl,rfl⟩:=o1
 have hslt:s<H0.next:=hms.lt
 refine LoopL.ind (fun m ls H'=>∃ done L',ls=[ptr w 0,.map (some r),u16 n,t25,t26,vi j,mkPtr H.next]/\Ext H0 H'/\Only [r] H H'/\H.next<H'.next/\IterAt str u16 H' H.next s ord done/\MapAt u16 viI H' r L'/\CntM L' (fun k=>f k+cntE k done)/\done.all (T.entOk n)=true/\m=ord.length - done.length) ?_ ord.length
  ⟨[],L,rfl,e0.new _,(Only.refl _ _).new _,by simp,o2,hm.keep (AH.get_new_lt _ _ hrlt),by simpa [cntE] using c,rfl,by simp⟩
 rintro m _ H1 X1 hX ⟨done,L1,rfl,e1,on1,hlt1,it1,hm1,c1,hok1,rfl⟩
 simp only [F.f108_l2,nth_0,nth_1,nth_2,nth_3,nth_4,nth_5,nth_6]
 have hrne:r≠H.next:=by omega
 refine IterAt.next it1 (fun p ob hp hnd it' hen =>?_) fun hpd =>?_
 ·have on2:Only [r] H (H1.put H.next ob):=on1.put (.inr (Nat.le_refl _)) ob
  have hlen:done.length+1<=ord.length:=by
   have:=nodup_le (done++[p]) ord it'.nodup.1 it'.nodup.2
   simpa using this
  have hpe:p∈(T.node n).ents:=hperm.mem_iff.1 hp
  have hbad':T.entOk n p=false->∀ H',Ext H0 H'->Q (vb false) H':=fun hb=>hbad (by
   unfold Tr.entsOk
   rw [hek,List.all_eq_false]
   exact ⟨p,hpe,by simp [hb]⟩)
  have e2:Ext H0 (H1.put H.next ob):=e1.put (by have:=e0.1; omega) ob
  have hm2:MapAt u16 viI (H1.put H.next ob) r L1:=hm1.keep (AH.get_put_ne _ _ hrne)
  have hlt2:H.next<(H1.put H.next ob).next:=by simpa using hlt1
  generalize H1.put H.next ob=H2 at *
  obtain ⟨⟨pb,mb,Ly',q',nx,q1,q2,q3⟩,_⟩:=hw.mono e2
  simp only [ext_tuple,List.getElem?_cons_zero,List.getElem?_cons_succ,mkPtr_eq,hen,q1,stdZ]
  refine S.f8 hE q2 p.2 ?_
  refine S.f2 hE p.1 (hnl n p hpe) fun H3 e3 =>?_
  have e03:=e2.trans e3
  unfold Tr.entOk at hbad'
  cases hnok:okName p.1 with
  | false =>
   have nt:un .not (vb false)=some (vb true):=rfl
   simp only [nt,stdZ]
   exact hbad' (by rw [hnok]; rfl) _ e03
  | true =>
   have nt:un .not (vb true)=some (vb false):=rfl
   rcases q2.get p.2 with ⟨k0,_⟩ | ⟨kk,yy,k0,k1,k2,k3,k4⟩
   ·rw [nodeP_none q2.cov k0]
    have hbn:binNil eqPtr .eql (.pointer none) (.pointer none)=some (vb true):=rfl
    simp only [nt,hbn,stdZ]
    exact hbad' (by rw [k0]; simp) _ e03
   ·rw [nodeP_some q2.cov.nd k1]
    have hb3:=e3.cells k3
    have d1:(inC p.2 (T.node p.2) yy)[1]? = some (u8 (T.node p.2).kind):=rfl
    have d4:(inC p.2 (T.node p.2) yy)[4]? = some (u16 (T.node p.2).parent):=rfl
    have kd2:(.int .u8 2:Value)=u8 2#8:=rfl
    have count:T.entOk n p=true->opt (look 0 (.int .i64 0) false (.map (some r)) (u16 p.2) H3) fun v29=>opt (binInt .add v29 (.int .i64 1)) fun v30=>opt (setMap 0 (.map (some r)) (u16 p.2) v30 H3) fun H19=>X1 [ptr w 0,.map (some r),u16 n,t25,t26,vi j,ptr H.next 0] H19:=by
     intro hok
     have hm3:=hm2.keep (e3.get hm2.lt)
     have hlk:=c1.look hm3 p.2
     have hle:cntE p.2 done<=2 ^ 32:=by
      have h1:cntE p.2 done<=done.length:=cntE_le
      have h2:=hperm.length_eq
      have h3:=hel n
      omega
     have hfk:=hf p.2
     have hinc:=i64_inc (i:=f p.2+cntE p.2 done) (by omega)
     obtain ⟨ob2,b1,b2,b3⟩:=hm3.set (kd:=0) (fun a b=>same_u16 a b) p.2 (((f p.2+cntE p.2 done)+1:Nat):Int)
     have b2:setMap 0 (.map (some r)) (u16 p.2) (vi ((f p.2+cntE p.2 done+1:Nat):Int)) H3=some (H3.put r ob2):=b2
     simp only [hlk,hinc,b2,stdZ]
     have hsr:s≠r:=by omega
     have hl3:H.next<H3.next:=Nat.lt_of_lt_of_le hlt2 e3.1
     refine hX (ord.length - (done++[p]).length) (by simp; omega) _ _ ⟨done++[p],_,rfl,e03.put hr ob2,(on2.trans' e3.only).put (.inl (by simp)) ob2,by simpa using hl3,(it'.keep (e3.get it'.map.lt) (e3.get it'.lt)).keep (AH.get_put_ne _ _ hsr) (AH.get_put_ne _ _ (Ne.symm hrne)),b3,?_,by rw [List.all_append,hok1]; simp [hok],rfl⟩
     have:=c1.set p.2
     intro k
     rw [this k]
     simp only [cntE,List.countP_append,List.countP_cons,List.countP_nil,decide_eq_true_eq,Nat.zero_add,Nat.add_assoc]
     by_cases e:k=p.2
     ·simp [e]
     ·have e':¬ p.2=k:=fun h=>e h.symm
      simp [e,e']
    simp only [nt,nilq_p,hb3,d1,kd2,u8_eql,stdZ]
    by_cases h2:(T.node p.2).kind=2#8
    ·simp only [h2,decide_true,hb3,d4,u16_neq,stdZ]
     by_cases hpar:(T.node p.2).parent=n
     ·simp only [hpar,ne_eq,not_true,decide_false,stdZ]
      exact count (by unfold Tr.entOk; rw [hnok,h2,hpar]; simp)
     ·simp only [hpar,ne_eq,not_false_eq_true,decide_true,stdZ]
      exact hbad' (by rw [hnok,h2]; simp [hpar]) _ e03
    ·simp only [h2,decide_false,stdZ]
     exact count (by unfold Tr.entOk; rw [hnok]; simp [h2,k0])
 ·simp only [hx0,hjj,stdZ]
  have hp2:done.Perm (T.node n).ents:=hpd.trans hperm
  refine next ?_ _ L1 e1 on1 hm1 fun k =>?_
  ·unfold Tr.entsOk
   rw [hek]
   rw [List.all_eq_true] at hok1 ⊢
   exact fun x hx=>hok1 x (hp2.mem_iff.2 hx)
  ·have hc:cntE k done=cntE k (T.node n).ents:=hp2.countP_eq _
   rw [c1 k]
   show ((f k+cntE k done:Nat):Int)=((f k+cntE k (T.entsK n):Nat):Int)
   rw [hek,hc]
end
end Go.AM
end
section
namespace Go.AM
set_option maxRecDepth 20000
section
variable {E:Sy} {H H' K K0:AH} {Q:Value->AH->Prop} {ab lb:Nat} {vd:Value}
theorem lss_t {a b:Nat} (h:a<b):binInt .lss (vi (a:Int)) (vi (b:Int))=some (vb true):=by rw [i64_lss]; simp; omega
theorem lss_f {a b:Nat} (h:¬ a<b):binInt .lss (vi (a:Int)) (vi (b:Int))=some (vb false):=by rw [i64_lss]; simp; omega
theorem eql_t (a:Int):binInt .eql (vi a) (vi a)=some (vb true):=by rw [i64_eql]; simp
theorem neq_f (a:Int):binInt .neq (vi a) (vi a)=some (vb false):=by rw [i64_neq]; simp
end
end Go.AM
end
section
namespace Go.AM
set_option maxRecDepth 20000
section
variable {E:Sy} {H H' H0:AH} {Q:Value->AH->Prop} {w r:Nat} {T:Tr} {M:List MntD} {L:List (BitVec 16×Int)} {f:BitVec 16->Nat} {v:Value}
theorem all_at {α:Type} {p:α->Bool} {l:List α} {j:Nat} (hj:j<l.length) (hb:p l[j]=false):l.all p=false:=List.all_eq_false.2 ⟨_,List.getElem_mem hj,by simp [hb]⟩
theorem all_take {α:Type} {p:α->Bool} {l:List α} {j:Nat} (hj:j<l.length) (h:(l.take j).all p=true) (hb:p l[j]=true):(l.take (j+1)).all p=true:=by
 rw [List.take_succ_eq_append_getElem hj,List.all_append,h]
 simp [hb]
theorem right_l4 (hE:Fold E) (hw:WkAt H w T M) (hm:Rows H 5 v (M.map MntD.cells)) (hM:M.length<2 ^ 60) (hQ:∀ H',Ext H H'->Q (vb (M.all T.mntOk)) H') :
  LoopL (fun l H X0=>F.f108_l4 E Q (nth l 0) (nth l 1) (nth l 2) (nth l 3) H X0) [ptr w 0,v,vi M.length,(.int .i64 0)] H:=by
 have i0:(.int .i64 0:Value)=vi ((0:Nat):Int):=rfl
 rw [i0]
 refine LoopL.count M.length (fun j ls H'=>ls=[ptr w 0,v,vi M.length,vi j]/\Ext H H'/\(M.take j).all T.mntOk=true) ?_ ⟨rfl,Ext.refl _,rfl⟩
 rintro j _ H1 X0 hj hX ⟨rfl,e1,hall⟩
 rcases Nat.lt_or_ge j M.length with hjl | hjl
 rotate_left
 ·have s:=lss_f (show ¬ j<M.length by omega)
  simp only [F.f108_l4,s,stdZ]
  rw [List.take_of_length_le hjl] at hall
  rw [hall] at hQ
  exact hQ _ e1
 have hX:=hX hjl
 have s:=lss_t hjl
 have hjj:=i64_inc (i:=j) (by omega)
 obtain ⟨b,o,p1,p2⟩:=(hm.mono e1).ix (i:=j) (by rw [List.length_map]; exact hjl)
 rw [List.getElem_map] at p2
 have p3:loadN 5 (ptr b o) H1=some (.agg (M[j]).cells.toArray):=by rw [loadN_ptr,p2]; rfl
 have hbad:T.mntOk M[j]=false->∀ H',Ext H H'->Q (vb false) H':=fun h H' e=>by
  have:=hQ H' e
  rw [all_at hjl h] at this
  exact this
 have hgood:T.mntOk M[j]=true->∀ H',Ext H H'->X0 [ptr w 0,v,vi M.length,vi ((j+1:Nat):Int)] H':=fun h H' e=>hX _ _ ⟨rfl,e,all_take hjl hall h⟩
 generalize M[j]=m at *
 have hst:storeN 5 (ptr H1.next 0) (.agg m.cells.toArray) (H1.new (.cells [(.int .i64 0),(.int .i64 0),(.int .u16 0),(.int .u16 0),(.int .i64 0)] none))=some (H1.new (.cells m.cells none)):=by
  rw [storeN_ptr,AH.get_new_self]
  have h3:AM.splice [(.int .i64 0),(.int .i64 0),(.int .u16 0),(.int .u16 0),(.int .i64 0)] 0 m.cells=m.cells:=rfl
  have h4:m.cells.all plain1=true:=rfl
  have h5:m.cells.length=5:=rfl
  have h6:([(.int .i64 0),(.int .i64 0),(.int .u16 0),(.int .u16 0),(.int .i64 0)]:List Value).length=5:=rfl
  simp only [List.size_toArray,List.toList_toArray,h5,h4,h6,Nat.zero_add,Nat.le_refl,and_self,if_true,h3,AH.new_put]
 have x2:Ext H1 (H1.new (.cells m.cells none)):=(Ext.refl _).new _
 have hb2:=AH.get_new_self H1 (.cells m.cells none)
 obtain ⟨⟨pb,mb,Ly',q',nx,q1,q2,q3⟩,_⟩:=hw.mono (e1.trans x2)
 have e2:=e1.trans x2
 have c0:m.cells[0]? = some (vi m.id):=rfl
 have c2:m.cells[2]? = some (u16 m.at_.i):=rfl
 have c3:m.cells[3]? = some (u16 m.root):=rfl
 simp only [F.f108_l4,s,p1,p3,allocW_eq,hst,q1,hb2,c2,c3,stdZ]
 generalize H1.next=A at *
 generalize H1.new (.cells m.cells none)=H2 at *
 refine S.f8 hE q2 m.root ?_
 refine ⟨rfl,rfl,?_⟩
 refine S.f8 hE q2 m.at_.i ?_
 have k2:(.int .u8 2:Value)=u8 2#8:=rfl
 unfold Tr.mntOk at hbad hgood
 have hbn:binNil eqPtr .eql (.pointer none) (.pointer none)=some (vb true):=rfl
 rcases q2.get m.root with ⟨k0,_⟩ | ⟨kk,yy,k0,k1,k3,k4,k5⟩
 ·rw [nodeP_none q2.cov k0]
  simp only [hbn,stdZ]
  exact hbad (by rw [k0]; rfl) _ e2
 rw [nodeP_some q2.cov.nd k1]
 have d1:(inC m.root (T.node m.root) yy)[1]? = some (u8 (T.node m.root).kind):=rfl
 by_cases hr:(T.node m.root).kind=2#8
 rotate_left
 ·have sn:binInt .neq (u8 (T.node m.root).kind) (u8 2#8)=some (vb true):=by rw [u8_neq]; simp [hr]
  simp only [nilq_p,k4,d1,k2,sn,stdZ]
  exact hbad (by simp [hr]) _ e2
 have sn:binInt .neq (u8 (T.node m.root).kind) (u8 2#8)=some (vb false):=by rw [u8_neq]; simp [hr]
 by_cases h0:m.id=0
 ·have s0:binInt .neq (vi m.id) (.int .i64 0)=some (vb false):=by rw [h0]; exact neq_f 0
  simp only [nilq_p,k4,d1,k2,sn,hb2,c0,s0,hjj,stdZ]
  exact hgood (by simp [hr,h0]) _ e2
 have s0:binInt .neq (vi m.id) (.int .i64 0)=some (vb true):=by
  show binInt .neq (vi m.id) (vi 0)=_
  rw [i64_neq]; simp [h0]
 rcases q2.get m.at_.i with ⟨l0,_⟩ | ⟨ll,zz,l0,l1,l3,l4,l5⟩
 ·rw [nodeP_none q2.cov l0]
  simp only [nilq_p,k4,d1,k2,sn,hb2,c0,s0,hbn,stdZ]
  exact hbad (by rw [l0]; simp [h0]) _ e2
 rw [nodeP_some q2.cov.nd l1]
 have d2:(inC m.at_.i (T.node m.at_.i) zz)[1]? = some (u8 (T.node m.at_.i).kind):=rfl
 by_cases ha:(T.node m.at_.i).kind=2#8
 ·have sa:binInt .neq (u8 (T.node m.at_.i).kind) (u8 2#8)=some (vb false):=by rw [u8_neq]; simp [ha]
  simp only [nilq_p,k4,d1,k2,sn,hb2,c0,s0,l4,d2,sa,hjj,stdZ]
  exact hgood (by simp [hr,ha]) _ e2
 ·have sa:binInt .neq (u8 (T.node m.at_.i).kind) (u8 2#8)=some (vb true):=by rw [u8_neq]; simp [ha]
  simp only [nilq_p,k4,d1,k2,sn,hb2,c0,s0,l4,d2,sa,stdZ]
  exact hbad (by simp [ha,h0]) _ e2
theorem right_l3 (hE:Fold E) (hw:WkAt H w T M) (hm:MapAt u16 viI H r L) (c:CntM L (T.cntR T.nums)) (hl:T.N.length<=65536) (hM:M.length<=1000) (rv:Rows H 1 v (u16R T.nums)) (hQ:∀ H',Ext H H'->Q (vb (T.nums.all T.nodeOk&&M.all T.mntOk)) H') :
  LoopL (fun l H X0=>F.f108_l3 E Q (nth l 0) (nth l 1) (nth l 2) (nth l 3) (nth l 4) H X0) [ptr w 0,.map (some r),v,vi T.nums.length,(.int .i64 0)] H:=by
 have i0:(.int .i64 0:Value)=vi ((0:Nat):Int):=rfl
 rw [i0]
 have hnl:T.nums.length<=65536:=by
  unfold Tr.nums
  refine Nat.le_trans (List.length_filter_le _ _) ?_
  simp; omega
 refine LoopL.count T.nums.length (fun j ls H'=>ls=[ptr w 0,.map (some r),v,vi T.nums.length,vi j]/\Ext H H'/\(T.nums.take j).all T.nodeOk=true) ?_ ⟨rfl,Ext.refl _,rfl⟩
 rintro j _ H1 X0 hj hX ⟨rfl,e1,hall⟩
 obtain ⟨⟨pb,mb,Ly',q',nx,q1,q2,q3⟩,_⟩:=hw.mono e1
 rcases Nat.lt_or_ge j T.nums.length with hjl | hjl
 rotate_left
 ·have s:=lss_f (show ¬ j<T.nums.length by omega)
  rw [List.take_of_length_le hjl] at hall
  rw [hall,Bool.true_and] at hQ
  simp only [F.f108_l3,s,q1,stdZ]
  refine S.f36 hE q' M nx q3 hM fun v2 H2 e2 r2 =>?_
  have hlv:AM.lenSlc v2=some (vi M.length):=by have:=r2.lenSlc; rw [List.length_map] at this; exact this
  simp only [hlv,stdZ]
  exact right_l4 hE (hw.mono (e1.trans e2)) r2 (by omega) fun H' e=>hQ H' ((e1.trans e2).trans e)
 have hX:=hX hjl
 have s:=lss_t hjl
 have hjj:=i64_inc (i:=j) (by omega)
 obtain ⟨b,o,p1,p2⟩:=(rv.mono e1).ix (i:=j) (by rw [u16R_length]; exact hjl)
 have hrw:(u16R T.nums)[j]'(by rw [u16R_length]; exact hjl)=[u16 T.nums[j]]:=by simp [u16R]
 rw [hrw] at p2
 have p3:(H1.get b).cell o=some (u16 T.nums[j]):=by have:=row_at p2 (j:=0) (by omega); simpa using this
 have hkn:(T.node T.nums[j]).kind≠0#8:=(Tr.nums_mem hl _).1 (List.getElem_mem hjl)
 have hbad:T.nodeOk T.nums[j]=false->∀ H',Ext H H'->Q (vb false) H':=fun h H' e=>by
  have:=hQ H' e
  rw [all_at hjl h,Bool.false_and] at this
  exact this
 have hgood:T.nodeOk T.nums[j]=true->∀ H',Ext H H'->X0 [ptr w 0,.map (some r),v,vi T.nums.length,vi ((j+1:Nat):Int)] H':=fun h H' e=>hX _ _ ⟨rfl,e,all_take hjl hall h⟩
 generalize T.nums[j]=n at *
 simp only [F.f108_l3,s,p1,p3,q1,stdZ]
 refine S.f8 hE q2 n ?_
 rcases q2.get n with ⟨k0,_⟩ | ⟨kk,yy,k0,k1,k3,k4,k5⟩
 ·exact (hkn k0).elim
 rw [nodeP_some q2.cov.nd k1]
 have d1:(inC n (T.node n) yy)[1]? = some (u8 (T.node n).kind):=rfl
 have d6:(inC n (T.node n) yy)[6]? = some (vi (T.node n).links):=rfl
 have d7:(inC n (T.node n) yy)[7]? = some (vi (T.node n).held):=rfl
 have hlk:=c.look (hm.keep (e1.get hm.lt)) n
 have k2:(.int .u8 2:Value)=u8 2#8:=rfl
 have i1:(.int .i64 1:Value)=vi 1:=rfl
 have iz:(.int .i64 0:Value)=vi 0:=rfl
 unfold Tr.nodeOk at hbad hgood
 by_cases hc:(T.node n).links=(T.cntR T.nums n:Int)
 rotate_left
 ·have sn:binInt .neq (vi (T.node n).links) (vi (T.cntR T.nums n:Int))=some (vb true):=by rw [i64_neq]; simp [hc]
  simp only [k4,d6,hlk,sn,stdZ]
  exact hbad (by simp [hc]) _ e1
 have sn:binInt .neq (vi (T.node n).links) (vi (T.cntR T.nums n:Int))=some (vb false):=by rw [i64_neq]; simp [hc]
 have second:¬ ((T.node n).links=0/\(T.node n).held=0)->¬ ((T.node n).kind=2#8/\1<(T.node n).links)->(∀ H',Ext H H'->Q (vb (T.nums.all T.nodeOk&&M.all T.mntOk)) H')->((!(decide ((T.node n).kind=2#8)&&decide (0<(T.node n).links))||T.within 1#16 n)=T.nodeOk n):=by
  intro a1 a2 _
  unfold Tr.nodeOk
  rw [decide_eq_true hc]
  simp only [Bool.true_and]
  have b1:(!(decide ((T.node n).links=0)&&decide ((T.node n).held=0)))=true:=by rw [<- Bool.decide_and,decide_eq_false a1]; rfl
  have b2:(!(decide ((T.node n).kind=2#8)&&decide (1<(T.node n).links)))=true:=by rw [<- Bool.decide_and,decide_eq_false a2]; rfl
  rw [b1,b2]; rfl
 by_cases hz:(T.node n).links=0/\(T.node n).held=0
 ·have s1:binInt .eql (vi (T.node n).links) (vi 0)=some (vb true):=by rw [hz.1]; exact eql_t 0
  have s2:binInt .eql (vi (T.node n).held) (vi 0)=some (vb true):=by rw [hz.2]; exact eql_t 0
  simp only [k4,d6,d7,hlk,sn,iz,s1,s2,stdZ]
  exact hbad (by simp [hz.1,hz.2]) _ e1
 have hfirst:∃ x:Bool,binInt .eql (vi (T.node n).links) (vi 0)=some (vb x)/\(x=true->binInt .eql (vi (T.node n).held) (vi 0)=some (vb false)):=by
  by_cases h0:(T.node n).links=0
  ·refine ⟨true,by rw [h0]; exact eql_t 0,fun _ =>?_⟩
   have:(T.node n).held≠0:=fun h=>hz ⟨h0,h⟩
   rw [i64_eql]; simp [this]
  ·exact ⟨false,by rw [i64_eql]; simp [h0],fun h=>nomatch h⟩
 obtain ⟨x,s1,s2⟩:=hfirst
 have fin:¬ ((T.node n).kind=2#8/\1<(T.node n).links)->(opt (nilCk (ptr yy.blk 0)) fun v39=>opt (addOff v39 1) fun v40=>opt (load1 v40 H1) fun v41=>opt (binInt .eql v41 (.int .u8 2)) fun v42 =>
   gd v42 true (fun k=>k (ptr yy.blk 0) H1) H1 fun v43 H26=>gd v42 true (fun k=>opt (nilCk v43) fun v=>k v H26) H26 fun v44 H27=>gd v42 true (fun k=>opt (addOff v44 6) fun v=>k v H27) H27 fun v45 H28=>gd v42 true (fun k=>opt (load1 v45 H28) fun v=>k v H28) H28 fun v46 H29=>gd v42 true (fun k=>opt (binInt .gtr v46 (.int .i64 0)) fun v=>k v H29) H29 fun v47 H30 =>
   opt (pick v42 v47 (.bool false)) fun v48=>gd v48 true (fun k=>k (ptr w 0) H30) H30 fun v49 H31=>gd v48 true (fun k=>opt (nilCk v49) fun v=>k v H31) H31 fun v50 H32=>gd v48 true (fun k=>opt (addOff v50 0) fun v=>k v H32) H32 fun v51 H33=>gd v48 true (fun k=>opt (load1 v51 H33) fun v=>k v H33) H33 fun v52 H34=>gd v48 true (fun k=>k (u16 n) H34) H34 fun v53 H35 =>
   gd v48 true (fun k=>E.call (E.fid i.f14) [v52,v53,(.int .u16 1)] H35 fun v h=>k v h) H35 fun v54 H36=>gd v48 true (fun k=>opt (un .not v54) fun v=>k v H36) H36 fun v55 H37=>opt (pick v48 v55 (.bool false)) fun v56=>ifB v56 (Q (.bool false) H37) (opt (binInt .add (vi j) (.int .i64 1)) fun v57=>X0 [ptr w 0,.map (some r),v,vi T.nums.length,v57] H37)):=by
  intro hk1
  have hsec:=second hz hk1 hQ
  have n1:(.int .u16 1:Value)=u16 1#16:=rfl
  by_cases hk2:(T.node n).kind=2#8
  ·have se:binInt .eql (u8 (T.node n).kind) (u8 2#8)=some (vb true):=by rw [u8_eql]; simp [hk2]
   by_cases hpos:0<(T.node n).links
   ·have sg:binInt .gtr (vi (T.node n).links) (vi 0)=some (vb true):=by rw [i64_gtr]; simp [hpos]
    simp only [k4,d1,d6,k2,se,iz,sg,q1,n1,stdZ]
    refine S.f14 hE q2 n 1#16 ?_
    rw [decide_eq_true hk2,decide_eq_true hpos] at hsec
    cases hwi:T.within 1#16 n with
    | true =>
     have nt:un .not (vb true)=some (vb false):=rfl
     simp only [nt,hjj,stdZ]
     refine hgood ?_ _ e1
     have:T.nodeOk n=true:=by rw [<- hsec,hwi]; rfl
     exact this
    | false =>
     have nt:un .not (vb false)=some (vb true):=rfl
     simp only [nt,stdZ]
     refine hbad ?_ _ e1
     have:T.nodeOk n=false:=by rw [<- hsec,hwi]; rfl
     exact this
   ·have sg:binInt .gtr (vi (T.node n).links) (vi 0)=some (vb false):=by rw [i64_gtr]; simp; omega
    simp only [k4,d1,d6,k2,se,iz,sg,hjj,stdZ]
    refine hgood ?_ _ e1
    have:T.nodeOk n=true:=by rw [<- hsec,decide_eq_false hpos]; simp
    exact this
  ·have se:binInt .eql (u8 (T.node n).kind) (u8 2#8)=some (vb false):=by rw [u8_eql]; simp [hk2]
   simp only [k4,d1,k2,se,hjj,stdZ]
   refine hgood ?_ _ e1
   have:T.nodeOk n=true:=by rw [<- hsec,decide_eq_false hk2]; simp
   exact this
 by_cases hk1:(T.node n).kind=2#8/\1<(T.node n).links
 ·have se:binInt .eql (u8 (T.node n).kind) (u8 2#8)=some (vb true):=by rw [u8_eql]; simp [hk1.1]
  have sg:binInt .gtr (vi (T.node n).links) (vi 1)=some (vb true):=by rw [i64_gtr]; simp [hk1.2]
  have hb:(decide ((T.node n).links=(T.cntR T.nums n:Int))&&(!(decide ((T.node n).links=0)&&decide ((T.node n).held=0)))&&(!(decide ((T.node n).kind=2#8)&&decide (1<(T.node n).links)))&&(!(decide ((T.node n).kind=2#8)&&decide (0<(T.node n).links))||T.within 1#16 n))=false:=by
   rw [decide_eq_true hk1.1,decide_eq_true hk1.2]; simp
  cases x with
  | true =>
   have s2:=s2 rfl
   simp only [k4,d1,d6,d7,hlk,sn,iz,s1,s2,k2,se,i1,sg,stdZ]
   exact hbad hb _ e1
  | false =>
   simp only [k4,d1,d6,hlk,sn,iz,s1,k2,se,i1,sg,stdZ]
   exact hbad hb _ e1
 ·have hk2:∃ y:Bool,binInt .eql (u8 (T.node n).kind) (u8 2#8)=some (vb y)/\(y=true->binInt .gtr (vi (T.node n).links) (vi 1)=some (vb false)):=by
   by_cases h2:(T.node n).kind=2#8
   ·refine ⟨true,by rw [u8_eql]; simp [h2],fun _ =>?_⟩
    have:¬ 1<(T.node n).links:=fun h=>hk1 ⟨h2,h⟩
    rw [i64_gtr]; simp; omega
   ·exact ⟨false,by rw [u8_eql]; simp [h2],fun h=>nomatch h⟩
  obtain ⟨y,t1,t2⟩:=hk2
  have fin:=fin hk1
  cases x with
  | true =>
   have s2:=s2 rfl
   cases y with
   | true =>
    have t2:=t2 rfl
    simp only [k4,d1,d6,d7,hlk,sn,iz,s1,s2,k2,t1,i1,t2,stdZ]
    simp only [k4,d1,k2,t1,stdZ] at fin
    exact fin
   | false =>
    simp only [k4,d1,d6,d7,hlk,sn,iz,s1,s2,k2,t1,stdZ]
    simp only [k4,d1,k2,t1,stdZ] at fin
    exact fin
  | false =>
   cases y with
   | true =>
    have t2:=t2 rfl
    simp only [k4,d1,d6,hlk,sn,iz,s1,k2,t1,i1,t2,stdZ]
    simp only [k4,d1,k2,t1,stdZ] at fin
    exact fin
   | false =>
    simp only [k4,d1,d6,hlk,sn,iz,s1,k2,t1,stdZ]
    simp only [k4,d1,k2,t1,stdZ] at fin
    exact fin
end
end Go.AM
end
section
namespace Go.AM
set_option maxRecDepth 20000
section
variable {E:Sy} {H H' H0:AH} {Q:Value->AH->Prop} {w r:Nat} {T:Tr} {M:List MntD} {L:List (BitVec 16×Int)} {f:BitVec 16->Nat} {v:Value}
theorem Tr.nums_len (hl:T.N.length<=65536):T.nums.length<=65536:=by
 unfold Tr.nums
 refine Nat.le_trans (List.length_filter_le _ _) ?_
 simp; omega
theorem cntR_snoc (l:List (BitVec 16)) (n k:BitVec 16):T.cntR (l++[n]) k=T.cntR l k+cntE k (T.entsK n):=by
 unfold Tr.cntR
 rw [List.map_append,List.sum_append]
 simp [Nat.add_assoc]
theorem entsK_len (hel:∀ n,(T.node n).ents.length<2 ^ 32) (n k:BitVec 16):cntE k (T.entsK n)<=2 ^ 32:=by
 have h1:cntE k (T.entsK n)<=(T.entsK n).length:=cntE_le
 have h2:=hel n
 unfold Tr.entsK at h1 ⊢
 split at h1
 ·rw [if_pos (by assumption)]; omega
 ·rw [if_neg (by assumption)]; simp [cntE]
theorem cntR_le (hel:∀ n,(T.node n).ents.length<2 ^ 32) (l:List (BitVec 16)) (hl:l.length<=65536) (k:BitVec 16):T.cntR l k<=2 ^ 60:=by
 have key:∀ l:List (BitVec 16),(l.map fun n=>cntE k (T.entsK n)).sum<=l.length*2 ^ 32:=by
  intro l
  induction l with
  | nil=>simp
  | cons n l ih =>
   have:=entsK_len hel n k
   simp only [List.map_cons,List.sum_cons,List.length_cons] at ih ⊢
   omega
 have:=key l
 unfold Tr.cntR
 split <;> omega
theorem Rows.only {H H':AH} {sz:Nat} {v:Value} {rows:List (List Value)} {F:List Nat} (h:Rows H sz v rows) (o:Only F H H') (hb:∀ b,blk v=some b->b ∉ F):Rows H' sz v rows:=by
 refine ⟨h.len,?_⟩
 rcases h.at_ with h | ⟨b,o',c,h1,h2,h3,h4⟩
 ·exact .inl h
 ·have:=o.get (AH.lt_of_get (row_notdead h4)) (hb b (by rw [h1]; rfl))
  exact .inr ⟨b,o',c,h1,h2,by rw [this]; exact h3,by rw [this]; exact h4⟩
theorem S.f108 (hE:Fold E) (hw:WkAt H w T M) (hl:T.N.length<=65536) (hM:M.length<=1000) (hnl:∀ n,∀ e∈(T.node n).ents,e.1.length<2 ^ 63) (hel:∀ n,(T.node n).ents.length<2 ^ 32) (hQ:∀ H',Ext H H'->Q (vb (rightT T M)) H'):E.call (E.fid i.f108) [ptr w 0] H Q:=by
 apply hE.f108
 have x1:Ext H (H.new (.map [] 0 true)):=(Ext.refl _).new _
 have hm1:MapAt u16 viI (H.new (.map [] 0 true)) H.next ([]:List (BitVec 16×Int)):=MapAt.new H
 obtain ⟨o,_,s1,s2⟩:=hm1.set (kd:=0) (fun a b=>same_u16 a b) 1#16 (1:Int)
 have s1:setMap 0 (.map (some H.next)) (.int .u16 1) (.int .i64 1) (H.new (.map [] 0 true))=some ((H.new (.map [] 0 true)).put H.next o):=s1
 have x2:Ext H ((H.new (.map [] 0 true)).put H.next o):=x1.put (Nat.le_refl _) o
 have c2:CntM (aset 1#16 (1:Int) []) (T.cntR []):=by
  intro k
  rw [lookup_aset]
  unfold Tr.cntR
  by_cases e:k=1#16
  ·rw [if_pos e,if_pos e]; rfl
  ·rw [if_neg e,if_neg e]; rfl
 obtain ⟨⟨p,m,Ly0,q',nx,a1,a2,a3⟩,_⟩:=id hw
 have q1:=x2.cells a1
 have q2:=a2.mono x2
 simp only [F.f108,nilq_p,mapW_eq,s1,q1,stdZ]
 generalize (H.new (.map [] 0 true)).put H.next o=H2 at *
 refine S.f13 hE q2 hl fun nv H3 e3 r3 f3 =>?_
 have hlv:=r3.lenSlc
 rw [u16R_length] at hlv
 have hnl2:=Tr.nums_len hl
 have i0:(.int .i64 0:Value)=vi ((0:Nat):Int):=rfl
 have hm3:=s2.keep (e3.get s2.lt)
 simp only [hlv,i0,stdZ]
 refine LoopL.count T.nums.length (fun j ls H'=>∃ L,ls=[ptr w 0,.map (some H.next),nv,vi T.nums.length,vi j]/\Ext H H'/\Rows H' 1 nv (u16R T.nums)/\MapAt u16 viI H' H.next L/\CntM L (T.cntR (T.nums.take j))/\(T.nums.take j).all T.entsOk=true) ?_ ⟨_,rfl,x2.trans e3,r3,hm3,c2,rfl⟩
 rintro j _ H4 X0 hj hX ⟨L,rfl,e4,r4,hm4,c4,hall⟩
 have q1:=e4.cells a1
 have q2:=a2.mono e4
 rcases Nat.lt_or_ge j T.nums.length with hjl | hjl
 rotate_left
 ·have s:=lss_f (show ¬ j<T.nums.length by omega)
  rw [List.take_of_length_le hjl] at hall c4
  unfold rightT at hQ
  rw [hall,Bool.true_and] at hQ
  simp only [F.f108_l1,s,q1,stdZ]
  refine S.f13 hE q2 hl fun nv2 H5 e5 r5 f5 =>?_
  have hlv5:=r5.lenSlc
  rw [u16R_length] at hlv5
  simp only [hlv5,stdZ]
  exact right_l3 hE (hw.mono (e4.trans e5)) (hm4.keep (e5.get hm4.lt)) c4 hl hM r5 fun H' e=>hQ H' ((e4.trans e5).trans e)
 have hX:=hX hjl
 have s:=lss_t hjl
 obtain ⟨b,o',p1,p2⟩:=r4.ix (i:=j) (by rw [u16R_length]; exact hjl)
 have hrw:(u16R T.nums)[j]'(by rw [u16R_length]; exact hjl)=[u16 T.nums[j]]:=by simp [u16R]
 rw [hrw] at p2
 have p3:(H4.get b).cell o'=some (u16 T.nums[j]):=by have:=row_at p2 (j:=0) (by omega); simpa using this
 have hmem:T.nums[j]∈T.nums:=List.getElem_mem hjl
 have hkn:(T.node T.nums[j]).kind≠0#8:=(Tr.nums_mem hl _).1 hmem
 have hbad:T.entsOk T.nums[j]=false->∀ H',Ext H H'->Q (vb false) H':=fun h H' e=>by
  have:=hQ H' e
  unfold rightT at this
  rw [all_at hjl h,Bool.false_and] at this
  exact this
 have hgood:T.entsOk T.nums[j]=true->∀ H' L',Ext H H'->Rows H' 1 nv (u16R T.nums)->MapAt u16 viI H' H.next L'->CntM L' (fun k=>T.cntR (T.nums.take j) k+cntE k (T.entsK T.nums[j]))->X0 [ptr w 0,.map (some H.next),nv,vi T.nums.length,vi ((j+1:Nat):Int)] H':=fun h H' L' e rr hm c=>hX _ _ ⟨L',rfl,e,rr,hm,by
   intro k
   rw [List.take_succ_eq_append_getElem hjl,cntR_snoc]
   exact c k,all_take hjl hall h⟩
 generalize T.nums[j]=n at *
 simp only [F.f108_l1,s,p1,p3,q1,stdZ]
 refine S.f8 hE q2 n ?_
 rcases q2.get n with ⟨k0,_⟩ | ⟨kk,yy,k0,k1,k3,k4,k5⟩
 ·exact (hkn k0).elim
 rw [nodeP_some q2.cov.nd k1]
 have d3:(inC n (T.node n) yy)[3]? = some (.map yy.nm):=rfl
 have hrm:∃ ob,rangeM (.map yy.nm) H4=some (ob,mkPtr):=by
  by_cases hk:(T.node n).kind=2#8
  ·obtain ⟨s',hs'⟩:=k5.dir hk
   obtain ⟨ob,o1,_⟩:=IterAt.start (nodeR.names (q2.node k1) hs')
   exact ⟨ob,by rw [hs']; exact o1⟩
  ·rw [k5.nodir hk]; exact ⟨_,rfl⟩
 obtain ⟨ob,hrm⟩:=hrm
 simp only [k4,d3,hrm,AM.mk_some,stdZ]
 exact right_l2 hE hw hnl hel hmem (nm:=yy.nm) (ord:=yy.ord) (fun hk=>by
  obtain ⟨s',hs'⟩:=k5.dir hk
  exact ⟨s',hs',nodeR.names (a2.node k1) hs',k5.perm⟩) (fun hk=>k5.nodir hk) e4 (Nat.le_refl _) hm4 c4 (cntR_le hel _ (by rw [List.length_take]; omega)) hrm (by omega) hbad fun hok H' L' e on hm c=>hgood hok H' L' e (r4.only on fun b hb=>by
  have:=f3 b hb
  have h2:H.next<H2.next:=s2.lt
  simp; omega) hm c
end
end Go.AM
end
section
namespace Go.AM
set_option maxRecDepth 20000
section
variable {T:Tr} {M:List MntD}
theorem sum_filter {α:Type} (p:α->Bool) (g:α->Nat):∀ l:List α,(∀ x∈l,p x=false->g x=0)->((l.filter p).map g).sum=(l.map g).sum
 | [],_=>rfl
 | x :: l,h=>by
  have ih:=sum_filter p g l fun y hy=>h y (List.mem_cons_of_mem _ hy)
  rw [List.filter_cons]
  cases hx:p x with
  | true=>simp [ih]
  | false=>simp [ih,h x List.mem_cons_self hx]
theorem Tr.nodes_map {β:Type} (hl:T.N.length<=65536) (g:Nd->β):T.N.map g=((List.range T.N.length).map (BitVec.ofNat 16)).map fun n=>g (T.node n):=by
 apply List.ext_getElem
 ·simp
 ·intro k h1 h2
  have hk:k<T.N.length:=by simpa using h1
  simp only [List.getElem_map,List.getElem_range]
  congr 1
  unfold Tr.node
  rw [BitVec.toNat_ofNat,Nat.mod_eq_of_lt (by omega),List.getD_eq_getElem?_getD,List.getElem?_eq_getElem hk]
  rfl
theorem Tr.WF.entsK (wf:T.WF) (n:BitVec 16):T.entsK n=(T.node n).ents:=by
 unfold Tr.entsK
 split
 ·rfl
 ·cases he:(T.node n).ents with
  | nil=>rfl
  | cons x l=>exact (‹¬ _› (wf.ents n x.1 x.2 (by rw [he]; exact List.mem_cons_self)).1).elim
theorem Tr.WF.cntR (wf:T.WF) (k:BitVec 16):T.cntR T.nums k=(if k=1#16 then 1 else 0)+T.refs k:=by
 have h16:=wf.len16
 unfold Tr.cntR
 congr 1
 have hf:(fun n=>cntE k (T.entsK n))=fun n=>cntE k (T.node n).ents:=by funext n; rw [wf.entsK]
 rw [hf]
 unfold Tr.nums Tr.refs
 rw [sum_filter,Tr.nodes_map (by omega)]
 intro n _ h
 have h0:(T.node n).kind=0#8:=by simpa using h
 rw [wf.zero n h0]; rfl
theorem Tr.WF.refs1 (wf:T.WF):T.refs 1#16=0:=by
 have h16:=wf.len16
 rcases Nat.eq_zero_or_pos (T.refs 1#16) with h | h
 ·exact h
 ·obtain ⟨n,s,hs⟩:=Tr.refs_pos (by omega) h
  exact ((wf.ents n s _ hs).2.2.2.2.1 rfl).elim
theorem Tr.WF.links_cnt (wf:T.WF) {n:BitVec 16} (hk:(T.node n).kind≠0#8):(T.node n).links=(T.cntR T.nums n:Int):=by
 rw [wf.cntR]
 by_cases e:n=1#16
 ·subst e
  rw [if_pos rfl,wf.refs1,wf.root.2.2]; rfl
 ·rw [if_neg e,wf.links n e hk,Nat.zero_add]
theorem withinF_in (hk:(T.node 1#16).kind=2#8):∀ {f:Nat} {n:BitVec 16},(T.node n).kind=2#8->T.rootIn f n->(∀ m,(T.node m).kind=2#8->m≠1#16->(T.node m).parent≠m\/True)->T.rootIn f n->(∀ m,T.rootIn f m->m≠1#16->m≠(T.node m).parent)->T.withinF 1#16 (f+1) n=true
  | 0,n,_,h,_,_,_=>by
    have:n=1#16:=h
    subst this
    simp [Tr.withinF,hk]
  | f+1,n,hn,h,a,_,b=>by
    rw [Tr.withinF,if_neg (by simp [hn])]
    by_cases e:n=1#16
    · rw [if_pos e]
    · rw [if_neg e,if_neg (b n h e)]
      rcases h with h | h
      · exact (e h).elim
      · have hp:(T.node (T.node n).parent).kind=2#8:=by
          cases f with
          | zero=>have:(T.node n).parent=1#16:=h.2; rw [this]; exact hk
          | succ f => rcases h.2 with h2 | h2
                      · rw [h2]; exact hk
                      · exact h2.1
        exact withinF_in hk hp h.2 a h.2 fun m hm=>b m (Tr.rootIn_mono hm (by omega))
theorem rootIn_self:∀ {f:Nat} {n:BitVec 16},T.rootIn f n->n≠1#16->n≠(T.node n).parent
 | 0,_,h,hn=>(hn h).elim
 | f+1,n,h,hn=>by
  rcases h with h | h
  ·exact (hn h).elim
  ·intro e
   rw [<- e] at h
   exact rootIn_self h.2 hn e
theorem Tr.WF.rootWithin (wf:T.WF) {n:BitVec 16} (hn:T.Live n):T.within 1#16 n=true:=by
 have hd:=wf.depth n hn.1 hn.2
 unfold Tr.within
 rw [Tr.withinF_root wf.root.1 wf.root.2.1 _ hd (by omega)]
 exact withinF_in wf.root.1 hn.1 hd (fun _ _ _ => .inr trivial) hd fun m hm h1=>rootIn_self hm h1
theorem right_wf (wf:T.WF) (ti:T.Tidy) (hm:∀ m∈M,(T.node m.root).kind=2#8/\(m.id≠0->(T.node m.at_.i).kind=2#8)):rightT T M=true:=by
 have h16:=wf.len16
 unfold rightT
 rw [Bool.and_eq_true,Bool.and_eq_true,List.all_eq_true,List.all_eq_true,List.all_eq_true]
 refine ⟨fun n hn =>?_,fun n hn =>?_,fun m hm' =>?_⟩
 ·unfold Tr.entsOk
  rw [wf.entsK,List.all_eq_true]
  intro e he
  obtain ⟨_,_,a,b,_,c⟩:=wf.ents n e.1 e.2 he
  unfold Tr.entOk
  rw [a,decide_eq_true b]
  by_cases h2:(T.node e.2).kind=2#8
  ·simp [c h2]
  ·simp [h2]
 ·have hk:=(Tr.nums_mem (by omega) n).1 hn
  have hl:=wf.links_cnt hk
  have ht:=ti n hk
  unfold Tr.nodeOk
  rw [decide_eq_true hl,Bool.true_and]
  have a1:(!(decide ((T.node n).links=0)&&decide ((T.node n).held=0)))=true:=by
   rw [<- Bool.decide_and,decide_eq_false (fun h=>ht.elim (fun k=>k h.1) fun k=>k h.2)]; rfl
  have hle:(T.node n).kind=2#8->(T.node n).links<=1:=fun h2=>by
   by_cases e:n=1#16
   ·rw [e,wf.root.2.2]; exact Int.le_refl _
   ·rw [wf.links n e hk]
    have:=wf.dirs n h2
    omega
  have a2:(!(decide ((T.node n).kind=2#8)&&decide (1<(T.node n).links)))=true:=by
   rw [<- Bool.decide_and,decide_eq_false (fun h=>by have:=hle h.1; have:=h.2; omega)]; rfl
  rw [a1,a2,Bool.true_and]
  by_cases h2:(T.node n).kind=2#8/\0<(T.node n).links
  ·rw [wf.rootWithin ⟨h2.1,by have:=h2.2; omega⟩]; simp
  ·rw [<- Bool.decide_and,decide_eq_false h2]; rfl
 ·obtain ⟨a,b⟩:=hm m hm'
  unfold Tr.mntOk
  rw [decide_eq_true a,Bool.true_and]
  by_cases h0:m.id=0
  ·simp [h0]
  ·simp [b h0]
theorem Tr.nums_upd {n:BitVec 16} (hk:(T.node n).kind≠0#8) {f:Nd->Nd} (hf:(f (T.node n)).kind=(T.node n).kind):(T.upd n f).nums=T.nums:=by
 unfold Tr.nums
 have hl:(T.upd n f).N.length=T.N.length:=by simp [Tr.upd]
 rw [hl]
 congr 1
 funext k
 rw [Tr.node_upd hk]
 split
 ·rename_i e; rw [e,hf]
 ·rfl
theorem right_links (wf:T.WF) {n:BitVec 16} (hn:n∈T.nums):rightT (T.upd n (Nd.addL 1)) M=false:=by
 have h16:=wf.len16
 have hk:=(Tr.nums_mem (by omega) n).1 hn
 have hnums:=Tr.nums_upd (f:=Nd.addL 1) hk rfl
 have hek:∀ m,(T.upd n (Nd.addL 1)).entsK m=T.entsK m:=fun m=>by
  unfold Tr.entsK
  rw [Tr.node_upd hk]
  split
  ·rename_i e; rw [e]; rfl
  ·rfl
 have hb:(T.upd n (Nd.addL 1)).nodeOk n=false:=by
  unfold Tr.nodeOk
  have hc:(T.upd n (Nd.addL 1)).cntR (T.upd n (Nd.addL 1)).nums n=T.cntR T.nums n:=by
   unfold Tr.cntR
   rw [hnums]
   simp only [hek]
  rw [hc,Tr.node_upd hk,if_pos rfl]
  have hl:=wf.links_cnt hk
  have:¬ (Nd.addL 1 (T.node n)).links=(T.cntR T.nums n:Int):=by
   show ¬ (T.node n).links+1=_
   omega
  rw [decide_eq_false this]
  rfl
 unfold rightT
 have:(T.upd n (Nd.addL 1)).nums.all (T.upd n (Nd.addL 1)).nodeOk=false:=List.all_eq_false.2 ⟨n,by rw [hnums]; exact hn,by rw [hb]; decide⟩
 rw [this]
 simp
def Nd.setE (s:NameL) (k:BitVec 16) (x:Nd):Nd:={ x with ents:=[(s,k)] }
theorem right_ents (h16:T.N.length<=65536) {n:BitVec 16} (hn:n∈T.nums) (hd:(T.node n).kind=2#8) {s:NameL} {k:BitVec 16} (hb:okName s=false\/(T.node k).kind=0#8):rightT (T.upd n (Nd.setE s k)) M=false:=by
 have hk:=(Tr.nums_mem h16 n).1 hn
 have hnums:=Tr.nums_upd (f:=Nd.setE s k) hk rfl
 have hbad:(T.upd n (Nd.setE s k)).entsOk n=false:=by
  unfold Tr.entsOk Tr.entsK
  have h1:(T.upd n (Nd.setE s k)).node n=Nd.setE s k (T.node n):=by rw [Tr.node_upd hk,if_pos rfl]
  rw [h1,if_pos (show (Nd.setE s k (T.node n)).kind=2#8 from hd)]
  show (([(s,k)]:EntL)).all _=false
  rw [List.all_cons]
  have:(T.upd n (Nd.setE s k)).entOk n (s,k)=false:=by
   unfold Tr.entOk
   rcases hb with hb | hb
   ·show (okName s&&_)=false
    rw [hb]; rfl
   ·have:((T.upd n (Nd.setE s k)).node k).kind=0#8:=by
     rw [Tr.node_upd hk]
     split
     ·rename_i e; rw [e] at hb; exact (hk hb).elim
     ·exact hb
    show (okName s&&(decide (((T.upd n (Nd.setE s k)).node k).kind≠0#8)&&_))=false
    rw [this]
    simp
  rw [this]; rfl
 unfold rightT
 have:(T.upd n (Nd.setE s k)).nums.all (T.upd n (Nd.setE s k)).entsOk=false:=List.all_eq_false.2 ⟨n,by rw [hnums]; exact hn,by rw [hbad]; decide⟩
 rw [this]
 rfl
end
end Go.AM
end
section
namespace Go.AM
set_option maxRecDepth 20000
structure SpotD where
 dir:PlaceD
 name:NameL
 ino:BitVec 16
 deriving DecidableEq
def SpotD.cells (s:SpotD):List Value:=[vi s.dir.m,u16 s.dir.i,str s.name,u16 s.ino]
abbrev SpotD.v (s:SpotD):Value := .agg s.cells.toArray
def SpotD.zero:SpotD:=⟨⟨0,0#16⟩,[],0#16⟩
def spottedW (T:Tr) (M:List MntD) (c:PlaceD) (path:List UInt8):SpotD×Int :=
 if (lastW T M c path).2.2≠0 then (SpotD.zero,(lastW T M c path).2.2)
 else if (T.look (lastW T M c path).1.i (lastW T M c path).2.1).2≠0/\(T.look (lastW T M c path).1.i (lastW T M c path).2.1).2≠2 then (SpotD.zero,(T.look (lastW T M c path).1.i (lastW T M c path).2.1).2)
 else (⟨(lastW T M c path).1,(lastW T M c path).2.1,(T.look (lastW T M c path).1.i (lastW T M c path).2.1).1⟩,0)
def renameW (T:Tr) (M:List MntD) (a b:SpotD):Tr×Int :=
 if a.ino=0#16 then (T,2) else if a.dir.m≠b.dir.m then (T,18) else if M.any (uses a.ino)=true\/(b.ino≠0#16/\M.any (uses b.ino)=true) then (T,16) else T.move a.dir.i a.name b.dir.i b.name
section
variable {X:List Res} {E:Sy} {H H' H0:AH} {Q:Value->AH->Prop} {w:Nat} {T:Tr} {M:List MntD} {nx:Int} {v:Value}
theorem WkO.held2 {b b':Nat} {c c':List Value} (h:WkO ((X++[boxR b c])++[boxR b' c']) H0 H w T M nx):H.get b = .cells c none:=(h.openX (k:=X.length) (r:=boxR b c) (by simp)).1.holds
theorem st4 (K:AH) (s:SpotD):storeN 4 (ptr K.next 0) s.v (K.new (.cells [(.int .i64 0),(.int .u16 0),(.string ⟨#[]⟩),(.int .u16 0)] none))=some (K.new (.cells s.cells none)):=by
 rw [storeN_ptr,AH.get_new_self]
 have h3:AM.splice [(.int .i64 0),(.int .u16 0),(.string ⟨#[]⟩),(.int .u16 0)] 0 s.cells=s.cells:=rfl
 have h4:s.cells.all plain1=true:=rfl
 have h5:s.cells.length=4:=rfl
 have h6:([(.int .i64 0),(.int .u16 0),(.string ⟨#[]⟩),(.int .u16 0)]:List Value).length=4:=rfl
 simp only [List.size_toArray,List.toList_toArray,h5,h4,h6,Nat.zero_add,Nat.le_refl,and_self,if_true,h3,AH.new_put]
theorem st2 (K:AH) (p:PlaceD):storeN 2 (ptr K.next 0) p.v (K.new (.cells [(.int .i64 0),(.int .u16 0)] none))=some (K.new (.cells p.cells none)):=by
 rw [storeN_ptr,AH.get_new_self]
 have h3:AM.splice [(.int .i64 0),(.int .u16 0)] 0 p.cells=p.cells:=rfl
 have h4:p.cells.all plain1=true:=rfl
 have h5:p.cells.length=2:=rfl
 have h6:([(.int .i64 0),(.int .u16 0)]:List Value).length=2:=rfl
 simp only [List.size_toArray,List.toList_toArray,h5,h4,h6,Nat.zero_add,Nat.le_refl,and_self,if_true,h3,AH.new_put]
theorem put4 {b:Nat} {c:List Value} (hb:H.get b = .cells c none) (hc:c.length=4) (s:SpotD):storeN 4 (ptr b 0) s.v H=some (H.put b (.cells s.cells none)):=by
 rw [storeN_ptr,hb]
 have h4:s.cells.all plain1=true:=rfl
 have h5:s.cells.length=4:=rfl
 have h3:AM.splice c 0 s.cells=s.cells:=by simp [splice,hc,h5]
 simp only [List.size_toArray,List.toList_toArray,h5,h4,hc,Nat.zero_add,Nat.le_refl,and_self,if_true,h3]
theorem put2 {b:Nat} {c:List Value} (hb:H.get b = .cells c none) (hc:c.length=2) (p:PlaceD):storeN 2 (ptr b 0) p.v H=some (H.put b (.cells p.cells none)):=by
 rw [storeN_ptr,hb]
 have h4:p.cells.all plain1=true:=rfl
 have h5:p.cells.length=2:=rfl
 have h3:AM.splice c 0 p.cells=p.cells:=by simp [splice,hc,h5]
 simp only [List.size_toArray,List.toList_toArray,h5,h4,hc,Nat.zero_add,Nat.le_refl,and_self,if_true,h3]
theorem S.f109 (hE:Fold E) (hw:WkAt H w T M) (wf:T.WF) (lt:T.LT) (c:PlaceD) (path:List UInt8) (hp:path.length<2 ^ 63)
  (hQ:∀ H',Ext H H'->Q (.tuple #[(spottedW T M c path).1.v,vi (spottedW T M c path).2]) H'):E.call (E.fid i.f109) [ptr w 0,c.v,str path] H Q:=by
 apply hE.f109
 have z4:([(.int .i64 0),(.int .u16 0),(.string ⟨#[]⟩),(.int .u16 0)]:List Value)=SpotD.zero.cells:=rfl
 have z2:([(.int .i64 0),(.int .u16 0)]:List Value)=PlaceD.zero.cells:=rfl
 have g2:=((Has.start (Ext.refl H)).newbox c.cells).newbox SpotD.zero.cells
 have g2:Has H H ((H.new (.cells c.cells none)).new (.cells SpotD.zero.cells none)) [boxR H.next c.cells,boxR (H.next+1) SpotD.zero.cells]:=g2
 simp only [F.f109,boxO_agg_z,AM.mk_some,mkPtr_eq_z,List.toList_toArray,z4,allocW_eq,stdZ]
 generalize (H.new (.cells c.cells none)).new (.cells SpotD.zero.cells none)=H2 at *
 have lo1:loadN 2 (ptr H.next 0) H2=some c.v:=by rw [loadN_ptr,g2.box (k:=0) (b:=H.next) rfl]; rfl
 simp only [lo1,stdZ]
 refine S.f112 hE (hw.mono g2.ext) wf lt c path hp fun H3 e3 =>?_
 have g3:=g2.grow e3
 have g4:=g3.newbox (lastW T M c path).1.cells
 have g4:Has H H (H3.new (.cells (lastW T M c path).1.cells none)) [boxR H.next c.cells,boxR (H.next+1) SpotD.zero.cells,boxR H3.next (lastW T M c path).1.cells]:=g4
 simp only [z2,allocW_eq,st2,stdZ]
 have hst2:=st2 H3 (lastW T M c path).1
 rw [z2] at hst2
 simp only [hst2,stdZ]
 unfold spottedW at hQ
 generalize (lastW T M c path)=l at *
 obtain ⟨d,name,e⟩:=l
 simp only at hQ hst2 g4 ⊢
 generalize H3.new (.cells d.cells none)=H5 at *
 have i0:(.int .i64 0:Value)=vi 0:=rfl
 have i2:(.int .i64 2:Value)=vi 2:=rfl
 have hbz:buildV [(0,2),(2,1),(3,1)] #[(.int .i64 0),(.int .u16 0),(.string ⟨#[]⟩),(.int .u16 0)] []=some SpotD.zero.v:=rfl
 have fin:∀ (s:SpotD) (x:Int),(∀ H',Ext H H'->Q (.tuple #[s.v,vi x]) H')->∀ H5,Has H H H5 [boxR H.next c.cells,boxR (H.next+1) SpotD.zero.cells,boxR H3.next d.cells]->(opt (storeN 4 (ptr (H.next+1) 0) s.v H5) fun H6=>opt (loadN 4 (ptr (H.next+1) 0) H6) fun v11=>Q (.tuple #[v11,vi x]) H6):=by
  intro s x hq H5 g5
  have g6:=g5.put (k:=1) (b:=H.next+1) rfl s.cells
  have lo:loadN 4 (ptr (H.next+1) 0) (H5.put (H.next+1) (.cells s.cells none))=some s.v:=by rw [loadN_ptr,g6.box (k:=1) (b:=H.next+1) rfl]; rfl
  simp only [put4 (g5.box (k:=1) (b:=H.next+1) rfl) rfl,lo,stdZ]
  exact hq _ g6.ext
 by_cases he:e=0
 rotate_left
 ·have s1:binInt .neq (vi e) (vi 0)=some (vb true):=by rw [i64_neq]; simp [he]
  rw [if_pos he] at hQ
  simp only [i0,s1,hbz,stdZ]
  exact fin SpotD.zero e hQ _ g4
 have s1:binInt .neq (vi e) (vi 0)=some (vb false):=by rw [i64_neq]; simp [he]
 rw [if_neg (by simpa using he)] at hQ
 obtain ⟨⟨p,m,Ly,q',nx,q1,q2,q3⟩,_⟩:=hw.mono g4.ext
 have hbd:=g4.box (k:=2) (b:=H3.next) rfl
 have d1:d.cells[1]? = some (u16 d.i):=rfl
 simp only [i0,s1,q1,hbd,d1,stdZ]
 refine S.f10 hE q2 d.i name ?_
 generalize T.look d.i name=k at *
 obtain ⟨n,x⟩:=k
 simp only at hQ ⊢
 have lo8:loadN 2 (ptr H3.next 0) H5=some d.v:=by rw [loadN_ptr,hbd]; rfl
 have hbv:buildV [(0,2),(2,1),(3,1)] #[(.int .i64 0),(.int .u16 0),(.string ⟨#[]⟩),(.int .u16 0)] [(0,d.v),(1,str name),(2,u16 n)]=some (SpotD.v ⟨d,name,n⟩):=rfl
 by_cases hx0:x=0
 ·have s2:binInt .neq (vi x) (vi 0)=some (vb false):=by rw [i64_neq]; simp [hx0]
  rw [if_neg (by simp [hx0])] at hQ
  simp only [i0,s2,lo8,hbv,stdZ]
  exact fin ⟨d,name,n⟩ 0 hQ _ g4
 have s2:binInt .neq (vi x) (vi 0)=some (vb true):=by rw [i64_neq]; simp [hx0]
 by_cases hx2:x=2
 ·have s3:binInt .neq (vi x) (vi 2)=some (vb false):=by rw [i64_neq]; simp [hx2]
  rw [if_neg (by simp [hx2])] at hQ
  simp only [i0,i2,s2,s3,lo8,hbv,stdZ]
  exact fin ⟨d,name,n⟩ 0 hQ _ g4
 ·have s3:binInt .neq (vi x) (vi 2)=some (vb true):=by rw [i64_neq]; simp [hx2]
  rw [if_pos ⟨hx0,hx2⟩] at hQ
  simp only [i0,i2,s2,s3,hbz,stdZ]
  exact fin SpotD.zero x hQ _ g4
theorem S.f106 (hE:Fold E) (h:WkO X H0 H w T M nx) (wf:T.WF) (s:SpotD) (hs:s.name.length<2 ^ 63) (k:BitVec 8) (text:List UInt8) (ht:text.length<2 ^ 63) (hc:T.CO)
  (hQ:∀ H',WkO X H0 H' w (T.make s.dir.i s.name k text).1 M nx->Q (.tuple #[(if (T.make s.dir.i s.name k text).2.2≠0 then PlaceD.zero else ⟨s.dir.m,(T.make s.dir.i s.name k text).2.1⟩:PlaceD).v,vi (T.make s.dir.i s.name k text).2.2]) H') :
  E.call (E.fid i.f106) [ptr w 0,s.v,u8 k,str text] H Q:=by
 apply hE.f106
 have z2:([(.int .i64 0),(.int .u16 0)]:List Value)=PlaceD.zero.cells:=rfl
 have h2:=(h.box s.cells).box PlaceD.zero.cells
 have h2:WkO ((X++[boxR H.next s.cells])++[boxR (H.next+1) PlaceD.zero.cells]) H0 ((H.new (.cells s.cells none)).new (.cells PlaceD.zero.cells none)) w T M nx:=h2
 simp only [F.f106,boxO_agg_z,AM.mk_some,mkPtr_eq_z,List.toList_toArray,z2,allocW_eq,nilq_p,stdZ]
 generalize (H.new (.cells s.cells none)).new (.cells PlaceD.zero.cells none)=H2 at *
 obtain ⟨p,q,hw,⟨m,L,hi,ki⟩,_⟩:=h2.open_
 have hb1:=h2.held2
 have c0:s.cells[0]? = some (vi s.dir.m):=rfl
 have c1:s.cells[1]? = some (u16 s.dir.i):=rfl
 have c2:s.cells[2]? = some (str s.name):=rfl
 simp only [hw,hb1,c1,c2,stdZ]
 refine Ino.cMake hE hi wf s.dir.i s.name hs k text ht hc fun L' H4 u4 =>?_
 have h4:=ki _ _ _ u4
 have hb4:=h4.held
 have hb41:=h4.held2
 generalize T.make s.dir.i s.name k text=r at *
 obtain ⟨T',n,e⟩:=r
 have i0:(.int .i64 0:Value)=vi 0:=rfl
 have fin:∀ (pl:PlaceD) (x:Int),(∀ H',WkO X H0 H' w T' M nx->Q (.tuple #[pl.v,vi x]) H')->(opt (storeN 2 (ptr (H.next+1) 0) pl.v H4) fun H5=>opt (loadN 2 (ptr (H.next+1) 0) H5) fun v19=>Q (.tuple #[v19,vi x]) H5):=by
  intro pl x hq
  have h5:=h4.put pl.cells
  have lo:loadN 2 (ptr (H.next+1) 0) (H4.put (H.next+1) (.cells pl.cells none))=some pl.v:=by rw [loadN_ptr,h5.held]; rfl
  simp only [put2 hb4 rfl,lo,stdZ]
  exact hq _ h5.drop.drop
 simp only at hQ ⊢
 by_cases he:e=0
 ·have s1:binInt .neq (vi e) (vi 0)=some (vb false):=by rw [i64_neq]; simp [he]
  have hbv:buildV [(0,1),(1,1)] #[(.int .i64 0),(.int .u16 0)] [(0,vi s.dir.m),(1,u16 n)]=some (PlaceD.v ⟨s.dir.m,n⟩):=rfl
  simp only [i0,s1,hb41,c0,hbv,stdZ]
  subst he
  simp only [ne_eq,not_true,if_false] at hQ
  exact fin ⟨s.dir.m,n⟩ 0 hQ
 ·have s1:binInt .neq (vi e) (vi 0)=some (vb true):=by rw [i64_neq]; simp [he]
  have hbz:buildV [(0,1),(1,1)] #[(.int .i64 0),(.int .u16 0)] []=some PlaceD.zero.v:=rfl
  simp only [i0,s1,hbz,stdZ]
  simp only [ne_eq,he,not_false_eq_true,if_true] at hQ
  exact fin PlaceD.zero e hQ
end
end Go.AM
end
section
namespace Go.AM
set_option maxRecDepth 20000
section
variable {X:List Res} {E:Sy} {H H' H0:AH} {Q:Value->AH->Prop} {w:Nat} {T:Tr} {M:List MntD} {nx:Int} {v:Value}
theorem S.f107 (hE:Fold E) (h:WkO X H0 H w T M nx) (wf:T.WF) (a b:SpotD) (hs:b.name.length<2 ^ 63) (hc:T.CO)
  (hQ:∀ H',WkO X H0 H' w (renameW T M a b).1 M nx->Q (vi (renameW T M a b).2) H'):E.call (E.fid i.f107) [ptr w 0,a.v,b.v] H Q:=by
 apply hE.f107
 have h2:=(h.box a.cells).box b.cells
 have h2:WkO ((X++[boxR H.next a.cells])++[boxR (H.next+1) b.cells]) H0 ((H.new (.cells a.cells none)).new (.cells b.cells none)) w T M nx:=h2
 have a0:a.cells[0]? = some (vi a.dir.m):=rfl
 have a1:a.cells[1]? = some (u16 a.dir.i):=rfl
 have a2:a.cells[2]? = some (str a.name):=rfl
 have a3:a.cells[3]? = some (u16 a.ino):=rfl
 have b0:b.cells[0]? = some (vi b.dir.m):=rfl
 have b1:b.cells[1]? = some (u16 b.dir.i):=rfl
 have b2:b.cells[2]? = some (str b.name):=rfl
 have b3:b.cells[3]? = some (u16 b.ino):=rfl
 have n0:(.int .u16 0:Value)=u16 0#16:=rfl
 simp only [F.f107,boxO_agg_z,AM.mk_some,mkPtr_eq_z,List.toList_toArray,nilq_p,stdZ]
 generalize (H.new (.cells a.cells none)).new (.cells b.cells none)=H2 at *
 have ha:=h2.held2
 have hb:=h2.held
 unfold renameW at hQ
 simp only [ha,a3,n0,u16_eql,stdZ]
 by_cases hi:a.ino=0#16
 ·rw [if_pos hi] at hQ
  simp only [hi,decide_true,stdZ]
  exact hQ _ h2.drop.drop
 rw [if_neg hi] at hQ
 simp only [hi,decide_false,ha,hb,a0,b0,stdZ]
 by_cases hm:a.dir.m=b.dir.m
 rotate_left
 ·rw [if_pos hm] at hQ
  have s1:binInt .neq (vi a.dir.m) (vi b.dir.m)=some (vb true):=by rw [i64_neq]; simp [hm]
  simp only [s1,stdZ]
  exact hQ _ h2.drop.drop
 rw [if_neg (by simpa using hm)] at hQ
 have s1:binInt .neq (vi a.dir.m) (vi b.dir.m)=some (vb false):=by rw [hm]; exact neq_f _
 obtain ⟨⟨p,m,Ly,q,nx',q1,q2,q3⟩,_⟩:=h2.at_
 simp only [s1,q1,ha,a3,stdZ]
 refine S.f39 hE q M nx' a.ino q3 fun H3 e3 =>?_
 have h3:=h2.mono e3
 have ha3:=h3.held2
 have hb3:=h3.held
 have q13:=e3.cells q1
 have q33:=q3.mono e3
 cases hu:M.any (uses a.ino) with
 | true =>
  rw [if_pos (.inl hu)] at hQ
  simp only [stdZ]
  exact hQ _ h3.drop.drop
 | false =>
  have move:∀ H4,WkO ((X++[boxR H.next a.cells])++[boxR (H.next+1) b.cells]) H0 H4 w T M nx->(∀ H',WkO X H0 H' w (T.move a.dir.i a.name b.dir.i b.name).1 M nx->Q (vi (T.move a.dir.i a.name b.dir.i b.name).2) H') ->
    (opt (nilCk (ptr w 0)) fun v33=>opt (addOff v33 0) fun v34=>opt (load1 v34 H4) fun v35=>opt (addOff (ptr H.next 0) 0) fun v36=>opt (addOff v36 1) fun v37=>opt (load1 v37 H4) fun v38=>opt (addOff (ptr H.next 0) 2) fun v39=>opt (load1 v39 H4) fun v40 =>
     opt (addOff (ptr (H.next+1) 0) 0) fun v41=>opt (addOff v41 1) fun v42=>opt (load1 v42 H4) fun v43=>opt (addOff (ptr (H.next+1) 0) 2) fun v44=>opt (load1 v44 H4) fun v45=>E.call (E.fid i.f12) [v35,v38,v40,v43,v45] H4 fun v46 H16=>Q v46 H16):=by
   intro H4 h4 hq
   obtain ⟨p,q,hw,⟨m,L,hi,ki⟩,_⟩:=h4.open_
   simp only [hw,h4.held2,h4.held,a1,a2,b1,b2,stdZ]
   refine Ino.cMove hE hi wf a.dir.i b.dir.i a.name b.name hs hc fun L' H5 u5 =>?_
   exact hq _ (ki _ _ _ u5).drop.drop
  by_cases hbi:b.ino=0#16
  ·rw [if_neg (by simp [hu,hbi])] at hQ
   have s4:binInt .neq (u16 b.ino) (u16 0#16)=some (vb false):=by rw [u16_neq]; simp [hbi]
   simp only [hb3,b3,n0,s4,stdZ]
   have:=move H3 h3 hQ
   simp only [stdZ] at this
   exact this
  ·have s4:binInt .neq (u16 b.ino) (u16 0#16)=some (vb true):=by rw [u16_neq]; simp [hbi]
   simp only [hb3,b3,n0,s4,q13,stdZ]
   refine S.f39 hE q M nx' b.ino q33 fun H4 e4 =>?_
   have h4:=h3.mono e4
   cases hu2:M.any (uses b.ino) with
   | true =>
    rw [if_pos (.inr ⟨hbi,hu2⟩)] at hQ
    simp only [stdZ]
    exact hQ _ h4.drop.drop
   | false =>
    rw [if_neg (by simp [hu,hu2])] at hQ
    simp only [stdZ]
    have:=move H4 h4 hQ
    simp only [stdZ] at this
    exact this
end
end Go.AM
end
section
namespace Go.AM
set_option maxRecDepth 20000
section
variable {X:List Res} {E:Sy} {H H' H0:AH} {Q:Value->AH->Prop} {w:Nat} {T:Tr} {M:List MntD} {nx:Int} {v:Value}
theorem okName_len {s:NameL} (h:okName s=true):s.length<=14:=by
 simp only [okName,Bool.and_eq_true,decide_eq_true_eq] at h
 exact h.1.1.2
theorem S.vfs_RightO (hE:Fold E) (hw:WkAt H w T M) (wf:T.WF) (hM:M.length<=1000) (hQ:∀ H',Ext H H'->Q (vb (rightT T M)) H'):E.call (E.fid i.f108) [ptr w 0] H Q:=by
 have h16:=wf.len16
 refine S.f108 hE hw (by omega) hM (fun n e he =>?_) (fun n=>by have:=wf.size n; omega) hQ
 have hok:=(wf.ents n e.1 e.2 he).2.2.1
 have:e.1.length<=14:=okName_len hok
 omega
theorem S.f51 (hE:Fold E) (hQ:∀ H',Ext H H'->Q (vb true) H'):E.call (E.fid i.f51) [] H Q:=by
 apply hE.f51
 have sa:(.string ⟨#[47,97]⟩:Value)=str [47,97]:=rfl
 have sab:(.string ⟨#[47,97,47,98]⟩:Value)=str [47,97,47,98]:=rfl
 have s0:(.string ⟨#[]⟩:Value)=str []:=rfl
 have k2:(.int .u8 2:Value)=u8 2#8:=rfl
 have i0:(.int .i64 0:Value)=vi 0:=rfl
 have i22:(.int .i64 22:Value)=vi 22:=rfl
 have eq0:binInt .eql (vi 0) (vi 0)=some (vb true):=rfl
 have eq22:binInt .eql (vi 22) (vi 22)=some (vb true):=rfl
 simp only [F.f51,stdZ]
 refine S.f110 hE 9 fun w H1 h1 =>?_
 have wf1:=Tr.new_wf 9
 have kd1:=Tr.KD.new 9
 refine S.f43 hE fun H2 e2 =>?_
 have h2:=h1.mono e2
 simp only [sa,stdZ]
 have f1:spottedW (Tr.new 9) tab0 ⟨0,1#16⟩ [47,97]=(⟨⟨0,1#16⟩,[97],0#16⟩,0):=by decide +kernel
 refine S.f109 hE h2.at_ wf1 (Tr.KD.lt kd1) ⟨0,1#16⟩ [47,97] (by decide) fun H3 e3 =>?_
 rw [f1]
 have lo4:∀ (K:AH) (s:SpotD) (H':AH),Ext (K.new (.cells s.cells none)) H'->loadN 4 (ptr K.next 0) H'=some s.v:=fun K s H' e=>by rw [loadN_ptr,e.cells (AH.get_new_self _ _)]; rfl
 have h3:=(h2.mono e3).mono ((Ext.refl H3).new (.cells (SpotD.cells ⟨⟨0,1#16⟩,[97],0#16⟩) none))
 simp only [allocW_eq,st4,lo4 H3 _ _ (Ext.refl _),k2,stdZ]
 generalize H3.new (.cells (SpotD.cells ⟨⟨0,1#16⟩,[97],0#16⟩) none)=H5 at *
 have f2:((Tr.new 9).make 1#16 [97] 2#8 []).2=(2#16,0):=by decide +kernel
 have wf2:=wf1.make 1#16 [97] 2#8 []
 have kd2:=kd1.make keeps_KD 1#16 [97] 2#8 []
 have ti2:=(Tr.Tidy.new 9).make 1#16 [97] 2#8 []
 refine S.f106 hE h3 wf1 ⟨⟨0,1#16⟩,[97],0#16⟩ (by decide) 2#8 [] (by decide) (by decide) fun H6 h6 =>?_
 have h6:WkO [] H H6 w ((Tr.new 9).make 1#16 [97] 2#8 []).1 tab0 1:=h6
 have f2':((Tr.new 9).make (SpotD.dir ⟨⟨0,1#16⟩,[97],0#16⟩).i (SpotD.name ⟨⟨0,1#16⟩,[97],0#16⟩) 2#8 []).2=(2#16,0):=f2
 rw [f2']
 have g3:spottedW ((Tr.new 9).make 1#16 [97] 2#8 []).1 tab0 ⟨0,1#16⟩ [47,97]=(⟨⟨0,1#16⟩,[97],2#16⟩,0):=by decide +kernel
 have g4:spottedW ((Tr.new 9).make 1#16 [97] 2#8 []).1 tab0 ⟨0,1#16⟩ [47,97,47,98]=(⟨⟨0,2#16⟩,[98],0#16⟩,0):=by decide +kernel
 have g5:(renameW ((Tr.new 9).make 1#16 [97] 2#8 []).1 tab0 ⟨⟨0,1#16⟩,[97],2#16⟩ ⟨⟨0,2#16⟩,[98],0#16⟩).2=22:=by decide +kernel
 have g6:(renameW ((Tr.new 9).make 1#16 [97] 2#8 []).1 tab0 ⟨⟨0,1#16⟩,[97],2#16⟩ ⟨⟨0,2#16⟩,[98],0#16⟩).1=((Tr.new 9).make 1#16 [97] 2#8 []).1:=by decide +kernel
 have co2:((Tr.new 9).make 1#16 [97] 2#8 []).1.CO:=by decide +kernel
 generalize ((Tr.new 9).make 1#16 [97] 2#8 []).1=T2 at *
 simp only [ne_eq,not_true,if_false,allocW_eq,st2,stdZ]
 have x7:Ext H6 (H6.new (.cells (PlaceD.cells ⟨0,2#16⟩) none)):=(Ext.refl _).new _
 have hb7:=AH.get_new_self H6 (.cells (PlaceD.cells ⟨0,2#16⟩) none)
 have h7:=h6.mono x7
 have st2':=st2 H6 ⟨0,2#16⟩
 simp only [st2',stdZ]
 generalize H6.new (.cells (PlaceD.cells ⟨0,2#16⟩) none)=H8 at *
 refine S.f43 hE fun H9 e9 =>?_
 simp only [sa,stdZ]
 refine S.f109 hE (h7.mono e9).at_ wf2 (Tr.KD.lt kd2) ⟨0,1#16⟩ [47,97] (by decide) fun H10 e10 =>?_
 rw [g3]
 have x11:Ext H10 (H10.new (.cells (SpotD.cells ⟨⟨0,1#16⟩,[97],2#16⟩) none)):=(Ext.refl _).new _
 have hb11:=AH.get_new_self H10 (.cells (SpotD.cells ⟨⟨0,1#16⟩,[97],2#16⟩) none)
 have l11:=lo4 H10 ⟨⟨0,1#16⟩,[97],2#16⟩
 simp only [allocW_eq,st4,stdZ]
 generalize H10.new (.cells (SpotD.cells ⟨⟨0,1#16⟩,[97],2#16⟩) none)=H12 at *
 have e812:=e9.trans (e10.trans x11)
 refine S.f43 hE fun H13 e13 =>?_
 simp only [sab,stdZ]
 refine S.f109 hE (h7.mono (e812.trans e13)).at_ wf2 (Tr.KD.lt kd2) ⟨0,1#16⟩ [47,97,47,98] (by decide) fun H14 e14 =>?_
 rw [g4]
 have x15:Ext H14 (H14.new (.cells (SpotD.cells ⟨⟨0,2#16⟩,[98],0#16⟩) none)):=(Ext.refl _).new _
 have l15:=lo4 H14 ⟨⟨0,2#16⟩,[98],0#16⟩
 simp only [allocW_eq,st4,stdZ]
 generalize H14.new (.cells (SpotD.cells ⟨⟨0,2#16⟩,[98],0#16⟩) none)=H16 at *
 have e1216:=e13.trans (e14.trans x15)
 have h16:=h7.mono (e812.trans e1216)
 have hbp:=(e812.trans e1216).cells hb7
 have hbf:=e1216.cells hb11
 have c3:(SpotD.cells ⟨⟨0,1#16⟩,[97],2#16⟩)[3]? = some (u16 2#16):=rfl
 have d1:(PlaceD.cells ⟨0,2#16⟩)[1]? = some (u16 2#16):=rfl
 simp only [i0,eq0,hbf,hbp,c3,d1,u16_eql,decide_true,stdZ]
 simp only [i0,eq0,hbf,hbp,c3,d1,u16_eql,decide_true,l11 _ e1216,l15 _ (Ext.refl _),stdZ]
 refine S.f107 hE h16 wf2 ⟨⟨0,1#16⟩,[97],2#16⟩ ⟨⟨0,2#16⟩,[98],0#16⟩ (by decide) co2 fun H17 h17 =>?_
 rw [g6] at h17
 rw [g5]
 simp only [i22,eq22,stdZ]
 refine S.vfs_RightO hE h17.at_ wf2 (by decide) fun H18 e18 =>?_
 rw [right_wf wf2 ti2 (fun m hm =>?_)]
 ·simp only [stdZ]
  exact hQ _ (h17.ext.trans e18)
 ·simp [tab0] at hm
  subst hm
  exact ⟨wf2.root.1,fun h=>(h rfl).elim⟩
end
end Go.AM
end
section
namespace Go.AM
set_option maxRecDepth 20000
section
variable {X:List Res} {E:Sy} {H H' H'' H0:AH} {Q:Value->AH->Prop} {w t p m:Nat} {L:LyL} {T:Tr} {M:List MntD} {nx k l:Int} {v:Value}
theorem GI.mntRight (g:GI k T M nx l):∀ m∈M,(T.node m.root).kind=2#8/\(m.id≠0->(T.node m.at_.i).kind=2#8):=fun m hm=>by
 obtain ⟨a,_,c⟩:=g.mnt m hm
 exact ⟨a,fun h=>(c h).2.1⟩
theorem GI.right (g:GI k T M nx l):rightT T M=true:=right_wf g.wf g.tidy g.mntRight
theorem GI.mlen (g:GI k T M nx l):M.length<=1000:=by have:=g.pin.len; omega
theorem Ino.newNames (h:Ino H p m L T) {kk:Nat} {n:BitVec 16} {y:Ly} (hk:L[kk]? = some (n,y)) (hd:(T.node n).kind=2#8) {r:Nat} {s:NameL} {k:BitVec 16} (e:Ext H H'') (hr:H.next<=r) (hm:MapAt str u16 H'' r [(s,k)]) :
  UpdI p m L T (L.set kk (n,{ y with nm:=some r,ord:=[(s,k)] })) (T.upd n (Nd.setE s k)) H (H''.put y.blk (.cells ((inC n (T.node n) y).set 3 (.map (some r))) none)):=by
 have hn:=h.node hk
 have hok:LyOk (T.node n) y:=h.cov.ok _ (List.mem_of_getElem? hk)
 obtain ⟨r0,hr0⟩:=hok.dir hd
 have u1:Upd (mapR str u16 r0 y.ord) (mapR str u16 r [(s,k)]) H H'':=⟨e.only,hm,fun b hb=>by
  simp [mapR] at hb
  subst hb
  exact ⟨.inr hr,hm.lt⟩,by simp [mapR]⟩
 have hL:nodeRs n (T.node n) y=[boxR y.blk (inC n (T.node n) y),growR 1 y.data (byteR (T.node n).data),mapR str u16 r0 y.ord]:=by simp [nodeRs,hr0]
 unfold nodeR at hn
 have hn0:=hn
 rw [hL] at hn
 have u2:=hn.set (k:=2) (r:=mapR str u16 r0 y.ord) rfl u1
 have o2:=hn.upd u2
 have hb2:H''.get y.blk = .cells (inC n (T.node n) y) none:=o2.holds (boxR y.blk (inC n (T.node n) y)) (by simp)
 have u3:=o2.set (k:=0) (r:=boxR y.blk (inC n (T.node n) y)) rfl (boxR.put hb2 ((inC n (T.node n) y).set 3 (.map (some r))))
 have u:=u2.trans u3
 refine h.set hk rfl (by show (T.node n).kind≠0#8; rw [hd]; decide) ⟨fun _=>⟨r,rfl⟩,fun hne=>(hne hd).elim,List.Perm.refl _⟩ ?_
 unfold nodeR
 rw [hL]
 exact u
theorem right_j1 (hE:Fold E) (hw:WkAt H w T M) (hl:T.N.length<=65536) (hM:M.length<=1000) (hnl:∀ n,∀ e∈(T.node n).ents,e.1.length<2 ^ 63) (hel:∀ n,(T.node n).ents.length<2 ^ 32) (hr:rightT T M=false) (hQ:∀ H',Q (vb true) H') :
  F.f52_j1 E Q (ptr w 0) H:=by
 simp only [F.f52_j1]
 refine S.f108 hE hw hl hM hnl hel fun H1 e1 =>?_
 rw [hr]
 have nt:un .not (vb false)=some (vb true):=rfl
 simp only [nt,stdZ]
 exact hQ _
theorem S.f52 (hE:Fold E) (av:Value) (acts:List GActD) (hv:Rows H 14 av (acts.map GActD.cells)) (hll:acts.length<=9223372036854775807) (hok:∀ x∈acts,x.act.ok H) (n what:BitVec 8) (hQ:∀ H',Q (vb true) H'):E.call (E.fid i.f52) [av,u8 n,u8 what] H Q:=by
 apply hE.f52
 simp only [F.f52]
 refine S.f51 hE fun H1 e1 =>?_
 simp only [stdZ]
 refine S.f48 hE av acts (hv.mono e1) hll (fun x hx=>(hok x hx).mono e1) fun H2 e2 =>?_
 have e12:=e1.trans e2
 cases hlt:lightL acts with
 | false =>
  simp only [stdZ]
  exact hQ _
 | true =>
 simp only [stdZ]
 refine S.f47 hE av acts (hv.mono e12) hll (fun x hx=>(hok x hx).mono e12) hlt fun w t T M nx H3 h3 g3 =>?_
 simp only [stdZ]
 refine S.vfs_RightO hE h3.at_ g3.wf g3.mlen fun H4 e4 =>?_
 rw [g3.right]
 have h4:=h3.mono e4
 obtain ⟨rv,mv,Y,h4,_,_⟩:=h4
 obtain ⟨p,q,hw4,⟨m,L,hi4,_⟩,_⟩:=h4.open_
 have h16:=g3.wf.len16
 simp only [hw4,stdZ]
 refine S.f13 hE hi4 (by omega) fun nv H5 e5 r5 f5 =>?_
 have h5:=h4.mono e5
 obtain ⟨p5,q5,hw5,⟨m5,L5,hi5,ki5⟩,_⟩:=h5.open_
 have hlv:=r5.lenSlc
 rw [u16R_length] at hlv
 have h1m:(1#16:BitVec 16)∈T.nums:=(Tr.nums_mem (by omega) 1#16).2 (by rw [g3.wf.root.1]; decide)
 have hpos:T.nums.length≠0:=by
  have:=List.length_pos_of_mem h1m
  omega
 have hrem:=i64_rem_nat n.toNat T.nums.length hpos
 have hlt2:n.toNat % T.nums.length<T.nums.length:=Nat.mod_lt _ (by omega)
 generalize n.toNat % T.nums.length=j at *
 obtain ⟨b,o,p1,p2⟩:=r5.ix (i:=j) (by rw [u16R_length]; exact hlt2)
 have hrw:(u16R T.nums)[j]'(by rw [u16R_length]; exact hlt2)=[u16 T.nums[j]]:=by simp [u16R]
 rw [hrw] at p2
 have p3:(H5.get b).cell o=some (u16 T.nums[j]):=by have:=row_at p2 (j:=0) (by omega); simpa using this
 have hmem:T.nums[j]∈T.nums:=List.getElem_mem hlt2
 have hkn:(T.node T.nums[j]).kind≠0#8:=(Tr.nums_mem (by omega) _).1 hmem
 generalize T.nums[j]=num at *
 simp only [hw5,u8_to_i64,hlv,hrem,p1,p3,stdZ]
 refine S.f8 hE hi5 num ?_
 rcases hi5.get num with ⟨k0,_⟩ | ⟨kk,yy,k0,k1,k3,k4,k5⟩
 ·exact (hkn k0).elim
 rw [nodeP_some hi5.cov.nd k1]
 have d6:(inC num (T.node num) yy)[6]? = some (vi (T.node num).links):=rfl
 have d1:(inC num (T.node num) yy)[1]? = some (u8 (T.node num).kind):=rfl
 have hmod:binInt .rem (u8 what) (.int .u8 3)=some (u8 (what % 3#8)):=u8_rem what 3#8 (by decide)
 have c0:(.int .u8 0:Value)=u8 0#8:=rfl
 have c1:(.int .u8 1:Value)=u8 1#8:=rfl
 have c2:(.int .u8 2:Value)=u8 2#8:=rfl
 have hnl:∀ (f:Nd->Nd) (B:Nat),B<2 ^ 63->(∀ e∈(f (T.node num)).ents,e∈(T.node num).ents\/e.1.length<=B)->∀ j,∀ e∈((T.upd num f).node j).ents,e.1.length<2 ^ 63:=fun f B hB hf j e he=>by
  rw [Tr.node_upd hkn] at he
  have old:∀ j,e∈(T.node j).ents->e.1.length<2 ^ 63:=fun j he=>by
   have:=okName_len (g3.wf.ents j e.1 e.2 he).2.2.1
   omega
  split at he
  ·rcases hf e he with h | h
   ·exact old _ h
   ·omega
  ·exact old _ he
 have hel:∀ (f:Nd->Nd),(f (T.node num)).ents.length<=40->∀ j,((T.upd num f).node j).ents.length<2 ^ 32:=fun f hf j=>by
  rw [Tr.node_upd hkn]
  split
  ·omega
  ·have:=g3.wf.size j; omega
 have hN:∀ f:Nd->Nd,(T.upd num f).N.length<=65536:=fun f=>by
  have:(T.upd num f).N.length=T.N.length:=by simp [Tr.upd]
  omega
 have names:∀ (s:NameL) (k:BitVec 16),s.length<=20->(okName s=false\/(T.node k).kind=0#8)->(T.node num).kind=2#8->mapW H5 fun v36 H8=>opt (setMap 1 v36 (str s) (u16 k) H8) fun H9=>opt (nilCk (ptr yy.blk 0)) fun v37=>opt (addOff v37 3) fun v38=>opt (store1 v38 v36 H9) fun H10=>F.f52_j1 E Q (ptr w 0) H10:=by
  intro s k hs hb hd
  have x6:Ext H5 (H5.new (.map [] 0 true)):=(Ext.refl _).new _
  have hm6:MapAt str u16 (H5.new (.map [] 0 true)) H5.next ([]:List (NameL×BitVec 16)):=MapAt.new H5
  obtain ⟨ob,_,s1,s2⟩:=hm6.set (kd:=1) (fun a b=>same_str a b) s k
  have e7:Ext H5 ((H5.new (.map [] 0 true)).put H5.next ob):=x6.put (Nat.le_refl _) ob
  have s2:MapAt str u16 ((H5.new (.map [] 0 true)).put H5.next ob) H5.next [(s,k)]:=s2
  simp only [mapW_eq,s1,stdZ]
  generalize hH7:(H5.new (.map [] 0 true)).put H5.next ob=H7 at *
  have u:=Ino.newNames hi5 k1 hd e7 (Nat.le_refl _) s2
  have hb7:=e7.cells k4
  have hst:store1 (ptr yy.blk 3) (.map (some H5.next)) H7=some (H7.put yy.blk (.cells ((inC num (T.node num) yy).set 3 (.map (some H5.next))) none)):=by
   rw [store1_ptr,if_pos (show plain1 (.map _)=true from rfl),hb7]; rfl
  simp only [hst,stdZ]
  have h8:=ki5 _ _ _ u
  exact right_j1 hE h8.at_ (hN _) g3.mlen (hnl (Nd.setE s k) 20 (by decide) fun e he=>by
   have:e=(s,k):=by simpa [Nd.setE] using he
   subst this
   exact .inr hs) (hel _ (by simp [Nd.setE])) (right_ents (by omega) hmem hd hb) hQ
 simp only [hmod,c0,u8_eql,stdZ]
 by_cases w0:what % 3#8=0#8
 ·have hbd:=(g3.wf.links_bd num)
  have hadd:binInt .add (vi (T.node num).links) (.int .i64 1)=some (vi ((T.node num).links+1)):=i64_add (by omega) (by omega)
  have u:=Ino.links hi5 k1 hkn 1
  have hst:store1 (ptr yy.blk 6) (vi ((T.node num).links+1)) H5=some (H5.put yy.blk (.cells ((inC num (T.node num) yy).set 6 (vi ((T.node num).links+1))) none)):=by
   rw [store1_ptr,if_pos (show plain1 (vi _)=true from rfl),k4]; rfl
  simp only [w0,decide_true,k4,d6,hadd,hst,stdZ]
  have h8:=ki5 _ _ _ u
  have hs:=g3.wf.size num
  exact right_j1 hE h8.at_ (hN _) g3.mlen (hnl (Nd.addL 1) 0 (by decide) fun e he => .inl he) (hel _ (by show (T.node num).ents.length<=40; omega)) (right_links g3.wf hmem) hQ
 by_cases w1:what % 3#8=1#8
 ·have d:¬ (1#8:BitVec 8)=0#8:=by decide
  simp only [w1,d,decide_true,decide_false,c1,u8_eql,k4,d1,c2,u8_neq,stdZ]
  by_cases hd:(T.node num).kind=2#8
  ·simp only [hd,ne_eq,not_true,decide_false,stdZ]
   have hk999:(T.node 999#16).kind=0#8:=by
    unfold Tr.node
    rw [List.getD_eq_getElem?_getD,List.getElem?_eq_none (by show _<=999; omega)]
    rfl
   have:=names [103,111,110,101] 999#16 (by decide) (.inr hk999) hd
   simp only [stdZ] at this
   exact this
  ·simp only [hd,ne_eq,not_false_eq_true,decide_true,stdZ]
   exact hQ _
 ·simp only [w0,w1,decide_false,c1,u8_eql,k4,d1,c2,u8_neq,stdZ]
  by_cases hd:(T.node num).kind=2#8
  ·simp only [hd,ne_eq,not_true,decide_false,stdZ]
   have:=names [97,47,98] 1#16 (by decide) (.inl (by decide)) hd
   simp only [stdZ] at this
   exact this
  ·simp only [hd,ne_eq,not_false_eq_true,decide_true,stdZ]
   exact hQ _
theorem S.law_VfsRight (hE:Fold E) (args:List Value) (ha:ArgsSV H [.slice 14 gactSh,.int .u8,.int .u8] args) (hQ:∀ H',Q (vb true) H'):E.call (E.fid i.f52) args H Q:=by
 obtain ⟨v1,_,rfl,h1,ha⟩:=ha.cons_inv
 obtain ⟨v2,_,rfl,h2,ha⟩:=ha.cons_inv
 obtain ⟨v3,_,rfl,h3,ha⟩:=ha.cons_inv
 obtain rfl:=ha.nil_inv
 obtain ⟨l,q1,q2,q3⟩:=ArgSV.gacts h1
 obtain ⟨x2,e2⟩:=SV.u8 (show SV H (.int .u8) [v2] from h2)
 obtain ⟨x3,e3⟩:=SV.u8 (show SV H (.int .u8) [v3] from h3)
 obtain rfl:v2=u8 x2:=by simpa using e2
 obtain rfl:v3=u8 x3:=by simpa using e3
 exact S.f52 hE v1 l q1 q2 q3 x2 x3 hQ
end
end Go.AM
end
