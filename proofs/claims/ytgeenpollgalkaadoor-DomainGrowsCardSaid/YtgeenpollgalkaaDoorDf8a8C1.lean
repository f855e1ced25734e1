/- CONTRACTS ON THE PRINTED FUNCTIONS. -/
import Derived.Test.YtgeenpollgalkaaDoorDf8a8C0
set_option linter.all false
section
namespace Go.AM
section
variable {E:Sy} {X:List Res} {H H' H0 Z:AH} {Q:Value->AH->Prop} {t w:Nat} {T T':Tr} {M M':List MntD} {nx nx':Int} {L:List Res} {s:Nat} {d:SetD}
theorem findW_kind (T:Tr) (M:List MntD) (c:PlaceD) (path:List UInt8) (follow:Bool):(findW T M c path follow).2=0->(T.node (findW T M c path follow).1.i).kind≠0#8:=by
 unfold findW
 split
 ·rename_i h; intro e; exact (h e).elim
 ·simp only
  split
  ·rename_i h; intro e; exact (h e).elim
  ·split
   ·intro e; simp at e
   ·rename_i h
    split
    ·intro e; simp at e
    ·intro _; exact h
theorem two_store {H:AH} {z c:List Value} (hz:z.length=2) (hc:c.length=2) (hp:c.all plain1=true):storeN 2 (ptr H.next 0) (.agg c.toArray) (H.new (.cells z none))=some (H.new (.cells c none)):=by
 rw [storeN_ptr,AH.get_new_self]
 have:AM.splice z 0 c=c:=by simp [splice,hz,hc]
 simp only [List.size_toArray,List.toList_toArray,hc,hz,hp,Nat.zero_add,Nat.le_refl,and_self,if_true,this,AH.new_put]
theorem of_ports {l:List (BitVec 16×BitVec 16)} (ps:List (BitVec 16×BitVec 16)) {v:Value} (hv:Rows H 2 v (ps.map fun p=>[u16 p.1,u16 p.2])) (hn:ps.length<2 ^ 63) {r1 r2:Nat} {b0 b1:List Value} {x0 x1 h:Nat} {hd:BitVec 16} {pl:List (BitVec 16×BitVec 16)} {H1:AH} (hl:l=[])
  (g:Has H H H1 [boxR x0 b0,boxR x1 b1,mapR u16 u16 r1 pl,mapR u16 u16 r2 l,boxR h [u16 hd,.map (some r1),.map (some r2)]])
  (hQ:∀ H',Ext H H'->SetAt (H'.since H.next) h ⟨hd,pl,ofPorts ps⟩->SetAt H' h ⟨hd,pl,ofPorts ps⟩->Q (.tuple #[ptr h 0,vi 0]) H') :
  LoopL (fun l H X0=>F.f42_l2 E Q (nth l 0) (nth l 1) (nth l 2) (nth l 3) H X0) [ptr h 0,v,vi ps.length,(.int .i64 0)] H1:=by
 subst hl
 refine LoopL.count ps.length (fun j ls H'=>ls=[ptr h 0,v,vi ps.length,vi j]/\Has H H H' [boxR x0 b0,boxR x1 b1,mapR u16 u16 r1 pl,mapR u16 u16 r2 (ofPorts (ps.take j)),boxR h [u16 hd,.map (some r1),.map (some r2)]]) ?_ ⟨rfl,g⟩
 rintro j _ H2 X hj hX ⟨rfl,g2⟩
 rcases Nat.lt_or_ge j ps.length with hjl | hjl
 ·have hX:=hX hjl
  have hjl':(j:Int)<ps.length:=by omega
  have hjj:=i64_inc (i:=j) (by omega)
  obtain ⟨b,o,f1,f2⟩:=(hv.mono g2.ext).ix (i:=j) (by simpa using hjl)
  rw [List.getElem_map] at f2
  have hst:ofPorts (ps.take (j+1))=addR ps[j].1 ps[j].2 (ofPorts (ps.take j)):=by
   unfold ofPorts
   rw [List.take_succ_eq_append_getElem hjl,List.foldl_append]; rfl
  rw [hst] at hX
  generalize ps[j]=p at *
  generalize ofPorts (ps.take j)=l at *
  have hlo:loadN 2 (ptr b o) H2=some (.agg [u16 p.1,u16 p.2].toArray):=by rw [loadN_ptr,f2]; rfl
  have hz2:storeN 2 (ptr H2.next 0) (.agg [u16 p.1,u16 p.2].toArray) (H2.new (.cells [(.int .u16 0),(.int .u16 0)] none))=some (H2.new (.cells [u16 p.1,u16 p.2] none)):=two_store rfl rfl rfl
  have g3:=g2.newbox [u16 p.1,u16 p.2]
  have hb3:=g3.box (k:=4) (b:=h) rfl
  have hp3:=g3.box (k:=5) (b:=H2.next) rfl
  have hm3:=g3.mapAt (k:=3) rfl
  obtain ⟨H4,m1,m2⟩:=g3.mapset (n:=3) (kd:=0) rfl (fun a b=>same_u16 a b) p.1 (getR p.1 l|||p.2)
  have m2:=m2.drop 5
  simp only [F.f42_l2,i64_lss,hjl',decide_true,f1,hlo,allocW_eq,hz2,hb3,hp3,look_u16 hm3,u16_or,m1,hjj,stdZ]
  exact hX _ _ ⟨rfl,m2⟩
 ·have hjl':¬ (j:Int)<ps.length:=by omega
  rw [List.take_of_length_le hjl] at g2
  simp only [F.f42_l2,i64_lss,hjl',decide_false,stdZ]
  have own:∀ {k:Nat} {r:Res} (_:[boxR x0 b0,boxR x1 b1,mapR u16 u16 r1 pl,mapR u16 u16 r2 (ofPorts ps),boxR h [u16 hd,.map (some r1),.map (some r2)]][k]? = some r),∀ b∈r.fp,H.next<=b:=fun hk b hb=>((g2.all _ (List.mem_of_getElem? hk)).2 b hb).1
  have o2:H.next<=r1:=own (k:=2) rfl r1 (by simp [mapR])
  have o3:H.next<=r2:=own (k:=3) rfl r2 (by simp [mapR])
  have o4:H.next<=h:=own (k:=4) rfl h (by simp [boxR])
  exact hQ _ g2.ext ⟨r1,r2,by rw [AH.since_get o4]; exact g2.box (k:=4) rfl,(g2.mapAt (k:=2) rfl).keep (AH.since_get o2),(g2.mapAt (k:=3) rfl).keep (AH.since_get o3)⟩ ⟨r1,r2,g2.box (k:=4) rfl,g2.mapAt (k:=2) rfl,g2.mapAt (k:=3) rfl⟩
theorem S.f42 (hE:Fold E) (h:WkAt H t T M) (wf:T.WF) (lt:T.LT) (x:PolX) (cs:List Value) (hx:PolXAt H x cs) (hf:x.paths.length<2 ^ 63/\x.ports.length<2 ^ 63) (hpl:∀ b∈x.paths,b.1.length<2 ^ 63) (c:PlaceD)
  (hbad:(x.set T M c).2≠0->∀ H',Ext H H'->Q (.tuple #[.pointer none,vi (x.set T M c).2]) H')
  (hok:(x.set T M c).2=0->∀ s H',Ext H H'->SetAt (H'.since H.next) s (x.set T M c).1->SetAt H' s (x.set T M c).1->Q (.tuple #[ptr s 0,vi 0]) H'):E.call (E.fid i.f42) [.agg cs.toArray,ptr t 0,c.v] H Q:=by
 apply hE.f42
 obtain ⟨v,pv,qv,rfl,_,hp,hq⟩:=hx
 have g0:Has H H H []:=Has.start (Ext.refl H)
 have g1:=g0.newbox [str x.name,u32 x.pol.default,v,u16 x.handled,pv,qv]
 have g2:=g1.newbox c.cells
 have g3:=g2.newmap u16 u16
 have g4:=g3.newmap u16 u16
 have hbv:∀ r1 r2,buildV [(0,1),(1,1),(2,1)] #[(.int .u16 0),(.map none),(.map none)] [(0,u16 x.handled),(1,.map (some r1)),(2,.map (some r2))]=some (.agg #[u16 x.handled,.map (some r1),.map (some r2)]):=fun r1 r2=>rfl
 simp only [F.f42,boxO_agg_z,AM.mk_some,mkPtr_eq_z,List.toList_toArray,nilq_p,stdZ]
 have hb2:=g2.box (k:=0) (b:=H.next) rfl
 have d3:([str x.name,u32 x.pol.default,v,u16 x.handled,pv,qv]:List Value)[3]? = some (u16 x.handled):=rfl
 generalize hH2:(H.new (.cells [str x.name,u32 x.pol.default,v,u16 x.handled,pv,qv] none)).new (.cells c.cells none)=H2 at *
 have n2:H2.next=H.next+2:=by subst hH2; simp
 simp only [hb2,mapW_eq,hbv,AM.mk_some,mkPtr_eq_z,stdZ]
 have hlt1:=g2.ext.1
 have g5:=g4.newbox [u16 x.handled,.map (some H2.next),.map (some (H2.new (.map [] 0 true)).next)]
 have hb5:=g5.box (k:=0) (b:=H.next) rfl
 have d4:([str x.name,u32 x.pol.default,v,u16 x.handled,pv,qv]:List Value)[4]? = some pv:=rfl
 have hlp:=hp.lenSlc
 rw [List.length_map] at hlp
 generalize hs:((H2.new (.map [] 0 true)).new (.map [] 0 true)).next=s at *
 have hsn:H.next<=s:=by subst hs; simp; omega
 simp only [AH.next_new_z] at hb5 g5 hs ⊢
 generalize hH5:((H2.new (.map [] 0 true)).new (.map [] 0 true)).new (.cells [u16 x.handled,.map (some H2.next),.map (some (H2.next+1))] none)=H5 at *
 simp only [hb5,d4,hlp,stdZ]
 have g5:Has H H H5 [boxR H.next [str x.name,u32 x.pol.default,v,u16 x.handled,pv,qv],boxR (H.next+1) c.cells,mapR u16 u16 H2.next [],mapR u16 u16 (H2.next+1) [],boxR s [u16 x.handled,.map (some H2.next),.map (some (H2.next+1))]]:=g5
 clear hH5 hs hH2 g4 g3 g2 g1
 generalize H2.next=r1 at *
 unfold PolX.set at hbad hok
 simp only at hbad hok
 refine LoopL.count x.paths.length (fun j ls H'=>∃ l,ls=[ptr t 0,ptr H.next 0,ptr (H.next+1) 0,ptr s 0,pv,vi x.paths.length,vi j]/\Has H H H' [boxR H.next [str x.name,u32 x.pol.default,v,u16 x.handled,pv,qv],boxR (H.next+1) c.cells,mapR u16 u16 r1 l,mapR u16 u16 (r1+1) [],boxR s [u16 x.handled,.map (some r1),.map (some (r1+1))]]/\ofPaths T M c [] x.paths=ofPaths T M c l (x.paths.drop j)) ?_ ⟨[],rfl,g5,rfl⟩
 rintro j _ H6 X hj hX ⟨l,rfl,g6,hof⟩
 rcases Nat.lt_or_ge j x.paths.length with hjl | hjl
 ·have hX:=hX hjl
  have hjl':(j:Int)<x.paths.length:=by omega
  have hjj:=i64_inc (i:=j) (by omega)
  obtain ⟨b,o,f1,f2⟩:=(hp.mono g6.ext).ix (i:=j) (by simpa using hjl)
  rw [List.getElem_map] at f2
  rw [List.drop_eq_getElem_cons hjl] at hof
  have hpj:=hpl x.paths[j] (List.getElem_mem hjl)
  generalize x.paths[j]=p at *
  have hlo:loadN 2 (ptr b o) H6=some (.agg [str p.1,u16 p.2].toArray):=by rw [loadN_ptr,f2]; rfl
  have hst:storeN 2 (ptr H6.next 0) (.agg [str p.1,u16 p.2].toArray) (H6.new (.cells [(.string ⟨#[]⟩),(.int .u16 0)] none))=some (H6.new (.cells [str p.1,u16 p.2] none)):=two_store rfl rfl rfl
  have g7:=g6.newbox [str p.1,u16 p.2]
  have hb7:=g7.box (k:=5) (b:=H6.next) rfl
  have hlc:loadN 2 (ptr (H.next+1) 0) (H6.new (.cells [str p.1,u16 p.2] none))=some c.v:=by rw [loadN_ptr,g7.box (k:=1) (b:=H.next+1) rfl]; rfl
  simp only [F.f42_l1,i64_lss,hjl',decide_true,f1,hlo,allocW_eq,hst,hlc,hb7,stdZ]
  refine S.f62 hE (h.mono g7.ext) wf lt c p.1 hpj true fun H8 e8 =>?_
  have g8:=g7.grow e8
  have hstep:ofStep T M c l p=if (findW T M c p.1 true).2≠0 then (l,(findW T M c p.1 true).2) else if fitsR (decide ((T.node (findW T M c p.1 true).1.i).kind=2#8)) p.2≠p.2 then (l,22) else (addR (findW T M c p.1 true).1.i p.2 l,0):=rfl
  have hfk:(findW T M c p.1 true).2=0->(T.node (findW T M c p.1 true).1.i).kind≠0#8:=findW_kind T M c p.1 true
  generalize findW T M c p.1 true=r at *
  have hst8:storeN 2 (ptr H8.next 0) r.1.v (H8.new (.cells [(.int .i64 0),(.int .u16 0)] none))=some (H8.new (.cells r.1.cells none)):=two_store rfl rfl rfl
  have g9:=g8.newbox r.1.cells
  simp only [allocW_eq,hst8,i64_neq,stdZ]
  by_cases he:r.2=0
  rotate_left
  ·rw [if_pos (by simpa using he)] at hstep
   have hof2:ofPaths T M c [] x.paths=(l,r.2):=by rw [hof,ofPaths,hstep,if_pos (by simpa using he)]
   rw [hof2] at hbad
   simp only [ne_eq,he,not_false_eq_true,decide_true,stdZ]
   exact hbad he _ g9.ext
  rw [if_neg (by simpa using he)] at hstep
  obtain ⟨⟨q,m,L',q',nx,q1,q2,q3⟩,_⟩:=h.mono g9.ext
  have hb9:=g9.box (k:=6) (b:=H8.next) rfl
  have hb9':=g9.box (k:=5) (b:=H6.next) rfl
  have hb9s:=g9.box (k:=4) (b:=s) rfl
  have hm9:=g9.mapAt (k:=2) rfl
  have e1:r.1.cells[1]? = some (u16 r.1.i):=rfl
  have n2':(.int .u8 2:Value)=u8 2#8:=rfl
  simp only [ne_eq,he,not_true,decide_false,q1,hb9,e1,stdZ]
  refine S.f8 hE q2 r.1.i ?_
  rcases q2.get r.1.i with ⟨k0,_⟩ | ⟨kk,yy,k0,k1,k2,k3,k4⟩
  ·exact (hfk he k0).elim
  simp only [nodeP_some q2.cov.nd k1,k3,inC,n2',u8_eql,hb9',stdZ]
  refine S.f41 hE p.2 _ ?_
  refine ⟨rfl,?_⟩
  simp only [u16_neq,stdZ]
  by_cases hfit:fitsR (decide ((T.node r.1.i).kind=2#8)) p.2=p.2
  ·rw [if_neg (by simpa using hfit)] at hstep
   have hof2:ofPaths T M c [] x.paths=ofPaths T M c (addR r.1.i p.2 l) (x.paths.drop (j+1)):=by rw [hof,ofPaths,hstep,if_neg (by simp)]
   obtain ⟨H10,m1,m2⟩:=g9.mapset (n:=2) (kd:=0) rfl (fun a b=>same_u16 a b) r.1.i (getR r.1.i l|||p.2)
   have m2:=(m2.drop 6).drop 5
   simp only [ne_eq,hfit,not_true,decide_false,hb9s,hb9,hb9',e1,look_u16 hm9,u16_or,m1,hjj,stdZ]
   exact hX _ _ ⟨addR r.1.i p.2 l,rfl,m2,hof2⟩
  ·rw [if_pos (by simpa using hfit)] at hstep
   have hof2:ofPaths T M c [] x.paths=(l,22):=by rw [hof,ofPaths,hstep,if_pos (by simp)]
   rw [hof2] at hbad
   simp only [ne_eq,hfit,not_false_eq_true,decide_true,stdZ]
   exact hbad (by simp) _ g9.ext
 ·have hjl':¬ (j:Int)<x.paths.length:=by omega
  rw [List.drop_of_length_le hjl] at hof
  have hof:ofPaths T M c [] x.paths=(l,0):=hof
  rw [hof] at hok
  have d5:([str x.name,u32 x.pol.default,v,u16 x.handled,pv,qv]:List Value)[5]? = some qv:=rfl
  have hlq:=hq.lenSlc
  rw [List.length_map] at hlq
  simp only [F.f42_l1,i64_lss,hjl',decide_false,g6.box (k:=0) (b:=H.next) rfl,d5,hlq,stdZ]
  exact of_ports x.ports hq hf.2 rfl g6 fun H' e hz hs=>hok rfl s H' e hz hs
end
end Go.AM
end
section
namespace Go.AM
section
variable {E:Sy} {X:List Res} {H H' H0 Z:AH} {Q:Value->AH->Prop} {t w:Nat} {T T':Tr} {M M':List MntD} {nx nx':Int} {L:List Res} {s:Nat} {d:SetD}
def awkPol:PolX:=⟨[],⟨0#32,[]⟩,4#16,[([47,97],4#16)],[]⟩
theorem S.f36 (hE:Fold E) (hQ:∀ H',Ext H H'->Q (vb true) H'):E.call (E.fid i.f36) [] H Q:=by
 apply hE.f36
 simp only [F.f36]
 refine S.f59 hE 9 fun w H1 h1 =>?_
 obtain ⟨p,q,hw,⟨m,L,hi,ki⟩,_⟩:=h1.open_
 have s97:(.string ⟨#[97]⟩:Value)=str [97]:=rfl
 have s0:(.string ⟨#[]⟩:Value)=str []:=rfl
 have n1:(.int .u16 1:Value)=u16 1#16:=rfl
 have n4:(.int .u16 4:Value)=u16 4#16:=rfl
 have n7:(.int .u16 7:Value)=u16 7#16:=rfl
 have n0:(.int .u16 0:Value)=u16 0#16:=rfl
 have k2:(.int .u8 2:Value)=u8 2#8:=rfl
 simp only [nilq_p,hw,s97,s0,n1,k2,stdZ]
 have f1:((Tr.new 9).make 1#16 [97] 2#8 []).2=(2#16,0):=by decide +kernel
 refine Ino.cMake hE hi (Tr.new_wf 9) 1#16 [97] (by decide) 2#8 [] (by decide) (by decide) fun L2 H2 u2 =>?_
 have h2:=ki _ _ _ u2
 have w2:=(Tr.new_wf 9).make 1#16 [97] 2#8 []
 have d2:=(Tr.KD.new 9).make keeps_KD 1#16 [97] 2#8 []
 rw [f1]
 generalize hT2:((Tr.new 9).make 1#16 [97] 2#8 []).1=T2 at *
 have sp:(.string ⟨#[47,97]⟩:Value)=str [47,97]:=rfl
 have b1:buildV [(0,1),(1,1)] #[str [],u16 0#16] [(0,str [47,97]),(1,u16 4#16)]=some (.agg #[str [47,97],u16 4#16]):=rfl
 have b2:=buildS_one 2 [str [],u16 0#16] [str [47,97],u16 4#16] rfl rfl
 have b2:buildS 1 2 #[str [],u16 0#16] [(0,.agg #[str [47,97],u16 4#16])]=some (.cells [str [47,97],u16 4#16] none,mkSlc 1 1):=b2
 have z32:(.int .u32 0:Value)=u32 0#32:=rfl
 have b3:∀ v,buildV [(0,1),(1,1),(2,1),(3,1),(4,1),(5,1)] #[str [],u32 0#32,(.slice none 0 0),u16 0#16,(.slice none 0 0),(.slice none 0 0)] [(3,u16 4#16),(4,slc v 0 1 1)]=some (.agg #[str [],u32 0#32,nilS,u16 4#16,slc v 0 1 1,nilS]):=fun v=>rfl
 simp only [sp,s0,n4,n0,b1,b2,z32,b3,stdZ]
 have x3:Ext H2 (H2.new (.cells [str [47,97],u16 4#16] none)):=(Ext.refl _).new _
 have r3:Rows (H2.new (.cells [str [47,97],u16 4#16] none)) 2 (slc H2.next 0 1 1) ([([47,97],4#16)].map fun p:List UInt8×BitVec 16=>[str p.1,u16 p.2]):=Rows.made (f:=none) (by rw [AH.get_new_self]; rfl) (.inl rfl) rfl (by simp)
 have h3:=h2.mono x3
 generalize H2.new (.cells [str [47,97],u16 4#16] none)=H3 at *
 refine S.f29 hE fun H4 e4 =>?_
 have h4:=h3.mono e4
 have hp:PolXAt H4 awkPol [str [],u32 0#32,nilS,u16 4#16,slc H2.next 0 1 1,nilS]:=⟨nilS,_,nilS,rfl,⟨[],Rows.nil _ _ none,rfl,fun i h=>by simp [awkPol] at h⟩,r3.mono e4,Rows.nil _ _ none⟩
 have f2:(awkPol.set T2 tab0 ⟨0,1#16⟩).2=0:=by subst hT2; decide +kernel
 have f3:(awkPol.set T2 tab0 ⟨0,1#16⟩).1.at_ 2#16=4#16:=by subst hT2; decide +kernel
 have f4:(awkPol.set T2 tab0 ⟨0,1#16⟩).1.denied 4#16 7#16 [⟨0,1#16⟩]=4#16:=by subst hT2; decide +kernel
 have f5:(awkPol.set T2 tab0 ⟨0,1#16⟩).1.denied 4#16 7#16 [⟨0,2#16⟩]=0#16:=by subst hT2; decide +kernel
 refine S.f42 hE h4.at_ w2 (Tr.KD.lt d2) awkPol _ hp ⟨by decide,by decide⟩ (by simp [awkPol]) ⟨0,1#16⟩ (fun h=>(h f2).elim) fun _ s H5 e5 _ hs5 =>?_
 generalize (awkPol.set T2 tab0 ⟨0,1#16⟩).1=d at *
 have h5:=h4.mono e5
 simp only [i64_eql,decide_true,stdZ]
 refine S.f43 hE hs5 2#16 ?_
 simp only [f3,n4,u16_eql,decide_true,stdZ]
 refine S.f29 hE fun H6 e6 =>?_
 have hz2:([(.int .i64 0),u16 0#16]:List Value)=PlaceD.zero.cells:=rfl
 have bp:∀ c:PlaceD,buildS 1 2 #[(.int .i64 0),u16 0#16] [(0,c.v)]=some (.cells c.cells none,mkSlc 1 1):=fun c=>buildS_one 2 [vi 0,u16 0#16] c.cells rfl rfl
 have rp:∀ (H:AH) (c:PlaceD),Rows (H.new (.cells c.cells none)) 2 (slc H.next 0 1 1) (placeR [c]):=fun H c=>Rows.made (f:=none) (by rw [AH.get_new_self]; simp [placeR]) (.inl rfl) rfl (by simp [placeR,PlaceD.cells])
 have x7:Ext H6 (H6.new (.cells (PlaceD.cells ⟨0,1#16⟩) none)):=(Ext.refl _).new _
 simp only [bp,n0,n4,n7,stdZ]
 refine S.f44 hE (hs5.mono (e6.trans x7)) 4#16 7#16 _ _ (rp H6 ⟨0,1#16⟩) (by decide) fun H8 e8 =>?_
 have bv:buildV [(0,1),(1,1)] #[(.int .i64 0),u16 0#16] [(1,u16 2#16)]=some (PlaceD.v ⟨0,2#16⟩):=rfl
 have x9:Ext H8 (H8.new (.cells (PlaceD.cells ⟨0,2#16⟩) none)):=(Ext.refl _).new _
 simp only [f4,u16_eql,decide_true,bv,bp,n0,n4,n7,stdZ]
 refine S.f44 hE (hs5.mono (e6.trans (x7.trans (e8.trans x9)))) 4#16 7#16 _ _ (rp H8 ⟨0,2#16⟩) (by decide) fun H10 e10 =>?_
 simp only [f5,n0,u16_eql,decide_true,stdZ]
 exact hQ _ ((h5.mono (e6.trans (x7.trans (e8.trans (x9.trans e10))))).ext)
end
end Go.AM
end
section
namespace Go.AM
section
variable {X:List Res} {E:Sy} {H0 H H' H'':AH} {Q:Value->AH->Prop} {p m:Nat} {L L' L'':LyL} {T T' T'' T2 T2':Tr} {t:Nat} {nv nv' mv:Value} {nx:Int} {mr:List (List Value)}
theorem ofInt_nat16 (j:Nat):BitVec.ofInt 16 (j:Int)=BitVec.ofNat 16 j:=by
 apply BitVec.eq_of_toNat_eq
 simp
theorem conv16 (a:Nat):convInt .u16 (vi a)=some (u16 (BitVec.ofNat 16 a)):=by rw [i64_to_u16,ofInt_nat16]
end
end Go.AM
end
section
namespace Go.AM
set_option maxRecDepth 20000
abbrev SetL:=List (Nat×SetD)
def setR (l:SetL):List (List Value):=l.map fun x=>[ptr x.1 0]
theorem setR_length (l:SetL):(setR l).length=l.length:=by simp [setR]
theorem setR_plain (l:SetL):∀ r∈setR l,r.all plain1=true:=by
 intro r hr
 obtain ⟨x,_,rfl⟩:=List.mem_map.1 hr
 rfl
structure SetsAt (H:AH) (v:Value) (l:SetL):Prop where
 rows:Rows H 1 v (setR l)
 sets:∀ x∈l,SetAt H x.1 x.2
def DomAt (H:AH) (dv:Value) (l:SetL):Prop:=(dv = .pointer none/\l=[])\/∃ b v,dv=ptr b 0/\H.get b = .cells [v] none/\SetsAt H v l
section
variable {X:List Res} {E:Sy} {H0 H H' H'':AH} {Q:Value->AH->Prop} {w t s:Nat} {T T':Tr} {M M':List MntD} {nx nx' k:Int} {d:SetD} {v dv:Value} {l:SetL}
theorem SetsAt.mono (h:SetsAt H v l) (e:Ext H H'):SetsAt H' v l:=⟨h.rows.mono e,fun x hx=>(h.sets x hx).mono e⟩
theorem DomAt.mono (h:DomAt H dv l) (e:Ext H H'):DomAt H' dv l:=by
 rcases h with h | ⟨b,v,h1,h2,h3⟩
 ·exact .inl h
 ·exact .inr ⟨b,v,h1,e.cells h2,h3.mono e⟩
theorem SetsAt.len (h:SetsAt H v l):AM.lenSlc v=some (vi l.length):=by
 have:=h.rows.lenSlc
 rwa [setR_length] at this
theorem SetsAt.elem (h:SetsAt H v l) {i:Nat} (hi:i<l.length):∃ b o,ixSlc 1 v (vi i)=some (ptr b o)/\(H.get b).cell o=some (ptr (l[i]).1 0)/\SetAt H (l[i]).1 (l[i]).2:=by
 obtain ⟨b,o,f1,f2⟩:=h.rows.ix (i:=i) (by rw [setR_length]; exact hi)
 have hrow:(setR l)[i]'(by rw [setR_length]; exact hi)=[ptr (l[i]).1 0]:=by simp [setR]
 rw [hrow] at f2
 exact ⟨b,o,f1,by have:=row_at f2 (j:=0) (by omega); simpa using this,h.sets _ (List.getElem_mem hi)⟩
theorem nilD:binNil eqPtr .eql (.pointer none) (.pointer none)=some (vb true):=rfl
theorem nilDn:binNil eqPtr .neq (.pointer none) (.pointer none)=some (vb false):=rfl
theorem S.f3 (hE:Fold E) (h:DomAt H dv l) (hQ:Q (vi l.length) H):E.call (E.fid i.f3) [dv] H Q:=by
 apply hE.f3
 rcases h with ⟨rfl,rfl⟩ | ⟨b,v,rfl,h2,h3⟩
 ·simp only [F.f3,nilD,stdZ]
  exact hQ
 ·simp only [F.f3,nilq_p,h2,h3.len,stdZ]
  exact hQ
theorem S.f2 (hE:Fold E) (h:DomAt H dv l) (hl:l.length<=1000) (hQ:∀ v H',Ext H H'->Grow zH H' 1 v (setR l)->FreshV H.next v->(∀ x∈l,SetAt H' x.1 x.2)->Q v H'):E.call (E.fid i.f2) [dv] H Q:=by
 apply hE.f2
 rcases h with ⟨rfl,rfl⟩ | ⟨b,v,rfl,h2,h3⟩
 ·simp only [F.f2,nilD,stdZ]
  exact hQ _ _ (Ext.refl _) (Grow.nil _ _ _) (by intro b hb; simp [blk] at hb) (by simp)
 ·have hb0:buildS 0 1 #[(.pointer none)] []=some (.cells [] none,mkSlc 0 0):=buildS0 1 [.pointer none] rfl
  have e1:Ext H (H.new (.cells [] none)):=(Ext.refl H).new _
  have g1:Grow zH (H.new (.cells [] none)) 1 (slc H.next 0 0 0) []:=Grow.room (zH_get _) (AH.get_new_self _ _) rfl
  have h4:=h3.mono e1
  obtain ⟨v',H',a1,a2,a3⟩:=g1.app (bytes:=8) (Nat.zero_le _) h4.rows (setR_plain l) (by decide) (by decide) (by rw [setR_length]; simp; omega) (by rw [setR_length]; simp; omega)
  obtain ⟨e2,f2⟩:=grew_ext a3 e1 (fun b hb=>by simp [blk] at hb; omega)
  have hap:app 1 8 (slc H.next 0 0 0) v (H.new (.cells [] none))=some (v',H'):=a1
  simp only [F.f2,nilq_p,hb0,e1.cells h2,hap,stdZ]
  exact hQ _ _ e2 (by simpa using a2) f2 fun x hx=>(h3.sets x hx).mono e2
theorem S.domain_Domain_With_nil (hE:Fold E) (hQ:Q (.tuple #[.pointer none,vi 201]) H):E.call (E.fid i.f4) [dv,.pointer none] H Q:=by
 apply hE.f4
 simp only [F.f4,nilD,stdZ]
 exact hQ
theorem S.f4 (hE:Fold E) (h:DomAt H dv l) (hs:SetAt H s d) (hl:l.length<=1000) (hbad:16<=l.length->Q (.tuple #[.pointer none,vi 27]) H)
  (hok:l.length<16->∀ b H',Ext H H'->H.next<=b->DomAt H' (ptr b 0) (l++[(s,d)])->Q (.tuple #[ptr b 0,vi 0]) H'):E.call (E.fid i.f4) [dv,ptr s 0] H Q:=by
 apply hE.f4
 simp only [F.f4,nilq_p,stdZ]
 refine S.f3 hE h ?_
 by_cases h16:16<=l.length
 ·have h16':(16:Int)<=l.length:=by omega
  simp only [i64_geq,ge_iff_le,h16',decide_true,stdZ]
  exact hbad h16
 ·have h16':¬ (16:Int)<=l.length:=by omega
  simp only [i64_geq,ge_iff_le,h16',decide_false,stdZ]
  refine S.f2 hE h hl fun v H2 e2 g2 f2 s2 =>?_
  have hbS:buildS 1 1 #[(.pointer none)] [(0,ptr s 0)]=some (.cells [ptr s 0] none,mkSlc 1 1):=buildS_one 1 [.pointer none] [ptr s 0] rfl rfl
  obtain ⟨v',H3,a1,a2,a3⟩:=g2.app1 (bytes:=8) (Nat.zero_le _) [ptr s 0] rfl rfl (by decide) (by decide) (by rw [setR_length]; omega)
  obtain ⟨e3,f3⟩:=grew_ext a3 e2 f2
  have hbv:buildV [(0,1)] #[(.slice none 0 0)] [(0,v')]=some (.agg #[v']):=by
   have:=a2.plain
   rcases a2.2 with ⟨hz,_⟩ | ⟨b,f,c,cs,_,rfl,_⟩
   ·simp at hz
   ·rfl
  have x4:Ext H3 (H3.new (.cells [v'] none)):=(Ext.refl _).new _
  simp only [hbS,a1,hbv,stdZ]
  refine hok (by omega) _ _ (e3.trans x4) e3.1 (.inr ⟨H3.next,v',rfl,AH.get_new_self _ _,⟨?_,?_⟩⟩)
  ·have:=a2.toRows.mono x4
   simpa [setR] using this
  ·intro x hx
   rcases List.mem_append.1 hx with hx | hx
   ·rcases h with ⟨_,rfl⟩ | ⟨b,v0,_,_,h3⟩
    ·simp at hx
    ·exact ((h3.sets x hx).mono e3).mono x4
   ·simp only [List.mem_singleton] at hx
    subst hx
    exact (hs.mono e3).mono x4
def domDenied (l:SetL) (want n:BitVec 16) (above:List PlaceD):BitVec 16:=l.foldl (fun r x=>r|||x.2.denied want n above) 0#16
theorem domDenied_take (l:SetL) (want n:BitVec 16) (above:List PlaceD) {j:Nat} (h:j<l.length):domDenied (l.take (j+1)) want n above=domDenied (l.take j) want n above|||(l[j]).2.denied want n above:=by
 unfold domDenied
 rw [List.take_succ,List.getElem?_eq_getElem h,List.foldl_append]; rfl
theorem above_289 (T:Tr) (M:List MntD):∀ (f:Nat) (p:PlaceD),(aboveN T M f p).length<=f
 | 0,p=>by simp [aboveN]
 | f+1,p=>by
  rw [aboveN]
  cases nextA T M p with
  | none=>simp
  | some q=>have:=above_289 T M f q; simp only [List.length_cons]; omega
theorem aboveW_len (T:Tr) (M:List MntD) (p:PlaceD):(aboveW T M p).length<=289:=by
 unfold aboveW
 split
 ·exact above_289 T M 289 p
 ·simp
theorem S.f1 (hE:Fold E) (h:DomAt H dv l) (ht:WkAt H t T M) (ao:AtOk T M) (hl:l.length<2 ^ 62) (want n:BitVec 16) (c:PlaceD) (hQ:∀ H',Ext H H'->Q (u16 (domDenied l want n (aboveW T M c))) H'):E.call (E.fid i.f1) [dv,ptr t 0,u16 want,u16 n,c.v] H Q:=by
 apply hE.f1
 have x1:Ext H (H.new (.cells c.cells none)):=(Ext.refl H).new _
 have hb:=AH.get_new_self H (.cells c.cells none)
 simp only [F.f1,stdZ]
 have h1:=h.mono x1
 have ht1:=ht.mono x1
 generalize H.new (.cells c.cells none)=H1 at *
 refine S.f3 hE h1 ?_
 by_cases h0:l.length=0
 ·have:l=[]:=List.length_eq_zero_iff.1 h0
  subst this
  simp only [i64_eql,List.length_nil,Int.ofNat_zero,Int.natCast_zero,decide_true,stdZ]
  exact hQ _ x1
 ·have h0':¬ (l.length:Int)=0:=by omega
  have hlo:loadN 2 (ptr H.next 0) H1=some c.v:=by rw [loadN_ptr,hb]; rfl
  simp only [i64_eql,h0',decide_false,hlo,stdZ]
  refine S.f60 hE ht1 ao c fun v H2 e2 r2 =>?_
  rcases h1.mono e2 with ⟨_,rfl⟩ | ⟨b,sv,rfl,h2,h3⟩
  ·simp at h0
  simp only [h2,h3.len,stdZ]
  have i0:(.int .i64 0:Value)=vi ((0:Nat):Int):=rfl
  have n0:(.int .u16 0:Value)=u16 (domDenied (l.take 0) want n (aboveW T M c)):=rfl
  rw [i0,n0]
  refine LoopL.count l.length (fun j ls H'=>ls=[u16 want,u16 n,v,u16 (domDenied (l.take j) want n (aboveW T M c)),sv,vi l.length,vi j]/\Ext H2 H') ?_ ⟨rfl,Ext.refl _⟩
  rintro j _ H3 X hj hX ⟨rfl,e3⟩
  rcases Nat.lt_or_ge j l.length with hjl | hjl
  ·have hX:=hX hjl
   have hjl':(j:Int)<l.length:=by omega
   have hjj:=i64_inc (i:=j) (by omega)
   obtain ⟨b',o',p1,p2,p3⟩:=(h3.mono e3).elem hjl
   rw [domDenied_take l want n _ hjl] at hX
   simp only [F.f1_l1,i64_lss,hjl',decide_true,p1,p2,stdZ]
   refine S.f44 hE p3 want n v _ (r2.mono e3) (by have:=aboveW_len T M c; omega) fun H4 e4 =>?_
   simp only [u16_or,hjj,stdZ]
   exact hX _ _ ⟨rfl,e3.trans e4⟩
  ·have hjl':¬ (j:Int)<l.length:=by omega
   have:j=l.length:=by omega
   subst this
   rw [List.take_length]
   simp only [F.f1_l1,i64_lss,hjl',decide_false,stdZ]
   exact hQ _ (x1.trans (e2.trans e3))
end
end Go.AM
end
section
namespace Go.AM
set_option maxRecDepth 20000
section
variable {X:List Res} {E:Sy} {H0 H H' H'':AH} {Q:Value->AH->Prop} {w t s:Nat} {T T':Tr} {M M':List MntD} {nx nx' k:Int} {d:SetD} {v dv:Value} {l:SetL}
theorem granted_none (h n:BitVec 16) (ps:List (BitVec 16×BitVec 16)) (l:List PlaceD):(SetD.mk h [] ps).granted n l=0#16:=by
 unfold SetD.granted
 have h0:(SetD.mk h [] ps).at_ n=0#16:=rfl
 rw [h0]
 induction l with
 | nil=>rfl
 | cons p l ih =>
  rw [List.foldl_cons]
  have:(0#16|||(SetD.mk h [] ps).at_ p.i)=0#16:=by show (0#16|||0#16)=0#16; decide
  rw [this]
  exact ih
theorem SetL.two {l:SetL} {a b:SetD} (h:l.map Prod.snd=[a,b]) (want n:BitVec 16) (above:List PlaceD):domDenied l want n above=a.denied want n above|||b.denied want n above:=by
 match l,h with
 | [x,y],h =>
  simp only [List.map_cons,List.map_nil,List.cons.injEq,and_true] at h
  obtain ⟨rfl,rfl⟩:=h
  simp [domDenied]
def awkS (r:BitVec 16):Small:=⟨0#8,0#8,0#8,[],r,[],[],[]⟩
theorem S.f37 (hE:Fold E) (hQ:∀ H',Ext H H'->Q (vb true) H'):E.call (E.fid i.f37) [] H Q:=by
 apply hE.f37
 simp only [F.f37]
 refine S.f36 hE fun H1 e1 =>?_
 simp only [stdZ]
 refine S.f59 hE 9 fun w H2 h2 =>?_
 have hbs:buildS 2 1 #[(.int .u16 0)] [(0,(.int .u16 4)),(1,(.int .u16 2))]=some (.cells [u16 4#16,u16 2#16] none,mkSlc 2 2):=buildS_full 2 1 [u16 0#16] [(0,u16 4#16),(1,u16 2#16)] [u16 4#16,u16 2#16] rfl rfl rfl rfl (by
  intro v hv
  simp only [List.mem_cons,List.not_mem_nil,or_false] at hv
  rcases hv with rfl | rfl <;> rfl)
 have l2:AM.lenSlc (slc H2.next 0 2 2)=some (vi ((2:Nat):Int)):=rfl
 have i0:(.int .i64 0:Value)=vi ((0:Nat):Int):=rfl
 simp only [hbs,l2,i0,stdZ]
 have x3:Ext H2 (H2.new (.cells [u16 4#16,u16 2#16] none)):=(Ext.refl _).new _
 have hb3:=AH.get_new_self H2 (.cells [u16 4#16,u16 2#16] none)
 have h3:=h2.mono x3
 generalize H2.new (.cells [u16 4#16,u16 2#16] none)=H3 at *
 generalize H2.next=b at *
 let rs:List (BitVec 16):=[4#16,2#16]
 refine LoopL.count 2 (fun j ls H'=>∃ dv l,ls=[ptr w 0,dv,slc b 0 2 2,vi ((2:Nat):Int),vi j]/\Ext H3 H'/\DomAt H' dv l/\l.map Prod.snd=(rs.take j).map (fun r=>⟨r,[],[]⟩)) ?_ ⟨.pointer none,[],rfl,Ext.refl _,.inl ⟨rfl,rfl⟩,rfl⟩
 rintro j _ H4 X hj hX ⟨dv,l,rfl,e4,hd,hm⟩
 have h4:=h3.mono e4
 rcases Nat.lt_or_ge j 2 with hj2 | hj2
 ·have hX:=hX hj2
  have hjl':((j:Nat):Int)<((2:Nat):Int):=by omega
  have hjj:=i64_inc (i:=j) (by omega)
  have hll:l.length=j:=by
   have:=congrArg List.length hm
   simp [rs] at this
   omega
  obtain ⟨r,hr,p2⟩:∃ r:BitVec 16,rs[j]? = some r/\(ixSlc 1 (slc b 0 2 2) (vi j)=some (ptr b j)/\(H4.get b).cell j=some (u16 r)):=by
   rw [e4.cells hb3]
   match j,hj2 with
   | 0,_=>exact ⟨4#16,rfl,rfl,rfl⟩
   | 1,_=>exact ⟨2#16,rfl,rfl,rfl⟩
  have htk:rs.take (j+1)=rs.take j++[r]:=by rw [List.take_succ,hr]; rfl
  have hr2:(r&&&51199#16)=r:=by
   have:r∈rs:=List.mem_of_getElem? hr
   simp only [rs,List.mem_cons,List.not_mem_nil,or_false] at this
   rcases this with rfl | rfl <;> rfl
  have hbv:buildV [(0,1),(1,1),(2,1),(3,1),(4,1),(5,1),(6,1),(7,1)] #[(.int .u8 0),(.int .u8 0),(.int .u8 0),(.slice none 0 0),(.int .u16 0),(.slice none 0 0),(.slice none 0 0),(.slice none 0 0)] [(4,u16 r)]=some (.agg [u8 0#8,u8 0#8,u8 0#8,nilS,u16 r,nilS,nilS,nilS].toArray):=rfl
  have hsm:SmallAt H4 (awkS r) [u8 0#8,u8 0#8,u8 0#8,nilS,u16 r,nilS,nilS,nilS]:=⟨nilS,nilS,nilS,nilS,rfl,⟨[],Rows.nil _ _ none,rfl,fun i h=>by simp [awkS] at h⟩,Rows.nil _ _ none,Rows.nil _ _ none,Rows.nil _ _ none,by simp [awkS],by simp [awkS],by simp [awkS],by simp [awkS]⟩
  simp only [F.f37_l1,i64_lss,hjl',decide_true,p2.1,p2.2,hbv,stdZ]
  refine S.f33 hE (awkS r) _ hsm fun H5 cp e5 hp =>?_
  refine S.f29 hE fun H6 e6 =>?_
  have h6:=(h4.mono e5).mono e6
  have hset:(PolX.set (Tr.new 9) tab0 ⟨0,1#16⟩ (awkS r).pol)=(⟨r,[],[]⟩,0):=by
   show (SetD.mk (r&&&51199#16) [] [],(0:Int))=_
   rw [hr2]
  refine S.f42 hE h6.at_ (Tr.new_wf 9) (Tr.KD.lt (Tr.KD.new 9)) (awkS r).pol cp (hp.mono e6) ⟨by show (0:Nat)<_; omega,by show (0:Nat)<_; omega⟩ (fun b hb=>by simp [awkS,Small.pol,Small.pathsTo] at hb) ⟨0,1#16⟩ (fun hbad=>by rw [hset] at hbad; exact (hbad rfl).elim) fun _ s H7 e7 _ hs =>?_
  rw [hset] at hs
  simp only [stdZ]
  refine S.f4 hE (hd.mono (e5.trans (e6.trans e7))) hs (by omega) (fun hb=>by omega) fun _ b' H8 e8 _ hd8 =>?_
  simp only [hjj,stdZ]
  refine hX _ _ ⟨_,l++[(s,⟨r,[],[]⟩)],rfl,e4.trans (e5.trans (e6.trans (e7.trans e8))),hd8,?_⟩
  rw [htk]
  simp [hm]
 ·have:j=2:=by omega
  subst this
  have hlt:¬ (((2:Nat):Int)<((2:Nat):Int)):=by omega
  have hm:l.map Prod.snd=[⟨4#16,[],[]⟩,⟨2#16,[],[]⟩]:=hm
  have hll:(l.length:Int)=2:=by
   have:=congrArg List.length hm
   simp at this
   omega
  simp only [F.f37_l1,i64_lss,hlt,decide_false,stdZ]
  refine S.f3 hE hd ?_
  simp only [hll,i64_eql,decide_true,stdZ]
  refine S.f29 hE fun H5 e5 =>?_
  have n7:(.int .u16 7:Value)=u16 7#16:=rfl
  have n1:(.int .u16 1:Value)=u16 1#16:=rfl
  have n6:(.int .u16 6:Value)=u16 6#16:=rfl
  simp only [n7,n1,stdZ]
  refine S.f1 hE (hd.mono e5) (h4.mono e5).at_ tab0_atOk (by omega) 7#16 1#16 ⟨0,1#16⟩ fun H6 e6 =>?_
  have hden:domDenied l 7#16 1#16 (aboveW (Tr.new 9) tab0 ⟨0,1#16⟩)=6#16:=by
   rw [SetL.two hm]
   unfold SetD.denied
   rw [granted_none,granted_none]; rfl
  simp only [hden,n6,u16_eql,decide_true,stdZ]
  exact hQ _ (e1.trans (h4.ext.trans (e5.trans e6)))
end
end Go.AM
end
section
namespace Go.AM
set_option maxRecDepth 20000
def AH.plus (Z:AH) (n:Nat) (H:AH):AH:=⟨H.next,fun b=>if b<n then Z.get b else H.get b⟩
section
variable {E:Sy} {H H' H0 Z:AH} {Q:Value->AH->Prop} {dv v:Value} {l:SetL} {s:Nat} {d:SetD} {L:List Res}
theorem AH.get_plus {n:Nat} (hn:n<=H'.next) (b:Nat):(Z.plus n H').get b=if b<n then Z.get b else H'.get b:=by
 unfold AH.plus
 simp only [AH.get]
 by_cases hb:b<H'.next
 ·rw [if_pos hb]
 ·have h1:¬ b<n:=by omega
  simp [h1,hb]
theorem Has.calleeP (h:Has H0 Z H L) (e:Ext H H'):Has H0 (Z.plus H.next H') H' L/\Sub Z (Z.plus H.next H')/\Sub (H'.since H.next) (Z.plus H.next H'):=by
 have hg:=fun b=>AH.get_plus (Z:=Z) e.1 b
 have sz:Sub Z (Z.plus H.next H'):=⟨Nat.le_trans h.sub.1 e.1,fun b hb=>by
  rw [hg]
  split
  ·rfl
  ·exact (hb (AH.get_ge _ (Nat.le_trans h.sub.1 (by omega)))).elim⟩
 refine ⟨h.refreeze e ⟨sz,fun b hb=>by rw [hg,if_pos hb]⟩ ⟨Nat.le_refl _,fun b hb =>?_⟩,sz,⟨?_,fun b hb =>?_⟩⟩
 ·rw [hg] at hb ⊢
  split
  ·rename_i hlt
   rw [if_pos hlt] at hb
   rw [e.get hlt]
   exact h.sub.2 b hb
  ·rfl
 ·exact (since_sub H' H.next).1
 ·rw [AH.get_since] at hb ⊢
  split at hb
  ·rename_i hle
   rw [hg,if_neg (by omega),if_pos hle]
  ·exact (hb rfl).elim
theorem SetAt.sub2 (h:SetAt Z s d) (z:Sub Z H):SetAt H s d:=by
 obtain ⟨r1,r2,h1,h2,h3⟩:=h
 have hm:∀ {r:Nat} {m:List (BitVec 16×BitVec 16)},MapAt u16 u16 Z r m->H.get r=Z.get r:=fun {r m} hm=>z.2 r (by
  obtain ⟨es,cl,hh,_⟩:=hm
  rw [hh]; simp)
 exact ⟨r1,r2,by rw [z.2 s (by rw [h1]; simp),h1],h2.keep (hm h2),h3.keep (hm h3)⟩
theorem DomAt.sub (h:DomAt Z dv l) (z:Sub Z H):DomAt H dv l:=by
 rcases h with h | ⟨b,v,rfl,hb,h⟩
 ·exact .inl h
 ·exact .inr ⟨b,v,rfl,by rw [z.2 b (by rw [hb]; simp),hb],⟨h.rows.sub z,fun x hx=>(h.sets x hx).sub2 z⟩⟩
theorem S.domain_Domain_WithZ (hE:Fold E) {n:Nat} (hn:n<=H.next) (hz:Sub Z (Z.plus n H)) (zs:Sub (Z.plus n H) H) (h:DomAt Z dv l) (hs:SetAt (H.since n) s d) (hl:l.length<=1000) (hbad:16<=l.length->Q (.tuple #[.pointer none,vi 27]) H)
  (hok:l.length<16->∀ b H',Ext H H'->DomAt (Z.plus n H') (ptr b 0) (l++[(s,d)])->Q (.tuple #[ptr b 0,vi 0]) H'):E.call (E.fid i.f4) [dv,ptr s 0] H Q:=by
 apply hE.f4
 have hH:=(h.sub hz).sub zs
 simp only [F.f4,nilq_p,stdZ]
 refine S.f3 hE hH ?_
 by_cases h16:16<=l.length
 ·have h16':(16:Int)<=l.length:=by omega
  simp only [i64_geq,ge_iff_le,h16',decide_true,stdZ]
  exact hbad h16
 ·have h16':¬ (16:Int)<=l.length:=by omega
  simp only [i64_geq,ge_iff_le,h16',decide_false,stdZ]
  refine S.f2 hE hH hl fun v H2 e2 g2 f2 s2 =>?_
  have hbS:buildS 1 1 #[(.pointer none)] [(0,ptr s 0)]=some (.cells [ptr s 0] none,mkSlc 1 1):=buildS_one 1 [.pointer none] [ptr s 0] rfl rfl
  obtain ⟨v',H3,a1,a2,a3⟩:=g2.app1 (bytes:=8) (Nat.zero_le _) [ptr s 0] rfl rfl (by decide) (by decide) (by rw [setR_length]; omega)
  obtain ⟨e3,f3⟩:=grew_ext a3 e2 f2
  have hbv:buildV [(0,1)] #[(.slice none 0 0)] [(0,v')]=some (.agg #[v']):=by
   have:=a2.plain
   rcases a2.2 with ⟨hz,_⟩ | ⟨b,f,c,cs,_,rfl,_⟩
   ·simp at hz
   ·rfl
  have x4:Ext H3 (H3.new (.cells [v'] none)):=(Ext.refl _).new _
  simp only [hbS,a1,hbv,stdZ]
  have e4:=e3.trans x4
  have hn4:n<=(H3.new (.cells [v'] none)).next:=Nat.le_trans hn e4.1
  have hgp:=fun b=>AH.get_plus (Z:=Z) hn4 b
  have h3n:n<=H3.next:=Nat.le_trans hn e3.1
  have sz:Sub (Z.plus n H) (Z.plus n (H3.new (.cells [v'] none))):=⟨e4.1,fun b hb=>by
   rw [AH.get_plus hn] at hb
   rw [hgp,AH.get_plus hn]
   split
   ·rfl
   ·rename_i hlt
    rw [if_neg hlt] at hb
    exact e4.get (AH.lt_of_get hb)⟩
  have ss:Sub (H.since n) (Z.plus n (H3.new (.cells [v'] none))):=⟨Nat.le_trans (since_sub H n).1 e4.1,fun b hb=>by
   rw [AH.get_since] at hb ⊢
   split at hb
   ·rename_i hle
    rw [hgp,if_neg (by omega),if_pos hle]
    exact e4.get (AH.lt_of_get hb)
   ·exact (hb rfl).elim⟩
  refine hok (by omega) H3.next _ e4 (.inr ⟨H3.next,v',rfl,by rw [hgp,if_neg (by omega)]; exact AH.get_new_self _ _,⟨?_,?_⟩⟩)
  ·have hr:=a2.toRows.mono x4
   have hr:Rows (H3.new (.cells [v'] none)) 1 v' (setR (l++[(s,d)])):=by simpa [setR] using hr
   refine ⟨hr.len,?_⟩
   rcases hr.at_ with g | ⟨b,o,c,g1,g2,g3,g4⟩
   ·exact .inl g
   ·have hb:=f3 b (by rw [g1]; rfl)
    exact .inr ⟨b,o,c,g1,g2,by rw [hgp,if_neg (by omega)]; exact g3,by rw [hgp,if_neg (by omega)]; exact g4⟩
  ·intro x hx
   rcases List.mem_append.1 hx with hx | hx
   ·rcases h with ⟨_,rfl⟩ | ⟨b,v0,_,_,h3⟩
    ·simp at hx
    ·exact ((h3.sets x hx).sub2 hz).sub2 sz
   ·simp only [List.mem_singleton] at hx
    subst hx
    exact hs.sub2 ss
theorem eqp_neq (b:Nat):binNil eqPtr .neq (ptr b 0) (ptr b 0)=some (vb false):=by simp [binNil,eqPtr,ptr]
theorem S.f0 (hE:Fold E) {dw:Value} {x y:Nat} (h:DomAt H dv (l.take x)) (h':DomAt H dw (l.take y)) (hi:x<=l.length) (hj:y<=l.length) (hl:l.length<=1000) (hQ:∀ H',Ext H H'->Q (vb (decide (y<=x))) H'):E.call (E.fid i.f0) [dv,dw] H Q:=by
 apply hE.f0
 have li:(l.take x).length=x:=by rw [List.length_take]; omega
 have lj:(l.take y).length=y:=by rw [List.length_take]; omega
 simp only [F.f0]
 refine S.f3 hE h ?_
 refine S.f3 hE h' ?_
 rw [li,lj]
 by_cases hij:y<=x
 rotate_left
 ·have:(x:Int)<y:=by omega
  simp only [i64_lss,this,decide_true,stdZ]
  simpa [hij] using hQ H (Ext.refl _)
 have hlt:¬ (x:Int)<y:=by omega
 simp only [i64_lss,hlt,decide_false,stdZ]
 refine S.f2 hE h' (by omega) fun v H2 e2 g2 _ _ =>?_
 have r2:=g2.toRows
 have hlv:=r2.lenSlc
 rw [setR_length,lj] at hlv
 have i0:(.int .i64 0:Value)=vi ((0:Nat):Int):=rfl
 have hd2:=h.mono e2
 simp only [hlv,i0,stdZ]
 refine LoopL.count y (fun q ls H'=>ls=[dv,v,vi y,vi q]/\H'=H2) ?_ ⟨rfl,rfl⟩
 rintro q _ H3 X0 hq hX ⟨rfl,rfl⟩
 rcases Nat.lt_or_ge q y with hqj | hqj
 ·have hX:=hX hqj
  have hqj':(q:Int)<y:=by omega
  have hqq:=i64_inc (i:=q) (by omega)
  obtain ⟨b,o,p1,p2⟩:=r2.ix (i:=q) (by rw [setR_length,lj]; exact hqj)
  have hrow:(setR (l.take y))[q]'(by rw [setR_length,lj]; exact hqj)=[ptr (l[q]'(by omega)).1 0]:=by simp [setR]
  rw [hrow] at p2
  have p3:(H3.get b).cell o=some (ptr (l[q]'(by omega)).1 0):=by have:=row_at p2 (j:=0) (by omega); simpa using this
  rcases hd2 with ⟨_,hnil⟩ | ⟨bb,vv,rfl,hb,hs⟩
  ·have:=congrArg List.length hnil
   rw [li] at this
   simp at this
   omega
  obtain ⟨b',o',q1,q2,_⟩:=hs.elem (i:=q) (by rw [li]; omega)
  have q2:(H3.get b').cell o'=some (ptr (l[q]'(by omega)).1 0):=by rw [q2]; simp
  simp only [F.f0_l1,i64_lss,hqj',decide_true,p1,p3,hb,q1,q2,eqp_neq,hqq,stdZ]
  exact hX _ _ ⟨rfl,rfl⟩
 ·have hqj':¬ (q:Int)<y:=by omega
  simp only [F.f0_l1,i64_lss,hqj',decide_false,stdZ]
  simpa [hij] using hQ H3 e2
end
end Go.AM
end
section
namespace Go.AM
set_option maxRecDepth 20000
section
variable {X:List Res} {E:Sy} {H0 H H' H'' Z:AH} {Q:Value->AH->Prop} {w t s:Nat} {T T':Tr} {M M':List MntD} {nx nx' k:Int} {d:SetD} {v dv:Value} {l:SetL}
def ptrR (D:List Value):List (List Value):=D.map fun x=>[x]
theorem ptrR_length (D:List Value):(ptrR D).length=D.length:=by simp [ptrR]
structure Doms (Z:AH) (D:List Value) (l:SetL):Prop where
 len:D.length=l.length+1
 le:l.length<=16
 all:∀ q (h:q<D.length),DomAt Z D[q] (l.take q)
theorem Doms.sub {D:List Value} (h:Doms Z D l) (z:Sub Z H):Doms H D l:=⟨h.len,h.le,fun q hq=>(h.all q hq).sub z⟩
theorem Doms.elem {D:List Value} {lv:Value} (hv:Rows H 1 lv (ptrR D)) {q:Nat} (hq:q<D.length):∃ b o,ixSlc 1 lv (vi q)=some (ptr b o)/\(H.get b).cell o=some D[q]:=by
 obtain ⟨b,o,p1,p2⟩:=hv.ix (i:=q) (by rw [ptrR_length]; exact hq)
 have hrow:(ptrR D)[q]'(by rw [ptrR_length]; exact hq)=[D[q]]:=by simp [ptrR]
 rw [hrow] at p2
 exact ⟨b,o,p1,by have:=row_at p2 (j:=0) (by omega); simpa using this⟩
theorem grows_l5 (hE:Fold E) {y:SetL} {v6:Value} (hv:Rows H 1 v6 (setR y)) (hl:y.length<=16) (hQ:∀ H',Q (vb true) H') :
  LoopL (fun l H X0=>F.f38_l5 E Q (nth l 0) (nth l 1) (nth l 2) (nth l 3) H X0) [dv,v6,vi y.length,(.int .i64 0)] H:=by
 have i0:(.int .i64 0:Value)=vi ((0:Nat):Int):=rfl
 rw [i0]
 refine LoopL.count y.length (fun q ls H'=>ls=[dv,v6,vi y.length,vi q]/\H'=H) ?_ ⟨rfl,rfl⟩
 rintro q _ H3 X0 hq hX ⟨rfl,rfl⟩
 rcases Nat.lt_or_ge q y.length with hqj | hqj
 ·have hX:=hX hqj
  have hqj':(q:Int)<y.length:=by omega
  have hqq:=i64_inc (i:=q) (by omega)
  obtain ⟨b,o,p1,p2⟩:=hv.ix (i:=q) (by rw [setR_length]; exact hqj)
  have hrow:(setR y)[q]'(by rw [setR_length]; exact hqj)=[ptr (y[q]).1 0]:=by simp [setR]
  rw [hrow] at p2
  have p3:(H3.get b).cell o=some (ptr (y[q]).1 0):=by have:=row_at p2 (j:=0) (by omega); simpa using this
  simp only [F.f38_l5,i64_lss,hqj',decide_true,p1,p3,nilq_p,hqq,stdZ]
  exact hX _ _ ⟨rfl,rfl⟩
 ·have hqj':¬ (q:Int)<y.length:=by omega
  simp only [F.f38_l5,i64_lss,hqj',decide_false,stdZ]
  refine S.domain_Domain_With_nil hE ?_
  simp only [i64_eql,decide_true,stdZ]
  exact hQ _
theorem grows_l4 (hE:Fold E) {D:List Value} {lv:Value} (hv:Rows H0 1 lv (ptrR D)) (hD:Doms H0 D l) {k:Nat} (hk:k<D.length) (e0:Ext H0 H) {v18:Value} (g:Grow zH H 1 v18 (setR (l.take k))) (f:FreshV H0.next v18) (hQ:∀ H',Q (vb true) H') :
  LoopL (fun l H X0=>F.f38_l4 E Q (nth l 0) (nth l 1) (nth l 2) (nth l 3) (nth l 4) (nth l 5) H X0) [lv,dv,vi k,v18,vi (l.take k).length,(.int .i64 0)] H:=by
 have i0:(.int .i64 0:Value)=vi ((0:Nat):Int):=rfl
 have hle:=hD.le
 have hlk:(l.take k).length<=16:=by rw [List.length_take]; omega
 rw [i0]
 have hcase:(l.take k=[])\/∃ b f c cs,v18=slc b 0 (l.take k).length c/\H.get b = .cells cs f/\(l.take k).length<=cs.length/\H0.next<=b:=by
  rcases g.2 with ⟨h,_⟩ | ⟨b,fx,c,cs,_,rfl,q1,q2,q3,_⟩
  ·exact .inl (by simpa [setR] using h)
  ·rw [setR_length] at q2
   exact .inr ⟨b,fx,c,cs,by rw [setR_length],q1,by omega,f b rfl⟩
 refine LoopL.count (l.take k).length (fun q ls H'=>ls=[lv,dv,vi k,v18,vi (l.take k).length,vi q]/\Ext H0 H'/\((l.take k=[])\/∃ b f c cs,v18=slc b 0 (l.take k).length c/\H'.get b = .cells cs f/\(l.take k).length<=cs.length/\H0.next<=b)) ?_ ⟨rfl,e0,hcase⟩
 rintro q _ H3 X0 hq hX ⟨rfl,e3,hc⟩
 rcases Nat.lt_or_ge q (l.take k).length with hqj | hqj
 ·have hX:=hX hqj
  have hqj':(q:Int)<(l.take k).length:=by omega
  have hqq:=i64_inc (i:=q) (by omega)
  rcases hc with h | ⟨b,fx,c,cs,hv18,q1,q2,q3⟩
  ·rw [h] at hqj; simp at hqj
  have x1:ixSlc 1 v18 (vi (q:Int))=some (ptr b q):=by rw [hv18]; exact arr_ix hqj
  have hst:store1 (ptr b q) (.pointer none) H3=some (H3.put b (.cells (cs.set q (.pointer none)) fx)):=by
   rw [store1_ptr,if_pos (show plain1 (.pointer none)=true from rfl),q1]
   simp only [show q<cs.length by omega,if_true]
  simp only [F.f38_l4,i64_lss,hqj',decide_true,x1,hst,hqq,stdZ]
  exact hX _ _ ⟨rfl,e3.put q3 _,.inr ⟨b,fx,c,_,hv18,AH.get_put_self _ _ (AH.lt_cells q1),by simpa using q2,q3⟩⟩
 ·have hqj':¬ (q:Int)<(l.take k).length:=by omega
  obtain ⟨b,o,p1,p2⟩:=Doms.elem (hv.mono e3) hk
  have hd:=(hD.all k hk).mono e3
  simp only [F.f38_l4,i64_lss,hqj',decide_false,p1,p2,stdZ]
  refine S.f2 hE hd (by omega) fun v6 H4 e4 g4 _ _ =>?_
  have r4:=g4.toRows
  have hl4:=r4.lenSlc
  rw [setR_length] at hl4
  simp only [hl4,stdZ]
  exact grows_l5 hE r4 hlk hQ
theorem grows_l3 (hE:Fold E) {D:List Value} {lv:Value} (hv:Rows H 1 lv (ptrR D)) (hD:Doms H D l) {a:Nat} (ha:a<D.length) {X0:List Value->AH->Prop} {t1:Value}
  (next:∀ H',Ext H H'->X0 [t1,lv,dv,lv,vi D.length,vi ((a+1:Nat):Int)] H') :
  LoopL (fun l H X1=>F.f38_l3 E Q X0 (nth l 0) (nth l 1) (nth l 2) (nth l 3) (nth l 4) (nth l 5) (nth l 6) (nth l 7) (nth l 8) (nth l 9) (nth l 10) H X1) [t1,lv,dv,vi a,D[a],lv,vi D.length,vi a,lv,vi D.length,(.int .i64 0)] H:=by
 have i0:(.int .i64 0:Value)=vi ((0:Nat):Int):=rfl
 have hle:=hD.le
 have hlen:=hD.len
 have haa:=i64_inc (i:=a) (by omega)
 generalize ha1:a+1=a1 at *
 rw [i0]
 refine LoopL.count D.length (fun q ls H'=>ls=[t1,lv,dv,vi a,D[a],lv,vi D.length,vi a,lv,vi D.length,vi q]/\Ext H H') ?_ ⟨rfl,Ext.refl _⟩
 rintro q _ H3 X1 hq hX ⟨rfl,e3⟩
 rcases Nat.lt_or_ge q D.length with hqj | hqj
 ·have hX:=hX hqj
  have hqj':(q:Int)<D.length:=by omega
  have hqq:=i64_inc (i:=q) (by omega)
  obtain ⟨b,o,p1,p2⟩:=Doms.elem (hv.mono e3) hqj
  simp only [F.f38_l3,i64_lss,hqj',decide_true,p1,p2,stdZ]
  refine S.f0 hE (l:=l) (x:=a) (y:=q) ((hD.all a ha).mono e3) ((hD.all q hqj).mono e3) (by omega) (by omega) (by omega) fun H4 e4 =>?_
  have hii:decide ((q:Int)<=a)=decide (q<=a):=by rw [decide_eq_decide]; omega
  have hbn:∀ a:Bool,binBool .neq (vb a) (vb a)=some (vb false):=fun a=>by cases a <;> rfl
  simp only [i64_leq,hii,hbn,hqq,stdZ]
  exact hX _ _ ⟨rfl,e3.trans e4⟩
 ·have hqj':¬ (q:Int)<D.length:=by omega
  simp only [F.f38_l3,i64_lss,hqj',decide_false,haa,stdZ]
  exact next _ e3
theorem grows_l2 (hE:Fold E) {D:List Value} {lv:Value} (hv:Rows H 1 lv (ptrR D)) (hD:Doms H D l) (at_:BitVec 8) (hQ:∀ H',Q (vb true) H') :
  LoopL (fun l H X0=>F.f38_l2 E Q (nth l 0) (nth l 1) (nth l 2) (nth l 3) (nth l 4) (nth l 5) H X0) [u8 at_,lv,dv,lv,vi D.length,(.int .i64 0)] H:=by
 have i0:(.int .i64 0:Value)=vi ((0:Nat):Int):=rfl
 have hle:=hD.le
 have hlen:=hD.len
 rw [i0]
 refine LoopL.count D.length (fun q ls H'=>ls=[u8 at_,lv,dv,lv,vi D.length,vi q]/\Ext H H') ?_ ⟨rfl,Ext.refl _⟩
 rintro q _ H3 X0 hq hX ⟨rfl,e3⟩
 have hlv:=(hv.mono e3).lenSlc
 rw [ptrR_length] at hlv
 rcases Nat.lt_or_ge q D.length with hqj | hqj
 ·have hX:=hX hqj
  have hqj':(q:Int)<D.length:=by omega
  obtain ⟨b,o,p1,p2⟩:=Doms.elem (hv.mono e3) hqj
  have hd:=(hD.all q hqj).mono e3
  have lq:(l.take q).length=q:=by rw [List.length_take]; omega
  simp only [F.f38_l2,i64_lss,hqj',decide_true,p1,p2,stdZ]
  refine S.f3 hE hd ?_
  rw [lq]
  simp only [i64_neq,ne_eq,not_true,decide_false,stdZ]
  refine S.f2 hE hd (by omega) fun v H4 e4 g4 _ _ =>?_
  have hl4:=g4.toRows.lenSlc
  rw [setR_length,lq] at hl4
  have hlv4:=(hv.mono (e3.trans e4)).lenSlc
  rw [ptrR_length] at hlv4
  simp only [hl4,i64_neq,ne_eq,not_true,decide_false,hlv4,stdZ]
  exact grows_l3 hE (hv.mono (e3.trans e4)) ⟨hD.len,hD.le,fun q hq=>(hD.all q hq).mono (e3.trans e4)⟩ hqj fun H' e'=>hX _ _ ⟨rfl,e3.trans (e4.trans e')⟩
 ·have hqj':¬ (q:Int)<D.length:=by omega
  have r1:convInt .i64 (u8 at_)=some (vi (at_.toNat:Int)):=u8_to_i64 _
  have r2:binInt .rem (vi (at_.toNat:Int)) (vi D.length)=some (vi ((at_.toNat % D.length:Nat):Int)):=i64_rem_nat at_.toNat D.length (by omega)
  have hm:at_.toNat % D.length<D.length:=Nat.mod_lt _ (by omega)
  generalize at_.toNat % D.length=m at *
  obtain ⟨b,o,p1,p2⟩:=Doms.elem (hv.mono e3) hm
  have hd:=(hD.all m hm).mono e3
  simp only [F.f38_l2,i64_lss,hqj',decide_false,r1,hlv,r2,p1,p2,stdZ]
  refine S.f2 hE hd (by rw [List.length_take]; omega) fun v H4 e4 g4 f4 _ =>?_
  have hl4:=g4.toRows.lenSlc
  rw [setR_length] at hl4
  simp only [hl4,stdZ]
  exact grows_l4 hE (H0:=H3) (hv.mono e3) ⟨hD.len,hD.le,fun q hq=>(hD.all q hq).mono e3⟩ hm e4 g4 f4 hQ
theorem S.f38 (hE:Fold E) (many at_:BitVec 8) (hQ:∀ H',Q (vb true) H'):E.call (E.fid i.f38) [u8 many,u8 at_] H Q:=by
 apply hE.f38
 simp only [F.f38,stdZ]
 refine S.f37 hE fun H1 e1 =>?_
 simp only [stdZ]
 refine S.f59 hE 5 fun w H2 h2 =>?_
 have ht:=h2.at_
 have g0:Has H2 H2 H2 [growR 1 nilS []]:=(Has.start (Ext.refl H2)).nils 1
 have hbS:buildS 1 1 #[(.pointer none)] [(0,(.pointer none))]=some (.cells [.pointer none] none,mkSlc 1 1):=buildS_one 1 [.pointer none] [.pointer none] rfl rfl
 obtain ⟨lv,H3,a1,a2,g3⟩:=g0.app1 (k:=0) (bytes:=8) rfl [.pointer none] rfl rfl (by decide) (by decide) (by simp)
 have zn:(.slice none 0 0:Value)=nilS:=rfl
 have r1:binInt .rem (u8 many) (.int .u8 20)=some (u8 (many % 20#8)):=u8_rem _ 20#8 (by decide)
 have r2:convInt .i64 (u8 (many % 20#8))=some (vi ((many % 20#8).toNat:Int)):=u8_to_i64 _
 have hm20:(many % 20#8).toNat<20:=by rw [BitVec.toNat_umod]; exact Nat.mod_lt _ (by decide)
 generalize (many % 20#8).toNat=m at *
 have i0:(.int .i64 0:Value)=vi ((0:Nat):Int):=rfl
 simp only [hbS,zn,a1,r1,r2,i0,stdZ]
 have g3:Has H2 H2 H3 [growR 1 lv (ptrR [.pointer none])]:=g3
 refine LoopL.count m (fun j ls H'=>∃ lv D l Z,∃ hD:Doms Z D l,ls=[u8 at_,ptr w 0,lv,D[l.length]'(by have:=hD.len; omega),vi m,vi j]/\Has H2 Z H' [growR 1 lv (ptrR D)]/\l.length=min j 16) ?_
  ⟨lv,[.pointer none],[],H2,⟨rfl,by simp,fun q hq=>by simp at hq; subst hq; exact .inl ⟨rfl,rfl⟩⟩,rfl,g3,by simp⟩
 rintro j _ H4 X0 hj hX ⟨lv,D,l,Z,hD,rfl,g4,hl⟩
 have hle:=hD.le
 have hlen:=hD.len
 have hlv:=(g4.rows (k:=0) rfl).lenSlc
 rw [ptrR_length] at hlv
 rcases Nat.lt_or_ge j m with hjm | hjm
 rotate_left
 ·have hjm':¬ (j:Int)<m:=by omega
  simp only [F.f38_l1,i64_lss,hjm',decide_false,hlv,stdZ]
  exact grows_l2 hE (g4.rows (k:=0) rfl) (hD.sub g4.sub) at_ hQ
 have hX:=hX hjm
 have hjm':(j:Int)<m:=by omega
 have hjj:=i64_inc (i:=j) (by omega)
 have c16:=conv16 j
 generalize hr:BitVec.ofNat 16 j=r at *
 have hbv:buildV [(0,1),(1,1),(2,1),(3,1),(4,1),(5,1),(6,1),(7,1)] #[(.int .u8 0),(.int .u8 0),(.int .u8 0),(.slice none 0 0),(.int .u16 0),(.slice none 0 0),(.slice none 0 0),(.slice none 0 0)] [(4,u16 r)]=some (.agg [u8 0#8,u8 0#8,u8 0#8,nilS,u16 r,nilS,nilS,nilS].toArray):=rfl
 have hsm:SmallAt H4 (awkS r) [u8 0#8,u8 0#8,u8 0#8,nilS,u16 r,nilS,nilS,nilS]:=⟨nilS,nilS,nilS,nilS,rfl,⟨[],Rows.nil _ _ none,rfl,fun i h=>by simp [awkS] at h⟩,Rows.nil _ _ none,Rows.nil _ _ none,Rows.nil _ _ none,by simp [awkS],by simp [awkS],by simp [awkS],by simp [awkS]⟩
 simp only [F.f38_l1,i64_lss,hjm',decide_true,c16,hbv,stdZ]
 refine S.f33 hE (awkS r) _ hsm fun H5 cp e5 hp =>?_
 refine S.f29 hE fun H6 e6 =>?_
 have e46:=e5.trans e6
 have h6:=(ht.mono g4.ext).mono e46
 have hset:(PolX.set (Tr.new 5) tab0 ⟨0,1#16⟩ (awkS r).pol)=(⟨r&&&51199#16,[],[]⟩,0):=rfl
 refine S.f42 hE h6 (Tr.new_wf 5) (Tr.KD.lt (Tr.KD.new 5)) (awkS r).pol cp (hp.mono e6) ⟨by show (0:Nat)<_; omega,by show (0:Nat)<_; omega⟩ (fun b hb=>by simp [awkS,Small.pol,Small.pathsTo] at hb) ⟨0,1#16⟩ (fun hbad=>by rw [hset] at hbad; exact (hbad rfl).elim) fun _ s H7 e7 hz _ =>?_
 rw [hset] at hz
 have e47:=e46.trans e7
 obtain ⟨g7,z1,z2⟩:=g4.calleeP e47
 have hz7:SetAt (H7.since H4.next) s ⟨r&&&51199#16,[],[]⟩:=hz.sub2 (since_mono e46.1 (Ext.refl _))
 have hdD:=hD.all l.length (by omega)
 rw [List.take_length] at hdD
 simp only [stdZ]
 refine S.domain_Domain_WithZ hE (n:=H4.next) e47.1 z1 g7.sub hdD hz7 (by omega) (fun hb =>?_) fun hb b' H8 e8 hd8 =>?_
 ·have h16:¬ (j:Int)<16:=by omega
  have hbn:binBool .neq (vb false) (vb false)=some (vb false):=rfl
  have nilDn:binNil eqPtr .neq (.pointer none) (.pointer none)=some (vb false):=rfl
  have c1:¬ (27:Int)=0:=by decide
  simp only [i64_eql,i64_neq,i64_lss,h16,c1,hbn,nilDn,ne_eq,not_true,not_false_eq_true,decide_true,decide_false,hjj,stdZ]
  exact hX _ _ ⟨lv,D,l,Z,hD,rfl,g4.grow e47,by omega⟩
 ·have h16:(j:Int)<16:=by omega
  have hbn:binBool .neq (vb true) (vb true)=some (vb false):=rfl
  have e48:=e47.trans e8
  obtain ⟨g8,z81,z82⟩:=g4.calleeP e48
  have hbS:buildS 1 1 #[(.pointer none)] [(0,ptr b' 0)]=some (.cells [ptr b' 0] none,mkSlc 1 1):=buildS_one 1 [.pointer none] [ptr b' 0] rfl rfl
  obtain ⟨lv',H9,q1,q2,g9⟩:=g8.app1 (k:=0) (bytes:=8) rfl [ptr b' 0] rfl rfl (by decide) (by decide) (by rw [ptrR_length]; omega)
  have hpr:ptrR D++[[ptr b' 0]]=ptrR (D++[ptr b' 0]):=by simp [ptrR]
  rw [hpr] at g9
  have g9:Has H2 (Z.plus H4.next H8) H9 [growR 1 lv' (ptrR (D++[ptr b' 0]))]:=g9
  simp only [i64_eql,i64_neq,i64_lss,h16,hbn,ne_eq,not_true,decide_true,decide_false,hbS,q1,hjj,stdZ]
  have hD':Doms (Z.plus H4.next H8) (D++[ptr b' 0]) (l++[(s,⟨r&&&51199#16,[],[]⟩)]):=by
   refine ⟨by simp; omega,by simp; omega,fun q hq =>?_⟩
   by_cases hqq:q<D.length
   ·rw [List.getElem_append_left hqq,List.take_append_of_le_length (by omega)]
    exact (hD.all q hqq).sub z81
   ·have:q=D.length:=by simp at hq; omega
    subst this
    rw [List.getElem_append_right (by omega),List.take_of_length_le (by simp; omega)]
    simpa using hd8
  refine hX _ _ ⟨lv',D++[ptr b' 0],l++[(s,⟨r&&&51199#16,[],[]⟩)],_,hD',?_,g9,by simp; omega⟩
  have:(D++[ptr b' 0])[(l++[(s,(⟨r&&&51199#16,[],[]⟩:SetD))]).length]'(by have:=hD'.len; omega)=ptr b' 0:=by
   rw [List.getElem_append_right (by simp; omega)]
   simp
  rw [this]
theorem S.law_DomainGrows (hE:Fold E) (args:List Value) (ha:ArgsSV H [.int .u8,.int .u8] args) (hQ:∀ H',Q (vb true) H'):E.call (E.fid i.f38) args H Q:=by
 obtain ⟨v1,_,rfl,h1,ha⟩:=ha.cons_inv
 obtain ⟨v2,_,rfl,h2,ha⟩:=ha.cons_inv
 obtain rfl:=ha.nil_inv
 obtain ⟨x,rfl⟩:=h1.u8
 obtain ⟨y,rfl⟩:=h2.u8
 exact S.f38 hE x y hQ
end
end Go.AM
end
