/- CONTRACTS ON THE PRINTED FUNCTIONS. -/
import Derived.Test.YtgeenpollgalkaaGreatSaaebC2
set_option linter.all false
section
namespace Go.AM
set_option maxRecDepth 20000
section
variable {X:List Res} {E:Sy} {H H' H0 Z:AH} {Q:Value->AH->Prop} {w t:Nat} {T T':Tr} {M:List bS} {v v' nv:Value} {nx:Int}
def Tr.cnt (T:Tr) (j:Nat):Nat:=(((List.range j).map (BitVec.ofNat 16)).filter fun n=>decide ((T.node n).kind≠0#8)).length
theorem Tr.cnt_succ (T:Tr) (j:Nat):T.cnt (j+1)=T.cnt j+if (T.node (BitVec.ofNat 16 j)).kind≠0#8 then 1 else 0:=by
 unfold Tr.cnt;rw [List.range_succ,List.map_append,List.filter_append,List.length_append]
 by_cases h:(T.node (BitVec.ofNat 16 j)).kind=0#8 <;> simp [h]
theorem Tr.cnt_le (T:Tr) (j:Nat):T.cnt j<=j:=by
 unfold Tr.cnt;refine Nat.le_trans (List.length_filter_le _ _) ?_;simp
theorem aGA {l:Value} {es:aGF} (h:Rows H 2 l (eO es)) {q:Nat} (hq:q<es.length):∃ b o,aG 2 l (vi (q:Int))=some (ptr b o)/\bI 2 (ptr b o) H=some (.agg #[str (es[q]).1,vi ((es[q]).2.toNat:Int)]):=by
 obtain ⟨b,o,f1,f2⟩:=h.ix (i:=q) (by rw [bC]; exact hq)
 have hrow:(eO es)[q]'(by rw [bC]; exact hq)=[str (es[q]).1,vi ((es[q]).2.toNat:Int)]:=by simp [eO]
 rw [hrow] at f2;exact ⟨b,o,f1,by rw [cU,f2]; rfl⟩
theorem aGm (hE:bJ E) {x:eE} {xb:Nat} {c:List Value} {nv iv lv:Value} (hc:c=[u16 x.number,u8 x.kind,str x.content,nv,iv]) (hb:H.get xb = .cells c none) (r1:Rows H 1 nv (gL (x.ents.map Prod.fst))) (r2:Rows H 1 iv (jR (x.ents.map Prod.snd))) (r3:Rows H 2 lv (eO x.ents)) (hl:x.ents.length<2 ^ 60)
  {X0:List Value->AH->Prop} {t1 t2 t5 t16:Value} {m:Nat} (hm:m<2 ^ 60) (next:∀ H',Ext H H'->X0 [t1,t2,t5,t16,vi ((m+1:Nat):Int)] H') :
  aO (fun l H X1=>F.f48_l2 E Q X0 (nth l 0) (nth l 1) (nth l 2) (nth l 3) (nth l 4) (nth l 5) (nth l 6) (nth l 7) (nth l 8) H X1) [t1,t2,t5,ptr xb 0,t16,vi m,lv,vi x.ents.length,(.int .i64 0)] H:=by
 have i0:(.int .i64 0:Value)=vi ((0:Nat):Int):=rfl;have mm:=dJ (i:=m) (by omega)
 generalize hm1:m+1=m1 at *;rw [i0];refine aO.count x.ents.length (fun q ls H'=>ls=[t1,t2,t5,ptr xb 0,t16,vi m,lv,vi x.ents.length,vi q]/\Ext H H') ?_ ⟨rfl,Ext.refl _⟩;rintro q _ H1 X1 hq hX ⟨rfl,e1⟩;rcases Nat.lt_or_ge q x.ents.length with hql | hql
 ·have hX:=hX hql
  have hql':(q:Int)<x.ents.length:=by omega
  have hqq:=dJ (i:=q) (by omega)
  obtain ⟨b,o,f1,f2⟩:=aGA (r3.mono e1) hql;have hst:storeN 2 (ptr H1.next 0) (.agg [str (x.ents[q]).1,vi ((x.ents[q]).2.toNat:Int)].toArray) (H1.new (.cells [(.string ⟨#[]⟩),(.int .i64 0)] none))=some (H1.new (.cells [str (x.ents[q]).1,vi ((x.ents[q]).2.toNat:Int)] none)):=wU rfl rfl rfl;have x2:Ext H1 (H1.new (.cells [str (x.ents[q]).1,vi ((x.ents[q]).2.toNat:Int)] none)):=(Ext.refl _).new _;have hb2:=AH.get_new_self H1 (.cells [str (x.ents[q]).1,vi ((x.ents[q]).2.toNat:Int)] none);obtain ⟨b3,o3,g1,g2⟩:=cW.name ((r1.mono e1).mono x2) hql;obtain ⟨b4,o4,k1,k2⟩:=cW.inode ((r2.mono e1).mono x2) hql;have hbx:=x2.cells (e1.cells hb);have c3:c[3]? = some nv:=by rw [hc]; rfl
  have c4:c[4]? = some iv:=by rw [hc]; rfl
  have hcv:aX .i64 (u16 (x.ents[q]).2)=some (vi ((x.ents[q]).2.toNat:Int)):=kY _;generalize x.ents[q]=e at *;have d0:([str e.1,vi (e.2.toNat:Int)]:List Value)[0]? = some (str e.1):=rfl;have d1:([str e.1,vi (e.2.toNat:Int)]:List Value)[1]? = some (vi (e.2.toNat:Int)):=rfl;simp only [F.f48_l2,bE,hql',decide_true,f1,f2,dB,hst,bF];generalize H1.new (.cells [str e.1,vi (e.2.toNat:Int)] none)=H2 at *;simp only [hbx,c3,g1,g2,hb2,d0,tZ,ne_eq,not_true,decide_false,bF];simp only [hbx,c4,k1,k2,hcv,hb2,d1,cT,ne_eq,not_true,decide_false,hqq,bF];exact hX _ _ ⟨rfl,e1.trans x2⟩
 ·have hql':¬ (q:Int)<x.ents.length:=by omega
  simp only [F.f48_l2,bE,hql',decide_false,mm,bF];exact next _ e1
theorem S.f112 (hE:bJ E) {l:List eE} (hs:cL H v l) (hQ:∀ H',Ext H H'->Q (vi l.length) H'):E.call (E.fid i.f112) [.agg #[v]] H Q:=by
 apply hE.f112;have hbo:(.agg #[v]:Value) = .agg [v].toArray:=rfl;have x1:Ext H (H.new (.cells [v] none)):=(Ext.refl _).new _;have hb1:=AH.get_new_self H (.cells [v] none);have hl:=eK.lenSlc hs;simp only [F.f112,hbo,fE,AM.cR,fI,List.toList_toArray,hb1,hl,bF];exact hQ _ x1
theorem S.f48 (hE:bJ E) (hs:cL H v T.snap) (ht:uE H t T) (wf:T.WF) (kd:T.KD) (hQ:∀ H',Ext H H'->Q (vb true) H'):E.call (E.fid i.f48) [.agg #[v],ptr t 0] H Q:=by
 apply hE.f48;have hlen16:=wf.len16;obtain ⟨nv,h1,hn⟩:=ht;have hbo:(.agg #[v]:Value) = .agg [v].toArray:=rfl;have x1:Ext H (H.new (.cells [v] none)):=(Ext.refl _).new _;have hb1:=AH.get_new_self H (.cells [v] none)
 have h1':((H.new (.cells [v] none)).get t).cell 0=some nv:=by
  rw [x1.get (AH.lt_of_get (b:=t) (by intro hd; rw [hd] at h1; simp [cY.cell] at h1))]; exact h1
 have hlv:=eK.lenSlc (fQ.sub hn x1.sub);have i0:(.int .i64 0:Value)=vi ((T.cnt 0:Nat):Int):=rfl;have i00:(.int .i64 0:Value)=vi ((0:Nat):Int):=rfl;simp only [F.f48,hbo,fE,AM.cR,fI,List.toList_toArray,h1',hlv,bF];generalize H.next=sb at *;generalize H.new (.cells [v] none)=H1 at *;have lo:∀ {H'},Ext H1 H'->bI 1 (ptr sb 0) H'=some (.agg #[v]):=fun e=>by rw [cU,e.cells hb1]; rfl
 refine aO.count T.N.length (fun j ls H'=>ls=[ptr t 0,ptr sb 0,vi (T.cnt j:Nat),vi T.N.length,vi j]/\Ext H1 H') ?_ ⟨rfl,Ext.refl _⟩;rintro j _ H2 X0 hj hX ⟨rfl,e2⟩;have e02:=x1.trans e2;rcases Nat.lt_or_ge j T.N.length with hjl | hjl
 rotate_left
 ·have hjl':¬ (j:Int)<T.N.length:=by omega
  have hj':j=T.N.length:=by omega
  subst hj';simp only [F.f48_l1,bE,hjl',decide_false,lo e2,bF];refine S.f112 hE (cL.sub hs e02.sub) fun H3 e3 =>?_;have:T.snap.length=T.cnt T.N.length:=by unfold Tr.snap Tr.nums Tr.cnt; rw [List.length_map]
  simp only [this,aU,decide_true,bF];exact hQ _ (e02.trans e3)
 have hX:=hX hjl;have hjl':(j:Int)<T.N.length:=by omega
 have hjj:=dJ (i:=j) (by omega)
 have hcl:=T.cnt_le j;have hcc:=dJ (i:=T.cnt j) (by omega)
 have c16:=aDy j;have hnn:(BitVec.ofNat 16 j).toNat=j:=by rw [BitVec.toNat_ofNat,Nat.mod_eq_of_lt (by omega)]
 have hnode:=aAx hjl (by omega:T.N.length<=65536)
 rw [T.cnt_succ j] at hX;simp only [F.f48_l1,bE,hjl',decide_true,lo e2,c16,bF]
 have st7:∀ (K:AH) (x:Nd) (y:RLy),Rows K 1 y.data (bQ x.data)->Rows K 2 y.l (eO x.ents)->storeN 7 (ptr K.next 0) (.agg (cP x y).cells.toArray) (K.new (.cells [(.int .i64 0),(.slice none 0 0),(.slice none 0 0),(.int .i64 0),(.string ⟨#[]⟩),(.int .i64 0),(.int .i64 0)] none))=some (K.new (.cells (cP x y).cells none)):=fun K x y h h'=>by
  rw [dW,AH.get_new_self];have h3:AM.splice [(.int .i64 0),(.slice none 0 0),(.slice none 0 0),(.int .i64 0),(.string ⟨#[]⟩),(.int .i64 0),(.int .i64 0)] 0 (cP x y).cells=(cP x y).cells:=rfl
  have h4:(cP x y).cells.all plain1=true:=by
   have hp1:=h.plain;have hp2:=h'.plain
   show ([vi (x.kind.toNat:Int),y.data,y.l,vi (x.parent.toNat:Int),str x.text,vi x.links,vi x.held]:List Value).all plain1=true
   simp only [List.all_cons,hp1,hp2,List.all_nil,Bool.and_true,Bool.true_and]; rfl
  have h5:(cP x y).cells.length=7:=rfl;have h6:([(.int .i64 0),(.slice none 0 0),(.slice none 0 0),(.int .i64 0),(.string ⟨#[]⟩),(.int .i64 0),(.int .i64 0)]:List Value).length=7:=rfl;simp only [List.size_toArray,List.toList_toArray,h5,h4,h6,Nat.zero_add,Nat.le_refl,and_self,if_true,h3,AH.new_put]
 have st5:∀ (K:AH) (c:List Value),c.length=5->c.all plain1=true->storeN 5 (ptr K.next 0) (.agg c.toArray) (K.new (.cells [(.int .u16 0),(.int .u8 0),(.string ⟨#[]⟩),(.slice none 0 0),(.slice none 0 0)] none))=some (K.new (.cells c none)):=fun K c hl hp=>by
  rw [dW,AH.get_new_self];have h3:AM.splice [(.int .u16 0),(.int .u8 0),(.string ⟨#[]⟩),(.slice none 0 0),(.slice none 0 0)] 0 c=c:=by simp [splice,hl]
  have h6:([(.int .u16 0),(.int .u8 0),(.string ⟨#[]⟩),(.slice none 0 0),(.slice none 0 0)]:List Value).length=5:=rfl;simp only [List.size_toArray,List.toList_toArray,hl,hp,h6,Nat.zero_add,Nat.le_refl,and_self,if_true,h3,AH.new_put]
 have h1t:∀ {H'},Ext H H'->(H'.get t).cell 0=some nv:=fun e=>by
  rw [e.get (AH.lt_of_get (b:=t) (by intro hd; rw [hd] at h1; simp [cY.cell] at h1))]; exact h1
 refine S.f110 hE (cL.sub hs e02.sub) wf (BitVec.ofNat 16 j) (fun hk c H3 e3 hl hp =>?_) fun hk c H3 e3 hth =>?_
 ·rw [if_neg (by simpa using hk)] at hX
  have x4:Ext H3 (H3.new (.cells c none)):=(Ext.refl _).new _;have e04:=e02.trans (e3.trans x4);simp only [dB,st5 H3 c hl hp,bF];generalize H3.new (.cells c none)=H4 at *;obtain ⟨b,o,y,q1,q2,q3,q4⟩:=uP (fQ.sub hn e04.sub) hjl;have x5:Ext H4 (H4.new (.cells (cP T.N[j] y).cells none)):=(Ext.refl _).new _;have hb5:=AH.get_new_self H4 (.cells (cP T.N[j] y).cells none)
  have d0:(cP T.N[j] y).cells[0]? = some (vi 0):=by
   show some (vi ((T.N[j]).kind.toNat:Int))=_
   rw [<- hnode,hk]; rfl
  have s7:=st7 H4 T.N[j] y q3 q4;have hbn:jP .neq (vb false) (vb false)=some (vb false):=rfl;simp only [dB,h1t e04,q1,q2,s7,hb5,d0,cV,gt_iff_lt,Int.lt_irrefl,decide_false,hbn,hjj,bF];exact hX _ _ ⟨rfl,e2.trans (e3.trans (x4.trans x5))⟩
 ·rw [if_pos hk] at hX
  obtain ⟨nv',iv',rfl,r1,r2⟩:=hth
  have hpl:([u16 (T.thing (BitVec.ofNat 16 j)).number,u8 (T.thing (BitVec.ofNat 16 j)).kind,str (T.thing (BitVec.ofNat 16 j)).content,nv',iv']:List Value).all plain1=true:=by
   simp only [List.all_cons,r1.plain,r2.plain,List.all_nil,Bool.and_true,Bool.true_and]; rfl
  have hx0:(T.thing (BitVec.ofNat 16 j)).number=BitVec.ofNat 16 j:=rfl;have hx1:(T.thing (BitVec.ofNat 16 j)).kind=T.N[j].kind:=by rw [<- hnode]; rfl
  have hx2:(T.thing (BitVec.ofNat 16 j)).content=iZ T.N[j].data++T.N[j].text:=by rw [<- hnode]; rfl
  have hx3:(T.thing (BitVec.ofNat 16 j)).ents=T.N[j].ents:=by rw [<- hnode]; rfl
  have hkn:T.N[j].kind≠0#8:=by rw [<- hnode]; exact hk
  have hsz:=wf.size (BitVec.ofNat 16 j);have hdl:=wf.data (BitVec.ofNat 16 j)
  have htl:T.N[j].text.length<=120:=by
   rw [<- hnode]
   by_cases h3:(T.node (BitVec.ofNat 16 j)).kind=3#8
   ·exact ((kd _).text h3).2
   ·rw [(kd _).notext h3]; simp
  rw [hnode] at hsz hdl;generalize T.thing (BitVec.ofNat 16 j)=x at *;obtain ⟨xn,xk,xc,xe⟩:=x;simp only at hx0 hx1 hx2 hx3 r1 r2 hpl;subst hx0 hx1 hx2 hx3;have x4:Ext H3 (H3.new (.cells [u16 (BitVec.ofNat 16 j),u8 T.N[j].kind,str (iZ T.N[j].data++T.N[j].text),nv',iv'] none)):=(Ext.refl _).new _;have hb4:=AH.get_new_self H3 (.cells [u16 (BitVec.ofNat 16 j),u8 T.N[j].kind,str (iZ T.N[j].data++T.N[j].text),nv',iv'] none);have s5:=st5 H3 [u16 (BitVec.ofNat 16 j),u8 T.N[j].kind,str (iZ T.N[j].data++T.N[j].text),nv',iv'] rfl hpl;simp only [dB,s5,bF];generalize H3.next=xb at *;generalize H3.new (.cells [u16 (BitVec.ofNat 16 j),u8 T.N[j].kind,str (iZ T.N[j].data++T.N[j].text),nv',iv'] none)=H4 at *;have e04:=e02.trans (e3.trans x4);obtain ⟨b,o,y,q1,q2,q3,q4⟩:=uP (fQ.sub hn e04.sub) hjl;have s7:=st7 H4 T.N[j] y q3 q4;have x5:Ext H4 (H4.new (.cells (cP T.N[j] y).cells none)):=(Ext.refl _).new _;have hb5:=AH.get_new_self H4 (.cells (cP T.N[j] y).cells none);simp only [h1t e04,q1,q2,dB,s7,bF];generalize H4.next=yb at *;generalize H4.new (.cells (cP T.N[j] y).cells none)=H5 at *;have hb45:=x5.cells hb4;have q3':=q3.mono x5;have q4':=q4.mono x5;generalize T.N[j]=z at *;have d0:(cP z y).cells[0]? = some (vi (z.kind.toNat:Int)):=rfl;have d1:(cP z y).cells[1]? = some y.data:=rfl;have d2:(cP z y).cells[2]? = some y.l:=rfl;have d4:(cP z y).cells[4]? = some (str z.text):=rfl
  have hpos:(0:Int)<(z.kind.toNat:Int):=by
   have:z.kind.toNat≠0:=fun h=>hkn (BitVec.eq_of_toNat_eq (by simpa using h))
   omega
  have a0:([u16 (BitVec.ofNat 16 j),u8 z.kind,str (iZ z.data++z.text),nv',iv']:List Value)[0]? = some (u16 (BitVec.ofNat 16 j)):=rfl;have a1:([u16 (BitVec.ofNat 16 j),u8 z.kind,str (iZ z.data++z.text),nv',iv']:List Value)[1]? = some (u8 z.kind):=rfl;have a2:([u16 (BitVec.ofNat 16 j),u8 z.kind,str (iZ z.data++z.text),nv',iv']:List Value)[2]? = some (str (iZ z.data++z.text)):=rfl;have a3:([u16 (BitVec.ofNat 16 j),u8 z.kind,str (iZ z.data++z.text),nv',iv']:List Value)[3]? = some nv':=rfl;have a4:([u16 (BitVec.ofNat 16 j),u8 z.kind,str (iZ z.data++z.text),nv',iv']:List Value)[4]? = some iv':=rfl;have hbn:jP .neq (vb true) (vb true)=some (vb false):=rfl;have cv0:aX .i64 (u16 (BitVec.ofNat 16 j))=some (vi (j:Int)):=by rw [kY,hnn]
  have cv1:aX .i64 (u8 z.kind)=some (vi (z.kind.toNat:Int)):=kQ _;have so:=pW q3';have hadd:=dY (z.data.map UInt8.ofBitVec) z.text (by rw [List.length_map]; omega)
  have hby:z.data.map UInt8.ofBitVec++z.text=iZ z.data++z.text:=rfl;rw [hby] at hadd;have ln:=lR ((r1.mono x4).mono x5);have li:=((r2.mono x4).mono x5).lenSlc;have ll:=q4'.lenSlc;rw [List.length_map] at ln;rw [eT,List.length_map] at li;rw [bC] at ll;simp only [hb5,d0,cV,gt_iff_lt,hpos,decide_true,hbn,hcc,bF];simp only [hb45,a0,cv0,cT,ne_eq,not_true,decide_false,bF];simp only [hb45,hb5,a1,d0,cv1,cT,ne_eq,not_true,decide_false,bF];simp only [hb45,hb5,a2,d1,d4,so,hadd,tZ,ne_eq,not_true,decide_false,bF];simp only [hb45,hb5,a3,d2,ln,ll,cT,ne_eq,not_true,decide_false,bF];simp only [hb45,hb5,a4,d2,li,ll,cT,ne_eq,not_true,decide_false,bF];refine aGm hE (x:=⟨BitVec.ofNat 16 j,z.kind,iZ z.data++z.text,z.ents⟩) rfl hb45 ((r1.mono x4).mono x5) ((r2.mono x4).mono x5) q4' (by show z.ents.length<_; omega) (by omega) fun H' e'=>hX _ _ ⟨rfl,e2.trans (e3.trans (x4.trans (x5.trans e')))⟩
end
end Go.AM
end
section
namespace Go.AM
set_option maxRecDepth 20000
section
variable {X:List Res} {E:Sy} {H H' H0 Z:AH} {Q:Value->AH->Prop} {w t:Nat} {T T':Tr} {M:List bS} {v v' nv:Value} {nx:Int}
theorem aBg (h:fQ H nv T) {k:Nat} (hk:k<T.N.length):∃ b o y,aG 7 nv (vi (k:Int))=some (ptr b o)/\(∀ H',Ext H H'->bI 7 (ptr b o) H'=some (.agg (cP T.N[k] y).cells.toArray))/\Rows H 1 y.data (bQ T.N[k].data)/\Rows H 2 y.l (eO T.N[k].ents):=by
 obtain ⟨b,o,c,h1,h2,y,rfl,h3,h4⟩:=h.ix hk;exact ⟨b,o,y,h1,fun H' e=>by rw [cU,e.get (AH.lt_of_get (gS h2)),h2]; rfl,h3,h4⟩
theorem S.f47 (hE:bJ E) (ht:uE H t T) (wf:T.WF) (hQ:∀ v H',Ext H H'->fQ (H'.since H.next) v T->Q v H'):E.call (E.fid i.f47) [ptr t 0] H Q:=by
 apply hE.f47;have hlen16:=wf.len16;have hl2:=wf.len.1;obtain ⟨nv,h1,hn⟩:=ht;have hlv:=eK.lenSlc hn;have i0:(.int .i64 0:Value)=vi ((0:Nat):Int):=rfl;have zn:(.slice none 0 0:Value)=aT:=rfl;have g0:Has H zH H [aZ 7 aT []]:=(Has.begin (Ext.refl H) (aEJ H)).nils 7
 have hnum:∀ k (hk:k<T.N.length),T.N[k].data.length<=1024/\T.N[k].ents.length<=32:=fun k hk=>by
  have h1:=wf.data (BitVec.ofNat 16 k);have h2:=wf.size (BitVec.ofNat 16 k);rw [aAx hk (by omega)] at h1 h2
  exact ⟨h1,h2⟩
 simp only [F.f47,h1,hlv,bF];rw [i0,zn]
 refine aO.count T.N.length (fun j ls H'=>∃ u rows Z,ls=[u,nv,vi T.N.length,vi j]/\Has H Z H' [aZ 7 u rows]/\(∀ b,b<H.next->Z.get b = .dead)/\rows.length=j/\∀ a (h1:a<rows.length) (h3:a<T.N.length),nG Z T.N[a] rows[a]) ?_
  ⟨aT,[],zH,rfl,g0,fun b _=>kA b,rfl,fun a h=>by simp at h⟩
 rintro j _ H1 X0 hj hX ⟨u,rows,Z,rfl,g,hd,hrl,hrow⟩;rcases Nat.lt_or_ge j T.N.length with hjl | hjl
 rotate_left
 ·have hjl':¬ (j:Int)<T.N.length:=by omega
  simp only [F.f47_l1,bE,hjl',decide_false,bF];obtain ⟨Z7,w1,w2,g7⟩:=g.freeze (k:=0) rfl;have w2:bZ zH Z7 7 u rows:=w2;have hjN:j=T.N.length:=by omega
  have hlt:H.next<H1.next:=by
   rcases w2.2 with ⟨hz,_⟩ | ⟨b,fx,c,cs,_,_,q1,_⟩
   ·rw [hz] at hrl; simp at hrl; omega
   ·have hb:b<H1.next:=by
     have:=g7.sub.2 b (by rw [q1]; simp)
     exact AH.lt_of_get (by rw [this,q1]; simp)
    have hge:H.next<=b:=by
     rcases Nat.lt_or_ge b H.next with h | h
     ·have:=w1.2 b h
      rw [hd b h] at this;rw [this] at q1;cases q1
     ·exact h
    omega
  refine hQ u H1 g.ext (fQ.sub ⟨rows,w2.toRows,by omega,fun a h1 h2 =>?_⟩ (g7.sub.since hlt fun b hb=>by rw [w1.2 b hb]; exact hd b hb))
  exact (hrow a h2 h1).sub w1.1
 have hX:=hX hjl;have hjl':(j:Int)<T.N.length:=by omega
 have hjj:=dJ (i:=j) (by omega)
 obtain ⟨b,o,y,q1,q2,q3,q4⟩:=aBg hn hjl;have q2:=q2 H1 g.ext;obtain ⟨dl,el⟩:=hnum j hjl
 have fin:∀ Z' u' c H',Fz H.next Z Z'->Has H Z' H' [aZ 7 u' (rows++[c])]->nG Z' T.N[j] c->X0 [u',nv,vi T.N.length,vi ((j+1:Nat):Int)] H':=by
  intro Z' u' c H' f g' hr;refine hX _ _ ⟨u',rows++[c],Z',rfl,g',fun b hb=>by rw [f.2 b hb]; exact hd b hb,by simp; omega,fun a h1 h3 =>?_⟩
  by_cases ha:a<rows.length
  ·rw [List.getElem_append_left ha]
   exact (hrow a ha h3).sub f.1
  ·have:a=j:=by simp at h1; omega
   subst this;rw [List.getElem_append_right (by omega)]
   simpa [hrl] using hr
 generalize T.N[j]=z at *;have hp1:=q3.plain;have hp2:=q4.plain
 have pl:∀ (d l:Value),plain1 d=true->plain1 l=true->(cP z ⟨d,l⟩).cells.all plain1=true:=fun d l h h'=>by
  show ([vi (z.kind.toNat:Int),d,l,vi (z.parent.toNat:Int),str z.text,vi z.links,vi z.held]:List Value).all plain1=true
  simp only [List.all_cons,h,h',List.all_nil,Bool.and_true,Bool.true_and]; rfl
 have hst:storeN 7 (ptr H1.next 0) (.agg (cP z y).cells.toArray) (H1.new (.cells [(.int .i64 0),(.slice none 0 0),(.slice none 0 0),(.int .i64 0),(.string ⟨#[]⟩),(.int .i64 0),(.int .i64 0)] none))=some (H1.new (.cells (cP z y).cells none)):=by
  rw [dW,AH.get_new_self];have h3:AM.splice [(.int .i64 0),(.slice none 0 0),(.slice none 0 0),(.int .i64 0),(.string ⟨#[]⟩),(.int .i64 0),(.int .i64 0)] 0 (cP z y).cells=(cP z y).cells:=rfl;have h5:(cP z y).cells.length=7:=rfl;have h6:([(.int .i64 0),(.slice none 0 0),(.slice none 0 0),(.int .i64 0),(.string ⟨#[]⟩),(.int .i64 0),(.int .i64 0)]:List Value).length=7:=rfl;simp only [List.size_toArray,List.toList_toArray,h5,pl y.data y.l hp1 hp2,h6,Nat.zero_add,Nat.le_refl,and_self,if_true,h3,AH.new_put]
 have g2:=g.newbox (cP z y).cells;have hb0:buildS 0 1 #[(.int .u8 0)] []=some (.cells [] none,dN 0 0):=kM 1 [u8 0#8] rfl;have hb1:buildS 0 2 #[(.string ⟨#[]⟩),(.int .i64 0)] []=some (.cells [] none,dN 0 0):=kM 2 [str [],vi 0] rfl;have e12:Ext H1 (H1.new (.cells (cP z y).cells none)):=(Ext.refl _).new _;simp only [F.f47_l1,bE,hjl',decide_true,q1,q2,dB,hst,hb0,AM.cR,dQ,bF];generalize H1.next=xb at *;generalize H1.new (.cells (cP z y).cells none)=H2 at *;have g2:Has H Z H2 [aZ 7 u rows,bN xb (cP z y).cells]:=g2;have g3:=g2.newroom 1;have x3:Ext H2 (H2.new (.cells [] none)):=(Ext.refl _).new _;have g3:Has H Z (H2.new (.cells [] none)) [aZ 7 u rows,bN xb (cP z y).cells,aZ 1 (slc H2.next 0 0 0) []]:=g3;have hbx:=g3.box (k:=1) (b:=xb) rfl;have d1:(cP z y).cells[1]? = some y.data:=rfl;have d2:∀ d,(cP z ⟨d,y.l⟩).cells[2]? = some y.l:=fun d=>rfl;have q3':=q3.mono g3.ext;obtain ⟨d',H4,a1,pd,g4⟩:=g3.app (k:=2) (bytes:=1) rfl q3' (fun r hr=>by obtain ⟨x,_,rfl⟩:=List.mem_map.1 hr; rfl) (by decide) (by decide) (by simp [bQ]; omega) (by simp [bQ]; omega)
 rw [List.nil_append] at g4;have g4:Has H Z H4 [aZ 7 u rows,bN xb (cP z y).cells,aZ 1 d' (bQ z.data)]:=g4
 have st1:aM (ptr xb 1) d' H4=some (H4.put xb (.cells (cP z ⟨d',y.l⟩).cells none)):=by
  rw [aF,if_pos pd,g4.box (k:=1) (b:=xb) rfl]; rfl
 have g5:=g4.put (k:=1) (b:=xb) rfl (cP z ⟨d',y.l⟩).cells;have g5:Has H Z (H4.put xb (.cells (cP z ⟨d',y.l⟩).cells none)) [aZ 7 u rows,bN xb (cP z ⟨d',y.l⟩).cells,aZ 1 d' (bQ z.data)]:=g5;simp only [hbx,d1,a1,st1,hb1,AM.cR,dQ,bF];generalize H4.put xb (.cells (cP z ⟨d',y.l⟩).cells none)=H5 at *;have g6:=g5.newroom 2;have g6:Has H Z (H5.new (.cells [] none)) [aZ 7 u rows,bN xb (cP z ⟨d',y.l⟩).cells,aZ 1 d' (bQ z.data),aZ 2 (slc H5.next 0 0 0) []]:=g6;have hbx6:=g6.box (k:=1) (b:=xb) rfl;have q4':=q4.mono g6.ext;obtain ⟨l',H7,a2,pl2,g7⟩:=g6.app (k:=3) (bytes:=24) rfl q4' (fun r hr=>by obtain ⟨x,_,rfl⟩:=List.mem_map.1 hr; rfl) (by decide) (by decide) (by rw [bC]; simp; omega) (by rw [bC]; simp; omega)
 rw [List.nil_append] at g7;have g7:Has H Z H7 [aZ 7 u rows,bN xb (cP z ⟨d',y.l⟩).cells,aZ 1 d' (bQ z.data),aZ 2 l' (eO z.ents)]:=g7
 have st2:aM (ptr xb 2) l' H7=some (H7.put xb (.cells (cP z ⟨d',l'⟩).cells none)):=by
  rw [aF,if_pos pl2,g7.box (k:=1) (b:=xb) rfl]; rfl
 have g8:=g7.put (k:=1) (b:=xb) rfl (cP z ⟨d',l'⟩).cells;have g8:Has H Z (H7.put xb (.cells (cP z ⟨d',l'⟩).cells none)) [aZ 7 u rows,bN xb (cP z ⟨d',l'⟩).cells,aZ 1 d' (bQ z.data),aZ 2 l' (eO z.ents)]:=g8;simp only [hbx6,d2,a2,st2,bF];generalize H7.put xb (.cells (cP z ⟨d',l'⟩).cells none)=H8 at *;have hb8:=g8.box (k:=1) (b:=xb) rfl;have hlo:bI 7 (ptr xb 0) H8=some (.agg (cP z ⟨d',l'⟩).cells.toArray):=by rw [cU,hb8]; rfl
 have hbS:buildS 1 7 #[(.int .i64 0),(.slice none 0 0),(.slice none 0 0),(.int .i64 0),(.string ⟨#[]⟩),(.int .i64 0),(.int .i64 0)] [(0,.agg (cP z ⟨d',l'⟩).cells.toArray)]=some (.cells (cP z ⟨d',l'⟩).cells none,dN 1 1):=eG 7 [vi 0,aT,aT,vi 0,str [],vi 0,vi 0] (cP z ⟨d',l'⟩).cells rfl rfl;obtain ⟨u',H9,a3,_,g9⟩:=g8.app1 (k:=0) (bytes:=96) rfl (cP z ⟨d',l'⟩).cells rfl (pl d' l' pd pl2) (by decide) (by decide) (by omega)
 have g9:Has H Z H9 [aZ 7 u' (rows++[(cP z ⟨d',l'⟩).cells]),bN xb (cP z ⟨d',l'⟩).cells,aZ 1 d' (bQ z.data),aZ 2 l' (eO z.ents)]:=g9;simp only [hlo,hbS,a3,hjj,bF];obtain ⟨Z2,w1,w2,gA⟩:=g9.freeze (k:=3) rfl;have gA:Has H Z2 H9 [aZ 7 u' (rows++[(cP z ⟨d',l'⟩).cells]),bN xb (cP z ⟨d',l'⟩).cells,aZ 1 d' (bQ z.data)]:=gA;obtain ⟨Z3,w3,w4,gB⟩:=gA.freeze (k:=2) rfl;have gB:Has H Z3 H9 [aZ 7 u' (rows++[(cP z ⟨d',l'⟩).cells]),bN xb (cP z ⟨d',l'⟩).cells]:=gB;have w2:bZ zH Z2 2 l' (eO z.ents):=w2;have w4:bZ zH Z3 1 d' (bQ z.data):=w4;exact fin Z3 u' _ H9 (w1.trans w3) (gB.drop 1) ⟨⟨d',l'⟩,rfl,w4.toRows,w2.toRows.sub w3.1⟩
end
end Go.AM
end
section
namespace Go.AM
set_option maxRecDepth 20000
section
variable {X:List Res} {E:Sy} {H H' H0 Z:AH} {Q:Value->AH->Prop} {w t:Nat} {T T':Tr} {M:List bS} {v v':Value} {nx:Int}
theorem S.f46 (hE:bJ E) (av:Value) (acts:List eM) (hv:Rows H 14 av (acts.map eM.cells)) (hll:acts.length<=9223372036854775807) (hok:∀ x∈acts,x.act.ok H) (bv:Value) (more:List eM) (hv2:Rows H 14 bv (more.map eM.cells)) (hll2:more.length<=9223372036854775807) (hok2:∀ x∈more,x.act.ok H) (hQ:∀ H',Q (vb true) H'):E.call (E.fid i.f46) [av,bv] H Q:=by
 apply hE.f46;simp only [F.f46];refine S.f45 hE fun H1 e1 =>?_;simp only [bF];refine S.f42 hE av acts (hv.mono e1) hll (fun x hx=>(hok x hx).mono e1) fun H2 e2 =>?_;have e12:=e1.trans e2;cases hl:kV acts with
 | false =>
  simp only [bF];exact hQ _
 | true =>
 simp only [bF];refine S.f42 hE bv more (hv2.mono e12) hll2 (fun x hx=>(hok2 x hx).mono e12) fun H3 e3 =>?_;have e13:=e12.trans e3;cases hl2:kV more with
 | false =>
  simp only [bF];exact hQ _
 | true =>
 simp only [bF];refine S.f41 hE av acts (hv.mono e13) hll (fun x hx=>(hok x hx).mono e13) hl fun w t T M nx H6 h6 g6 =>?_;simp only [bF];refine S.f109 hE h6.at_ g6.wf g6.kd fun va H7 e7 sa =>?_;have x8:Ext H7 (H7.new (.cells [va] none)):=(Ext.refl _).new _;have hb8:=AH.get_new_self H7 (.cells [va] none);have lo8:bI 1 (ptr H7.next 0) (H7.new (.cells [va] none))=some (.agg #[va]):=by rw [cU,hb8]; rfl
 have e68:=e7.trans x8;have sa8:cL (H7.new (.cells [va] none)) va T.snap:=cL.sub (cL.sub sa (rU _ _)) x8.sub;simp only [dB,aEh sa.plain,lo8,bF];generalize H7.new (.cells [va] none)=H8 at *;refine S.f48 hE sa8 ((h6.treeN (l:=0)).mono e68) g6.wf g6.kd fun H9 e9 =>?_;simp only [bF];have e69:=e68.trans e9;refine S.f47 hE ((h6.treeN (l:=0)).mono e69) g6.wf fun vc H10 e10 nc =>?_;have hpc:plain1 vc=true:=by obtain ⟨rows,h,_⟩:=nc; exact h.plain
 have hbv:bR [(0,1),(1,1),(2,1),(3,1),(4,1)] #[(.slice none 0 0),(.int .i64 0),(.slice none 0 0),(.int .i64 0),(.int .i64 0)] [(0,vc)]=some (.agg [vc,vi 0,aT,vi 0,vi 0].toArray):=by
  obtain ⟨rows,h,_⟩:=nc;rcases h.at_ with ⟨_,a,rfl⟩ | ⟨b,o,c,rfl,_⟩ <;> rfl
 have x11:Ext H10 (H10.new (.cells [vc,vi 0,aT,vi 0,vi 0] none)):=(Ext.refl _).new _;have hb11:=AH.get_new_self H10 (.cells [vc,vi 0,aT,vi 0,vi 0] none);simp only [hbv,fE,AM.cR,fI,List.toList_toArray,bF];generalize H10.new (.cells [vc,vi 0,aT,vi 0,vi 0] none)=H11 at *;have e6B:=e69.trans (e10.trans x11);have h11:=h6.frz e6B;refine S.f43 hE h11 g6 (by omega) bv more (hv2.mono e13) hll2 (fun x hx=>(hok2 x hx).mono e13) hl2 fun T' M' nx' H12 h12 g12 =>?_
 have z12:=h12.since (k:=0) rfl;have hge7:H6.next<=H7.next:=e7.1;have hge9:H6.next<=H9.next:=e69.1;have hge10:H6.next<=H10.next:=(e69.trans e10).1;have sa12:cL H12 va T.snap:=cL.sub (cL.sub sa (qB (Nat.le_refl _) (x8.trans (e9.trans (e10.trans x11))))) z12;have nc12:fQ H12 vc T:=fQ.sub (fQ.sub nc (qB hge9 x11)) z12;have hbA:H11.get H7.next = .cells [va] none:=(e9.trans (e10.trans x11)).cells hb8
 have hb12:H12.get H7.next = .cells [va] none:=by
  rw [z12.2 H7.next (by rw [AH.since_get hge7,hbA]; simp),AH.since_get hge7,hbA]
 have ht12:uE H12 H10.next T:=by
  refine ⟨vc,?_,nc12⟩;rw [z12.2 H10.next (by rw [AH.since_get hge10,hb11]; simp),AH.since_get hge10,hb11]
  rfl
 have lo12:bI 1 (ptr H7.next 0) H12=some (.agg #[va]):=by rw [cU,hb12]; rfl
 simp only [lo12,bF];refine S.f48 hE sa12 ht12 g6.wf g6.kd fun H13 e13' =>?_;simp only [bF];have h13:=h12.mono e13';refine S.f109 hE h13.at_ g12.wf g12.kd fun vd H14 e14 sd =>?_;simp only [bF];refine S.f48 hE (cL.sub sd (rU _ _)) ((h13.treeN (l:=0)).mono e14) g12.wf g12.kd fun H15 e15 =>?_;simp only [bF];exact hQ _
theorem S.law_SnapTrees (hE:bJ E) (args:List Value) (ha:jJ H [.slice 14 zW,.slice 14 zW] args) (hQ:∀ H',Q (vb true) H'):E.call (E.fid i.f46) args H Q:=by
 obtain ⟨v1,_,rfl,h1,ha⟩:=ha.cons_inv;obtain ⟨v2,_,rfl,h2,ha⟩:=ha.cons_inv;obtain rfl:=ha.nil_inv;obtain ⟨l,q1,q2,q3⟩:=pP.gacts h1;obtain ⟨l2,r1,r2,r3⟩:=pP.gacts h2;exact S.f46 hE v1 l q1 q2 q3 v2 l2 r1 r2 r3 hQ
end
end Go.AM
end
