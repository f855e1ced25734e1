/- CONTRACTS ON THE PRINTED FUNCTIONS. -/
import Derived.Test.YtgeenpollgalkaaGreatS8739C2
set_option linter.all false
section
namespace Go.AM
set_option maxRecDepth 20000
def oJ (l:List dK):List (BitVec 16×qG):=(l.filter fun x=>decide (x.kind=2#8)).map fun x=>(x.number,x.ents)
def lE (l:List dK):sL:=fun n=>(oJ l).lookup n
def eN (G:sL):List bO->Option sL
 | []=>some G
 | c :: l=>(jH G c).bind fun G'=>eN G' l
theorem nP (l l':List bO):∀ G:sL,eN G (l++l')=(eN G l).bind fun G'=>eN G' l':=by
 induction l with
 | nil=>intro G; rfl
 | cons c l ih =>
  intro G;simp only [List.cons_append,eN];cases jH G c with
  | none=>rfl
  | some G'=>simp [ih]
theorem qR (l:List dK) (x:dK):oJ (l++[x])=oJ l++if x.kind=2#8 then [(x.number,x.ents)] else []:=by
 unfold oJ;rw [List.filter_append,List.map_append]
 congr 1
 by_cases h:x.kind=2#8 <;> simp [h]
theorem qJ (l:List dK):List.Sublist ((oJ l).map Prod.fst) (l.map (·.number)):=by
 unfold oJ;rw [List.map_map];exact (List.filter_sublist).map (fun x:dK=>x.number)
theorem zT {l:List dK} {x:dK} (hk:x.kind=2#8) (hn:x.number ∉ l.map (·.number)):lE (l++[x])=qA (lE l) x.number (some x.ents):=by
 funext m
 unfold lE qA;rw [qR,if_pos hk,List.lookup_append];have hn':x.number ∉ (oJ l).map Prod.fst:=fun h=>hn ((qJ l).subset h)
 by_cases e:m=x.number
 ·subst e
  rw [eK.2 hn'];simp
 ·rw [if_neg e]
  have:(m == x.number)=false:=by simpa using e
  cases hl:(oJ l).lookup m <;> simp [List.lookup,this,hl]
theorem aCJ (G:sL) (n:BitVec 16) (a b:Option qG):qA (qA G n a) n b=qA G n b:=by
 funext m
 unfold qA
 split <;> rfl
section
variable {E:Sy} {H H' H0 Z:AH} {Q:Value->AH->Prop} {r b:Nat} {ol:List (BitVec 16×Nat)} {D:Nat->qG} {G:sL} {n:BitVec 16} {v u:Value}
theorem aBZ (h:eF H0 H r ol D) {l:List dK} (hF:lE l=mE ol D) {n:BitVec 16} (hn:n ∉ l.map (·.number)):n ∉ ol.map Prod.fst:=by
 intro hm
 have h1:mE ol D n=none:=by
  rw [<- hF];exact eK.2 fun h=>hn ((qJ l).subset h)
 unfold mE at h1;rw [Option.map_eq_none_iff] at h1;exact eK.1 h1 hm
theorem aDT (hE:bF E) {x:dK} {c:List Value} {nv iv:Value} (hc:c=[u16 x.number,u8 x.kind,str x.content,nv,iv]) (rn:Rows H0 1 nv (jD (x.ents.map Prod.fst))) (ri:Rows H0 1 iv (kC (x.ents.map Prod.snd))) (hnd:(x.ents.map Prod.fst).Nodup) (hel:x.ents.length<2 ^ 30)
  {bx i ln:Nat} {tv:Value} (hi:i<2 ^ 62) (h:eF H0 H r ol D) (hm:(x.number,b)∈ol) (hD:D b=[]) (hb:H.get bx = .cells c none) (hnr:bx≠r) (hnb:bx ∉ ol.map Prod.snd) {X0:List Value->AH->Prop}
  (next:∀ H',eF H0 H' r ol (fun y=>if y=b then x.ents else D y)->X0 [u,.map (some r),tv,vi ln,vi ((i+1:Nat):Int)] H') :
  aO (fun l H X1=>F.f103_l2 E Q X0 (nth l 0) (nth l 1) (nth l 2) (nth l 3) (nth l 4) (nth l 5) (nth l 6) (nth l 7) (nth l 8) H X1) [u,.map (some r),ptr bx 0,tv,vi ln,vi i,nv,vi x.ents.length,(.int .i64 0)] H:=by
 have i0:(.int .i64 0:Value)=vi ((0:Nat):Int):=rfl;rw [i0];refine aO.count x.ents.length (fun q ls H'=>ls=[u,.map (some r),ptr bx 0,tv,vi ln,vi i,nv,vi x.ents.length,vi q]/\eF H0 H' r ol (fun y=>if y=b then x.ents.take q else D y)/\H'.get bx = .cells c none) ?_ ⟨rfl,?_,hb⟩
 rotate_left
 ·have:(fun y=>if y=b then x.ents.take 0 else D y)=D:=by
   funext y
   by_cases e:y=b
   ·rw [if_pos e,e,hD]; rfl
   ·rw [if_neg e]
  rw [this];exact h
 rintro q _ H1 X1 hq hX ⟨rfl,h1,hb1⟩;rcases Nat.lt_or_ge q x.ents.length with hql | hql
 ·have hX:=hX hql
  have hql':(q:Int)<x.ents.length:=by omega
  have hqq:=dP (i:=q) (by omega)
  obtain ⟨bn,on,p1,p2,_⟩:=tZ (rn.mono h1.ext) (i:=q) (by rw [List.length_map]; exact hql)
  rw [List.getElem_map] at p2;obtain ⟨bi,oi,q1,q2⟩:=(ri.mono h1.ext).ix (i:=q) (by rw [fN,List.length_map]; exact hql)
  have hrw:(kC (x.ents.map Prod.snd))[q]'(by rw [fN,List.length_map]; exact hql)=[u16 (x.ents[q]).2]:=by simp [kC]
  rw [hrw] at q2;have q3:(H1.get bi).cell oi=some (u16 (x.ents[q]).2):=by have:=dL q2 (j:=0) (by omega); simpa using this
  have hlk:AM.look 0 (.map none) false (.map (some r)) (u16 x.number) H1=some (aCP b):=by rw [h1.look,dT h1.map.nodup hm]; rfl
  obtain ⟨o,_,s1,s2⟩:=h1.setIn hm (x.ents[q]).1 (x.ents[q]).2;have c0:c[0]? = some (u16 x.number):=by rw [hc]; rfl
  have c4:c[4]? = some iv:=by rw [hc]; rfl
  have hbb:bx≠b:=fun e=>hnb (List.mem_map.2 ⟨_,hm,e.symm⟩);simp only [F.f103_l2,bD,hql',decide_true,p1,p2,hb1,c0,hlk,c4,q1,q3,s1,hqq,aY];refine hX _ _ ⟨rfl,?_,by rw [AH.get_put_ne _ _ hbb]; exact hb1⟩
  have hfr:(x.ents[q]).1 ∉ (x.ents.take q).map Prod.fst:=by
   intro hmem;obtain ⟨j,hj,hje⟩:=List.getElem_of_mem hmem;simp only [List.length_map,List.length_take] at hj;simp only [List.getElem_map,List.getElem_take] at hje;have:=(List.getElem_inj (i:=j) (j:=q) (h₀:=by simp; omega) (h₁:=by simpa using hql) hnd).1 (by simpa using hje)
   omega
  have:(fun y=>if y=b then kA (x.ents[q]).1 (x.ents[q]).2 (if b=b then x.ents.take q else D b) else if y=b then x.ents.take q else D y)=fun y=>if y=b then x.ents.take (q+1) else D y:=by
   funext y
   by_cases e:y=b
   ·rw [if_pos e,if_pos e,if_pos rfl,kW _ _ _ hfr,List.take_succ_eq_append_getElem hql]
   ·rw [if_neg e,if_neg e,if_neg e]
  rw [<- this];exact s2
 ·have hql':¬ (q:Int)<x.ents.length:=by omega
  have hii:=dP (i:=i) (by omega)
  simp only [F.f103_l2,bD,hql',decide_false,hii,aY];rw [List.take_of_length_le hql] at h1;exact next _ h1
theorem aEA (hE:bF E) {l:List bO} (hl:Rows H0 5 v (dG l)) (hll:l.length<2 ^ 60) (hno:eN G l=none->∀ H',Ext H0 H'->Q (.tuple #[.map none,vi 22]) H') (hyes:∀ G' H',eN G l=some G'->tE H0 H' r G'->Q (.tuple #[.map (some r),vi 0]) H') (h:tE H0 H r G) :
  aO (fun l H X0=>F.f103_l3 E Q (nth l 0) (nth l 1) (nth l 2) (nth l 3) H X0) [.map (some r),v,vi l.length,(.int .i64 0)] H:=by
 have i0:(.int .i64 0:Value)=vi ((0:Nat):Int):=rfl;rw [i0];refine aO.count l.length (fun q ls H'=>∃ G',ls=[.map (some r),v,vi l.length,vi q]/\eN G (l.take q)=some G'/\tE H0 H' r G') ?_ ⟨G,rfl,rfl,h⟩;rintro q _ H1 X0 hq hX ⟨G1,rfl,ha,h1⟩;rcases Nat.lt_or_ge q l.length with hql | hql
 ·have hX:=hX hql
  have hql':(q:Int)<l.length:=by omega
  have hqq:=dP (i:=q) (by omega)
  have he1:Ext H0 H1:=by obtain ⟨_,_,h,_⟩:=h1; exact h.ext
  obtain ⟨b,o,f1,f2,_⟩:=(hl.mono he1).chg hql;have htk:l.take (q+1)=l.take q++[l[q]]:=List.take_succ_eq_append_getElem hql;have hsp:l=l.take q++l[q] :: l.drop (q+1):=by rw [<- List.drop_eq_getElem_cons hql,List.take_append_drop]
  have hall:eN G l=(jH G1 l[q]).bind fun G'=>eN G' (l.drop (q+1)):=by
   conv=>lhs; rw [hsp]
   rw [nP,ha]; rfl
  have hall2:eN G (l.take (q+1))=jH G1 l[q]:=by
   rw [htk,nP,ha];simp only [Option.bind_some,eN];cases jH G1 l[q] <;> rfl
  generalize l[q]=c at *
  have hst:storeN 5 (ptr H1.next 0) (.agg c.cells.toArray) (H1.new (.cells [(.int .u8 0),(.int .u16 0),(.string ⟨#[]⟩),(.int .u16 0),(.int .u16 0)] none))=some (H1.new (.cells c.cells none)):=by
   rw [eI,AH.get_new_self];have h3:AM.splice [(.int .u8 0),(.int .u16 0),(.string ⟨#[]⟩),(.int .u16 0),(.int .u16 0)] 0 c.cells=c.cells:=rfl;have h4:c.cells.all plain1=true:=rfl;have h5:c.cells.length=5:=rfl;have h6:([(.int .u8 0),(.int .u16 0),(.string ⟨#[]⟩),(.int .u16 0),(.int .u16 0)]:List Value).length=5:=rfl;simp only [List.size_toArray,List.toList_toArray,h5,h4,h6,Nat.zero_add,Nat.le_refl,and_self,if_true,h3,AH.new_put]
  have x2:Ext H1 (H1.new (.cells c.cells none)):=(Ext.refl _).new _;have lo:bM 5 (ptr H1.next 0) (H1.new (.cells c.cells none))=some (.agg c.cells.toArray):=by rw [cZ,AH.get_new_self]; rfl
  have h2:tE H0 (H1.new (.cells c.cells none)) r G1:=by
   obtain ⟨ol,D,h,e⟩:=h1;exact ⟨ol,D,h.grow x2,e⟩
  simp only [F.f103_l3,bD,hql',decide_true,f1,f2,dY,hst,lo,aY];refine S.f108 hE h2 c (fun hn H3 e3 =>?_) fun G2 H3 hs h3 =>?_
  ·have d:¬ ((22:Int)=0):=by decide
   simp only [cQ,i0,Int.ofNat_zero,ne_eq,d,not_false_eq_true,decide_true,aY];exact hno (by rw [hall,hn]; rfl) _ e3
  ·simp only [cQ,i0,Int.ofNat_zero,ne_eq,not_true,decide_false,hqq,aY]
   exact hX _ _ ⟨G2,rfl,by rw [hall2,hs],h3⟩
 ·have hql':¬ (q:Int)<l.length:=by omega
  rw [List.take_of_length_le hql] at ha;simp only [F.f103_l3,bD,hql',decide_false,aY];exact hyes G1 _ ha h1
theorem S.f103 (hE:bF E) {things:List dK} {l:List bO} (hs:dM H v things) (hnd:(things.map (·.number)).Nodup) (hen:∀ x∈things,(x.ents.map Prod.fst).Nodup/\x.ents.length<2 ^ 30) (htl:things.length<2 ^ 60) (hl:Rows H 5 u (dG l)) (hll:l.length<2 ^ 60)
  (hno:eN (lE things) l=none->∀ H',Ext H H'->Q (.tuple #[.map none,vi 22]) H') (hyes:∀ r G' H',eN (lE things) l=some G'->tE H H' r G'->Q (.tuple #[.map (some r),vi 0]) H'):E.call (E.fid i.f103) [.agg #[v],u] H Q:=by
 apply hE.f103;have hbo:(.agg #[v]:Value) = .agg [v].toArray:=rfl;have x1:Ext H (H.new (.cells [v] none)):=(Ext.refl _).new _;have hb1:=AH.get_new_self H (.cells [v] none);simp only [F.f103,hbo,fQ,AM.cW,fP,List.toList_toArray,aY];generalize hA:H.next=A at *;generalize H.new (.cells [v] none)=H1 at *;have hm2:fA u16 aCP (H1.new (.map [] 0 true)) H1.next ([]:List (BitVec 16×Nat)):=fA.new H1;have h2:eF H (H1.new (.map [] 0 true)) H1.next [] (fun _=>[]):=⟨x1.new _,x1.1,hm2,by simp,by simp⟩
 have hb2:(H1.new (.map [] 0 true)).get A = .cells [v] none:=((Ext.refl H1).new _).cells hb1;have hlv:=hs.lenSlc;have i0:(.int .i64 0:Value)=vi ((0:Nat):Int):=rfl;simp only [aCy,hb2,hlv,i0,aY];generalize H1.next=r at *;generalize H1.new (.map [] 0 true)=H2 at *;refine aO.count things.length (fun j ls H'=>ls=[u,.map (some r),v,vi things.length,vi j]/\tE H H' r (lE (things.take j))) ?_ ⟨rfl,[],_,h2,rfl⟩;rintro j _ H3 X0 hj hX ⟨rfl,ol,D,h3,hF⟩;rcases Nat.lt_or_ge j things.length with hjl | hjl
 rotate_left
 ·have hjl':¬ (j:Int)<things.length:=by omega
  have hlu:=hl.lenSlc;rw [eV] at hlu;rw [List.take_of_length_le hjl] at hF;simp only [F.f103_l1,bD,hjl',decide_false,hlu,aY];exact aEA hE hl hll hno (hyes r) ⟨ol,D,h3,hF⟩
 have hX:=hX hjl;have hjl':(j:Int)<things.length:=by omega
 have hjj:=dP (i:=j) (by omega)
 obtain ⟨b,o,c,f1,f2,nv,iv,hc,rn,ri⟩:=hs.ix hjl;have f4:bM 5 (ptr b o) H3=some (.agg c.toArray):=by rw [cZ,h3.ext.get (AH.lt_of_get (gS f2)),f2]; rfl
 have htk:things.take (j+1)=things.take j++[things[j]]:=List.take_succ_eq_append_getElem hjl
 have hfr:(things[j]).number ∉ (things.take j).map (·.number):=by
  intro hmem;obtain ⟨q,hq,hqe⟩:=List.getElem_of_mem hmem;simp only [List.length_map,List.length_take] at hq;simp only [List.getElem_map,List.getElem_take] at hqe;have:=(List.getElem_inj (i:=q) (j:=j) (h₀:=by simp; omega) (h₁:=by simpa using hjl) hnd).1 (by simpa using hqe)
  omega
 obtain ⟨en1,en2⟩:=hen _ (List.getElem_mem hjl);rw [htk] at hX;generalize things[j]=x at *;have hcl:c.length=5:=by rw [hc]; rfl
 have hcp:c.all plain1=true:=by
  rw [hc];simp only [List.all_cons,rn.plain,ri.plain,List.all_nil,Bool.and_true,Bool.true_and]; rfl
 have hst:storeN 5 (ptr H3.next 0) (.agg c.toArray) (H3.new (.cells [(.int .u16 0),(.int .u8 0),(.string ⟨#[]⟩),(.slice none 0 0),(.slice none 0 0)] none))=some (H3.new (.cells c none)):=by
  rw [eI,AH.get_new_self];have h3:AM.splice [(.int .u16 0),(.int .u8 0),(.string ⟨#[]⟩),(.slice none 0 0),(.slice none 0 0)] 0 c=c:=by rw [hc]; rfl
  have h6:([(.int .u16 0),(.int .u8 0),(.string ⟨#[]⟩),(.slice none 0 0),(.slice none 0 0)]:List Value).length=5:=rfl;simp only [List.size_toArray,List.toList_toArray,hcl,hcp,h6,Nat.zero_add,Nat.le_refl,and_self,if_true,h3,AH.new_put]
 have x4:Ext H3 (H3.new (.cells c none)):=(Ext.refl _).new _;have hb4:=AH.get_new_self H3 (.cells c none);have h4:=h3.grow x4;have hrlt:=h3.map.lt;have hblt:∀ p∈ol,p.2<H3.next:=fun p hp=>(h3.inner p hp).2.2.lt;have c0:c[0]? = some (u16 x.number):=by rw [hc]; rfl
 have c1:c[1]? = some (u8 x.kind):=by rw [hc]; rfl
 have c3:c[3]? = some nv:=by rw [hc]; rfl
 have k2:(.int .u8 2:Value)=u8 2#8:=rfl;simp only [F.f103_l1,bD,hjl',decide_true,f1,f4,dY,hst,hb4,c1,k2,dQ,aY];generalize hB:H3.next=B at *;generalize H3.new (.cells c none)=H4 at *
 by_cases hk:x.kind=2#8
 ·have hkeys:=aBZ h4 hF hfr
  obtain ⟨o5,_,s1,s2⟩:=h4.add hkeys;have hb5:(H4.new (.map [] 0 true)).get B = .cells c none:=((Ext.refl H4).new _).cells hb4;have hF2:=aC1 h4 hkeys;have hlt4:B<H4.next:=AH.lt_cells hb4;have hBr:B≠r:=by omega
  have hb6:((H4.new (.map [] 0 true)).put r o5).get B = .cells c none:=by rw [AH.get_put_ne _ _ hBr]; exact hb5
  have hnb:B ∉ (ol++[(x.number,H4.next)]).map Prod.snd:=by
   intro hm;rw [List.map_append,List.mem_append] at hm;rcases hm with hm | hm
   ·obtain ⟨p,hp,he⟩:=List.mem_map.1 hm
    have:=hblt p hp;omega
   ·simp at hm
    omega
  have hlnv:AM.lenSlc nv=some (vi x.ents.length):=by
   have:=rn.lenSlc;rw [jY,List.length_map] at this;exact this
  have s1:setMap 0 (.map (some r)) (u16 x.number) (.map (some H4.next)) (H4.new (.map [] 0 true))=some ((H4.new (.map [] 0 true)).put r o5):=s1;simp only [hk,decide_true,hb4,c0,aCy,hb5,s1,hb6,c3,hlnv,aY];refine aDT hE hc rn ri en1 en2 (by omega) s2 (List.mem_append_right _ (List.mem_singleton.2 rfl)) (if_pos rfl) hb6 hBr hnb fun H6 h6=>hX _ _ ⟨rfl,_,_,h6,?_⟩
  rw [zT hk hfr,hF,sD (List.mem_append_right _ (List.mem_singleton.2 rfl)) h6.map.nodup h6.nd,hF2,aCJ]
 ·simp only [hk,decide_false,hjj,aY]
  refine hX _ _ ⟨rfl,ol,D,h4,?_⟩;rw [<- hF];unfold lE;rw [qR,if_neg hk,List.append_nil]
end
end Go.AM
end
section
namespace Go.AM
set_option maxRecDepth 20000
section
variable {X:List Res} {E:Sy} {H H' H0 Z:AH} {Q:Value->AH->Prop} {w t:Nat} {T T':Tr} {M:List bV} {v v' lv:Value} {nx:Int}
theorem S.f46 (hE:bF E) {es:qG} (hr:Rows H 2 lv (fE es)) (hl:es.length<2 ^ 40) (s:aM) (hQ:∀ H',Ext H H'->Q (vi (((bL s es).getD 0#16).toNat:Int)) H'):E.call (E.fid i.f46) [lv,str s] H Q:=by
 apply hE.f46
 have hll:AM.lenSlc lv=some (vi es.length):=by
  have:=hr.lenSlc
  simpa [fE] using this
 have i0:(.int .i64 0:Value)=vi ((0:Nat):Int):=rfl;simp only [F.f46,hll,i0,aY];refine aO.count es.length (fun j ls H'=>ls=[str s,lv,vi es.length,vi j]/\Ext H H'/\bL s es=bL s (es.drop j)) ?_ ⟨rfl,Ext.refl _,by rw [List.drop_zero]⟩
 rintro j _ H1 X0 hj hX ⟨rfl,e1,ha⟩;rcases Nat.lt_or_ge j es.length with hjl | hjl
 ·have hX:=hX hjl
  have hjl':(j:Int)<es.length:=by omega
  have hjj:=dP (i:=j) (by omega)
  obtain ⟨b,o,p1,p2⟩:=aGi (hr.mono e1) hjl;rw [List.drop_eq_getElem_cons hjl,iO] at ha;generalize es[j]=x at *
  have hst:storeN 2 (ptr H1.next 0) (.agg #[str x.1,vi (x.2.toNat:Int)]) (H1.new (.cells [(.string ⟨#[]⟩),(.int .i64 0)] none))=some (H1.new (.cells [str x.1,vi (x.2.toNat:Int)] none)):=by
   rw [eI,AH.get_new_self];have h3:AM.splice [(.string ⟨#[]⟩),(.int .i64 0)] 0 [str x.1,vi (x.2.toNat:Int)]=[str x.1,vi (x.2.toNat:Int)]:=rfl;have h4:([str x.1,vi (x.2.toNat:Int)]:List Value).all plain1=true:=rfl;have e:(#[str x.1,vi (x.2.toNat:Int)]:Array Value)=[str x.1,vi (x.2.toNat:Int)].toArray:=rfl;simp only [e,List.size_toArray,List.toList_toArray,h4,List.length_cons,List.length_nil,Nat.zero_add,Nat.le_refl,and_self,if_true,h3,AH.new_put]
  have x2:Ext H1 (H1.new (.cells [str x.1,vi (x.2.toNat:Int)] none)):=(Ext.refl _).new _;have hb2:=AH.get_new_self H1 (.cells [str x.1,vi (x.2.toNat:Int)] none);have c0:([str x.1,vi (x.2.toNat:Int)]:List Value)[0]? = some (str x.1):=rfl;have c1:∀ y:aM,([str y,vi (x.2.toNat:Int)]:List Value)[1]? = some (vi (x.2.toNat:Int)):=fun _=>rfl;simp only [F.f46_l1,bD,hjl',decide_true,p1,p2,dY,hst,hb2,c0,lJ,aY];generalize H1.new (.cells [str x.1,vi (x.2.toNat:Int)] none)=H2 at *
  by_cases e:x.1=s
  ·rw [if_pos e.symm] at ha
   rw [ha] at hQ;simp only [e,decide_true,hb2,c1,aY];exact hQ _ (e1.trans x2)
  ·rw [if_neg fun h=>e h.symm] at ha
   simp only [e,decide_false,hjj,aY];exact hX _ _ ⟨rfl,e1.trans x2,ha⟩
 ·have hjl':¬ (j:Int)<es.length:=by omega
  rw [List.drop_eq_nil_of_le hjl] at ha;rw [ha] at hQ;simp only [F.f46_l1,bD,hjl',decide_false,aY];exact hQ _ e1
theorem S.snap_Of_none (hE:bF E) (hQ:∀ H',Ext H H'->Q (.agg #[aT]) H'):E.call (E.fid i.f106) [.pointer none] H Q:=by
 apply hE.f106;have g2:=((Has.start (Ext.refl H)).newbox [aT]).newbox [aT];have g2:Has H H ((H.new (.cells [aT] none)).new (.cells [aT] none)) [bP H.next [aT],bP (H.next+1) [aT]]:=g2;have zn:([(.slice none 0 0)]:List Value)=[aT]:=rfl;have hbn:cS eQ .eql (.pointer none) (.pointer none)=some (vb true):=rfl;simp only [F.f106,zn,dY,hbn,aY];have hn:(H.new (.cells [aT] none)).next=H.next+1:=rfl;generalize (H.new (.cells [aT] none)).new (.cells [aT] none)=H2 at *;have lo:bM 1 (ptr (H.next+1) 0) H2=some (.agg #[aT]):=by rw [cZ,g2.box (k:=1) (b:=H.next+1) rfl]; rfl
 have hst:storeN 1 (ptr H.next 0) (.agg #[aT]) H2=some (H2.put H.next (.cells [aT] none)):=by
  rw [eI,g2.box (k:=0) (b:=H.next) rfl];have:plain1 aT=true:=rfl;simp [this,splice]
 have g3:=g2.put (k:=0) (b:=H.next) rfl [aT];have lo2:bM 1 (ptr H.next 0) (H2.put H.next (.cells [aT] none))=some (.agg #[aT]):=by rw [cZ,g3.box (k:=0) (b:=H.next) rfl]; rfl
 simp only [lo,hst,lo2,aY];exact hQ _ g3.ext
theorem S.len_none (hE:bF E) (hQ:∀ H',Ext H H'->Q (vi 0) H'):E.call (E.fid i.f107) [.agg #[aT]] H Q:=by
 refine S.f107 hE (l:=[]) ⟨[],Rows.nil _ _ _,rfl,fun i h=>by simp at h⟩ fun H' e =>?_
 exact hQ H' e
theorem Tr.snap_nodup (hl:T.N.length<=65536):(T.snap.map (·.number)).Nodup:=by
 have h1:=Tr.nums_rise hl;unfold Tr.snap;rw [List.map_map];have:((fun x:dK=>x.number) ∘ T.thing)=id:=rfl;rw [this,List.map_id];refine h1.imp fun {a b} h =>?_;rintro rfl;simp [cB] at h
theorem aBA (hl:T.N.length<=65536) (n:BitVec 16):lE T.snap n=if (T.node n).kind=2#8 then some (T.node n).ents else none:=by
 unfold lE;have hnd:((oJ T.snap).map Prod.fst).Nodup:=(Tr.snap_nodup hl).sublist (qJ _)
 by_cases hk:(T.node n).kind=2#8
 ·rw [if_pos hk]
  apply dT hnd;unfold oJ;refine List.mem_map.2 ⟨T.thing n,List.mem_filter.2 ⟨List.mem_map.2 ⟨n,(Tr.nums_mem hl n).2 (by rw [hk]; decide),rfl⟩,decide_eq_true hk⟩,rfl⟩
 ·rw [if_neg hk]
  apply eK.2;intro hm;unfold oJ at hm;rw [List.map_map] at hm;obtain ⟨x,hx,e⟩:=List.mem_map.1 hm;obtain ⟨h1,h2⟩:=List.mem_filter.1 hx;obtain ⟨m,_,rfl⟩:=List.mem_map.1 h1;have e:m=n:=e;subst e;have h2:decide ((T.node m).kind=2#8)=true:=h2;exact hk (by simpa using h2)
def wR (T:Tr) (c:bO):Bool :=
 if c.how=1#8\/c.how=2#8\/c.how=3#8 then true
 else if c.how=4#8\/c.how=5#8\/c.how=6#8 then decide ((T.node c.number).kind=2#8)&&decide ((bL c.name (T.node c.number).ents).getD 0#16=c.old)
 else false
theorem aB6 (hl:T.N.length<=65536) (c:bO):(eN (lE T.snap) [c]).isSome=wR T c:=by
 have h0:eN (lE T.snap) [c]=jH (lE T.snap) c:=by
  simp only [eN];cases jH (lE T.snap) c <;> rfl
 rw [h0];unfold jH wR;rw [aBA hl]
 by_cases e2:c.how=2#8
 ·simp [e2]
 by_cases e4:c.how=4#8\/c.how=5#8\/c.how=6#8
 ·have n1:¬ (c.how=1#8\/c.how=2#8\/c.how=3#8):=by rcases e4 with e | e | e <;> rw [e] <;> decide
  rw [if_neg e2,if_pos e4,if_neg n1,if_pos e4]
  by_cases hk:(T.node c.number).kind=2#8
  ·simp only [if_pos hk,hk,decide_true,Bool.true_and]
   by_cases ho:(bL c.name (T.node c.number).ents).getD 0#16=c.old
   ·simp [ho]
   ·simp [ho]
  ·simp only [if_neg hk,hk,decide_false,Bool.false_and]
   rfl
 ·rw [if_neg e2,if_neg e4,if_neg e4]
  by_cases e1:c.how=1#8\/c.how=3#8
  ·rw [if_pos e1,if_pos (by rcases e1 with e | e <;> simp [e])]
   rfl
  ·rw [if_neg e1,if_neg (by simp only [not_or] at e1 ⊢; exact ⟨e1.1,e2,e1.2⟩)]
   rfl
end
end Go.AM
end
section
namespace Go.AM
set_option maxRecDepth 20000
section
variable {X:List Res} {E:Sy} {H H' H0 Z:AH} {Q:Value->AH->Prop} {w t A:Nat} {T T':Tr} {M:List bV} {v v':Value} {nx:Int} {c:bO}
theorem oS (hE:bF E) (hl:c.name.length<2 ^ 60) (hb:H.get A = .cells c.cells none) (e:Int) (hQ:∀ H',Q (vb true) H'):F.f45_j3 E Q (ptr A 0) (str c.text) (vi e) (vi e) H:=by
 have lo:bM 5 (ptr A 0) H=some (.agg c.cells.toArray):=by rw [cZ,hb]; rfl
 have i0:(.int .i64 0:Value)=vi 0:=rfl;simp only [F.f45_j3,lo,aY];refine S.f104 hE c hl fun H1 e1 =>?_;simp only [lJ,decide_true,aU,aY];refine S.snap_Of_none hE fun H2 e2 =>?_;simp only [aY];refine S.len_none hE fun H3 e3 =>?_;simp only [i0,aU,decide_true,aY];exact hQ _
theorem aEP (hE:bF E) (hl:c.name.length<2 ^ 60) (hb:H.get A = .cells c.cells none) {b o:Nat} {x:Nd} {y:RLy} (hn:tV H b o x y) (hel:x.ents.length<2 ^ 40) (e:Int)
  (he:e=if (decide (x.kind=2#8)&&decide ((bL c.name x.ents).getD 0#16=c.old))=true then 0 else 22) (hQ:∀ H',Q (vb true) H'):F.f45_j5 E Q (ptr A 0) (str c.text) (ptr b o) (vi e) (vi 0) (vb true) H:=by
 obtain ⟨k0,_,k2,_⟩:=hn.cell;have i22:(.int .i64 22:Value)=vi 22:=rfl;have i2:(.int .i64 2:Value)=vi 2:=rfl;have c2:c.cells[2]? = some (str c.name):=rfl;have c3:c.cells[3]? = some (u16 c.old):=rfl
 by_cases hk:x.kind=2#8
 ·have hk':(x.kind.toNat:Int)=2:=by rw [hk]; rfl
  simp only [hk,decide_true,Bool.true_and] at he;have hne:aA .neq (vi (x.kind.toNat:Int)) (vi 2)=some (vb false):=by rw [cQ,hk']; rfl
  simp only [F.f45_j5,k0,i2,hne,k2,hb,c2,c3,kU,aY];refine S.f46 hE hn.2.2 hel c.name fun H1 e1 =>?_;have hb1:=e1.cells hb;refine ⟨by simp [hb1,hb,c3],?_⟩
  by_cases ho:(bL c.name x.ents).getD 0#16=c.old
  ·rw [if_pos (decide_eq_true ho)] at he
   subst he;rw [ho];simp only [cQ,ne_eq,not_true,decide_false,aY];exact oS hE hl hb1 0 hQ
  ·rw [if_neg (by simpa using ho)] at he
   subst he;have ho':¬ ((((bL c.name x.ents).getD 0#16).toNat:Int)=(c.old.toNat:Int)):=fun h=>ho (BitVec.eq_of_toNat_eq (by omega))
   simp only [cQ,ne_eq,ho',not_false_eq_true,decide_true,i22,aY];exact oS hE hl hb1 22 hQ
 ·have hk':¬ ((x.kind.toNat:Int)=2):=fun h=>hk (BitVec.eq_of_toNat_eq (by simp; omega))
  rw [if_neg (by simp [hk])] at he
  subst he;have hne:aA .neq (vi (x.kind.toNat:Int)) (vi 2)=some (vb true):=by rw [cQ]; simp [hk']
  simp only [F.f45_j5,k0,i2,hne,i22,aFJ,aY];exact ⟨fun _=>trivial,oS hE hl hb 22 hQ⟩
theorem S.snap_ApplyE (hE:bF E) {l:List bO} (hs:dM H v T.snap) (wf:T.WF) (hl:Rows H 5 v' (dG l)) (hll:l.length<2 ^ 60)
  (hQ:∀ u H',Ext H H'->Q (.tuple #[u,vi (if (eN (lE T.snap) l).isSome=true then 0 else 22)]) H'):E.call (E.fid i.f103) [.agg #[v],v'] H Q:=by
 have h16:=wf.len16;refine S.f103 hE hs (Tr.snap_nodup (by omega)) (fun x hx =>?_) (by have:=vP T wf; omega) hl hll (fun hno H' e =>?_) fun r G' H' hy d =>?_
 ·refine ⟨?_,sT T wf x hx⟩
  obtain ⟨n,_,rfl⟩:=List.mem_map.1 hx;exact wf.nodup_names n
 ·have:=hQ (.map none) H' e
  rw [hno] at this;exact this
 ·obtain ⟨_,_,d,_⟩:=d
  have:=hQ (.map (some r)) H' d.ext;rw [hy] at this;exact this
theorem aFv (hE:bF E) (hl:c.name.length<2 ^ 60) (hb:H.get A = .cells c.cells none) (av:Value) (acts:List eE) (hv:Rows H 14 av (acts.map eE.cells)) (hll:acts.length<=9223372036854775807) (hok:∀ x∈acts,x.act.ok H) (hlt:kF acts=true) (hQ:∀ H',Q (vb true) H'):F.f45_j2 E Q av (ptr A 0) (str c.text) H:=by
 have c0:c.cells[0]? = some (u8 c.how):=rfl;have c1:c.cells[1]? = some (u16 c.number):=rfl;simp only [F.f45_j2];refine S.f40 hE av acts hv hll hok hlt fun w t T M nx H1 h1 g1 =>?_;have hb1:=h1.ext.cells hb;simp only [hb1,c1,kU,aY];refine aGM.node hE (h1.ref g1) c.number fun b o y H2 e2 hn =>?_;have hb2:=e2.cells hb1;have lo:∀ {H'},Ext H2 H'->bM 5 (ptr A 0) H'=some (.agg c.cells.toArray):=fun e=>by rw [cZ,e.cells hb2]; rfl
 have hbS:buildS 1 5 #[(.int .u8 0),(.int .u16 0),(.string ⟨#[]⟩),(.int .u16 0),(.int .u16 0)] [(0,.agg c.cells.toArray)]=some (.cells c.cells none,dV 1 1):=eH 5 [u8 0#8,u16 0#16,str [],u16 0#16,u16 0#16] c.cells rfl rfl;have hr:Rows (H2.new (.cells c.cells none)) 5 (slc H2.next 0 1 1) (dG [c]):=Rows.made (rows:=[c.cells]) (AH.get_new_self _ _) (.inl rfl) rfl (by simp [bO.cells])
 have x3:Ext H2 (H2.new (.cells c.cells none)):=(Ext.refl _).new _;have hb3:=AH.get_new_self H2 (.cells c.cells none);simp only [lo (Ext.refl _),hbS,AM.cW,eD,aY];generalize H2.next=B at *;generalize H2.new (.cells c.cells none)=H3 at *;have h3:=h1.mono (e2.trans x3);refine S.f106 hE h3.at_ g1.wf g1.kd fun va H4 e4 sa =>?_;refine ⟨(e4.cells hb3).trans hb3.symm,(lo (x3.trans e4)).trans (lo (Ext.refl _)).symm,?_⟩;refine S.snap_ApplyE hE (dM.sub sa (xJ _ _)) g1.wf (hr.mono e4) (by simp) fun u H5 e5 =>?_
 have h16:=g1.wf.len16;rw [aB6 (by omega)]
 have e25:=x3.trans (e4.trans e5);have hb5:=e25.cells hb2;have hn5:=hn.mono e25;have hsz:=g1.wf.size c.number;have k1:(.int .u8 1:Value)=u8 1#8:=rfl;have k2:(.int .u8 2:Value)=u8 2#8:=rfl;have k3:(.int .u8 3:Value)=u8 3#8:=rfl;have k4:(.int .u8 4:Value)=u8 4#8:=rfl;have k5:(.int .u8 5:Value)=u8 5#8:=rfl;have k6:(.int .u8 6:Value)=u8 6#8:=rfl;have i0:(.int .i64 0:Value)=vi 0:=rfl;have i22:(.int .i64 22:Value)=vi 22:=rfl;simp only [hb5,c0,k1,dQ,aY]
 have ok0:(c.how=1#8\/c.how=2#8\/c.how=3#8)->∀ x:Value,F.f45_j4 E Q (ptr A 0) (str c.text) (ptr b o) (vi (if wR T c=true then 0 else 22)) (vi 0) x (vb true) H5:=by
  intro h x;have hf:wR T c=true:=by unfold wR; rw [if_pos h]
  rw [if_pos hf];simp only [F.f45_j4,aY];exact oS hE hl hb5 0 hQ
 have ok5:(c.how=4#8\/c.how=5#8\/c.how=6#8)->F.f45_j5 E Q (ptr A 0) (str c.text) (ptr b o) (vi (if wR T c=true then 0 else 22)) (vi 0) (vb true) H5:=by
  intro h;have n1:¬ (c.how=1#8\/c.how=2#8\/c.how=3#8):=by rcases h with e | e | e <;> rw [e] <;> decide
  have hf:wR T c=(decide ((T.node c.number).kind=2#8)&&decide ((bL c.name (T.node c.number).ents).getD 0#16=c.old)):=by unfold wR; rw [if_neg n1,if_pos h]
  exact aEP hE hl hb5 hn5 (by omega) _ (by rw [hf]) hQ
 by_cases e1:c.how=1#8
 ·have:=ok0 (.inl e1) (u8 c.how)
  simp only [e1,i0,decide_true,aY] at this ⊢;exact this
 by_cases e2:c.how=2#8
 ·have d:¬ (2#8:BitVec 8)=1#8:=by decide
  have:=ok0 (.inr (.inl e2)) (u8 c.how);simp only [e2,d,k2,dQ,i0,decide_true,decide_false,aY] at this ⊢;exact this
 by_cases e3:c.how=3#8
 ·have d:¬ (3#8:BitVec 8)=1#8:=by decide
  have d':¬ (3#8:BitVec 8)=2#8:=by decide
  have:=ok0 (.inr (.inr e3)) (u8 c.how);simp only [e3,d,d',k2,k3,dQ,i0,decide_true,decide_false,aY] at this ⊢;exact this
 simp only [e1,e2,e3,k2,k3,k4,dQ,i0,decide_false,F.f45_j4,aY]
 by_cases e4:c.how=4#8
 ·have:=ok5 (.inl e4)
  simp only [e4,decide_true,aY];exact this
 by_cases e5:c.how=5#8
 ·have:=ok5 (.inr (.inl e5))
  have d:¬ (5#8:BitVec 8)=4#8:=by decide
  simp only [e5,d,k5,dQ,decide_true,decide_false,aY];exact this
 by_cases e6:c.how=6#8
 ·have:=ok5 (.inr (.inr e6))
  have d:¬ (6#8:BitVec 8)=4#8:=by decide
  have d':¬ (6#8:BitVec 8)=5#8:=by decide
  simp only [e6,d,d',k5,k6,dQ,decide_true,decide_false,F.f45_j5,aY];simp only [F.f45_j5,aY] at this;exact this
 ·have hf:wR T c=false:=by unfold wR; rw [if_neg (by simp [e1,e2,e3]),if_neg (by simp [e4,e5,e6])]
  simp only [e4,e5,e6,k5,k6,dQ,decide_false,F.f45_j5,hf,Bool.false_eq_true,if_false,i22,aY];exact oS hE hl hb5 22 hQ
theorem aA1 (hE:bF E) (hl:c.name.length<=100) (hb:H.get A = .cells c.cells none) (av:Value) (acts:List eE) (hv:Rows H 14 av (acts.map eE.cells)) (hll:acts.length<=9223372036854775807) (hok:∀ x∈acts,x.act.ok H) (hlt:kF acts=true) (hQ:∀ H',Q (vb true) H'):F.f45_j1 E Q av (ptr A 0) (str (mK c.how)) H:=by
 obtain ⟨n1,n2,n3,n4⟩:=yD c.number;obtain ⟨o1,o2,o3,o4⟩:=yD c.old;obtain ⟨w1,w2,w3,w4⟩:=yD c.new;have hw:=xA c.how;generalize hW:mK c.how=W at *;have c0:c.cells[0]? = some (u8 c.how):=rfl;have c1:c.cells[1]? = some (u16 c.number):=rfl;have c2:c.cells[2]? = some (str c.name):=rfl;have c3:c.cells[3]? = some (u16 c.old):=rfl;have c4:c.cells[4]? = some (u16 c.new):=rfl;have s32:(.string ⟨#[32]⟩:Value)=str [32]:=rfl;have k4:(.int .u8 4:Value)=u8 4#8:=rfl;have k5:(.int .u8 5:Value)=u8 5#8:=rfl;have k6:(.int .u8 6:Value)=u8 6#8:=rfl;simp only [F.f45_j1,hb,c1,n1,aY];refine S.f47 hE _ _ n2 n3 fun H1 e1 =>?_;have hb1:=e1.cells hb;have a1:=cI [32] (bT c.number.toNat) (by simp; omega)
 have a2:=cI W ([32]++bT c.number.toNat) (by simp; omega)
 have a3:=cI [32] c.name (by simp; omega)
 have a4:=cI ([32]++c.name) [32] (by simp; omega)
 have l3:([32]++c.name++[32]:List UInt8).length=c.name.length+2:=by simp
 have l2:(W++([32]++bT c.number.toNat)).length<=15:=by simp; omega
 simp only [s32,a1,a2,hb1,c3,c4,o1,w1,aY];refine S.f47 hE _ _ o2 o3 fun H2 e2 =>?_;have hb2:=e2.cells hb1;refine ⟨by simp only [hb1,hb2,c4,aY],?_⟩
 simp only [aY];refine S.f47 hE _ _ w2 w3 fun H3 e3 =>?_;have hb3:=e3.cells hb2;have e03:=e1.trans (e2.trans e3)
 have fin:∀ s,s=c.text->F.f45_j2 E Q av (ptr A 0) (str s) H3:=by
  rintro _ rfl;exact aFv hE (by omega) hb3 av acts (hv.mono e03) hll (fun x hx=>(hok x hx).mono e03) hlt hQ
 simp only [hb3,c0,k4,dQ,aY]
 by_cases h4:c.how=4#8
 ·have a5:=cI ([32]++c.name++[32]) (bT c.new.toNat) (by omega)
  have a6:=cI (W++([32]++bT c.number.toNat)) (([32]++c.name++[32])++bT c.new.toNat) (by rw [List.length_append (as:=[32]++c.name++[32])]; omega)
  simp only [h4,decide_true,hb3,c2,s32,a3,a4,a5,a6,aY];exact fin _ (by unfold bO.text; rw [if_pos h4,hW])
 by_cases h5:c.how=5#8
 ·have a5:=cI ([32]++c.name++[32]) (bT c.old.toNat) (by omega)
  have a6:=cI (W++([32]++bT c.number.toNat)) (([32]++c.name++[32])++bT c.old.toNat) (by rw [List.length_append (as:=[32]++c.name++[32])]; omega)
  have d:¬ (5#8:BitVec 8)=4#8:=by decide
  simp only [h5,d,k5,dQ,decide_true,decide_false,hb3,c2,s32,a3,a4,a5,a6,aY];exact fin _ (by unfold bO.text; rw [if_neg h4,if_pos h5,hW])
 by_cases h6:c.how=6#8
 ·have d:¬ (6#8:BitVec 8)=4#8:=by decide
  have d':¬ (6#8:BitVec 8)=5#8:=by decide
  have a5:=cI ([32]++c.name++[32]) (bT c.old.toNat) (by omega)
  have l5:(([32]++c.name++[32])++bT c.old.toNat).length<=c.name.length+9:=by rw [List.length_append]; omega
  have a6:=cI (([32]++c.name++[32])++bT c.old.toNat) [32] (by simp only [List.length_singleton]; omega)
  have l6:((([32]++c.name++[32])++bT c.old.toNat)++[32]).length<=c.name.length+10:=by rw [List.length_append,List.length_singleton]; omega
  have a7:=cI ((([32]++c.name++[32])++bT c.old.toNat)++[32]) (bT c.new.toNat) (by omega)
  have a8:=cI (W++([32]++bT c.number.toNat)) ((((([32]++c.name++[32])++bT c.old.toNat)++[32]))++bT c.new.toNat) (by rw [List.length_append (bs:=bT c.new.toNat)]; omega)
  simp only [h6,d,d',k5,k6,dQ,decide_true,decide_false,hb3,c2,s32,a3,a4,a5,a6,a7,a8,aY];exact fin _ (by unfold bO.text; rw [if_neg h4,if_neg h5,if_pos h6,hW])
 ·simp only [h4,h5,h6,k5,k6,dQ,decide_false,aY]
  exact fin _ (by unfold bO.text; rw [if_neg h4,if_neg h5,if_neg h6,hW,List.append_nil])
theorem S.f45 (hE:bF E) (c:bO) (av:Value) (acts:List eE) (hv:Rows H 14 av (acts.map eE.cells)) (hll:acts.length<=9223372036854775807) (hok:∀ x∈acts,x.act.ok H) (hQ:∀ H',Q (vb true) H'):E.call (E.fid i.f45) [.agg c.cells.toArray,av] H Q:=by
 apply hE.f45;have x1:Ext H (H.new (.cells c.cells none)):=(Ext.refl _).new _;have hb1:=AH.get_new_self H (.cells c.cells none);simp only [F.f45,fQ,AM.cW,fP,List.toList_toArray,aY];generalize H.next=A at *;generalize H.new (.cells c.cells none)=H1 at *;have c0:c.cells[0]? = some (u8 c.how):=rfl;have c2:c.cells[2]? = some (str c.name):=rfl;refine S.f44 hE fun H2 e2 =>?_;have hb2:=e2.cells hb1;have e02:=x1.trans e2;have i100:(.int .i64 100:Value)=vi 100:=rfl;simp only [hb2,c2,jX,i100,aY]
 by_cases hlen:c.name.length<=100
 rotate_left
 ·have hg:aA .gtr (vi (c.name.length:Int)) (vi 100)=some (vb true):=by
   rw [cT]; simp; omega
  simp only [hg,aY];exact hQ _
 have hg:aA .gtr (vi (c.name.length:Int)) (vi 100)=some (vb false):=by
  rw [cT]; simp; omega
 simp only [hg,aY];refine S.f41 hE av acts (hv.mono e02) hll (fun x hx=>(hok x hx).mono e02) fun H3 e3 =>?_;have e03:=e02.trans e3;cases hlt:kF acts with
 | false =>
  simp only [aY];exact hQ _
 | true =>
 have hb3:=e3.cells hb2;have hbS:buildS 7 1 #[(.string ⟨#[]⟩)] [(0,(.string ⟨#[63]⟩)),(1,(.string ⟨#[109,97,100,101]⟩)),(2,(.string ⟨#[103,111,110,101]⟩)),(3,(.string ⟨#[119,114,105,116,116,101,110]⟩)),(4,(.string ⟨#[97,100,100,101,100]⟩)),(5,(.string ⟨#[114,101,109,111,118,101,100]⟩)),(6,(.string ⟨#[116,117,114,110,101,100]⟩))]=some (.cells (kE.map str) none,dV 7 7):=gU 7 1 [str []] _ (kE.map str) rfl rfl rfl rfl (by intro v hv; obtain ⟨x,_,rfl⟩:=List.mem_map.1 hv; rfl)
 have hr:Rows (H3.new (.cells (kE.map str) none)) 1 (slc H3.next 0 7 7) (jD kE):=Rows.made (rows:=jD kE) (AH.get_new_self _ _) (.inl rfl) rfl (by simp [jD])
 have x4:Ext H3 (H3.new (.cells (kE.map str) none)):=(Ext.refl _).new _;simp only [hbS,AM.cW,eD,aY];generalize H3.next=B at *;generalize H3.new (.cells (kE.map str) none)=H4 at *;have hb4:=x4.cells hb3;have e04:=e03.trans x4;have hlv:AM.lenSlc (slc B 0 7 7)=some (vi 7):=hr.lenSlc;simp only [hb4,c0,kR,hlv,aY];have s63:(.string ⟨#[63]⟩:Value)=str [63]:=rfl
 by_cases h7:c.how.toNat<7
 ·have hlss:aA .lss (vi (c.how.toNat:Int)) (vi 7)=some (vb true):=by rw [bD]; simp; omega
  obtain ⟨b,o,p1,p2,_⟩:=tZ hr (i:=c.how.toNat) h7;have p1:aG 1 (slc B 0 7 7) (u8 c.how)=some (ptr b o):=by rw [<- p1]; exact aBf _ _ _
  have hw:mK c.how=kE[c.how.toNat]:=by
   unfold mK;rw [List.getD_eq_getElem?_getD,List.getElem?_eq_getElem (show c.how.toNat<kE.length from h7)]
   rfl
  rw [<- hw] at p2;simp only [hlss,hb4,c0,p1,p2,aY];exact aA1 hE hlen hb4 av acts (hv.mono e04) hll (fun x hx=>(hok x hx).mono e04) hlt hQ
 ·have hlss:aA .lss (vi (c.how.toNat:Int)) (vi 7)=some (vb false):=by rw [bD]; simp; omega
  have hw:mK c.how=[63]:=by
   unfold mK;rw [List.getD_eq_getElem?_getD,List.getElem?_eq_none (by show 7<=_; omega)]
   rfl
  simp only [hlss,s63,aY];rw [<- hw];exact aA1 hE hlen hb4 av acts (hv.mono e04) hll (fun x hx=>(hok x hx).mono e04) hlt hQ
theorem S.law_SnapTexts (hE:bF E) (args:List Value) (ha:jK H [.struct [.int .u8,.int .u16,.str,.int .u16,.int .u16],.slice 14 aBP] args) (hQ:∀ H',Q (vb true) H'):E.call (E.fid i.f45) args H Q:=by
 obtain ⟨v1,_,rfl,h1,ha⟩:=ha.cons_inv;obtain ⟨v2,_,rfl,h2,ha⟩:=ha.cons_inv;obtain rfl:=ha.nil_inv;obtain ⟨cs,rfl,h1⟩:=h1;obtain ⟨c1,c2,rfl,k1,c3,c4,rfl,k2,c5,c6,rfl,k3,c7,c8,rfl,k4,c9,c10,rfl,k5,rfl⟩:=h1;obtain ⟨x1,rfl⟩:=k1.u8;obtain ⟨x2,rfl⟩:=k2.u16;obtain ⟨x3,rfl,_⟩:=k3;obtain ⟨x4,rfl⟩:=k4.u16;obtain ⟨x5,rfl⟩:=k5.u16;obtain ⟨l,q1,q2,q3⟩:=rE.gacts h2;exact S.f45 hE ⟨x1,x2,x3,x4,x5⟩ v2 l q1 q2 q3 hQ
end
end Go.AM
end
