/- CONTRACTS ON THE PRINTED FUNCTIONS. -/
import Derived.Test.YtgeenpollgalkaaGreatDoorDcb1bC2
set_option linter.all false
section
namespace Go.AM
set_option maxRecDepth 20000
def aEB (k:BitVec 16) (K:List (BitVec 16)):List (BitVec 16):=if k∈K then K else K++[k]
theorem zS (k:BitVec 16):∀ K:List (BitVec 16),jH k true (K.map fun x=>(x,true))=(aEB k K).map fun x=>(x,true)
 | []=>rfl
 | a :: K=>by
  have ih:=zS k K
  by_cases e:a=k
  ·subst e
   simp [jH,aEB]
  ·have e':¬ k=a:=fun h=>e h.symm
   simp only [List.map_cons,jH,e,if_false,ih];unfold aEB
   by_cases hm:k∈K
   ·simp [hm]
   ·simp [hm,e']
theorem aFN {k x:BitVec 16} {K:List (BitVec 16)}:x∈aEB k K↔x∈K\/x=k:=by
 unfold aEB
 split
 ·rename_i h
  exact ⟨.inl,fun h'=>h'.elim id fun e=>e▸h⟩
 ·simp
theorem aID (k:BitVec 16):∀ K:List (BitVec 16),(K.map fun x=>(x,true)).lookup k=if k∈K then some true else none
 | []=>rfl
 | a :: K=>by
  have ih:=aID k K;simp only [List.map_cons,List.lookup]
  by_cases e:k=a
  ·simp [e]
  ·have e':(k == a)=false:=by simpa using e
   simp [e',e,ih]
theorem xW {l:List (BitVec 16)} (h:pF l):l.Nodup:=h.imp fun {a b} hab e=>by subst e; simp [bU] at hab
theorem aHx {l K:List (BitVec 16)} (h1:l.Nodup) (h2:K.Nodup) (h:∀ x,x∈l↔x∈K):l.length=K.length:=((List.perm_ext_iff_of_nodup h1 h2).2 h).length_eq
theorem aFo (x:BitVec 16):un .xor (u16 x)=some (u16 (~~~x)):=by
 have h:(BitVec.ofInt 16 65535 ^^^ x) = ~~~x:=by
  have:BitVec.ofInt 16 65535=BitVec.allOnes 16:=by decide
  rw [this,BitVec.allOnes_xor]
 simp only [fB]
 show some (Value.int .u16 (IntKind.u16.wrap ((BitVec.ofInt 16 65535 ^^^ BitVec.ofInt 16 (x.toNat:Int)).toNat:Int)))=_
 rw [eI,h];exact congrArg (fun z=>some (Value.int .u16 z)) (nY .u16 rfl _)
theorem aFp (l:kY) (i:Nat):(qS l).getLsbD i=l.any fun x=>x.2.h.getLsbD i:=by
 unfold qS
 have:∀ (l:kY) (r:BitVec 16),(l.foldl (fun r x=>r|||x.2.h) r).getLsbD i=(r.getLsbD i||l.any fun x=>x.2.h.getLsbD i):=by
  intro l
  induction l with
  | nil=>intro r; simp
  | cons x l ih=>intro r; rw [List.foldl_cons,ih]; simp [Bool.or_assoc]
 rw [this]; simp
theorem aB3 (l:kY) (n:BitVec 16) (A:List aG):fE l (~~~qS l) n A=0#16:=by
 apply BitVec.eq_of_getLsbD_eq;intro i hi;rw [zC,BitVec.getLsbD_zero,List.any_eq_false];intro x hx hb;unfold iZ.denied at hb;simp only [BitVec.getLsbD_and,BitVec.getLsbD_not,hi,decide_true,Bool.true_and,Bool.and_eq_true,Bool.not_eq_true',aFp,List.any_eq_false] at hb;exact hb.1.1 x hx hb.1.2
section
variable {X:List Res} {E:Sy} {H0 H H' H'':AH} {Q:Value->AH->Prop} {w t s:Nat} {T T':Tr} {M M':List bL} {nx nx' k:Int} {d:iZ} {v dv:Value} {l:kY}
theorem aHH (hE:bF E) {r:Nat} {K:List (BitVec 16)} (g:Has H0 H0 H [dH u16 vb r (K.map fun x=>(x,true))]) {iv:Value} {il:List (BitVec 16)} (hi:Rows H 1 iv (iR il)) (fi:∀ b,blk iv=some b->b≠r) (hl:il.length<2 ^ 62)
  {X0:List Value->AH->Prop} {t2 t7 t10 t11 t38 t39:Value} {m:Nat} (hm:m<2 ^ 62)
  (next:∀ (K':List (BitVec 16)) H',Has H0 H0 H' [dH u16 vb r (K'.map fun x=>(x,true))]->(∀ x,x∈K'↔x∈K\/x∈il)->X0 [t2,t7,t10,t11,.map (some r),t38,t39,vi ((m+1:Nat):Int)] H') :
  aP (fun l H X1=>F.f62_l2 E Q X0 (nth l 0) (nth l 1) (nth l 2) (nth l 3) (nth l 4) (nth l 5) (nth l 6) (nth l 7) (nth l 8) (nth l 9) (nth l 10) H X1) [t2,t7,t10,t11,.map (some r),t38,t39,vi m,iv,vi il.length,(.int .i64 0)] H:=by
 have i0:(.int .i64 0:Value)=vi ((0:Nat):Int):=rfl;have mm:=cG (i:=m) (by omega)
 generalize hm1:m+1=m1 at *;rw [i0];refine aP.count il.length (fun j ls H'=>∃ K':List (BitVec 16),ls=[t2,t7,t10,t11,.map (some r),t38,t39,vi m,iv,vi il.length,vi j]/\Has H0 H0 H' [dH u16 vb r (K'.map fun x=>(x,true))]/\(∀ x,x∈K'↔x∈K\/x∈il.take j)/\Rows H' 1 iv (iR il)) ?_ ⟨K,rfl,g,by simp,hi⟩
 rintro j _ H1 X1 hj hX ⟨K',rfl,g1,hk,hi1⟩;rcases Nat.lt_or_ge j il.length with hjl | hjl
 ·have hX:=hX hjl
  have hjl':(j:Int)<il.length:=by omega
  have hjj:=cG (i:=j) (by omega)
  obtain ⟨b,o,p1,p2⟩:=hi1.ix (i:=j) (by rw [cM]; exact hjl)
  have hrow:(iR il)[j]'(by rw [cM]; exact hjl)=[u16 il[j]]:=by simp [iR]
  rw [hrow] at p2;have p3:(H1.get b).cell o=some (u16 il[j]):=by have:=dO p2 (j:=0) (by omega); simpa using this
  have htk:il.take (j+1)=il.take j++[il[j]]:=List.take_succ_eq_append_getElem hjl;rw [htk] at hX;generalize il[j]=y at *;have hm1':=g1.mapAt (k:=0) rfl;obtain ⟨ob,q1,q2,q3⟩:=hm1'.set (kd:=0) (fun a b=>gV a b) y true;have g2:=g1.step (k:=0) rfl (r':=dH u16 vb r (jH y true (K'.map fun x=>(x,true)))) ⟨(dC.refl _ _).put (.inl (by simp [dH])) _,q3,fun x hx=>⟨.inl hx,by simp [dH] at hx; subst hx; exact hm1'.lt⟩,by simp [dH]⟩
  rw [zS] at g2
  have hi2:Rows (H1.put r ob) 1 iv (iR il):=by
   refine ⟨hi1.len,?_⟩;rcases hi1.at_ with g | ⟨b,o,c,g1,g2,g3,g4⟩
   ·exact .inl g
   ·have hb:b≠r:=fi b (by rw [g1]; rfl)
    exact .inr ⟨b,o,c,g1,g2,by rw [AH.get_put_ne _ _ hb]; exact g3,by rw [AH.get_put_ne _ _ hb]; exact g4⟩
  simp only [F.f62_l2,aV,hjl',decide_true,p1,p3,q2,hjj,bA];refine hX _ _ ⟨aEB y K',rfl,g2,fun x =>?_,hi2⟩;rw [aFN,hk,List.mem_append,List.mem_singleton,or_assoc]
 ·have hjl':¬ (j:Int)<il.length:=by omega
  rw [List.take_of_length_le hjl] at hk;simp only [F.f62_l2,aV,hjl',decide_false,mm,bA];exact next K' _ g1 hk
theorem aHU (hE:bF E) {r:Nat} {K:List (BitVec 16)} (hm:eM u16 vb H r (K.map fun x=>(x,true))) (hK:∀ x,x∈K↔x∈kE l) (hd:lM H dv l) (hl:l.length<=1000) (ht:oX H t T M) (ao:aEo T M) {iv:Value} {e:List (BitVec 16)} (hi:Rows H 1 iv (iR e)) (hr:pF e) (he:∀ x,x∈e↔x∈kE l) (n:BitVec 8) (hQ:∀ H',Q (vb true) H') :
  aP (fun l H X0=>F.f62_l3 E Q (nth l 0) (nth l 1) (nth l 2) (nth l 3) (nth l 4) (nth l 5) (nth l 6) (nth l 7) (nth l 8) H X0) [u8 n,ptr t 0,dv,u16 (qS l),.map (some r),iv,iv,vi e.length,(.int .i64 0)] H:=by
 have i0:(.int .i64 0:Value)=vi ((0:Nat):Int):=rfl;have hnd:K.Nodup:=by have:=hm.nodup; simpa [Function.comp_def] using this
 have hlen:=aHx (xW hr) hnd fun x=>by rw [he,hK]
 have hel:e.length<=65536:=aA3 (xW hr);rw [i0];refine aP.count e.length (fun j ls H'=>ls=[u8 n,ptr t 0,dv,u16 (qS l),.map (some r),iv,iv,vi e.length,vi j]/\H'=H) ?_ ⟨rfl,rfl⟩;rintro j _ H1 X0 hj hX ⟨rfl,rfl⟩;rcases Nat.lt_or_ge j e.length with hjl | hjl
 ·have hX:=hX hjl
  have hjl':(j:Int)<e.length:=by omega
  have hjj:=cG (i:=j) (by omega)
  have elem:∀ {i:Nat} (hi':i<e.length),∃ b o,aK 1 iv (vi i)=some (ptr b o)/\(H1.get b).cell o=some (u16 e[i]):=fun {i} hi'=>by
   obtain ⟨b,o,p1,p2⟩:=hi.ix (i:=i) (by rw [cM]; exact hi')
   have hrow:(iR e)[i]'(by rw [cM]; exact hi')=[u16 e[i]]:=by simp [iR]
   rw [hrow] at p2;exact ⟨b,o,p1,by have:=dO p2 (j:=0) (by omega); simpa using this⟩
  obtain ⟨b,o,p1,p3⟩:=elem hjl;have hin:e[j]∈K:=(hK _).2 ((he _).1 (List.getElem_mem hjl));have hlk:=hm.look (kd:=0) (fun a b=>gV a b) e[j] (.bool false) false;rw [aID,if_pos hin] at hlk;have hlk:look 0 (.bool false) false (.map (some r)) (u16 e[j]) H1=some (vb true):=hlk
  by_cases hj0:j=0
  ·subst hj0
   generalize e[0]=a at *;have hg:¬ ((0:Int)<((0:Nat):Int)):=by omega
   simp only [F.f62_l3,aV,hjl',decide_true,p1,p3,cL,gt_iff_lt,hg,decide_false,hlk,bA];rw [hjj];simp only [bA];exact hX _ _ ⟨rfl,rfl⟩
  ·have hg:((0:Int)<(j:Int)):=by omega
   have s1:aA .sub (vi j) (.int .i64 1)=some (vi ((j - 1:Nat):Int)):=by
    show aA .sub (vi j) (vi 1)=_
    rw [fW (by omega) (by omega)]; congr 2; omega
   obtain ⟨b2,o2,p4,p5⟩:=elem (i:=j - 1) (by omega)
   have hr2:=List.pairwise_iff_getElem.1 hr (j - 1) j (by omega) hjl (by omega)
   simp only [bU,decide_eq_true_eq] at hr2;generalize e[j - 1]=a0 at *;generalize e[j]=a at *;have hge:¬ (a.toNat<=a0.toNat):=by omega
   simp only [F.f62_l3,aV,hjl',decide_true,p1,p3,cL,gt_iff_lt,hg,s1,p4,p5,aIg,ge_iff_le,hge,decide_false,hlk,hjj,bA];exact hX _ _ ⟨rfl,rfl⟩
 ·have hjl':¬ (j:Int)<e.length:=by omega
  have r9:aA .rem (u8 n) (.int .u8 9)=some (u8 (n % 9#8)):=nM _ 9#8 (by decide)
  generalize hA:aG.mk 0 ((n % 9#8).setWidth 16)=a;have hz2:([(.int .i64 0),(.int .u16 0)]:List Value)=aG.zero.cells:=rfl;have hbv1:aT [(0,1),(1,1)] aG.zero.cells.toArray [(1,u16 ((n % 9#8).setWidth 16))]=some a.v:=by subst hA; rfl
  have hst1:storeN 2 (ptr H1.next 0) a.v (H1.new (.cells aG.zero.cells none))=some (H1.new (.cells a.cells none)):=nB rfl rfl rfl;have x2:Ext H1 (H1.new (.cells a.cells none)):=(Ext.refl _).new _;have hb2:=AH.get_new_self H1 (.cells a.cells none);simp only [F.f62_l3,aV,hjl',decide_false,r9,aAh,hbv1,hz2,cW,hst1,bA];generalize H1.new (.cells a.cells none)=H2 at *;have hA2:aU 2 (ptr H1.next 0) H2=some a.v:=by rw [bP,hb2]; rfl
  have c1:a.cells[1]? = some (u16 a.i):=rfl;refine S.f3 hE (hd.mono x2) (by omega) ?_
  have hil:=(hi.mono x2).lenSlc;rw [cM] at hil;have hml:=(hm.keep (x2.get hm.lt)).len;rw [List.length_map] at hml;have hxor:un .xor (u16 (qS l))=some (u16 (~~~qS l)):=aFo _;have hle:decide ((e.length:Int)=K.length)=true:=by rw [hlen]; simp
  simp only [mB,decide_true,hil,hml,bC,hle,hxor,hb2,c1,hA2,bA];refine S.f2 hE (hd.mono x2) (ht.mono x2) ao (by omega) _ _ a fun H3 e3 =>?_
  rw [aB3];have n0:(.int .u16 0:Value)=u16 0#16:=rfl;simp only [n0,mB,decide_true,bA];have hnil:lM H3 (.pointer none) [] := .inl ⟨rfl,rfl⟩;refine S.f3 hE hnil (by simp) ?_
  have hz:qS []=0#16:=rfl;simp only [hz,n0,mB,decide_true,bA];refine S.f4 hE hnil (by simp) fun v e' H4 e4 r4 _ h4 =>?_
  have:e'=[]:=by
   cases e' with
   | nil=>rfl
   | cons x e'=>have:=(h4 x).1 (by simp); simp [kE] at this
  subst this;have hl4:=r4.lenSlc;have hl4:AM.lenSlc v=some (vi 0):=hl4;simp only [hl4,bC,decide_true,bA];exact hQ _
theorem S.f62 (hE:bF E) (av:Value) (acts:List eL) (hv:Rows H 14 av (acts.map eL.cells)) (hll:acts.length<=9223372036854775807) (hok:∀ x∈acts,x.act.ok H) (sv:Value) (rows:List (List Value)) (hsv:Rows H 8 sv rows) (hsn:rows.length<2 ^ 63) (hsm:∀ r∈rows,∃ x:dZ,gO H x r)
  (n:BitVec 8) (hQ:∀ H',Q (vb true) H'):E.call (E.fid i.f62) [av,sv,u8 n] H Q:=by
 apply hE.f62;simp only [F.f62,bA];refine S.f61 hE fun H1 e1 =>?_;simp only [bA];refine S.f56 hE av acts (hv.mono e1) hll (fun x hx=>(hok x hx).mono e1) fun H2 e2 =>?_;have e12:=e1.trans e2;cases hl:mT acts with
 | false =>
  simp only [bA];exact hQ _
 | true =>
 simp only [bA];refine S.f60 hE av acts (hv.mono e12) hll (fun x hx=>(hok x hx).mono e12) hl fun w t T M nx H3 h3 g =>?_;have e13:=e12.trans h3.ext;simp only [bA];refine S.f64 hE h3.at_ g.wf (Tr.KD.lt g.kd) sv rows (hsv.mono e13) hsn (fun r hr=>by obtain ⟨x,hx⟩:=hsm r hr; exact ⟨x,hx.sub e13.sub⟩) fun v l H4 e4 hl8 hs4 =>?_
 refine S.f63 hE hs4 (by omega) fun dv H5 e5 hd5 =>?_
 have ht5:=(h3.mono (e4.trans e5)).at_;have hs5:=hs4.mono e5;have i0:(.int .i64 0:Value)=vi ((0:Nat):Int):=rfl;have n0:(.int .u16 0:Value)=u16 (qS (l.take 0)):=rfl;have g6:Has H5 H5 (H5.new (.map [] 0 true)) [dH u16 vb H5.next (([]:List (BitVec 16)).map fun x=>(x,true))]:=(Has.start (Ext.refl H5)).newmap u16 vb;simp only [aDL,hs5.len,i0,bA];generalize H5.next=r at *
 conv=>arg 2; rw [n0]
 refine aP.count l.length (fun j ls H'=>∃ K:List (BitVec 16),ls=[u8 n,ptr w 0,dv,u16 (qS (l.take j)),.map (some r),v,vi l.length,vi j]/\Has H5 H5 H' [dH u16 vb r (K.map fun x=>(x,true))]/\∀ x,x∈K↔x∈kE (l.take j)) ?_ ⟨[],rfl,g6,by simp [kE]⟩
 rintro j _ H7 X hj hX ⟨K,rfl,g7,hK⟩;have hs7:=hs5.mono g7.ext;rcases Nat.lt_or_ge j l.length with hjl | hjl
 ·have hX:=hX hjl
  have hjl':(j:Int)<l.length:=by omega
  obtain ⟨b,o,p1,p2,p3⟩:=hs7.elem hjl;rw [aAb l hjl,wB l hjl] at hX;have hil:=p3.inodes_len;generalize l[j]=y at *;simp only [F.f62_l1,aV,hjl',decide_true,p1,p2,bA];refine S.f96 hE p3 ?_;simp only [tW,bA];refine S.f97 hE p3 fun iv H8 e8 r8 f8 =>?_;have hlv:=r8.lenSlc;rw [cM] at hlv;have hrl:r<H7.next:=(g7.mapAt (k:=0) rfl).lt;simp only [hlv,bA];refine aHH hE (g7.grow e8) r8 (fun b hb=>by have:=f8 b hb; omega) (by omega) (by omega) fun K' H' g' hK'=>hX _ _ ⟨K',rfl,g',fun x =>?_⟩
  rw [hK',hK,List.mem_append]
 ·have hjl':¬ (j:Int)<l.length:=by omega
  rw [List.take_of_length_le hjl] at hK ⊢;simp only [F.f62_l1,aV,hjl',decide_false,bA];have hd7:=hd5.mono g7.ext;refine S.f4 hE hd7 (by omega) fun iv e H8 e8 r8 q1 q2 =>?_
  have hlv:=r8.lenSlc;rw [cM] at hlv;simp only [hlv,bA];have hm8:=(g7.grow e8).mapAt (k:=0) rfl;exact aHU hE hm8 hK (hd7.mono e8) (by omega) (ht5.mono (g7.ext.trans e8)) g.atOk r8 q1 q2 n hQ
theorem S.law_DomainSums (hE:bF E) (args:List Value) (ha:jX H [.slice 14 aCS,.slice 8 vY,.int .u8] args) (hQ:∀ H',Q (vb true) H'):E.call (E.fid i.f62) args H Q:=by
 obtain ⟨v1,_,rfl,h1,ha⟩:=ha.cons_inv;obtain ⟨v2,_,rfl,h2,ha⟩:=ha.cons_inv;obtain ⟨v3,_,rfl,h3,ha⟩:=ha.cons_inv;obtain rfl:=ha.nil_inv;obtain ⟨l,q1,q2,q3⟩:=mD.gacts h1;obtain ⟨rows,r1,r2,r3⟩:=mD.smalls h2;obtain ⟨x3,rfl⟩:=h3.u8;exact S.f62 hE v1 l q1 q2 q3 v2 rows r1 r2 r3 x3 hQ
end
end Go.AM
end
