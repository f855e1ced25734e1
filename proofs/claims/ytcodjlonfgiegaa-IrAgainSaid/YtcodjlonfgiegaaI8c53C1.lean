/- CONTRACTS ON THE PRINTED FUNCTIONS. -/
import Derived.Test.YtcodjlonfgiegaaI8c53C0
set_option linter.all false
section
namespace Go.AM
set_option maxRecDepth 20000
section
variable {E:Sy} {H H' H0 Z:AH} {Q:Value->AH->Prop}
theorem flat_take {α β:Type} (f:α->List β) {l:List α} {k:Nat} (hk:k<l.length):(l.take (k+1)).flatMap f=(l.take k).flatMap f++f l[k]:=by
 rw [List.take_succ,List.getElem?_eq_getElem hk,List.flatMap_append]
 simp
theorem flat_take_le {α β:Type} (f:α->List β) (l:List α) (k:Nat):((l.take k).flatMap f).length<=(l.flatMap f).length:=by
 have h:l.flatMap f=(l.take k).flatMap f++(l.drop k).flatMap f:=by rw [<- List.flatMap_append,List.take_append_drop]
 rw [h,List.length_append]; omega
theorem branch_ix {v:Value} {l:List BranchD} (hs:SliceOf (BranchAt 0) H0 2 v l) {j:Nat} (hj:j<l.length):∃ b o cv,ixSlc 2 v (vi j)=some (ptr b o)/\(∀ H,Ext H0 H->loadN 2 (ptr b o) H=some (.agg [cv,u32 l[j].action].toArray))/\plain1 cv=true/\Rows H0 4 cv (condR l[j].conds)/\l[j].conds.length<2 ^ 30:=by
 obtain ⟨b,o,c,q1,q2,q3⟩:=hs.ix hj
 obtain ⟨h30,cv,rfl,hr,_⟩:=q3
 refine ⟨b,o,cv,q1,fun H e =>?_,hr.plain,hr,h30⟩
 rw [loadN_ptr,e.get (AH.lt_of_get (row_notdead q2)),q2]; rfl
theorem case_ix {v:Value} {l:List CaseD} (hs:SliceOf (CaseAt 0) H0 2 v l) {j:Nat} (hj:j<l.length):∃ b o bv,ixSlc 2 v (vi j)=some (ptr b o)/\(∀ H,Ext H0 H->loadN 2 (ptr b o) H=some (.agg [u32 l[j].number,bv].toArray)/\((H.get b).cell o=some (u32 l[j].number))/\(H.get b).cell (o+1)=some bv)/\plain1 bv=true/\SliceOf (BranchAt 0) H0 2 bv l[j].branches:=by
 obtain ⟨b,o,c,q1,q2,q3⟩:=hs.ix hj
 obtain ⟨bv,rfl,hr⟩:=q3
 refine ⟨b,o,bv,q1,fun H e =>?_,by obtain ⟨rows,h1,_⟩:=hr; exact h1.plain,hr⟩
 have he:=e.get (AH.lt_of_get (row_notdead q2))
 refine ⟨by rw [loadN_ptr,he,q2]; rfl,?_,?_⟩
 ·rw [he]; have:=row_at q2 (j:=0) (by omega); simpa using this
 ·rw [he]; have:=row_at q2 (j:=1) (by omega); simpa using this
theorem slice_empty_store2 {H:AH} {a b:Value} (ha:plain1 a=true) (hb:plain1 b=true) {z:List Value} (hz:z.length=2):storeN 2 (ptr H.next 0) (.agg [a,b].toArray) (H.new (.cells z none))=some (H.new (.cells [a,b] none)):=fresh_store (n:=2) hz rfl (by simp [ha,hb])
theorem S.f7 (hE:Fold E) (p:PlanD) (cs:List Value) (hp:PlanAt H p cs) (hl:p.cases.length<2 ^ 40) (hb:szB p.cases<2 ^ 40) (hc:szC p.cases<2 ^ 40) (hbc:∀ c∈p.cases,c.branches.length<2 ^ 40)
  (hQ:∀ H',Ext H H'->Q (.tuple #[vi (p.cases.length:Nat),vi (szB p.cases:Nat),vi (szC p.cases:Nat)]) H'):E.call (E.fid i.f7) [.agg cs.toArray] H Q:=by
 apply hE.f7
 obtain ⟨v,rfl,hv⟩:=hp
 have x1:Ext H (H.new (.cells [v,u32 p.default] none)):=(Ext.refl _).new _
 have b1:=AH.get_new_self H (.cells [v,u32 p.default] none)
 have q0:[v,u32 p.default][0]? = some v:=rfl
 have hlv:=SliceOf.lenSlc hv
 simp only [F.f7,boxO_agg_z,AM.mk_some,mkPtr_eq_z,List.toList_toArray,b1,q0,hlv,stdZ]
 have hv1:=hv.sub (fun _ _ _ _ h e=>CaseAt.sub h e) x1.sub
 generalize H.new (.cells [v,u32 p.default] none)=H1 at *
 generalize H.next=t1 at *
 refine LoopL.count p.cases.length (fun k ls H'=>ls=[ptr t1 0,vi (szB (p.cases.take k):Nat),vi (szC (p.cases.take k):Nat),v,vi p.cases.length,vi k]/\Ext H1 H') ?_ ⟨rfl,Ext.refl _⟩
 rintro k _ H2 X hk ih ⟨rfl,e2⟩
 rcases Nat.lt_or_ge k p.cases.length with hlt | hge
 rotate_left
 ·have hlt':decide ((k:Int)<p.cases.length)=false:=decide_eq_false (by omega)
  have hke:k=p.cases.length:=by omega
  subst hke
  rw [List.take_length]
  simp only [F.f7_l1,i64_lss,hlt',e2.cells b1,q0,hlv,stdZ]
  exact hQ _ (x1.trans e2)
 have hlt':decide ((k:Int)<p.cases.length)=true:=decide_eq_true (by omega)
 obtain ⟨b,o,bv,f1,f2,hbp,hbs⟩:=case_ix hv1 hlt
 obtain ⟨lo,_,_⟩:=f2 H2 e2
 have htb:szB (p.cases.take (k+1))=szB (p.cases.take k)+p.cases[k].branches.length:=by
  unfold szB; rw [flat_take CaseD.branches hlt,List.length_append]
 have htc:szC (p.cases.take (k+1))=szC (p.cases.take k)+(p.cases[k].branches.flatMap BranchD.conds).length:=by
  unfold szC; rw [flat_take CaseD.branches hlt,List.flatMap_append,List.length_append]
 have hlb:szB (p.cases.take (k+1))<=szB p.cases:=flat_take_le CaseD.branches p.cases (k+1)
 have hlc:szC (p.cases.take (k+1))<=szC p.cases:=by
  unfold szC
  have h:p.cases.flatMap CaseD.branches=(p.cases.take (k+1)).flatMap CaseD.branches++(p.cases.drop (k+1)).flatMap CaseD.branches:=by rw [<- List.flatMap_append,List.take_append_drop]
  rw [h,List.flatMap_append,List.length_append]; omega
 have hbk:=hbc p.cases[k] (List.getElem_mem hlt)
 have ih:=ih hlt
 rw [htb,htc] at ih
 rw [htb] at hlb
 rw [htc] at hlc
 have hinc:=i64_inc (i:=k) (by omega)
 generalize szB (p.cases.take k)=sb at *
 generalize szC (p.cases.take k)=sc at *
 generalize p.cases[k]=c at *
 have st:storeN 2 (ptr H2.next 0) (.agg [u32 c.number,bv].toArray) (H2.new (.cells [(.int .u32 0),(.slice none 0 0)] none))=some (H2.new (.cells [u32 c.number,bv] none)):=slice_empty_store2 rfl hbp rfl
 have bx:=AH.get_new_self H2 (.cells [u32 c.number,bv] none)
 have q1:[u32 c.number,bv][1]? = some bv:=rfl
 have hlb2:=SliceOf.lenSlc hbs
 have a1:=i64_add_nat sb c.branches.length (by omega)
 simp only [F.f7_l1,i64_lss,hlt',f1,lo,allocW_eq,st,bx,q1,hlb2,a1,stdZ]
 have e3:=e2.trans ((Ext.refl H2).new (.cells [u32 c.number,bv] none))
 generalize H2.new (.cells [u32 c.number,bv] none)=H3 at *
 refine LoopL.count c.branches.length (fun j ls H'=>ls=[ptr t1 0,vi ((sb+c.branches.length:Nat):Int),vi ((sc+((c.branches.take j).flatMap BranchD.conds).length:Nat):Int),v,vi p.cases.length,vi k,bv,vi c.branches.length,vi j]/\Ext H1 H') ?_ ⟨rfl,e3⟩
 rintro j _ H4 X1 hj ih1 ⟨rfl,e4⟩
 rcases Nat.lt_or_ge j c.branches.length with hlt1 | hge1
 rotate_left
 ·have hlt1':decide ((j:Int)<c.branches.length)=false:=decide_eq_false (by omega)
  have hje:j=c.branches.length:=by omega
  subst hje
  rw [List.take_length]
  simp only [F.f7_l2,i64_lss,hlt1',hinc,stdZ]
  exact ih _ _ ⟨rfl,e4⟩
 have hlt1':decide ((j:Int)<c.branches.length)=true:=decide_eq_true (by omega)
 obtain ⟨b',o',cv,g1,g2,hcp,hcr,hc30⟩:=branch_ix hbs hlt1
 have lo':=g2 H4 e4
 have hlcv:=(hcr.mono e4).lenSlc
 rw [condR_length] at hlcv
 have htj:((c.branches.take (j+1)).flatMap BranchD.conds).length=((c.branches.take j).flatMap BranchD.conds).length+c.branches[j].conds.length:=by rw [flat_take BranchD.conds hlt1,List.length_append]
 have hlj:=flat_take_le BranchD.conds c.branches (j+1)
 have ih1:=ih1 hlt1
 rw [htj,<- Nat.add_assoc] at ih1
 rw [htj] at hlj
 have hinc1:=i64_inc (i:=j) (by omega)
 generalize ((c.branches.take j).flatMap BranchD.conds).length=sj at *
 generalize c.branches[j]=br at *
 have st4:storeN 2 (ptr H4.next 0) (.agg [cv,u32 br.action].toArray) (H4.new (.cells [(.slice none 0 0),(.int .u32 0)] none))=some (H4.new (.cells [cv,u32 br.action] none)):=slice_empty_store2 hcp rfl rfl
 have bx4:=AH.get_new_self H4 (.cells [cv,u32 br.action] none)
 have q0':[cv,u32 br.action][0]? = some cv:=rfl
 have a2:=i64_add_nat (sc+sj) br.conds.length (by omega)
 simp only [F.f7_l2,i64_lss,hlt1',g1,lo',allocW_eq,st4,bx4,q0',hlcv,a2,hinc1,stdZ]
 exact ih1 _ _ ⟨rfl,e4.trans ((Ext.refl H4).new _)⟩
end
end Go.AM
end
section
namespace Go.AM
open Go.Sort
set_option maxRecDepth 20000
section
variable {α:Type} [Inhabited α] {E:Sy} {H H':AH} {Q:Value->AH->Prop} {b c n:Nat} {enc:α->List Value} {LT:α->α->Bool} {fv:Value} {d:Array α} {tail:List Value} {f:Option Nat}
theorem S.f48 (hE:Fold E) (he:EncOk 2 enc) (hC:CmpOk E fv enc LT) (hg:H.get b=arrM enc d tail f) (hn:d.size=n) (hsz:n<2 ^ 60) (lo hi first:Nat) (hlo:lo<=n) (hf:first+hi<=n)
  (hQ:∀ H',SortMo H b enc tail f (siftDown LT hi first lo d) H'->Q (.tuple #[]) H'):E.call (E.fid i.f48) [slc b 0 n c,vi lo,vi hi,vi first,fv] H Q:=by
 apply hE.f48
 simp only [F.f48,stdZ]
 obtain ⟨R,hR⟩:∃ R,R=siftDown LT hi first lo d:=⟨_,rfl⟩
 rw [<- hR] at hQ
 refine LoopL.ind (fun m l H'=>∃ (r:Nat) (d':Array α),l=[slc b 0 n c,vi hi,vi first,fv,vi r]/\SortMo H b enc tail f d' H'/\d'.size=n/\R=siftDown LT hi first r d'/\r<=n/\m=hi - r) ?_ (hi - lo) ⟨lo,d,rfl,.refl hg,hn,hR,hlo,rfl⟩
 rintro m _ H1 X hX ⟨r,d1,rfl,s1,n1,r1,hr,rfl⟩
 have a1:=i64_dbl r (by omega)
 have a2:=i64_succ (2*r) (by omega)
 have a3:=i64_succ (2*r+1) (by omega)
 have step:∀ (ch:Nat) (H2:AH),SortMo H b enc tail f d1 H2->r<ch->ch<hi->R=(if !LT d1[first+r]! d1[first+ch]! then d1 else siftDown LT hi first ch (swp d1 (first+r) (first+ch)))->F.f48_j1 E Q X (slc b 0 n c) (vi hi) (vi first) fv (vi r) (vi ch) H2:=by
  intro ch H2 s2 h1 h2 hR'
  have b1:=i64_add_nat first r (by omega)
  have b2:=i64_add_nat first ch (by omega)
  have f1:=mrr_ix (sz:=2) (b:=b) (c:=c) (n:=n) (i:=first+r) (by omega)
  have f2:=mrr_ix (sz:=2) (b:=b) (c:=c) (n:=n) (i:=first+ch) (by omega)
  have g1:=mrr_load he s2.get (i:=first+r) (by omega)
  have g2:=mrr_load he s2.get (i:=first+ch) (by omega)
  have hp1:first+r<n:=by omega
  have hp2:first+ch<n:=by omega
  generalize hp:first+r=p at *
  generalize hq:first+ch=q at *
  simp only [F.f48_j1,b1,b2,f1,f2,g1,g2,stdZ]
  refine hC _ _ _ _ fun z H3 e3 hz =>?_
  have s3:=s2.ext e3
  have g1:=mrr_load he s3.get (i:=p) (by omega)
  have g2:=mrr_load he s3.get (i:=q) (by omega)
  obtain ⟨w1,w2⟩:=mrr_swap he s3.get (i:=p) (j:=q) (by omega) (by omega)
  cases hl:LT d1[p]! d1[q]! with
  | true =>
   simp only [hl,Bool.not_true,Bool.false_eq_true,if_false] at hR'
   simp only [i64_lss,hz,hl,un_not_z,Bool.not_true,b1,b2,f1,f2,g1,g2,w1,w2,stdZ]
   exact hX (hi - ch) (by omega) _ _ ⟨ch,_,rfl,s3.put _,by rw [size_swp]; exact n1,hR',by omega,rfl⟩
  | false =>
   simp only [hl,Bool.not_false,if_true] at hR'
   subst hR'
   simp only [i64_lss,hz,hl,un_not_z,Bool.not_false,stdZ]
   exact hQ _ s3
 rw [siftDown] at r1
 by_cases c1:2*r+1>=hi
 ·rw [dif_pos c1] at r1
  subst r1
  have c1':decide ((hi:Int)<=((2*r+1:Nat):Int))=true:=decide_eq_true (by omega)
  generalize 2*r+1=ch at *
  generalize 2*r=rr at *
  simp only [F.f48_l1,a1,a2,i64_geq,c1',stdZ]
  exact hQ _ s1
 rw [dif_neg c1] at r1
 have c1':decide ((hi:Int)<=((2*r+1:Nat):Int))=false:=decide_eq_false (by omega)
 have b1:=i64_add_nat first (2*r+1) (by omega)
 have b2:=i64_succ (first+(2*r+1)) (by omega)
 by_cases c2:2*r+1+1<hi
 ·have c2':decide (((2*r+1+1:Nat):Int)<hi)=true:=decide_eq_true (by omega)
  have f1:=mrr_ix (sz:=2) (b:=b) (c:=c) (n:=n) (i:=first+(2*r+1)) (by omega)
  have f2:=mrr_ix (sz:=2) (b:=b) (c:=c) (n:=n) (i:=first+(2*r+1)+1) (by omega)
  have g1:=mrr_load he s1.get (i:=first+(2*r+1)) (by omega)
  have g2:=mrr_load he s1.get (i:=first+(2*r+1)+1) (by omega)
  have st1:=fun H2 s2=>step (2*r+1) H2 s2 (by omega) (by omega)
  have st2:=fun H2 s2=>step (2*r+1+1) H2 s2 (by omega) c2
  rw [dif_pos (by omega:2*r+2<hi)] at r1
  simp only [c2,decide_true,Bool.true_and] at r1
  rw [show 2*r+2=2*r+1+1 by omega] at r1
  generalize hq2:first+(2*r+1)+1=q2 at *
  generalize hq:first+(2*r+1)=q at *
  generalize hc2:2*r+1+1=ch2 at *
  generalize hc1:2*r+1=ch at *
  generalize 2*r=rr at *
  simp only [F.f48_l1,a1,a2,a3,i64_geq,i64_lss,c1',c2',b1,b2,f1,f2,g1,g2,stdZ]
  refine hC _ _ _ _ fun z H3 e3 hz =>?_
  have s3:=s1.ext e3
  cases hl:LT d1[q]! d1[q2]! with
  | true =>
   simp only [hl,if_true] at r1
   simp only [i64_lss,hz,hl,a3,stdZ]
   exact st2 _ s3 r1
  | false =>
   simp only [hl,if_false,Bool.false_eq_true] at r1
   simp only [i64_lss,hz,hl,stdZ]
   exact st1 _ s3 r1
 ·have c2':decide (((2*r+1+1:Nat):Int)<hi)=false:=decide_eq_false (by omega)
  have st1:=step (2*r+1) _ s1 (by omega) (by omega)
  simp only [c2,decide_false,Bool.false_and,Bool.false_eq_true,if_false] at r1
  generalize hc2:2*r+1+1=ch2 at *
  generalize hc1:2*r+1=ch at *
  generalize 2*r=rr at *
  simp only [F.f48_l1,a1,a2,a3,i64_geq,i64_lss,c1',c2',stdZ]
  exact st1 r1
theorem size_siftDown_ir_Case (hi first r:Nat) (d:Array α):(siftDown LT hi first r d).size=d.size:=by
 obtain ⟨m,hm⟩:∃ m,hi - r<=m:=⟨_,Nat.le_refl _⟩
 induction m generalizing r d with
 | zero =>
  rw [siftDown,dif_pos (by omega)]
 | succ m ih =>
  rw [siftDown]
  split
  ·rfl
  ·split
   ·split
    ·rfl
    ·split
     ·rw [ih _ _ (by omega),size_swp]
     ·rfl
   ·split
    ·rfl
    ·rw [ih _ _ (by omega),size_swp]
theorem S.f35 (hE:Fold E) (he:EncOk 2 enc) (hC:CmpOk E fv enc LT) (hg:H.get b=arrM enc d tail f) (hn:d.size=n) (hsz:n<2 ^ 60) (a e:Nat) (hae:a<e) (hle:e<=n)
  (hQ:∀ H',SortMo H b enc tail f (heapSort LT d a e) H'->Q (.tuple #[]) H'):E.call (E.fid i.f35) [slc b 0 n c,vi a,vi e,fv] H Q:=by
 apply hE.f35
 have a1:=i64_sub_nat e a (by omega) (by omega)
 have a2:=i64_dec (e - a) (by omega) (by omega)
 have a3:=i64_quo_num (e - a - 1) 2 (by decide) (by omega)
 unfold heapSort at hQ
 have a1':binInt .sub (vi e) (vi a)=some (vi ((e - a:Nat):Int)):=a1
 generalize hw:e - a=w at *
 have a3':binInt .quo (vi ((w - 1:Nat):Int)) (.int .i64 2)=some (vi (((w - 1) / 2:Nat):Int)):=a3
 generalize hw1:w - 1=w1 at *
 generalize hh:w1 / 2=h2 at *
 have hh2:h2<=w1:=by rw [<- hh]; exact Nat.div_le_self _ _
 simp only [F.f35,a1',a2,a3',stdZ]
 obtain ⟨R,hR⟩:∃ R,R=heapPop LT a w (heapBuild LT w a (h2+1) d):=⟨_,rfl⟩
 rw [<- hR] at hQ
 refine LoopL.ind (fun m l H'=>∃ (k:Nat) (d':Array α),l=[slc b 0 n c,fv,vi a,vi 0,vi w,vi ((k:Int) - 1)]/\SortMo H b enc tail f d' H'/\d'.size=n/\R=heapPop LT a w (heapBuild LT w a k d')/\k<=w/\m=k) ?_ (h2+1) ⟨h2+1,d,by simp,.refl hg,hn,hR,by omega,rfl⟩
 rintro m _ H1 X hX ⟨k,d1,rfl,s1,n1,r1,hk,rfl⟩
 cases m with
 | succ k =>
  have e1:((k+1:Nat):Int) - 1=(k:Int):=by omega
  have hd:binInt .sub (vi k) (.int .i64 1)=some (vi ((k:Int) - 1)):=i64_sub (by omega) (by omega)
  have c0:decide ((0:Int)<=(k:Int))=true:=decide_eq_true (by omega)
  rw [e1]
  simp only [F.f35_l1,i64_geq,c0,stdZ]
  refine S.f48 hE he hC s1.get n1 hsz k w a (by omega) (by omega) fun H2 s2 =>?_
  simp only [hd,stdZ]
  exact hX k (by omega) _ _ ⟨k,_,rfl,s1.trans s2,by rw [size_siftDown_ir_Case]; exact n1,by rw [r1]; rfl,by omega,rfl⟩
 | zero =>
  have hd:binInt .sub (vi w) (.int .i64 1)=some (vi ((w:Int) - 1)):=i64_sub (by omega) (by omega)
  have c0:decide ((0:Int)<=((0:Nat):Int) - 1)=false:=by decide
  simp only [F.f35_l1,i64_geq,c0,hd,stdZ]
  clear hX
  refine LoopL.ind (fun m l H'=>∃ (k:Nat) (d':Array α),l=[slc b 0 n c,fv,vi a,vi 0,vi ((k:Int) - 1)]/\SortMo H b enc tail f d' H'/\d'.size=n/\R=heapPop LT a k d'/\k<=w/\m=k) ?_ w ⟨w,d1,rfl,s1,n1,r1,Nat.le_refl _,rfl⟩
  rintro m _ H2 X hX ⟨k,d2,rfl,s2,n2,r2,hk,rfl⟩
  cases m with
  | succ k =>
   have e1:((k+1:Nat):Int) - 1=(k:Int):=by omega
   have hd:binInt .sub (vi k) (.int .i64 1)=some (vi ((k:Int) - 1)):=i64_sub (by omega) (by omega)
   have b1:=i64_add_nat a k (by omega)
   have f1:=mrr_ix (sz:=2) (b:=b) (c:=c) (n:=n) (i:=a) (by omega)
   have f2:=mrr_ix (sz:=2) (b:=b) (c:=c) (n:=n) (i:=a+k) (by omega)
   have g1:=mrr_load he s2.get (i:=a) (by omega)
   have g2:=mrr_load he s2.get (i:=a+k) (by omega)
   obtain ⟨w1,w2⟩:=mrr_swap he s2.get (i:=a) (j:=a+k) (by omega) (by omega)
   have c0:decide ((0:Int)<=(k:Int))=true:=decide_eq_true (by omega)
   rw [e1]
   rw [heapPop] at r2
   generalize hq:a+k=q at *
   simp only [F.f35_l2,i64_geq,c0,b1,f1,f2,g1,g2,w1,w2,stdZ]
   have s3:=s2.put (swp d2 a q)
   refine S.f48 hE he hC s3.get (by rw [size_swp]; exact n2) hsz 0 k a (by omega) (by omega) fun H3 s4 =>?_
   simp only [hd,stdZ]
   exact hX k (by omega) _ _ ⟨k,_,rfl,s3.trans s4,by rw [size_siftDown_ir_Case,size_swp]; exact n2,r2,by omega,rfl⟩
  | zero =>
   have c0:decide ((0:Int)<=((0:Nat):Int) - 1)=false:=by decide
   simp only [F.f35_l2,i64_geq,c0,stdZ]
   rw [heapPop] at r2
   subst r2
   exact hQ _ s2
theorem S.f46 (hE:Fold E) (he:EncOk 2 enc) (hg:H.get b=arrM enc d tail f) (hn:d.size=n) (hsz:n<2 ^ 60) (a e:Nat) (hae:a<e) (hle:e<=n)
  (hQ:∀ H',SortMo H b enc tail f (reverseRange d a e) H'->Q (.tuple #[]) H'):E.call (E.fid i.f46) [slc b 0 n c,vi a,vi e,fv] H Q:=by
 apply hE.f46
 have a1:=i64_dec e (by omega) (by omega)
 unfold reverseRange at hQ
 simp only [F.f46,a1,stdZ]
 obtain ⟨R,hR⟩:∃ R,R=reverseLoop a (e - 1) d:=⟨_,rfl⟩
 rw [<- hR] at hQ
 refine LoopL.ind (fun m l H'=>∃ (p q:Nat) (d':Array α),l=[slc b 0 n c,vi p,vi q]/\SortMo H b enc tail f d' H'/\d'.size=n/\R=reverseLoop p q d'/\p<=n/\q<n/\m=q - p) ?_ (e - 1 - a) ⟨a,e - 1,d,rfl,.refl hg,hn,hR,by omega,by omega,rfl⟩
 rintro m _ H1 X hX ⟨p,q,d1,rfl,s1,n1,r1,hp,hq,rfl⟩
 rw [reverseLoop] at r1
 by_cases h:p<q
 ·rw [if_pos h] at r1
  have h':decide ((p:Int)<q)=true:=decide_eq_true (by omega)
  have f1:=mrr_ix (sz:=2) (b:=b) (c:=c) (n:=n) (i:=p) (by omega)
  have f2:=mrr_ix (sz:=2) (b:=b) (c:=c) (n:=n) (i:=q) (by omega)
  have g1:=mrr_load he s1.get (i:=p) (by omega)
  have g2:=mrr_load he s1.get (i:=q) (by omega)
  obtain ⟨w1,w2⟩:=mrr_swap he s1.get (i:=p) (j:=q) (by omega) (by omega)
  have b1:=i64_succ p (by omega)
  have b2:=i64_dec q (by omega) (by omega)
  simp only [F.f46_l1,i64_lss,h',f1,f2,g1,g2,w1,w2,b1,b2,stdZ]
  exact hX (q - 1 - (p+1)) (by omega) _ _ ⟨p+1,q - 1,_,rfl,s1.put _,by rw [size_swp]; exact n1,r1,by omega,by omega,rfl⟩
 ·rw [if_neg h] at r1
  subst r1
  have h':decide ((p:Int)<q)=false:=decide_eq_false (by omega)
  simp only [F.f46_l1,i64_lss,h',stdZ]
  exact hQ _ s1
end
end Go.AM
end
section
namespace Go.AM
open Go.Sort
set_option maxRecDepth 20000
section
variable {α:Type} [Inhabited α] {E:Sy} {H H':AH} {Q:Value->AH->Prop} {b c n:Nat} {enc:α->List Value} {LT:α->α->Bool} {fv:Value} {d:Array α} {tail:List Value} {f:Option Nat}
theorem S.f43 (hE:Fold E) (he:EncOk 2 enc) (hC:CmpOk E fv enc LT) (hg:H.get b=arrM enc d tail f) (hn:d.size=n) (hsz:n<2 ^ 60) (a e pivot:Nat) (h1:a<=pivot) (h2:pivot<e) (hle:e<=n)
  (hQ:∀ H',SortMo H b enc tail f (partition LT d a e pivot).2.2 H'->Q (.tuple #[vi (partition LT d a e pivot).1,vb (partition LT d a e pivot).2.1]) H'):E.call (E.fid i.f43) [slc b 0 n c,vi a,vi e,vi pivot,fv] H Q:=by
 apply hE.f43
 have f1:=mrr_ix (sz:=2) (b:=b) (c:=c) (n:=n) (i:=a) (by omega)
 have f2:=mrr_ix (sz:=2) (b:=b) (c:=c) (n:=n) (i:=pivot) (by omega)
 have g1:=mrr_load he hg (i:=a) (by omega)
 have g2:=mrr_load he hg (i:=pivot) (by omega)
 obtain ⟨w1,w2⟩:=mrr_swap he hg (i:=a) (j:=pivot) (by omega) (by omega)
 have b1:=i64_succ a (by omega)
 have b2:=i64_dec e (by omega) (by omega)
 simp only [F.f43,f1,f2,g1,g2,w1,w2,b1,b2,stdZ]
 have s0:=(SortMo.refl hg).put (swp d a pivot)
 have n0:(swp d a pivot).size=n:=by rw [size_swp]; exact hn
 unfold partition at hQ
 generalize hd0:swp d a pivot=d0 at *
 generalize H.put b (arrM enc d0 tail f)=H0 at *
 clear w1 w2 g1 g2 f2
 simp only at hQ
 obtain ⟨I,hI⟩:∃ I,I=scanUp (fun x=>LT x d0[a]!) d0 (e - 1) (a+1):=⟨_,rfl⟩
 rw [<- hI] at hQ
 obtain ⟨J,hJ⟩:∃ J,J=scanDown (fun x => !LT x d0[a]!) d0 I (e - 1):=⟨_,rfl⟩
 rw [<- hJ] at hQ
 have hIl:=sUp_le (fun x=>LT x d0[a]!) d0 (e - 1) _ (a+1) (Nat.le_refl _)
 rw [<- hI] at hIl
 have hJl:=sDown_le (fun x => !LT x d0[a]!) d0 I (e - 1)
 rw [<- hJ] at hJl
 refine LoopL.ind (fun m l H'=>SortMo H b enc tail f d0 H'/\∃ p:Nat,l=[slc b 0 n c,vi a,fv,vi p,vi ((e - 1:Nat):Int)]/\I=scanUp (fun x=>LT x d0[a]!) d0 (e - 1) p/\a+1<=p/\p<=e/\m=e - p) ?_ (e - (a+1)) ⟨s0,a+1,rfl,hI,Nat.le_refl _,by omega,rfl⟩
 rintro m _ H1 X hX ⟨s1,p,rfl,r1,hp1,hp2,rfl⟩
 rw [scanUp] at r1
 have exit1:I=p->∀ H2,SortMo H b enc tail f d0 H2->LoopL (fun l H X0=>F.f43_l2 E Q (nth l 0) (nth l 1) (nth l 2) (nth l 3) (nth l 4) H X0) [slc b 0 n c,vi a,fv,vi p,vi ((e - 1:Nat):Int)] H2:=by
  rintro rfl H2 s2
  clear hX r1
  refine LoopL.ind (fun m l H'=>SortMo H b enc tail f d0 H'/\∃ q:Nat,l=[slc b 0 n c,vi a,fv,vi I,vi q]/\J=scanDown (fun x => !LT x d0[a]!) d0 I q/\q<=e - 1/\I<=q+1/\m=q) ?_ (e - 1) ⟨s2,e - 1,rfl,hJ,Nat.le_refl _,by omega,rfl⟩
  rintro m _ H3 X hX ⟨s3,q,rfl,r1,hq1,hq2,rfl⟩
  have exit2:J=m->F.f43_l2 E Q (slc b 0 n c) (vi a) fv (vi I) (vi m) H3 X:=by
   rintro rfl
   clear hX
   have f1:=mrr_ix (sz:=2) (b:=b) (c:=c) (n:=n) (i:=a) (by omega)
   have f2:=mrr_ix (sz:=2) (b:=b) (c:=c) (n:=n) (i:=J) (by omega)
   have g1:=mrr_load he s3.get (i:=a) (by omega)
   have g2:=mrr_load he s3.get (i:=J) (by omega)
   by_cases hij:I<=J
   ·have hij':decide ((I:Int)<=J)=true:=decide_eq_true (by omega)
    have hij'':decide ((J:Int)<I)=false:=decide_eq_false (by omega)
    have hnl:LT d0[J]! d0[a]! = true:=by
     cases J with
     | zero=>omega
     | succ q =>
      rw [scanDown] at r1
      split at r1
      ·have:=sDown_le (fun x => !LT x d0[a]!) d0 I q
       omega
      ·rename_i hc
       simp at hc
       exact hc (by omega)
    have f3:=mrr_ix (sz:=2) (b:=b) (c:=c) (n:=n) (i:=I) (by omega)
    have b3:=i64_succ I (by omega)
    have b4:=i64_dec J (by omega) (by omega)
    simp only [F.f43_l2,i64_leq,hij',f1,f2,g1,g2,stdZ]
    refine hC _ _ _ _ fun z H4 e4 hz =>?_
    have s4:=s3.ext e4
    have g2:=mrr_load he s4.get (i:=J) (by omega)
    have g3:=mrr_load he s4.get (i:=I) (by omega)
    obtain ⟨w3,w4⟩:=mrr_swap he s4.get (i:=I) (j:=J) (by omega) (by omega)
    simp only [i64_lss,i64_gtr,hz,hnl,un_not_z,Bool.not_true,hij'',f2,f3,g2,g3,w3,w4,b3,b4,stdZ]
    rw [if_neg (by omega)] at hQ
    have s1:=s4.put (swp d0 I J)
    have n1:(swp d0 I J).size=n:=by rw [size_swp]; exact n0
    generalize hd1:swp d0 I J=d1 at *
    simp only at hQ
    obtain ⟨R,hR⟩:∃ R,R=partLoop LT a (I+1) (J - 1) d1:=⟨_,rfl⟩
    rw [<- hR] at hQ
    refine LoopL.ind (fun m l H'=>∃ (p q:Nat) (d2:Array α),l=[slc b 0 n c,vi a,fv,vi p,vi q]/\SortMo H b enc tail f d2 H'/\d2.size=n/\R=partLoop LT a p q d2/\a+1<=p/\p<=q+1+1/\p<=e/\q<=e - 1/\a<=q/\m=q+1 - p) ?_ (J - 1+1 - (I+1)) ⟨I+1,J - 1,d1,rfl,s1,n1,hR,by omega,by omega,by omega,by omega,by omega,rfl⟩
    clear hR s1 n1 hd1 w3 w4 g1 g2 g3 s4 s3 s2
    rintro m _ H5 X3 hX3 ⟨p,q,d2,rfl,s2,n2,r2,hp1,hp2,hpe,hq1,hqa,rfl⟩
    rw [partLoop] at r2
    simp only [F.f43_l3,nth_0,nth_1,nth_2,nth_3,nth_4]
    obtain ⟨I2,hI2⟩:∃ I,I=scanUp (fun x=>LT x d2[a]!) d2 q p:=⟨_,rfl⟩
    obtain ⟨J2,hJ2⟩:∃ J,J=scanDown (fun x => !LT x d2[a]!) d2 I2 q:=⟨_,rfl⟩
    rw [<- hI2] at r2
    try simp only at r2
    rw [<- hJ2] at r2
    have hIl2:=sUp_le (fun x=>LT x d2[a]!) d2 q _ p (Nat.le_refl _)
    rw [<- hI2] at hIl2
    have hJl2:=sDown_le (fun x => !LT x d2[a]!) d2 I2 q
    rw [<- hJ2] at hJl2
    have hI2e:I2<=q+1\/(I2=p/\q+1<p):=by
     by_cases h:p<=q+1
     ·exact .inl (hIl2.2 h)
     ·refine .inr ⟨?_,by omega⟩
      rw [hI2,scanUp,if_neg (by simp; omega)]
    have hJ2e:I2<=q+1\/J2=q:=by
     rcases hI2e with h | ⟨h,h'⟩
     ·exact .inl h
     ·right
      rw [hJ2]
      cases q with
      | zero=>rfl
      | succ q=>rw [scanDown,if_neg (by simp; omega)]
    refine LoopL.ind (fun m l H'=>SortMo H b enc tail f d2 H'/\∃ p':Nat,l=[slc b 0 n c,vi a,fv,vi p',vi q]/\I2=scanUp (fun x=>LT x d2[a]!) d2 q p'/\p<=p'/\p'<=e/\m=q+1 - p') ?_ (q+1 - p) ⟨s2,p,rfl,hI2,Nat.le_refl _,by omega,rfl⟩
    rintro m _ H6 X4 hX4 ⟨s6,p',rfl,r4,hp3,hp4,rfl⟩
    rw [scanUp] at r4
    have exit4:I2=p'->∀ H7,SortMo H b enc tail f d2 H7->LoopL (fun l H X1=>F.f43_l5 E Q X3 (nth l 0) (nth l 1) (nth l 2) (nth l 3) (nth l 4) H X1) [slc b 0 n c,vi a,fv,vi p',vi q] H7:=by
     rintro rfl H7 s7
     clear hX4 r4
     refine LoopL.ind (fun m l H'=>SortMo H b enc tail f d2 H'/\∃ q':Nat,l=[slc b 0 n c,vi a,fv,vi I2,vi q']/\J2=scanDown (fun x => !LT x d2[a]!) d2 I2 q'/\q'<=q/\m=q') ?_ q ⟨s7,q,rfl,hJ2,Nat.le_refl _,rfl⟩
     rintro m _ H8 X5 hX5 ⟨s8,q',rfl,r5,hq3,rfl⟩
     have exit5:J2=m->∀ H9,SortMo H b enc tail f d2 H9->(hnl:I2<=m->LT d2[m]! d2[a]! = true)->F.f43_l5 E Q X3 (slc b 0 n c) (vi a) fv (vi I2) (vi m) H8 X5:=by
      rintro rfl H9 s9 hnl
      clear hX5
      have f2:=mrr_ix (sz:=2) (b:=b) (c:=c) (n:=n) (i:=J2) (by omega)
      have g1:=mrr_load he s8.get (i:=a) (by omega)
      have g2:=mrr_load he s8.get (i:=J2) (by omega)
      by_cases hij:I2<=J2
      ·have hij':decide ((I2:Int)<=J2)=true:=decide_eq_true (by omega)
       have hij'':decide ((J2:Int)<I2)=false:=decide_eq_false (by omega)
       have hnl:=hnl hij
       have f3:=mrr_ix (sz:=2) (b:=b) (c:=c) (n:=n) (i:=I2) (by omega)
       have b3:=i64_succ I2 (by omega)
       have b4:=i64_dec J2 (by omega) (by omega)
       simp only [F.f43_l5,i64_leq,hij',f1,f2,g1,g2,stdZ]
       refine hC _ _ _ _ fun z H10 e10 hz =>?_
       have s10:=s8.ext e10
       have g2:=mrr_load he s10.get (i:=J2) (by omega)
       have g3:=mrr_load he s10.get (i:=I2) (by omega)
       obtain ⟨w3,w4⟩:=mrr_swap he s10.get (i:=I2) (j:=J2) (by omega) (by omega)
       simp only [i64_lss,i64_gtr,hz,hnl,un_not_z,Bool.not_true,hij'',f2,f3,g2,g3,w3,w4,b3,b4,stdZ]
       rw [if_neg (by omega),dif_pos (by omega)] at r2
       exact hX3 (J2 - 1+1 - (I2+1)) (by omega) _ _ ⟨I2+1,J2 - 1,_,rfl,s10.put _,by rw [size_swp]; exact n2,r2,by omega,by omega,by omega,by omega,by omega,rfl⟩
      ·have hij':decide ((I2:Int)<=J2)=false:=decide_eq_false (by omega)
       have hij'':decide ((J2:Int)<I2)=true:=decide_eq_true (by omega)
       rw [if_pos (by omega)] at r2
       subst r2
       obtain ⟨w1,w2⟩:=mrr_swap he s8.get (i:=J2) (j:=a) (by omega) (by omega)
       simp only [F.f43_l5,i64_leq,i64_gtr,hij',hij'',f1,f2,g1,g2,w1,w2,stdZ]
       exact hQ _ (s8.put _)
     cases m with
     | zero=>exact exit5 r5 _ s8 fun h=>by omega
     | succ q' =>
      by_cases hc:I2<=q'+1/\LT d2[q'+1]! d2[a]! = false
      ·rw [scanDown,if_pos (by simp [hc.1,hc.2])] at r5
       have hc':decide ((I2:Int)<=((q'+1:Nat):Int))=true:=decide_eq_true (by omega)
       have f2:=mrr_ix (sz:=2) (b:=b) (c:=c) (n:=n) (i:=q'+1) (by omega)
       have g1:=mrr_load he s8.get (i:=a) (by omega)
       have g2:=mrr_load he s8.get (i:=q'+1) (by omega)
       have b4:binInt .sub (vi ((q'+1:Nat):Int)) (.int .i64 1)=some (vi (q':Int)):=i64_dec (q'+1) (by omega) (by omega)
       have hlt:=hc.2
       simp only [F.f43_l5,i64_leq,hc',f1,f2,g1,g2,stdZ]
       refine hC _ _ _ _ fun z H10 e10 hz =>?_
       simp only [i64_lss,hz,hlt,un_not_z,Bool.not_false,b4,stdZ]
       exact hX5 q' (by omega) _ _ ⟨s8.ext e10,q',rfl,r5,by omega,rfl⟩
      ·rw [scanDown,if_neg (by simpa using hc)] at r5
       exact exit5 r5 _ s8 fun h=>by simpa using fun h'=>hc ⟨h,h'⟩
    by_cases hc:p'<=q/\LT d2[p']! d2[a]! = true
    ·rw [if_pos (by simp [hc.1,hc.2])] at r4
     have hc':decide ((p':Int)<=q)=true:=decide_eq_true (by omega)
     have f2:=mrr_ix (sz:=2) (b:=b) (c:=c) (n:=n) (i:=p') (by omega)
     have g1:=mrr_load he s6.get (i:=a) (by omega)
     have g2:=mrr_load he s6.get (i:=p') (by omega)
     have b3:=i64_succ p' (by omega)
     simp only [F.f43_l4,i64_leq,hc',f1,f2,g1,g2,stdZ]
     refine hC _ _ _ _ fun z H10 e10 hz =>?_
     simp only [i64_lss,hz,hc.2,b3,stdZ]
     exact hX4 (q+1 - (p'+1)) (by omega) _ _ ⟨s6.ext e10,p'+1,rfl,r4,by omega,by omega,rfl⟩
    ·rw [if_neg (by simpa using hc)] at r4
     by_cases hpq:p'<=q
     ·have hc':decide ((p':Int)<=q)=true:=decide_eq_true (by omega)
      have hlt:LT d2[p']! d2[a]! = false:=by simpa using fun h=>hc ⟨hpq,h⟩
      have f2:=mrr_ix (sz:=2) (b:=b) (c:=c) (n:=n) (i:=p') (by omega)
      have g1:=mrr_load he s6.get (i:=a) (by omega)
      have g2:=mrr_load he s6.get (i:=p') (by omega)
      simp only [F.f43_l4,i64_leq,hc',f1,f2,g1,g2,stdZ]
      refine hC _ _ _ _ fun z H10 e10 hz =>?_
      simp only [i64_lss,hz,hlt,stdZ]
      exact exit4 r4 _ (s6.ext e10)
     ·have hc':decide ((p':Int)<=q)=false:=decide_eq_false (by omega)
      simp only [F.f43_l4,i64_leq,hc',stdZ]
      exact exit4 r4 _ s6
   ·have hij':decide ((I:Int)<=J)=false:=decide_eq_false (by omega)
    have hij'':decide ((J:Int)<I)=true:=decide_eq_true (by omega)
    obtain ⟨w1,w2⟩:=mrr_swap he s3.get (i:=J) (j:=a) (by omega) (by omega)
    simp only [F.f43_l2,i64_leq,i64_gtr,hij',hij'',f1,f2,g1,g2,w1,w2,stdZ]
    rw [if_pos (by omega)] at hQ
    exact hQ _ (s3.put _)
  cases m with
  | zero=>exact exit2 r1
  | succ q =>
   by_cases hc:I<=q+1/\LT d0[q+1]! d0[a]! = false
   ·rw [scanDown,if_pos (by simp [hc.1,hc.2])] at r1
    have hc':decide ((I:Int)<=((q+1:Nat):Int))=true:=decide_eq_true (by omega)
    have f2:=mrr_ix (sz:=2) (b:=b) (c:=c) (n:=n) (i:=q+1) (by omega)
    have g1:=mrr_load he s3.get (i:=a) (by omega)
    have g2:=mrr_load he s3.get (i:=q+1) (by omega)
    have b4:binInt .sub (vi ((q+1:Nat):Int)) (.int .i64 1)=some (vi (q:Int)):=i64_dec (q+1) (by omega) (by omega)
    have hlt:=hc.2
    simp only [F.f43_l2,i64_leq,hc',f1,f2,g1,g2,stdZ]
    refine hC _ _ _ _ fun z H10 e10 hz =>?_
    simp only [i64_lss,hz,hlt,un_not_z,Bool.not_false,b4,stdZ]
    exact hX q (by omega) _ _ ⟨s3.ext e10,q,rfl,r1,by omega,by omega,rfl⟩
   ·rw [scanDown,if_neg (by simpa using hc)] at r1
    exact exit2 r1
 by_cases hc:p<=e - 1/\LT d0[p]! d0[a]! = true
 ·rw [if_pos (by simp [hc.1,hc.2])] at r1
  have hc':decide ((p:Int)<=((e - 1:Nat):Int))=true:=decide_eq_true (by omega)
  have f2:=mrr_ix (sz:=2) (b:=b) (c:=c) (n:=n) (i:=p) (by omega)
  have g1:=mrr_load he s1.get (i:=a) (by omega)
  have g2:=mrr_load he s1.get (i:=p) (by omega)
  have b3:=i64_succ p (by omega)
  simp only [F.f43_l1,i64_leq,hc',f1,f2,g1,g2,stdZ]
  refine hC _ _ _ _ fun z H10 e10 hz =>?_
  simp only [i64_lss,hz,hc.2,b3,stdZ]
  exact hX (e - (p+1)) (by omega) _ _ ⟨s1.ext e10,p+1,rfl,r1,by omega,by omega,rfl⟩
 ·rw [if_neg (by simpa using hc)] at r1
  have exit1:=exit1 r1
  by_cases hpq:p<=e - 1
  ·have hc':decide ((p:Int)<=((e - 1:Nat):Int))=true:=decide_eq_true (by omega)
   have hlt:LT d0[p]! d0[a]! = false:=by simpa using fun h=>hc ⟨hpq,h⟩
   have f2:=mrr_ix (sz:=2) (b:=b) (c:=c) (n:=n) (i:=p) (by omega)
   have g1:=mrr_load he s1.get (i:=a) (by omega)
   have g2:=mrr_load he s1.get (i:=p) (by omega)
   simp only [F.f43_l1,i64_leq,hc',f1,f2,g1,g2,stdZ]
   refine hC _ _ _ _ fun z H10 e10 hz =>?_
   simp only [i64_lss,hz,hlt,stdZ]
   exact exit1 _ (s1.ext e10)
  ·have hc':decide ((p:Int)<=((e - 1:Nat):Int))=false:=decide_eq_false (by omega)
   simp only [F.f43_l1,i64_leq,hc',stdZ]
   exact exit1 _ s1
end
end Go.AM
end
section
namespace Go.AM
open Go.Sort
set_option maxRecDepth 20000
section
variable {α:Type} [Inhabited α] {E:Sy} {H H':AH} {Q:Value->AH->Prop} {b c n:Nat} {enc:α->List Value} {LT:α->α->Bool} {fv:Value} {d:Array α} {tail:List Value} {f:Option Nat}
theorem S.f44 (hE:Fold E) (he:EncOk 2 enc) (hC:CmpOk E fv enc LT) (hg:H.get b=arrM enc d tail f) (hn:d.size=n) (hsz:n<2 ^ 60) (a e pivot:Nat) (h1:a<=pivot) (h2:pivot<e) (hle:e<=n)
  (hQ:∀ H',SortMo H b enc tail f (partitionEqual LT d a e pivot).2 H'->Q (vi (partitionEqual LT d a e pivot).1) H'):E.call (E.fid i.f44) [slc b 0 n c,vi a,vi e,vi pivot,fv] H Q:=by
 apply hE.f44
 have f1:=mrr_ix (sz:=2) (b:=b) (c:=c) (n:=n) (i:=a) (by omega)
 have f2:=mrr_ix (sz:=2) (b:=b) (c:=c) (n:=n) (i:=pivot) (by omega)
 have g1:=mrr_load he hg (i:=a) (by omega)
 have g2:=mrr_load he hg (i:=pivot) (by omega)
 obtain ⟨w1,w2⟩:=mrr_swap he hg (i:=a) (j:=pivot) (by omega) (by omega)
 have b1:=i64_succ a (by omega)
 have b2:=i64_dec e (by omega) (by omega)
 simp only [F.f44,f1,f2,g1,g2,w1,w2,b1,b2,stdZ]
 have s0:=(SortMo.refl hg).put (swp d a pivot)
 have n0:(swp d a pivot).size=n:=by rw [size_swp]; exact hn
 unfold partitionEqual at hQ
 generalize hd0:swp d a pivot=d0 at *
 generalize H.put b (arrM enc d0 tail f)=H0 at *
 clear w1 w2 f2 g1 g2
 obtain ⟨R,hR⟩:∃ R,R=partEqLoop LT a (a+1) (e - 1) d0:=⟨_,rfl⟩
 rw [<- hR] at hQ
 refine LoopL.ind (fun m l H'=>∃ (p q:Nat) (d2:Array α),l=[slc b 0 n c,vi a,fv,vi p,vi q]/\SortMo H b enc tail f d2 H'/\d2.size=n/\R=partEqLoop LT a p q d2/\a+1<=p/\p<=q+1+1/\p<=e/\q<=e - 1/\a<=q/\m=q+1 - p) ?_ (e - 1+1 - (a+1)) ⟨a+1,e - 1,d0,rfl,s0,n0,hR,by omega,by omega,by omega,by omega,by omega,rfl⟩
 clear hR s0 n0 hd0
 rintro m _ H2 X3 hX3 ⟨p,q,d2,rfl,s2,n2,r2,hp1,hp2,hpe,hq1,hqa,rfl⟩
 rw [partEqLoop] at r2
 simp only [F.f44_l1,nth_0,nth_1,nth_2,nth_3,nth_4]
 obtain ⟨I2,hI2⟩:∃ I,I=scanUp (fun x => !LT d2[a]! x) d2 q p:=⟨_,rfl⟩
 obtain ⟨J2,hJ2⟩:∃ J,J=scanDown (fun x=>LT d2[a]! x) d2 I2 q:=⟨_,rfl⟩
 rw [<- hI2] at r2
 try simp only at r2
 rw [<- hJ2] at r2
 have hIl2:=sUp_le (fun x => !LT d2[a]! x) d2 q _ p (Nat.le_refl _)
 rw [<- hI2] at hIl2
 have hJl2:=sDown_le (fun x=>LT d2[a]! x) d2 I2 q
 rw [<- hJ2] at hJl2
 have hI2e:I2<=q+1\/(I2=p/\q+1<p):=by
  by_cases h:p<=q+1
  ·exact .inl (hIl2.2 h)
  ·refine .inr ⟨?_,by omega⟩
   rw [hI2,scanUp,if_neg (by simp; omega)]
 have hJ2e:I2<=q+1\/J2=q:=by
  rcases hI2e with h | ⟨h,h'⟩
  ·exact .inl h
  ·right
   rw [hJ2]
   cases q with
   | zero=>rfl
   | succ q=>rw [scanDown,if_neg (by simp; omega)]
 refine LoopL.ind (fun m l H'=>SortMo H b enc tail f d2 H'/\∃ p':Nat,l=[slc b 0 n c,vi a,fv,vi p',vi q]/\I2=scanUp (fun x => !LT d2[a]! x) d2 q p'/\p<=p'/\p'<=e/\m=q+1 - p') ?_ (q+1 - p) ⟨s2,p,rfl,hI2,Nat.le_refl _,by omega,rfl⟩
 rintro m _ H6 X4 hX4 ⟨s6,p',rfl,r4,hp3,hp4,rfl⟩
 rw [scanUp] at r4
 have exit4:I2=p'->∀ H7,SortMo H b enc tail f d2 H7->LoopL (fun l H X1=>F.f44_l3 E Q X3 (nth l 0) (nth l 1) (nth l 2) (nth l 3) (nth l 4) H X1) [slc b 0 n c,vi a,fv,vi p',vi q] H7:=by
  rintro rfl H7 s7
  clear hX4 r4
  refine LoopL.ind (fun m l H'=>SortMo H b enc tail f d2 H'/\∃ q':Nat,l=[slc b 0 n c,vi a,fv,vi I2,vi q']/\J2=scanDown (fun x=>LT d2[a]! x) d2 I2 q'/\q'<=q/\m=q') ?_ q ⟨s7,q,rfl,hJ2,Nat.le_refl _,rfl⟩
  rintro m _ H8 X5 hX5 ⟨s8,q',rfl,r5,hq3,rfl⟩
  have exit5:J2=m->(I2<=m->LT d2[a]! d2[m]! = false)->F.f44_l3 E Q X3 (slc b 0 n c) (vi a) fv (vi I2) (vi m) H8 X5:=by
   rintro rfl hnl
   clear hX5
   have f2:=mrr_ix (sz:=2) (b:=b) (c:=c) (n:=n) (i:=J2) (by omega)
   have g1:=mrr_load he s8.get (i:=a) (by omega)
   have g2:=mrr_load he s8.get (i:=J2) (by omega)
   by_cases hij:I2<=J2
   ·have hij':decide ((I2:Int)<=J2)=true:=decide_eq_true (by omega)
    have hij'':decide ((J2:Int)<I2)=false:=decide_eq_false (by omega)
    have hnl:=hnl hij
    have f3:=mrr_ix (sz:=2) (b:=b) (c:=c) (n:=n) (i:=I2) (by omega)
    have b3:=i64_succ I2 (by omega)
    have b4:=i64_dec J2 (by omega) (by omega)
    simp only [F.f44_l3,i64_leq,hij',f1,f2,g1,g2,stdZ]
    refine hC _ _ _ _ fun z H10 e10 hz =>?_
    have s10:=s8.ext e10
    have g2:=mrr_load he s10.get (i:=J2) (by omega)
    have g3:=mrr_load he s10.get (i:=I2) (by omega)
    obtain ⟨w3,w4⟩:=mrr_swap he s10.get (i:=I2) (j:=J2) (by omega) (by omega)
    simp only [i64_lss,i64_gtr,hz,hnl,hij'',f2,f3,g2,g3,w3,w4,b3,b4,stdZ]
    rw [if_neg (by omega),dif_pos (by omega)] at r2
    exact hX3 (J2 - 1+1 - (I2+1)) (by omega) _ _ ⟨I2+1,J2 - 1,_,rfl,s10.put _,by rw [size_swp]; exact n2,r2,by omega,by omega,by omega,by omega,by omega,rfl⟩
   ·have hij':decide ((I2:Int)<=J2)=false:=decide_eq_false (by omega)
    have hij'':decide ((J2:Int)<I2)=true:=decide_eq_true (by omega)
    rw [if_pos (by omega)] at r2
    subst r2
    simp only [F.f44_l3,i64_leq,i64_gtr,hij',hij'',stdZ]
    exact hQ _ s8
  cases m with
  | zero=>exact exit5 r5 fun h=>by omega
  | succ q' =>
   by_cases hc:I2<=q'+1/\LT d2[a]! d2[q'+1]! = true
   ·rw [scanDown,if_pos (by simp [hc.1,hc.2])] at r5
    have hc':decide ((I2:Int)<=((q'+1:Nat):Int))=true:=decide_eq_true (by omega)
    have f2:=mrr_ix (sz:=2) (b:=b) (c:=c) (n:=n) (i:=q'+1) (by omega)
    have g1:=mrr_load he s8.get (i:=a) (by omega)
    have g2:=mrr_load he s8.get (i:=q'+1) (by omega)
    have b4:binInt .sub (vi ((q'+1:Nat):Int)) (.int .i64 1)=some (vi (q':Int)):=i64_dec (q'+1) (by omega) (by omega)
    have hlt:=hc.2
    simp only [F.f44_l3,i64_leq,hc',f1,f2,g1,g2,stdZ]
    refine hC _ _ _ _ fun z H10 e10 hz =>?_
    simp only [i64_lss,hz,hlt,b4,stdZ]
    exact hX5 q' (by omega) _ _ ⟨s8.ext e10,q',rfl,r5,by omega,rfl⟩
   ·rw [scanDown,if_neg (by simpa using hc)] at r5
    exact exit5 r5 fun h=>by simpa using fun h'=>hc ⟨h,h'⟩
 by_cases hc:p'<=q/\LT d2[a]! d2[p']! = false
 ·rw [if_pos (by simp [hc.1,hc.2])] at r4
  have hc':decide ((p':Int)<=q)=true:=decide_eq_true (by omega)
  have f2:=mrr_ix (sz:=2) (b:=b) (c:=c) (n:=n) (i:=p') (by omega)
  have g1:=mrr_load he s6.get (i:=a) (by omega)
  have g2:=mrr_load he s6.get (i:=p') (by omega)
  have b3:=i64_succ p' (by omega)
  simp only [F.f44_l2,i64_leq,hc',f1,f2,g1,g2,stdZ]
  refine hC _ _ _ _ fun z H10 e10 hz =>?_
  simp only [i64_lss,hz,hc.2,un_not_z,Bool.not_false,b3,stdZ]
  exact hX4 (q+1 - (p'+1)) (by omega) _ _ ⟨s6.ext e10,p'+1,rfl,r4,by omega,by omega,rfl⟩
 ·rw [if_neg (by simpa using hc)] at r4
  by_cases hpq:p'<=q
  ·have hc':decide ((p':Int)<=q)=true:=decide_eq_true (by omega)
   have hlt:LT d2[a]! d2[p']! = true:=by simpa using fun h=>hc ⟨hpq,h⟩
   have f2:=mrr_ix (sz:=2) (b:=b) (c:=c) (n:=n) (i:=p') (by omega)
   have g1:=mrr_load he s6.get (i:=a) (by omega)
   have g2:=mrr_load he s6.get (i:=p') (by omega)
   simp only [F.f44_l2,i64_leq,hc',f1,f2,g1,g2,stdZ]
   refine hC _ _ _ _ fun z H10 e10 hz =>?_
   simp only [i64_lss,hz,hlt,un_not_z,Bool.not_true,stdZ]
   exact exit4 r4 _ (s6.ext e10)
  ·have hc':decide ((p':Int)<=q)=false:=decide_eq_false (by omega)
   simp only [F.f44_l2,i64_leq,hc',stdZ]
   exact exit4 r4 _ s6
end
end Go.AM
end
section
namespace Go.AM
open Go.Sort
set_option maxRecDepth 20000
section
variable {α:Type} [Inhabited α] {E:Sy} {H H':AH} {Q:Value->AH->Prop} {b c n:Nat} {enc:α->List Value} {LT:α->α->Bool} {fv:Value} {d:Array α} {tail:List Value} {f:Option Nat}
theorem S.f42 (hE:Fold E) (he:EncOk 2 enc) (hC:CmpOk E fv enc LT) (hg:H.get b=arrM enc d tail f) (hn:d.size=n) (hsz:n<2 ^ 60) (a e:Nat) (hae:a<e) (hle:e<=n)
    (hQ:∀ H',SortMo H b enc tail f (partialInsertionSort LT d a e).1 H'->Q (vb (partialInsertionSort LT d a e).2) H'):E.call (E.fid i.f42) [slc b 0 n c,vi a,vi e,fv] H Q:=by
  apply hE.f42
  have b1:=i64_succ a (by omega)
  simp only [F.f42,b1,stdZ]
  unfold partialInsertionSort at hQ
  obtain ⟨R,hR⟩:∃ R,R=partialIns LT a e 5 (a+1) d:=⟨_,rfl⟩
  rw [<- hR] at hQ
  refine LoopL.ind (fun m l H'=>∃ (i:Nat) (d1:Array α),l=[slc b 0 n c,vi a,vi e,fv,vi i,vi ((5 - m:Nat):Int)]/\SortMo H b enc tail f d1 H'/\d1.size=n/\R=partialIns LT a e m i d1/\a+1<=i/\i<=e/\m<=5) ?_ 5 ⟨a+1,d,rfl,.refl hg,hn,hR,Nat.le_refl _,by omega,Nat.le_refl _⟩
  rintro m _ H1 X hX ⟨i0,d1,rfl,s1,n1,r1,hi1,hi2,hm⟩
  cases m with
  | zero =>
    have c5:decide (((5 - 0:Nat):Int)<5)=false:=by decide
    simp only [F.f42_l1,i64_lss,c5,stdZ]
    rw [partialIns] at r1
    subst r1
    exact hQ _ s1
  | succ m =>
    have hms:decide (((5 - (m+1):Nat):Int)<5)=true:=decide_eq_true (by omega)
    have hmi:binInt .add (vi ((5 - (m+1):Nat):Int)) (.int .i64 1)=some (vi ((5 - m:Nat):Int)):=by
      rw [i64_succ _ (by omega)]; congr 3; omega
    have hX:∀ (i:Nat) (d2:Array α) H2,SortMo H b enc tail f d2 H2->d2.size=n->R=partialIns LT a e m i d2->a+1<=i->i<=e->X [slc b 0 n c,vi a,vi e,fv,vi i,vi ((5 - m:Nat):Int)] H2:=fun i d2 H2 q1 q2 q3 q4 q5=>hX m (by omega) _ _ ⟨i,d2,rfl,q1,q2,q3,q4,q5,by omega⟩
    generalize hk:5 - (m+1)=k at *
    generalize hk':5 - m=k' at *
    simp only [F.f42_l1,i64_lss,hms,stdZ]
    rw [partialIns_succ] at r1
    obtain ⟨I,hI⟩:∃ I,I=scanSorted LT d1 e i0:=⟨_,rfl⟩
    rw [<- hI] at r1
    refine LoopL.ind (fun m l H'=>SortMo H b enc tail f d1 H'/\∃ i':Nat,l=[slc b 0 n c,vi a,vi e,fv,vi i',vi k]/\I=scanSorted LT d1 e i'/\a+1<=i'/\i'<=e/\m=e - i') ?_ (e - i0) ⟨s1,i0,rfl,hI,hi1,hi2,rfl⟩
    clear s1
    rintro mm _ H2 X1 hX1 ⟨s1,i',rfl,r2,hi3,hi4,rfl⟩
    rw [scanSorted] at r2
    have b2:binInt .sub (vi e) (vi a)=some (vi ((e - a:Nat):Int)):=i64_sub_nat e a (by omega) (by omega)
    have hkk:binInt .add (vi k) (.int .i64 1)=some (vi k'):=hmi
    have j1:∀ (d3:Array α) H3,SortMo H b enc tail f d3 H3->d3.size=n->a+1<=I->I<e->R=partialIns LT a e m I (fixUp LT e I d3)->F.f42_j1 E Q X (slc b 0 n c) (vi a) (vi e) fv (vi I) (vi k) H3:=by
      intro d3 H3 s3 n3 hI3 hI4 r3
      unfold fixUp at r3
      have b5:binInt .sub (vi e) (vi I)=some (vi ((e - I:Nat):Int)):=i64_sub_nat e I (by omega) (by omega)
      by_cases c3:e - I>=2
      · rw [if_pos c3] at r3
        have c3':decide ((2:Int)<=((e - I:Nat):Int))=true:=decide_eq_true (by omega)
        have b6:=i64_succ I (by omega)
        simp only [F.f42_j1,b5,i64_geq,c3',b6,stdZ]
        obtain ⟨D,hD⟩:∃ D,D=shiftUp LT e (I+1) d3:=⟨_,rfl⟩
        rw [<- hD] at r3
        refine LoopL.ind (fun mm l H'=>∃ (q:Nat) (d4:Array α),l=[slc b 0 n c,vi a,vi e,fv,vi I,vi k,vi q]/\SortMo H b enc tail f d4 H'/\d4.size=n/\D=shiftUp LT e q d4/\1<=q/\q<=e/\mm=e - q) ?_ (e - (I+1)) ⟨I+1,d3,rfl,s3,n3,hD,by omega,by omega,rfl⟩
        rintro mm _ H4 X5 hX5 ⟨q,d4,rfl,s4,n4,r4,hq1,hq2,rfl⟩
        rw [shiftUp] at r4
        have done:D=d4->∀ H5,SortMo H b enc tail f d4 H5->X [slc b 0 n c,vi a,vi e,fv,vi I,vi k'] H5:=by
          rintro rfl H5 s5
          exact hX I D H5 s5 n4 r3 hI3 (by omega)
        by_cases c4:q<e
        · have c4':decide ((q:Int)<e)=true:=decide_eq_true (by omega)
          rw [if_pos c4] at r4
          have b7:=i64_dec q (by omega) (by omega)
          have b8:=i64_succ q (by omega)
          have f1:=mrr_ix (sz:=2) (b:=b) (c:=c) (n:=n) (i:=q) (by omega)
          have f2:=mrr_ix (sz:=2) (b:=b) (c:=c) (n:=n) (i:=q - 1) (by omega)
          have g1:=mrr_load he s4.get (i:=q) (by omega)
          have g2:=mrr_load he s4.get (i:=q - 1) (by omega)
          have hY:=fun (d5:Array α) H5 q1 q2 q3=>hX5 (e - (q+1)) (by omega) [slc b 0 n c,vi a,vi e,fv,vi I,vi k,vi ((q+1:Nat):Int)] H5 ⟨q+1,d5,rfl,q1,q2,q3,by omega,by omega,rfl⟩
          have hqn:q<n:=by omega
          have hqn':q - 1<n:=by omega
          generalize hq':q - 1=q' at *
          generalize hq'':q+1=q'' at *
          simp only [F.f42_l3,i64_lss,c4',b7,f1,f2,g1,g2,stdZ]
          refine hC _ _ _ _ fun z H5 e5 hz =>?_
          have s5:=s4.ext e5
          cases hl:LT d4[q]! d4[q']! with
          | true =>
            simp only [hl,Bool.not_true,Bool.false_eq_true,if_false] at r4
            have g1:=mrr_load he s5.get (i:=q) (by omega)
            have g2:=mrr_load he s5.get (i:=q') (by omega)
            obtain ⟨w1,w2⟩:=mrr_swap he s5.get (i:=q) (j:=q') (by omega) (by omega)
            simp only [i64_lss,hz,hl,un_not_z,Bool.not_true,b7,b8,f1,f2,g1,g2,w1,w2,stdZ]
            exact hY _ _ (s5.put _) (by rw [size_swp]; exact n4) r4
          | false =>
            simp only [hl,Bool.not_false,if_true] at r4
            simp only [i64_lss,hz,hl,un_not_z,Bool.not_false,hkk,stdZ]
            exact done r4 _ s5
        · have c4':decide ((q:Int)<e)=false:=decide_eq_false (by omega)
          rw [if_neg c4] at r4
          simp only [F.f42_l3,i64_lss,c4',hkk,stdZ]
          exact done r4 _ s4
      · rw [if_neg c3] at r3
        have c3':decide ((2:Int)<=((e - I:Nat):Int))=false:=decide_eq_false (by omega)
        simp only [F.f42_j1,b5,i64_geq,c3',hkk,stdZ]
        exact hX I d3 H3 s3 n3 r3 hI3 (by omega)
    have exit:I=i'->∀ H3,SortMo H b enc tail f d1 H3 ->
        (opt (binInt .eql (vi i') (vi e)) fun v15 =>
         ifB v15 (Q (.bool true) H3) (
         opt (binInt .sub (vi e) (vi a)) fun v16 =>
         opt (binInt .lss v16 (.int .i64 50)) fun v17 =>
         ifB v17 (Q (.bool false) H3) (
         opt (binInt .sub (vi i') (.int .i64 1)) fun v18 =>
         opt (binInt .sub (vi i') (.int .i64 1)) fun v19 =>
         opt (ixSlc 2 (slc b 0 n c) v19) fun v20 =>
         opt (loadN 2 v20 H3) fun v21 =>
         opt (ixSlc 2 (slc b 0 n c) (vi i')) fun v22 =>
         opt (loadN 2 v22 H3) fun v23 =>
         opt (ixSlc 2 (slc b 0 n c) (vi i')) fun v24 =>
         opt (storeN 2 v24 v21 H3) fun H12 =>
         opt (ixSlc 2 (slc b 0 n c) v18) fun v25 =>
         opt (storeN 2 v25 v23 H12) fun H13 =>
         opt (binInt .sub (vi i') (vi a)) fun v26 =>
         opt (binInt .geq v26 (.int .i64 2)) fun v27 =>
         ifB v27 (
         opt (binInt .sub (vi i') (.int .i64 1)) fun v28 =>
         LoopL (fun l H X1=>F.f42_l4 E Q X (nth l 0) (nth l 1) (nth l 2) (nth l 3) (nth l 4) (nth l 5) (nth l 6) H X1) [slc b 0 n c,vi a,vi e,fv,vi i',vi k,v28] H13) (
         F.f42_j1 E Q X (slc b 0 n c) (vi a) (vi e) fv (vi i') (vi k) H13)))):=by
      rintro rfl H3 s3
      clear hX1
      by_cases c1:I=e
      · rw [if_pos c1] at r1
        subst r1
        have c1':decide ((I:Int)=e)=true:=decide_eq_true (by omega)
        simp only [i64_eql,c1',stdZ]
        exact hQ _ s3
      rw [if_neg c1] at r1
      have c1':decide ((I:Int)=e)=false:=decide_eq_false (by omega)
      by_cases c2:e - a<50
      · rw [if_pos c2] at r1
        subst r1
        have c2':decide (((e - a:Nat):Int)<50)=true:=decide_eq_true (by omega)
        simp only [i64_eql,c1',b2,i64_lss,c2',stdZ]
        exact hQ _ s3
      rw [if_neg c2] at r1
      have c2':decide (((e - a:Nat):Int)<50)=false:=decide_eq_false (by omega)
      have b3:=i64_dec I (by omega) (by omega)
      have b4:binInt .sub (vi I) (vi a)=some (vi ((I - a:Nat):Int)):=i64_sub_nat I a (by omega) (by omega)
      have f1:=mrr_ix (sz:=2) (b:=b) (c:=c) (n:=n) (i:=I) (by omega)
      have f2:=mrr_ix (sz:=2) (b:=b) (c:=c) (n:=n) (i:=I - 1) (by omega)
      have g1:=mrr_load he s3.get (i:=I) (by omega)
      have g2:=mrr_load he s3.get (i:=I - 1) (by omega)
      obtain ⟨w1,w2⟩:=mrr_swap he s3.get (i:=I) (j:=I - 1) (by omega) (by omega)
      have s2:=s3.put (swp d1 I (I - 1))
      have n2:(swp d1 I (I - 1)).size=n:=by rw [size_swp]; exact n1
      unfold fixDown at r1
      by_cases c3:I - a>=2
      · rw [if_pos c3] at r1
        have c3':decide ((2:Int)<=((I - a:Nat):Int))=true:=decide_eq_true (by omega)
        obtain ⟨D,hD⟩:∃ D,D=shiftDown LT (I - 1) (swp d1 I (I - 1)):=⟨_,rfl⟩
        rw [<- hD] at r1
        have hI1n:I - 1<n:=by omega
        simp only [i64_eql,c1',b2,i64_lss,c2',b3,b4,i64_geq,f1,f2,g1,g2,w1,w2,c3',stdZ]
        refine LoopL.ind (fun mm l H'=>∃ (q:Nat) (d4:Array α),l=[slc b 0 n c,vi a,vi e,fv,vi I,vi k,vi q]/\SortMo H b enc tail f d4 H'/\d4.size=n/\D=shiftDown LT q d4/\q<n/\mm=q) ?_ (I - 1) ⟨I - 1,_,rfl,s2,n2,hD,hI1n,rfl⟩
        clear s2 n2 hD g1 g2 w1 w2
        rintro mm _ H4 X5 hX5 ⟨q,d4,rfl,s4,n4,r4,hq1,rfl⟩
        cases mm with
        | zero =>
          have c4':decide ((1:Int)<=((0:Nat):Int))=false:=by decide
          simp only [F.f42_l4,i64_geq,c4',stdZ]
          rw [shiftDown] at r4
          subst r4
          exact j1 _ _ s4 n4 hi3 (by omega) r1
        | succ q =>
          have c4':decide ((1:Int)<=((q+1:Nat):Int))=true:=decide_eq_true (by omega)
          rw [shiftDown] at r4
          have b7:binInt .sub (vi ((q+1:Nat):Int)) (vi 1)=some (vi (q:Int)):=i64_dec (q+1) (by omega) (by omega)
          have f1:=mrr_ix (sz:=2) (b:=b) (c:=c) (n:=n) (i:=q+1) (by omega)
          have f2:=mrr_ix (sz:=2) (b:=b) (c:=c) (n:=n) (i:=q) (by omega)
          have g1:=mrr_load he s4.get (i:=q+1) (by omega)
          have g2:=mrr_load he s4.get (i:=q) (by omega)
          have hY:=fun (d5:Array α) H5 q1 q2 q3=>hX5 q (by omega) [slc b 0 n c,vi a,vi e,fv,vi I,vi k,vi (q:Int)] H5 ⟨q,d5,rfl,q1,q2,q3,by omega,rfl⟩
          generalize hq':q+1=q' at *
          simp only [F.f42_l4,i64_geq,c4',b7,f1,f2,g1,g2,stdZ]
          refine hC _ _ _ _ fun z H5 e5 hz =>?_
          have s5:=s4.ext e5
          cases hl:LT d4[q']! d4[q]! with
          | true =>
            simp only [hl,Bool.not_true,Bool.false_eq_true,if_false] at r4
            have g1:=mrr_load he s5.get (i:=q') (by omega)
            have g2:=mrr_load he s5.get (i:=q) (by omega)
            obtain ⟨w1,w2⟩:=mrr_swap he s5.get (i:=q') (j:=q) (by omega) (by omega)
            simp only [i64_lss,hz,hl,un_not_z,Bool.not_true,b7,f1,f2,g1,g2,w1,w2,stdZ]
            exact hY _ _ (s5.put _) (by rw [size_swp]; exact n4) r4
          | false =>
            simp only [hl,Bool.not_false,if_true] at r4
            simp only [i64_lss,hz,hl,un_not_z,Bool.not_false,stdZ]
            subst r4
            exact j1 _ _ s5 n4 hi3 (by omega) r1
      · rw [if_neg c3] at r1
        have c3':decide ((2:Int)<=((I - a:Nat):Int))=false:=decide_eq_false (by omega)
        simp only [i64_eql,c1',b2,i64_lss,c2',b3,b4,i64_geq,f1,f2,g1,g2,w1,w2,c3',stdZ]
        exact j1 _ _ s2 n2 hi3 (by omega) r1
    have b7:=i64_succ i' (by omega)
    by_cases c4:i'<e
    · have c4':decide ((i':Int)<e)=true:=decide_eq_true (by omega)
      have b6:=i64_dec i' (by omega) (by omega)
      have f1:=mrr_ix (sz:=2) (b:=b) (c:=c) (n:=n) (i:=i') (by omega)
      have f2:=mrr_ix (sz:=2) (b:=b) (c:=c) (n:=n) (i:=i' - 1) (by omega)
      have g1:=mrr_load he s1.get (i:=i') (by omega)
      have g2:=mrr_load he s1.get (i:=i' - 1) (by omega)
      simp only [F.f42_l2,i64_lss,c4',b6,f1,f2,g1,g2,stdZ]
      refine hC _ _ _ _ fun z H5 e5 hz =>?_
      have s5:=s1.ext e5
      cases hl:LT d1[i']! d1[i' - 1]! with
      | true =>
        rw [if_neg (by simp [hl])] at r2
        simp only [i64_lss,hz,hl,un_not_z,Bool.not_true,stdZ]
        exact exit r2 _ s5
      | false =>
        rw [if_pos (by simp [hl,c4])] at r2
        simp only [i64_lss,hz,hl,un_not_z,Bool.not_false,b7,stdZ]
        exact hX1 (e - (i'+1)) (by omega) [slc b 0 n c,vi a,vi e,fv,vi ((i'+1:Nat):Int),vi k] _ ⟨s5,i'+1,rfl,r2,by omega,by omega,rfl⟩
    · have c4':decide ((i':Int)<e)=false:=decide_eq_false (by omega)
      rw [if_neg (by simp [c4])] at r2
      simp only [F.f42_l2,i64_lss,c4',stdZ]
      exact exit r2 _ s1
end
end Go.AM
end
section
namespace Go.AM
open Go.Sort
set_option maxRecDepth 20000
section
variable {α:Type} [Inhabited α] {E:Sy} {H H':AH} {Q:Value->AH->Prop} {b c n:Nat} {enc:α->List Value} {LT:α->α->Bool} {fv:Value} {d:Array α} {tail:List Value} {f:Option Nat}
theorem S.f41 (hE:Fold E) (he:EncOk 2 enc) (hC:CmpOk E fv enc LT) (hg:H.get b=arrM enc d tail f) (hn:d.size=n) (p q:Nat) (hp:p<n) (hq:q<n) (s k:Nat) (hs:H.get s = .cells [vi k] none) (hk:k<1000) (hsb:s≠b)
  (hQ:∀ r1 r2 k' H',((r1=p/\r2=q)\/(r1=q/\r2=p))->Only [s] H H'->H'.get s = .cells [vi (k':Nat)] none->k'<=k+1->Q (.tuple #[vi (r1:Nat),vi (r2:Nat)]) H') :
  E.call (E.fid i.f41) [slc b 0 n c,vi p,vi q,ptr s 0,fv] H Q:=by
 apply hE.f41
 have f1:=mrr_ix (sz:=2) (b:=b) (c:=c) (n:=n) (i:=p) hp
 have f2:=mrr_ix (sz:=2) (b:=b) (c:=c) (n:=n) (i:=q) hq
 have g1:=mrr_load he hg (i:=p) (by omega)
 have g2:=mrr_load he hg (i:=q) (by omega)
 have hlt:=AH.lt_cells hs
 have b1:=i64_succ k (by omega)
 simp only [F.f41,f1,f2,g1,g2,stdZ]
 refine hC _ _ _ _ fun z H1 e1 hz =>?_
 have hs1:=e1.cells hs
 have hlt1:=AH.lt_cells hs1
 cases hl:LT d[q]! d[p]! with
 | true =>
  have st:store1 (ptr s 0) (vi ((k+1:Nat):Int)) H1=some (H1.put s (.cells [vi ((k+1:Nat):Int)] none)):=by
   rw [store1_ptr,if_pos (show plain1 (vi ((k+1:Nat):Int))=true from rfl),hs1]; rfl
  have hl0:[vi (k:Int)][0]? = some (vi k):=rfl
  simp only [i64_lss,hz,hl,hs1,hl0,b1,st,stdZ]
  exact hQ q p (k+1) _ (.inr ⟨rfl,rfl⟩) (e1.only.put (.inl (by simp)) _) (AH.get_put_self _ _ hlt1) (Nat.le_refl _)
 | false =>
  simp only [i64_lss,hz,hl,stdZ]
  exact hQ p q k _ (.inl ⟨rfl,rfl⟩) e1.only hs1 (by omega)
theorem S.f39 (hE:Fold E) (he:EncOk 2 enc) (hC:CmpOk E fv enc LT) (hg:H.get b=arrM enc d tail f) (hn:d.size=n) (p q r:Nat) (hp:p<n) (hq:q<n) (hr:r<n) (s k:Nat) (hs:H.get s = .cells [vi k] none) (hk:k<900) (hsb:s≠b)
  (hQ:∀ m k' H',(m=p\/m=q\/m=r)->Only [s] H H'->H'.get s = .cells [vi (k':Nat)] none->k'<=k+3->Q (vi (m:Nat)) H') :
  E.call (E.fid i.f39) [slc b 0 n c,vi p,vi q,vi r,ptr s 0,fv] H Q:=by
 apply hE.f39
 have keep:∀ {H'},Only [s] H H'->H'.get b=arrM enc d tail f:=fun o=>by rw [o.get (mrr_lt hg) (by simpa using Ne.symm hsb)]; exact hg
 simp only [F.f39,stdZ]
 refine S.f41 hE he hC hg hn p q hp hq s k hs (by omega) hsb fun a1 a2 k1 H1 e1 o1 s1 l1 =>?_
 simp only [ext_tuple,List.getElem?_cons_zero,List.getElem?_cons_succ,stdZ]
 refine S.f41 hE he hC (keep o1) hn a2 r (by omega) hr s k1 s1 (by omega) hsb fun a3 a4 k2 H2 e2 o2 s2 l2 =>?_
 have o12:=o1.trans' o2
 simp only [ext_tuple,List.getElem?_cons_zero,List.getElem?_cons_succ,stdZ]
 refine S.f41 hE he hC (keep o12) hn a1 a3 (by omega) (by omega) s k2 s2 (by omega) hsb fun a5 a6 k3 H3 e3 o3 s3 l3 =>?_
 simp only [ext_tuple,List.getElem?_cons_zero,List.getElem?_cons_succ,stdZ]
 exact hQ a6 k3 H3 (by omega) (o12.trans' o3) s3 (by omega)
theorem S.f38 (hE:Fold E) (he:EncOk 2 enc) (hC:CmpOk E fv enc LT) (hg:H.get b=arrM enc d tail f) (hn:d.size=n) (hsz:n<2 ^ 60) (p:Nat) (hp0:1<=p) (hp:p+1<n) (s k:Nat) (hs:H.get s = .cells [vi k] none) (hk:k<900) (hsb:s≠b)
  (hQ:∀ m k' H',(p - 1<=m/\m<=p+1)->Only [s] H H'->H'.get s = .cells [vi (k':Nat)] none->k'<=k+3->Q (vi (m:Nat)) H') :
  E.call (E.fid i.f38) [slc b 0 n c,vi p,ptr s 0,fv] H Q:=by
 apply hE.f38
 have b1:=i64_dec p hp0 (by omega)
 have b2:=i64_succ p (by omega)
 simp only [F.f38,b1,b2,stdZ]
 refine S.f39 hE he hC hg hn (p - 1) p (p+1) (by omega) (by omega) hp s k hs hk hsb fun m k' H' e1 o1 s1 l1=>hQ m k' H' (by omega) o1 s1 l1
theorem S.f34 (hE:Fold E) (he:EncOk 2 enc) (hC:CmpOk E fv enc LT) (hg:H.get b=arrM enc d tail f) (hn:d.size=n) (hsz:n<2 ^ 60) (a e:Nat) (hae:a+8<=e) (hle:e<=n)
  (hQ:∀ (m:Nat) (h:Int) H',a<=m->m<e->Ext H H'->Q (.tuple #[vi m,vi h]) H'):E.call (E.fid i.f34) [slc b 0 n c,vi a,vi e,fv] H Q:=by
 apply hE.f34
 have a1:binInt .sub (vi e) (vi a)=some (vi ((e - a:Nat):Int)):=i64_sub_nat e a (by omega) (by omega)
 have hbl:=mrr_lt hg
 generalize hw:e - a=w at *
 have a2:binInt .quo (vi (w:Int)) (.int .i64 4)=some (vi ((w / 4:Nat):Int)):=i64_quo_num w 4 (by decide) (by omega)
 have hq4:w / 4*4<=w:=Nat.div_mul_le_self _ _
 have hq4':1<=w / 4:=by omega
 have hq50:50<=w->12<=w / 4:=fun h=>by omega
 generalize hq:w / 4=q at *
 have m1:binInt .mul (vi (q:Int)) (.int .i64 1)=some (vi ((q*1:Nat):Int)):=by rw [i64_mul (by omega) (by omega)]; congr 2
 have m2:binInt .mul (vi (q:Int)) (.int .i64 2)=some (vi ((q*2:Nat):Int)):=by rw [i64_mul (by omega) (by omega)]; congr 2
 have m3:binInt .mul (vi (q:Int)) (.int .i64 3)=some (vi ((q*3:Nat):Int)):=by rw [i64_mul (by omega) (by omega)]; congr 2
 have p1:=i64_add_nat a (q*1) (by omega)
 have p2:=i64_add_nat a (q*2) (by omega)
 have p3:=i64_add_nat a (q*3) (by omega)
 have c8:decide ((8:Int)<=w)=true:=decide_eq_true (by omega)
 have hg1:(H.new (.cells [vi 0] none)).get b=arrM enc d tail f:=by rw [AH.get_new_lt _ _ hbl]; exact hg
 have hs1:(H.new (.cells [vi 0] none)).get H.next = .cells [vi ((0:Nat):Int)] none:=AH.get_new_self _ _
 have hsb:H.next≠b:=by omega
 have x1:Ext H (H.new (.cells [vi 0] none)):=(Ext.refl H).new _
 have ext_of:∀ {H'},Only [H.next] (H.new (.cells [vi 0] none)) H'->Ext H H':=fun o=>o.ext x1 (by simp)
 have keep:∀ {H'},Only [H.next] (H.new (.cells [vi 0] none)) H'->H'.get b=arrM enc d tail f:=fun o=>by rw [o.get (mrr_lt hg1) (by simpa using Ne.symm hsb)]; exact hg1
 have last:∀ (m k:Nat) H',a<=m->m<e->Ext H H'->H'.get H.next = .cells [vi (k:Nat)] none->F.f34_j1 E Q (ptr H.next 0) (vi m) H':=by
  intro m k H' h1 h2 e1 s1
  have hl0:[vi (k:Int)][0]? = some (vi k):=rfl
  by_cases k0:(k:Int)=0
  ·have d0:decide ((k:Int)=0)=true:=decide_eq_true k0
   simp only [F.f34_j1,s1,hl0,i64_eql,d0,stdZ]
   exact hQ m _ H' h1 h2 e1
  ·have d0:decide ((k:Int)=0)=false:=decide_eq_false k0
   by_cases k12:(k:Int)=12
   ·have d12:decide ((k:Int)=12)=true:=decide_eq_true k12
    simp only [F.f34_j1,s1,hl0,i64_eql,d0,d12,stdZ]
    exact hQ m _ H' h1 h2 e1
   ·have d12:decide ((k:Int)=12)=false:=decide_eq_false k12
    simp only [F.f34_j1,s1,hl0,i64_eql,d0,d12,stdZ]
    exact hQ m _ H' h1 h2 e1
 have last2:∀ (x y z k:Nat) H',a<=x->x<e->a<=y->y<e->a<=z->z<e->Only [H.next] (H.new (.cells [vi 0] none)) H'->H'.get H.next = .cells [vi (k:Nat)] none->k<900->F.f34_j2 E Q (slc b 0 n c) fv (ptr H.next 0) (vi x) (vi y) (vi z) H':=by
  intro x y z k H' h1 h2 h3 h4 h5 h6 o1 s1 hk
  simp only [F.f34_j2,stdZ]
  refine S.f39 hE he hC (keep o1) hn x y z (by omega) (by omega) (by omega) H.next k s1 hk hsb fun m k' H2 hm o2 s2 _ =>?_
  exact last m k' H2 (by omega) (by omega) (ext_of (o1.trans' o2)) s2
 by_cases c50:50<=w
 ·have c50':decide ((50:Int)<=w)=true:=decide_eq_true (by omega)
  have hq50:=hq50 c50
  have g1:a+1<=a+q*1/\a+q*1+1<e:=by omega
  have g2:a+1<=a+q*2/\a+q*2+1<e:=by omega
  have g3:a+1<=a+q*3/\a+q*3+1<e:=by omega
  generalize hx:a+q*1=x at *
  generalize hy:a+q*2=y at *
  generalize hz:a+q*3=z at *
  generalize q*1=q1 at *
  generalize q*2=q2 at *
  generalize q*3=q3 at *
  simp only [F.f34,allocW_eq,a1,a2,m1,m2,m3,p1,p2,p3,i64_geq,c8,c50',stdZ]
  refine S.f38 hE he hC hg1 hn hsz x (by omega) (by omega) H.next 0 hs1 (by omega) hsb fun r1 k1 H1 e1 o1 s1 l1 =>?_
  refine S.f38 hE he hC (keep o1) hn hsz y (by omega) (by omega) H.next k1 s1 (by omega) hsb fun r2 k2 H2 e2 o2 s2 l2 =>?_
  refine S.f38 hE he hC (keep (o1.trans' o2)) hn hsz z (by omega) (by omega) H.next k2 s2 (by omega) hsb fun r3 k3 H3 e3 o3 s3 l3 =>?_
  exact last2 r1 r2 r3 k3 H3 (by omega) (by omega) (by omega) (by omega) (by omega) (by omega) ((o1.trans' o2).trans' o3) s3 (by omega)
 ·have c50':decide ((50:Int)<=w)=false:=decide_eq_false (by omega)
  have g1:a+q*1<e:=by omega
  have g2:a+q*2<e:=by omega
  have g3:a+q*3<e:=by omega
  have g0:a<=a+q*1/\a<=a+q*2/\a<=a+q*3:=by omega
  generalize hx:a+q*1=x at *
  generalize hy:a+q*2=y at *
  generalize hz:a+q*3=z at *
  generalize q*1=q1 at *
  generalize q*2=q2 at *
  generalize q*3=q3 at *
  simp only [F.f34,allocW_eq,a1,a2,m1,m2,m3,p1,p2,p3,i64_geq,c8,c50',stdZ]
  exact last2 x y z 0 _ g0.1 g1 g0.2.1 g2 g0.2.2 g3 (Only.refl _ _) hs1 (by omega)
theorem S.f33 (hE:Fold E) (he:EncOk 2 enc) (hg:H.get b=arrM enc d tail f) (hn:d.size=n) (hsz:n<2 ^ 31) (a e:Nat) (hae:a+8<=e) (hle:e<=n)
  (hQ:∀ d' H',PermIn a e d d'->SortMo H b enc tail f d' H'->Q (.tuple #[]) H'):E.call (E.fid i.f33) [slc b 0 n c,vi a,vi e,fv] H Q:=by
 apply hE.f33
 have a1:binInt .sub (vi e) (vi a)=some (vi ((e - a:Nat):Int)):=i64_sub_nat e a (by omega) (by omega)
 have hbl:=mrr_lt hg
 generalize hw:e - a=w at *
 have a2:binInt .quo (vi (w:Int)) (.int .i64 4)=some (vi ((w / 4:Nat):Int)):=i64_quo_num w 4 (by decide) (by omega)
 have hq4:w / 4*4<=w:=Nat.div_mul_le_self _ _
 have hq4':2<=w / 4:=by omega
 generalize hq:w / 4=q at *
 have m2:binInt .mul (vi (q:Int)) (.int .i64 2)=some (vi ((q*2:Nat):Int)):=by rw [i64_mul (by omega) (by omega)]; congr 2
 have p2:=i64_add_nat a (q*2) (by omega)
 have p3:=i64_dec (a+q*2) (by omega) (by omega)
 have p4:=i64_succ (a+q*2) (by omega)
 have c8:decide ((8:Int)<=w)=true:=decide_eq_true (by omega)
 have hc:convInt .u64 (vi (w:Int))=some (u64 (BitVec.ofNat 64 w)):=by rw [i64_to_u64,BitVec.ofInt_natCast]
 have hm2:2 ^ bitsLen w<=2*w:=two_pow_bitsLen_le (by omega)
 have hm1:=Nat.two_pow_pos (bitsLen w)
 generalize hM:2 ^ bitsLen w=M at *
 have gx:a+1<=a+q*2/\a+q*2+1<e:=by omega
 generalize hx:a+q*2=x at *
 generalize q*2=q2 at *
 have x1:Ext H (H.new (.cells [u64 (BitVec.ofNat 64 w)] none)):=(Ext.refl H).new _
 simp [F.f33,a1,a2,m2,p2,p3,c8,hc]
 refine S.f40 hE w (by omega) ?_
 rw [hM]
 simp [a2,m2,p2,p3]
 refine LoopL.ind (fun m l H'=>∃ (j:Nat) (d1:Array α) (y:BitVec 64),l=[slc b 0 n c,vi a,vi w,ptr H.next 0,u64 (BitVec.ofNat 64 M),vi j]/\SortMo H b enc tail f d1 H'/\d1.size=n/\PermIn a e d d1/\H'.get H.next = .cells [u64 y] none/\a<=j/\j<=x+2/\m=x+2 - j) ?_ (x+2 - (x - 1))
  ⟨x - 1,d,_,by simp,⟨x1.only,by rw [AH.get_new_lt _ _ hbl]; exact hg⟩,hn,permIn_refl _ _ _,AH.get_new_self _ _,by omega,by omega,rfl⟩
 rintro m _ H1 X hX ⟨j,d1,y,rfl,s1,n1,pp,hb1,hj1,hj2,rfl⟩
 by_cases cj:j<=x+1
 ·have cj':decide ((j:Int)<=((x+1:Nat):Int))=true:=decide_eq_true (by omega)
  have pj:=i64_succ j (by omega)
  have fin:∀ (o:Nat) (y':BitVec 64),o<w->F.f33_j1 E Q X (slc b 0 n c) (vi a) (vi w) (ptr H.next 0) (u64 (BitVec.ofNat 64 M)) (vi j) (vi o) (H1.put H.next (.cells [u64 y'] none)):=by
   intro o y' ho
   have hnb:b≠H.next:=by omega
   have s2:SortMo H b enc tail f d1 (H1.put H.next (.cells [u64 y'] none)):=⟨s1.only.put (.inr (Nat.le_refl _)) _,by rw [AH.get_put_ne _ _ hnb]; exact s1.get⟩
   have pa:=i64_add_nat a o (by omega)
   have f1:=mrr_ix (sz:=2) (b:=b) (c:=c) (n:=n) (i:=j) (by omega)
   have f2:=mrr_ix (sz:=2) (b:=b) (c:=c) (n:=n) (i:=a+o) (by omega)
   have g1:=mrr_load he s2.get (i:=j) (by omega)
   have g2:=mrr_load he s2.get (i:=a+o) (by omega)
   obtain ⟨w1,w2⟩:=mrr_swap he s2.get (i:=j) (j:=a+o) (by omega) (by omega)
   have hpp:=swp_permIn d1 a e j (a+o) hj1 (by omega) (by omega) (by omega) (by omega)
   have hX:=hX (x+2 - (j+1)) (by omega) [slc b 0 n c,vi a,vi w,ptr H.next 0,u64 (BitVec.ofNat 64 M),vi ((j+1:Nat):Int)] _ ⟨j+1,_,y',rfl,s2.put (swp d1 j (a+o)),by rw [size_swp]; exact n1,permIn_trans _ _ _ _ _ pp hpp,by rw [AH.get_put_ne _ _ (Ne.symm hnb),AH.get_put_self _ _ (AH.lt_cells hb1)],by omega,by omega,rfl⟩
   simp only [F.f33_j1,pa,f1,f2,g1,g2,w1,w2,pj,stdZ]
   exact hX
  simp only [F.f33_l1,a2,m2,p2,p4,i64_leq,cj',stdZ]
  refine S.f52 hE H.next y hb1 fun y' =>?_
  have l1:(.int .u64 1:Value)=u64 1#64:=rfl
  have hsub:BitVec.ofNat 64 M - 1#64=BitVec.ofNat 64 (M - 1):=by
   apply BitVec.eq_of_toNat_eq
   rw [BitVec.toNat_sub,BitVec.toNat_ofNat,BitVec.toNat_ofNat,BitVec.toNat_ofNat]
   omega
  have hand:(y'&&&BitVec.ofNat 64 (M - 1)).toNat<=M - 1:=by
   rw [BitVec.toNat_and]
   refine Nat.le_trans Nat.and_le_right ?_
   rw [BitVec.toNat_ofNat]
   exact Nat.mod_le _ _
  have hcv:∀ z:BitVec 64,z.toNat<2 ^ 62->convInt .i64 (u64 z)=some (vi (z.toNat:Int)):=by
   intro z hz
   rw [u64_def,convInt_int,wrap_i64 (by omega) (by omega)]
  have hcv':=hcv _ (by omega:(y'&&&BitVec.ofNat 64 (M - 1)).toNat<2 ^ 62)
  simp only [l1,u64_sub,hsub,u64_and,hcv',i64_geq,stdZ]
  generalize (y'&&&BitVec.ofNat 64 (M - 1)).toNat=o at *
  by_cases co:w<=o
  ·have co':decide ((w:Int)<=o)=true:=decide_eq_true (by omega)
   have hs:binInt .sub (vi (o:Int)) (vi (w:Int))=some (vi ((o - w:Nat):Int)):=i64_sub_nat o w co (by omega)
   simp only [co',hs,stdZ]
   exact fin (o - w) y' (by omega)
  ·have co':decide ((w:Int)<=o)=false:=decide_eq_false (by omega)
   simp only [co',stdZ]
   exact fin o y' (by omega)
 ·have cj':decide ((j:Int)<=((x+1:Nat):Int))=false:=decide_eq_false (by omega)
  simp only [F.f33_l1,a2,m2,p2,p4,i64_leq,cj',stdZ]
  exact hQ d1 H1 pp s1
end
end Go.AM
end
section
namespace Go.AM
open Go.Sort
set_option maxHeartbeats 400000
set_option maxRecDepth 20000
section
variable {α:Type} [Inhabited α] {E:Sy} {H H':AH} {Q:Value->AH->Prop} {b c n:Nat} {enc:α->List Value} {LT:α->α->Bool} {fv:Value} {d:Array α} {tail:List Value} {f:Option Nat}
theorem S.f45 (hE:Fold E) (hS:SWO LT) (he:EncOk 2 enc) (hC:CmpOk E fv enc LT):∀ (w:Nat) {H:AH} {Q:Value->AH->Prop} {d:Array α} (_:H.get b=arrM enc d tail f) (_:d.size=n) (_:n<2 ^ 31) (a e:Nat) (_:a<=e) (_:e<=n) (limit:Nat) (_:limit<2 ^ 60) (_:Go.Sort.Below LT a e d) (_:e - a<=w)
    (_:∀ d' H',PermIn a e d d'->SortedIn LT a e d'->SortMo H b enc tail f d' H'->Q (.tuple #[]) H'),E.call (E.fid i.f45) [slc b 0 n c,vi a,vi e,vi limit,fv] H Q:=by
  intro w
  induction w using Nat.strongRecOn with
  | _ w ih =>
  intro H Q d hg hn hsz a0 e0 hae0 he0 limit0 hlim0 hB0 hw hQ
  apply hE.f45
  simp only [F.f45]
  refine LoopL.ind (fun m l H'=>∃ (a e limit:Nat) (wb wp:Bool) (d1:Array α),l=[slc b 0 n c,vi a,vi e,vi limit,fv,vb wb,vb wp]/\SortMo H b enc tail f d1 H'/\d1.size=n/\a<=e/\e<=n/\limit<2 ^ 60/\e - a<=w/\Go.Sort.Below LT a e d1 /\
      (∀ R,PermIn a e d1 R->SortedIn LT a e R->PermIn a0 e0 d R/\SortedIn LT a0 e0 R)/\m=e - a) ?_ (e0 - a0) ⟨a0,e0,limit0,true,true,d,rfl,.refl hg,hn,hae0,he0,hlim0,hw,hB0,fun R h1 h2=>⟨h1,h2⟩,rfl⟩
  rintro m _ H1 X hX ⟨a,e,limit,wb,wp,d1,rfl,s1,n1,hae,hen,hlim,hwe,hB,fin,rfl⟩
  have a1:binInt .sub (vi e) (vi a)=some (vi ((e - a:Nat):Int)):=i64_sub_nat e a (by omega) (by omega)
  by_cases c12:e - a<=12
  · have c12':decide (((e - a:Nat):Int)<=12)=true:=decide_eq_true (by omega)
    simp only [F.f45_l1,a1,i64_leq,c12',stdZ]
    refine S.f36 hE he hC s1.get n1 (by omega) a e hae hen fun H2 s2 =>?_
    obtain ⟨h1,h2⟩:=insertionSort_holds hS d1 a e hae (by omega)
    obtain ⟨h3,h4⟩:=fin _ h1 h2
    exact hQ _ _ h3 h4 (s1.trans s2)
  have c12':decide (((e - a:Nat):Int)<=12)=false:=decide_eq_false (by omega)
  by_cases c0:limit=0
  · subst c0
    have c0':decide (((0:Nat):Int)=0)=true:=by decide
    simp only [F.f45_l1,a1,i64_leq,c12',i64_eql,c0',stdZ]
    refine S.f35 hE he hC s1.get n1 (by omega) a e (by omega) hen fun H2 s2 =>?_
    obtain ⟨h1,h2⟩:=heapSort_holds hS d1 a e hae (by omega)
    obtain ⟨h3,h4⟩:=fin _ h1 h2
    exact hQ _ _ h3 h4 (s1.trans s2)
  have c0':decide ((limit:Int)=0)=false:=decide_eq_false (by omega)
  have w8:binInt .quo (vi ((e - a:Nat):Int)) (.int .i64 8)=some (vi (((e - a) / 8:Nat):Int)):=i64_quo_num (e - a) 8 (by decide) (by omega)
  have j3:∀ (d3:Array α) H3 (lim:Nat) (wb wp:Bool) (pv:Nat),SortMo H b enc tail f d3 H3->d3.size=n->PermIn a e d1 d3->lim<2 ^ 60->a<=pv->pv<e->F.f45_j3 E Q X (slc b 0 n c) (vi a) (vi e) (vi lim) fv (vb wb) (vb wp) (vi ((e - a:Nat):Int)) (vi pv) H3:=by
    intro d3 H3 lim wb wp pv s3 n3 p3 hlim hp1 hp2
    have B3:Go.Sort.Below LT a e d3:=hB.permA permIn_all (by omega) p3
    have fin3:∀ R,PermIn a e d3 R->SortedIn LT a e R->PermIn a0 e0 d R/\SortedIn LT a0 e0 R:=fun R h1 h2=>fin R (permIn_trans _ _ _ _ _ p3 h1) h2
    have part:∀ H3,SortMo H b enc tail f d3 H3->∀ (K:Value->AH->Prop),(K=fun v15 H13 =>
         opt (ext v15 0) fun v16 =>
         opt (ext v15 1) fun v17 =>
         opt (binInt .sub v16 (vi a)) fun v18 =>
         opt (binInt .sub (vi e) v16) fun v19 =>
         opt (binInt .quo (vi ((e - a:Nat):Int)) (.int .i64 8)) fun v20 =>
         opt (binInt .lss v18 v19) fun v21 =>
         ifB v21 (
         opt (binInt .geq v18 v20) fun v22 =>
         E.call (E.fid i.f45) [slc b 0 n c,vi a,v16,vi lim,fv] H13 fun v23 H14 =>
         opt (binInt .add v16 (.int .i64 1)) fun v24 =>
         X [slc b 0 n c,v24,vi e,vi lim,fv,v22,v17] H14) (
         opt (binInt .geq v19 v20) fun v25 =>
         opt (binInt .add v16 (.int .i64 1)) fun v26 =>
         E.call (E.fid i.f45) [slc b 0 n c,v26,vi e,vi lim,fv] H13 fun v27 H15 =>
         X [slc b 0 n c,vi a,v16,vi lim,fv,v25,v17] H15))->E.call (E.fid i.f43) [slc b 0 n c,vi a,vi e,vi pv,fv] H3 K:=by
      rintro H3 s3 K rfl
      refine S.f43 hE he hC s3.get n3 (by omega) a e pv hp1 hp2 hen fun H4 s4 =>?_
      rcases hx:partition LT d3 a e pv with ⟨mid,ap,d4⟩
      rw [hx] at s4
      obtain ⟨g1,g2,hs4,hBa,hBr,hl,hr⟩:=round_part hS (partition_holds LT) hp1 hp2 (by omega) B3 hx
      have n4:d4.size=n:=by omega
      have s4':=s3.trans s4
      have b1:binInt .sub (vi mid) (vi a)=some (vi ((mid - a:Nat):Int)):=i64_sub_nat mid a g1 (by omega)
      have b2:binInt .sub (vi e) (vi mid)=some (vi ((e - mid:Nat):Int)):=i64_sub_nat e mid (by omega) (by omega)
      have b3:=i64_succ mid (by omega)
      simp only [tk_eq,ext_tuple,List.getElem?_cons_zero,List.getElem?_cons_succ,opt_some,b1,b2,b3,w8,i64_lss,i64_geq]
      by_cases cl:mid - a<e - mid
      · have cl':((mid - a:Nat):Int)<((e - mid:Nat):Int):=by omega
        simp only [cl',decide_true,tk_eq,ifB_true,i64_geq,opt_some]
        refine ih (mid - a) (by omega) s4'.get n4 hsz a mid g1 (by omega) lim hlim hBa (Nat.le_refl _) fun d5 H5 p5 q5 s5 =>?_
        obtain ⟨hBL,hfin⟩:=hl d5 p5 q5
        have n5:d5.size=n:=by rw [p5.1]; exact n4
        simp only [b3,tk_eq,opt_some]
        exact hX (e - (mid+1)) (by omega) _ _ ⟨mid+1,e,lim,_,ap,d5,rfl,s4'.trans s5,n5,by omega,hen,hlim,by omega,hBL,fun R h1 h2=>by
          obtain ⟨h3,h4⟩:=hfin R h1 h2
          exact fin3 R h3 h4,rfl⟩
      · have cl':¬ ((mid - a:Nat):Int)<((e - mid:Nat):Int):=by omega
        simp only [cl',decide_false,tk_eq,ifB_false,i64_geq,opt_some,b3]
        refine ih (e - (mid+1)) (by omega) s4'.get n4 hsz (mid+1) e (by omega) hen lim hlim hBr (Nat.le_refl _) fun d5 H5 p5 q5 s5 =>?_
        obtain ⟨hBL,hfin⟩:=hr d5 p5 q5
        have n5:d5.size=n:=by rw [p5.1]; exact n4
        exact hX (mid - a) (by omega) _ _ ⟨a,mid,lim,_,ap,d5,rfl,s4'.trans s5,n5,g1,by omega,hlim,by omega,hBL,fun R h1 h2=>by
          obtain ⟨h3,h4⟩:=hfin R h1 h2
          exact fin3 R h3 h4,rfl⟩
    by_cases ca:0<a
    · have ca':decide ((0:Int)<a)=true:=decide_eq_true (by omega)
      have b1:=i64_dec a (by omega) (by omega)
      have f1:=mrr_ix (sz:=2) (b:=b) (c:=c) (n:=n) (i:=a - 1) (by omega)
      have f2:=mrr_ix (sz:=2) (b:=b) (c:=c) (n:=n) (i:=pv) (by omega)
      have g1:=mrr_load he s3.get (i:=a - 1) (by omega)
      have g2:=mrr_load he s3.get (i:=pv) (by omega)
      simp only [F.f45_j3,i64_gtr,ca',b1,f1,f2,g1,g2,stdZ]
      refine hC _ _ _ _ fun z H10 e10 hz =>?_
      have s10:=s3.ext e10
      cases hl:LT d3[a - 1]! d3[pv]! with
      | true =>
        have part:=part _ s10 _ rfl
        simp only [i64_lss,hz,hl,un_not_z,Bool.not_true,stdZ]
        exact part
      | false =>
        rcases hx:partitionEqual LT d3 a e pv with ⟨mid,d4⟩
        obtain ⟨g3,g4,hs4,hB4,hfin⟩:=round_eq hS (partitionEqual_holds LT) ca hp1 hp2 (by omega) B3 hl hx
        have hY:=fun H4 s4=>hX (e - mid) (by omega) [slc b 0 n c,vi mid,vi e,vi lim,fv,vb wb,vb wp] H4 ⟨mid,e,lim,wb,wp,d4,rfl,s4,by omega,g4,hen,hlim,by omega,hB4,fun R h1 h2=>by
            obtain ⟨h3,h4⟩:=hfin R h1 h2
            exact fin3 R h3 h4,rfl⟩
        simp only [i64_lss,hz,hl,un_not_z,Bool.not_false,stdZ]
        refine S.f44 hE he hC s10.get n3 (by omega) a e pv hp1 hp2 hen fun H4 s4 =>?_
        rw [hx] at s4 ⊢
        exact hY H4 (s10.trans s4)
    · have ca':decide ((0:Int)<a)=false:=decide_eq_false (by omega)
      have part:=part _ s3 _ rfl
      simp only [F.f45_j3,i64_gtr,ca',stdZ]
      exact part
  have j2:∀ (d3:Array α) H3 (lim:Nat) (wb wp:Bool) (pv:Nat) (hint:Int),SortMo H b enc tail f d3 H3->d3.size=n->PermIn a e d1 d3->lim<2 ^ 60->a<=pv->pv<e->F.f45_j2 E Q X (slc b 0 n c) (vi a) (vi e) (vi lim) fv (vb wb) (vb wp) (vi ((e - a:Nat):Int)) (vi pv) (vi hint) H3:=by
    intro d3 H3 lim wb wp pv hint s3 n3 p3 hlim hp1 hp2
    have B3:Go.Sort.Below LT a e d3:=hB.permA permIn_all (by omega) p3
    have h3:=j3 d3 H3 lim wb wp pv s3 n3 p3 hlim hp1 hp2
    have try_:E.call (E.fid i.f42) [slc b 0 n c,vi a,vi e,fv] H3 fun v6 H4=>ifB v6 (Q (.tuple #[]) H4) (F.f45_j3 E Q X (slc b 0 n c) (vi a) (vi e) (vi lim) fv (vb wb) (vb wp) (vi ((e - a:Nat):Int)) (vi pv) H4):=by
      refine S.f42 hE he hC s3.get n3 (by omega) a e (by omega) hen fun H4 s4 =>?_
      obtain ⟨q1,q2⟩:=partialInsertionSort_holds hS d3 a e (by omega) (by omega) B3
      cases hb:(partialInsertionSort LT d3 a e).2 with
      | true =>
        obtain ⟨h5,h6⟩:=fin _ (permIn_trans _ _ _ _ _ p3 q1) (q2 hb)
        simp only [ifB_true]
        exact hQ _ _ h5 h6 (s3.trans s4)
      | false =>
        simp only [ifB_false]
        exact j3 _ H4 lim wb wp pv (s3.trans s4) (by rw [q1.1]; exact n3) (permIn_trans _ _ _ _ _ p3 q1) hlim hp1 hp2
    cases wb with
    | false =>
      simp only [F.f45_j2,stdZ]
      exact h3
    | true =>
      cases wp with
      | false =>
        simp only [F.f45_j2,stdZ]
        exact h3
      | true =>
        by_cases ch:hint=1
        · simp only [F.f45_j2,gd_tt,pick_true_z,tk_eq,opt_some,i64_eql,ch,decide_true,ifB_true]
          exact try_
        · simp only [F.f45_j2,gd_tt,pick_true_z,tk_eq,opt_some,i64_eql,ch,decide_false,ifB_false]
          exact h3
  have j1:∀ (d3:Array α) H3 (lim:Nat) (wb wp:Bool),SortMo H b enc tail f d3 H3->d3.size=n->PermIn a e d1 d3->lim<2 ^ 60->F.f45_j1 E Q X (slc b 0 n c) (vi a) (vi e) (vi lim) fv (vb wb) (vb wp) (vi ((e - a:Nat):Int)) H3:=by
    intro d3 H3 lim wb wp s3 n3 p3 hlim
    simp only [F.f45_j1]
    refine S.f34 hE he hC s3.get n3 (by omega) a e (by omega) hen fun pv hint H4 hp1 hp2 e4 =>?_
    have s4:=s3.ext e4
    simp only [tk_eq,ext_tuple,List.getElem?_cons_zero,List.getElem?_cons_succ,opt_some,i64_eql]
    by_cases ch:hint=2
    · simp only [ch,decide_true,ifB_true]
      refine S.f46 hE he s4.get n3 (by omega) a e (by omega) hen fun H5 s5 =>?_
      have q1:=reverseRange_holds d3 a e hae (by omega)
      have b1:=i64_dec e (by omega) (by omega)
      have b2:binInt .sub (vi pv) (vi a)=some (vi ((pv - a:Nat):Int)):=i64_sub_nat pv a hp1 (by omega)
      have b3:binInt .sub (vi ((e - 1:Nat):Int)) (vi ((pv - a:Nat):Int))=some (vi ((e - 1 - (pv - a):Nat):Int)):=i64_sub_nat (e - 1) (pv - a) (by omega) (by omega)
      simp only [b1,b2,b3,tk_eq,opt_some]
      exact j2 _ H5 lim wb wp _ 1 (s4.trans s5) (by rw [q1.1]; exact n3) (permIn_trans _ _ _ _ _ p3 q1) hlim (by omega) (by omega)
    · simp only [ch,decide_false,ifB_false]
      exact j2 d3 H4 lim wb wp pv hint s4 n3 p3 hlim hp1 hp2
  cases wb with
  | true =>
    have:=j1 d1 H1 limit true wp s1 n1 (permIn_refl _ _ _) hlim
    simp only [F.f45_l1,a1,c12',c0',i64_leq,i64_eql,un_not_z,Bool.not_true,stdZ]
    exact this
  | false =>
    have b1:=i64_dec limit (by omega) (by omega)
    have go:=fun d' H' p' s'=>j1 d' H' (limit - 1) false wp s' (by rw [(p':PermIn a e d1 d').1]; exact n1) p' (by omega)
    clear j1 j2 j3 hX
    simp only [F.f45_l1,a1,c12',c0',i64_leq,i64_eql,un_not_z,Bool.not_false,stdZ]
    refine S.f33 hE he s1.get n1 hsz a e (by omega) hen fun d' H' p' s' =>?_
    simp only [b1,stdZ]
    exact go d' H' p' (s1.trans s')
theorem S.f31 (hE:Fold E) (hS:SWO LT) (he:EncOk 2 enc) (hC:CmpOk E fv enc LT) (hg:H.get b=arrM enc d tail f) (hn:d.size=n) (hsz:n<2 ^ 31)
  (hQ:∀ d' H',PermIn 0 n d d'->SortedIn LT 0 n d'->SortMo H b enc tail f d' H'->Q (.tuple #[]) H'):E.call (E.fid i.f31) [slc b 0 n c,fv] H Q:=by
 apply hE.f31
 have e1:(BitVec.ofNat 64 n).toNat=n:=by rw [BitVec.toNat_ofNat,Nat.mod_eq_of_lt (by omega)]
 have hc:convInt .u64 (vi (n:Int))=some (u64 (BitVec.ofNat 64 n)):=by rw [i64_to_u64,BitVec.ofInt_natCast]
 simp only [F.f31,lenSlc_slc_z,hc,stdZ]
 refine S.f13 hE _ (by rw [e1]; omega) ?_
 rw [e1]
 have hl:bitsLen n<=31:=by rw [bitsLen_le_iff]; exact hsz
 exact S.f45 hE hS he hC n hg hn hsz 0 n (Nat.zero_le _) (Nat.le_refl _) _ (by omega) (.inl rfl) (by omega) hQ
end
end Go.AM
end
section
namespace Go.AM
theorem sortsC_any {E:Sy} (hE:Fold E) (m:Nat) (hm:m<2 ^ 31):SortsC E m:=fun hg hmd hQ=>S.f31 hE swo_ltC caseE_ok (cmp_cases hE) hg rfl (by omega) hQ
end Go.AM
end
section
namespace Go.AM
set_option maxRecDepth 20000
section
variable {E:Sy} {H H' H0 Z:AH} {Q:Value->AH->Prop}
theorem polx6e {x:PolX} {cs:List Value} (h:PolXAt H x cs):cs.length=6/\cs.all plain1=true:=by
 obtain ⟨v,pv,qv,rfl,⟨rows,h1,_⟩,h2,h3⟩:=h
 exact ⟨rfl,by simp [h1.plain,h2.plain,h3.plain]⟩
def agC (d:BitVec 32) (rv:Value):List Value:=[str [],u32 d,rv,u16 0#16,nilS,nilS]
def agL (t8:Nat) (d:BitVec 32) (rv:Value) (rows:List (List Value)):List Res:=[boxR t8 (agC d rv),growR 3 rv rows]
theorem again_l3 (hE:Fold E) {c:CaseD} {bv:Value} (hb:SliceOf (BranchAt 0) H0 2 bv c.branches) (hbl:c.branches.length<=1000) {t8 t10:Nat} {d:BitVec 32} {rv:Value} {rows:List (List Value)} {rs:List RuleD} (hr:Each (RuleAt H0) rows rs) (hrl:rs.length<2 ^ 28)
  (g0:Has H0 Z H (agL t8 d rv rows++[boxR t10 [u32 c.number,bv]])) {t7 t34 t35 t36 t46 t47:Value} {k:Nat} (hk:k<2 ^ 30) {X0 X1:List Value->AH->Prop}
  (next:∀ rv' rows' H',Each (RuleAt H0) rows' (rs++againC c)->Has H0 Z H' (agL t8 d rv' rows')->X1 [t7,ptr t8 0,t34,t35,t36,t46,t47,vi ((k+1:Nat):Int)] H') :
  LoopL (fun l H X2=>F.f24_l3 E Q X0 X1 (nth l 0) (nth l 1) (nth l 2) (nth l 3) (nth l 4) (nth l 5) (nth l 6) (nth l 7) (nth l 8) (nth l 9) (nth l 10) (nth l 11) H X2) [t7,ptr t8 0,ptr t10 0,t34,t35,t36,t46,t47,vi k,bv,vi c.branches.length,(.int .i64 0)] H:=by
 have i0:(.int .i64 0:Value)=vi ((0:Nat):Int):=rfl
 rw [i0]
 refine LoopL.count c.branches.length (fun j ls H'=>ls=[t7,ptr t8 0,ptr t10 0,t34,t35,t36,t46,t47,vi k,bv,vi c.branches.length,vi j]/\∃ rv rows,Each (RuleAt H0) rows (rs++(c.branches.take j).map (ruleOfB c.number))/\Has H0 Z H' (agL t8 d rv rows++[boxR t10 [u32 c.number,bv]])) ?_ ⟨rfl,rv,rows,by simpa using hr,g0⟩
 rintro j _ H1 X2 hj ih ⟨rfl,rv,rows,hr,g⟩
 rcases Nat.lt_or_ge j c.branches.length with hlt | hge
 rotate_left
 ·have hje:j=c.branches.length:=by omega
  subst hje
  have hlt':decide ((c.branches.length:Int)<c.branches.length)=false:=decide_eq_false (by omega)
  have hinc:=i64_inc (i:=k) (by omega)
  rw [List.take_length] at hr
  simp only [F.f24_l3,i64_lss,hlt',hinc,stdZ]
  exact next rv rows H1 hr (Has.dropLast (L:=agL t8 d rv rows) g)
 have hlt':decide ((j:Int)<c.branches.length)=true:=decide_eq_true (by omega)
 obtain ⟨b',o',cv,f1,f2,hcp,hcr,hc30⟩:=branch_ix hb hlt
 have lo:=f2 H1 g.ext
 have htk:(c.branches.take (j+1)).map (ruleOfB c.number)=(c.branches.take j).map (ruleOfB c.number)++[ruleOfB c.number c.branches[j]]:=by
  rw [List.take_succ,List.getElem?_eq_getElem hlt,List.map_append]; rfl
 have ih:=ih hlt
 rw [htk,<- List.append_assoc] at ih
 have hrows:rows.length=(rs++(c.branches.take j).map (ruleOfB c.number)).length:=hr.1
 rw [List.length_append,List.length_map,List.length_take] at hrows
 generalize rs++(c.branches.take j).map (ruleOfB c.number)=rs1 at *
 generalize c.branches[j]=br at *
 have hinc:=i64_inc (i:=j) (by omega)
 have st:storeN 2 (ptr H1.next 0) (.agg [cv,u32 br.action].toArray) (H1.new (.cells [(.slice none 0 0),(.int .u32 0)] none))=some (H1.new (.cells [cv,u32 br.action] none)):=slice_empty_store2 hcp rfl rfl
 have g2:=g.newbox [cv,u32 br.action]
 have b8:=g2.box (k:=0) (b:=t8) (c:=agC d rv) rfl
 have b10:=g2.box (k:=2) (b:=t10) (c:=[u32 c.number,bv]) rfl
 have bx:=AH.get_new_self H1 (.cells [cv,u32 br.action] none)
 have q2:(agC d rv)[2]? = some rv:=rfl
 have q0:[u32 c.number,bv][0]? = some (u32 c.number):=rfl
 have p0:[cv,u32 br.action][0]? = some cv:=rfl
 have p1:[cv,u32 br.action][1]? = some (u32 br.action):=rfl
 have hbv:buildV [(0,1),(1,1),(2,1)] #[(.int .u32 0),(.int .u32 0),(.slice none 0 0)] [(0,u32 c.number),(1,u32 br.action),(2,cv)]=some (.agg [u32 c.number,u32 br.action,cv].toArray):=by
  rcases hcr.at_ with ⟨_,a,h⟩ | ⟨_,_,_,h,_⟩ <;> rw [h,buildV_eq] <;> rfl
 have hbS:buildS 1 3 #[(.int .u32 0),(.int .u32 0),(.slice none 0 0)] [(0,.agg [u32 c.number,u32 br.action,cv].toArray)]=some (.cells [u32 c.number,u32 br.action,cv] none,mkSlc 1 1):=buildS_one 3 [u32 0#32,u32 0#32,nilS] [u32 c.number,u32 br.action,cv] rfl rfl
 simp only [F.f24_l3,i64_lss,hlt',f1,lo,allocW_eq,st,b8,b10,bx,q2,q0,p0,p1,hbv,hbS,AM.mk_some,mkSlc_eq,stdZ]
 rw [show H1.next+1=(H1.new (.cells [cv,u32 br.action] none)).next from rfl]
 generalize H1.new (.cells [cv,u32 br.action] none)=H2 at *
 generalize H1.next=tb at *
 obtain ⟨w,H4,a1,pw,g4⟩:=g2.app1 (k:=1) (sz:=3) (v:=rv) (rows:=rows) (bytes:=32) rfl [u32 c.number,u32 br.action,cv] rfl (by simp [hcp]) (by decide) (by decide) (by omega)
 have g5:Has H0 Z H4 [boxR t8 (agC d rv),growR 3 w (rows++[[u32 c.number,u32 br.action,cv]]),boxR t10 [u32 c.number,bv]]:=g4.drop 3
 have b84:=g5.box (k:=0) (b:=t8) (c:=agC d rv) rfl
 have hs:store1 (ptr t8 2) w H4=some (H4.put t8 (.cells (agC d w) none)):=by
  rw [store1_ptr,if_pos pw,b84]
  rfl
 have g6:=g5.put (k:=0) (b:=t8) (c:=agC d rv) rfl (agC d w)
 simp only [a1,hs,hinc,stdZ]
 exact ih _ _ ⟨rfl,w,_,hr.snoc ⟨by show br.conds.length<_; omega,cv,rfl,hcr⟩,g6⟩
theorem again_l5 (hE:Fold E) {c:CaseD} {bv ov:Value} {oc:List CaseD} {d:BitVec 32} (hb:SliceOf (BranchAt 0) H0 2 bv c.branches) (hbl:c.branches.length<=1000) (ho:SliceOf (CaseAt 0) H0 2 ov oc) {at_:Nat} (hat:at_<oc.length) (hoc:oc[at_]=c) (ha:at_<2 ^ 30)
  {t13:Nat} (b13:H0.get t13 = .cells [ov,u32 d] none) {t34 t35 t36 t96 t97:Value} {k:Nat} (hk:k<2 ^ 30) {X0 X1:List Value->AH->Prop}
  (next:∀ H',Ext H0 H'->X1 [ptr t13 0,vi ((at_+1:Nat):Int),t34,t35,t36,t96,t97,vi ((k+1:Nat):Int)] H') :
  LoopL (fun l H X2=>F.f24_l5 E Q X0 X1 (nth l 0) (nth l 1) (nth l 2) (nth l 3) (nth l 4) (nth l 5) (nth l 6) (nth l 7) (nth l 8) (nth l 9) (nth l 10) H X2) [ptr t13 0,vi at_,t34,t35,t36,t96,t97,vi k,bv,vi c.branches.length,(.int .i64 0)] H0:=by
 have i0:(.int .i64 0:Value)=vi ((0:Nat):Int):=rfl
 rw [i0]
 refine LoopL.count c.branches.length (fun j ls H'=>ls=[ptr t13 0,vi at_,t34,t35,t36,t96,t97,vi k,bv,vi c.branches.length,vi j]/\Ext H0 H') ?_ ⟨rfl,Ext.refl _⟩
 rintro j _ H1 X2 hj ih ⟨rfl,e1⟩
 rcases Nat.lt_or_ge j c.branches.length with hlt | hge
 rotate_left
 ·have hlt':decide ((j:Int)<c.branches.length)=false:=decide_eq_false (by omega)
  have hinc:=i64_inc (i:=k) (by omega)
  have hinc2:=i64_inc (i:=at_) (by omega)
  simp only [F.f24_l5,i64_lss,hlt',hinc,hinc2,stdZ]
  exact next _ e1
 have hlt':decide ((j:Int)<c.branches.length)=true:=decide_eq_true (by omega)
 obtain ⟨b',o',cv,f1,f2,hcp,hcr,hc30⟩:=branch_ix hb hlt
 obtain ⟨b,o,bv',g1,g2,hbp',hbs'⟩:=case_ix ho hat
 rw [hoc] at hbs'
 obtain ⟨b2,o2,cv2,k1,k2,hcp2,hcr2,_⟩:=branch_ix hbs' hlt
 have lo:=f2 H1 e1
 have ih:=ih hlt
 have hinc:=i64_inc (i:=j) (by omega)
 generalize c.branches[j]=br at *
 have st:storeN 2 (ptr H1.next 0) (.agg [cv,u32 br.action].toArray) (H1.new (.cells [(.slice none 0 0),(.int .u32 0)] none))=some (H1.new (.cells [cv,u32 br.action] none)):=slice_empty_store2 hcp rfl rfl
 have x2:Ext H1 (H1.new (.cells [cv,u32 br.action] none)):=(Ext.refl _).new _
 have e2:=e1.trans x2
 have b13':=e2.cells b13
 obtain ⟨_,_,g3⟩:=g2 _ e2
 have lo2:=k2 _ e2
 have q0:[ov,u32 d][0]? = some ov:=rfl
 have bx:=AH.get_new_self H1 (.cells [cv,u32 br.action] none)
 simp only [F.f24_l5,i64_lss,hlt',f1,lo,allocW_eq,st,b13',q0,g1,g3,k1,lo2,stdZ]
 rw [show H1.next+1=(H1.new (.cells [cv,u32 br.action] none)).next from rfl]
 generalize H1.new (.cells [cv,u32 br.action] none)=H2 at *
 generalize H1.next=t1 at *
 have st2:storeN 2 (ptr H2.next 0) (.agg [cv2,u32 br.action].toArray) (H2.new (.cells [(.slice none 0 0),(.int .u32 0)] none))=some (H2.new (.cells [cv2,u32 br.action] none)):=slice_empty_store2 hcp2 rfl rfl
 have x3:Ext H2 (H2.new (.cells [cv2,u32 br.action] none)):=(Ext.refl _).new _
 have bx2:=AH.get_new_self H2 (.cells [cv2,u32 br.action] none)
 have bx':=x3.cells bx
 have p1:[cv,u32 br.action][1]? = some (u32 br.action):=rfl
 have p0:[cv,u32 br.action][0]? = some cv:=rfl
 have p1':[cv2,u32 br.action][1]? = some (u32 br.action):=rfl
 have p0':[cv2,u32 br.action][0]? = some cv2:=rfl
 have hl1:=hcr.lenSlc
 have hl2:=hcr2.lenSlc
 have dne:decide (br.action≠br.action)=false:=decide_eq_false (by simp)
 have dne2:decide (((condR br.conds).length:Int)≠((condR br.conds).length:Int))=false:=decide_eq_false (by simp)
 simp only [st2,bx2,bx',p1,p0,p1',p0',u32_neq,dne,hl1,hl2,i64_neq,dne2,hinc,stdZ]
 exact ih _ _ ⟨rfl,e2.trans x3⟩
theorem again_l4 (hE:Fold E) {cs:List CaseD} {v ov:Value} {d:BitVec 32} (hv:SliceOf (CaseAt 0) H0 2 v cs) (hcl:cs.length<=1000) (hbl:∀ c∈cs,c.branches.length<=1000) (ho:SliceOf (CaseAt 0) H0 2 ov (cs.filter full))
  {t13:Nat} (b13:H0.get t13 = .cells [ov,u32 d] none) {t34 t35:Value} {q:Nat} (hq:q<2 ^ 30) {X0:List Value->AH->Prop}
  (next:∀ H',Ext H0 H'->X0 [t34,t35,vi ((q+1:Nat):Int)] H') :
  LoopL (fun l H X1=>F.f24_l4 E Q X0 (nth l 0) (nth l 1) (nth l 2) (nth l 3) (nth l 4) (nth l 5) (nth l 6) (nth l 7) H X1) [ptr t13 0,(.int .i64 0),t34,t35,vi q,v,vi cs.length,(.int .i64 0)] H0:=by
 have i0:(.int .i64 0:Value)=vi ((0:Nat):Int):=rfl
 rw [i0]
 have hol:=SliceOf.lenSlc ho
 have q0:[ov,u32 d][0]? = some ov:=rfl
 refine LoopL.count cs.length (fun k ls H'=>ls=[ptr t13 0,vi (((cs.take k).filter full).length:Nat),t34,t35,vi q,v,vi cs.length,vi k]/\Ext H0 H') ?_ ⟨rfl,Ext.refl _⟩
 rintro k _ H1 X1 hk ih ⟨rfl,e1⟩
 have b13':=e1.cells b13
 rcases Nat.lt_or_ge k cs.length with hlt | hge
 rotate_left
 ·have hlt':decide ((k:Int)<cs.length)=false:=decide_eq_false (by omega)
  have hke:k=cs.length:=by omega
  subst hke
  have hinc:=i64_inc (i:=q) (by omega)
  rw [List.take_length]
  have dne:decide ((((cs.filter full).length:Nat):Int)≠((cs.filter full).length:Nat))=false:=decide_eq_false (by simp)
  simp only [F.f24_l4,i64_lss,hlt',b13',q0,hol,i64_neq,dne,hinc,stdZ]
  exact next _ e1
 have hlt':decide ((k:Int)<cs.length)=true:=decide_eq_true (by omega)
 obtain ⟨b,o,bv,f1,f2,hbp,hbs⟩:=case_ix hv hlt
 obtain ⟨lo,_,_⟩:=f2 H1 e1
 have hsplit:cs.filter full=(cs.take k).filter full++((if full cs[k]=true then [cs[k]] else [])++(cs.drop (k+1)).filter full):=by
  conv=>lhs; rw [<- List.take_append_drop k cs]
  rw [List.filter_append,List.drop_eq_getElem_cons hlt,List.filter_cons]
  split <;> simp
 have htk:(cs.take (k+1)).filter full=(cs.take k).filter full++(if full cs[k]=true then [cs[k]] else []):=by
  rw [List.take_succ,List.getElem?_eq_getElem hlt,List.filter_append]
  simp only [Option.toList_some,List.filter_cons,List.filter_nil]
 have hbk:=hbl cs[k] (List.getElem_mem hlt)
 have hinc:=i64_inc (i:=k) (by omega)
 have ih:=ih hlt
 rw [htk,List.length_append] at ih
 have hfl:((cs.take k).filter full).length<=k:=by
  have:=List.length_filter_le full (cs.take k)
  rw [List.length_take] at this; omega
 generalize hcg:cs[k]=c at *
 generalize (cs.take k).filter full=pre at *
 have st:storeN 2 (ptr H1.next 0) (.agg [u32 c.number,bv].toArray) (H1.new (.cells [(.int .u32 0),(.slice none 0 0)] none))=some (H1.new (.cells [u32 c.number,bv] none)):=slice_empty_store2 rfl hbp rfl
 have x2:Ext H1 (H1.new (.cells [u32 c.number,bv] none)):=(Ext.refl _).new _
 have e2:=e1.trans x2
 have bx:=AH.get_new_self H1 (.cells [u32 c.number,bv] none)
 have p0:[u32 c.number,bv][0]? = some (u32 c.number):=rfl
 have p1:[u32 c.number,bv][1]? = some bv:=rfl
 have hlb:=SliceOf.lenSlc hbs
 have b132:=e2.cells b13
 simp only [F.f24_l4,i64_lss,hlt',f1,lo,allocW_eq,st,bx,p1,hlb,i64_eql,stdZ]
 by_cases hz:c.branches.length=0
 ·have hd:decide ((c.branches.length:Int)=0)=true:=decide_eq_true (by omega)
  have hfu:full c=false:=by unfold full; rw [List.length_eq_zero_iff.1 hz]; rfl
  rw [hfu] at ih
  simp only [hd,hinc,stdZ]
  exact ih _ _ ⟨rfl,e2⟩
 have hd:decide ((c.branches.length:Int)=0)=false:=decide_eq_false (by omega)
 have hfu:full c=true:=by
  unfold full
  cases hb:c.branches with
  | nil=>rw [hb] at hz; exact (hz rfl).elim
  | cons x l=>rfl
 rw [hfu] at ih hsplit
 simp only [if_true] at ih hsplit
 have hat:pre.length<(cs.filter full).length:=by rw [hsplit]; simp
 have hoc:(cs.filter full)[pre.length]=c:=by
  have:(cs.filter full)[pre.length]? = some c:=by rw [hsplit]; simp
  rw [List.getElem?_eq_getElem hat] at this
  exact Option.some.inj this
 obtain ⟨b3,o3,bv3,g1,g2,hbp3,hbs3⟩:=case_ix ho hat
 obtain ⟨_,g3,g4⟩:=g2 _ e2
 rw [hoc] at g3 hbs3
 have hlb3:=SliceOf.lenSlc hbs3
 have dge:decide ((((cs.filter full).length:Nat):Int)<=(pre.length:Nat))=false:=decide_eq_false (by omega)
 have dne:decide (c.number≠c.number)=false:=decide_eq_false (by simp)
 have dne2:decide ((c.branches.length:Int)≠(c.branches.length:Int))=false:=decide_eq_false (by simp)
 simp only [hd,b132,q0,hol,i64_geq,dge,g1,g3,g4,p0,u32_neq,dne,hlb3,bx,p1,hlb,i64_neq,dne2,stdZ]
 exact again_l5 hE (hbs.sub (fun _ _ _ _ h e=>BranchAt.sub h e) e2.sub) hbk (ho.sub (fun _ _ _ _ h e=>CaseAt.sub h e) e2.sub) hat hoc (by omega) b132 (k:=k) (by omega) fun H' e'=>ih _ _ ⟨rfl,e2.trans e'⟩
theorem again_flat_le {cs:List CaseD} {k:Nat}:((cs.take k).flatMap againC).length<=szB cs:=by
 have h:(cs.flatMap againC).length=szB cs:=by
  unfold szB
  simp only [List.length_flatMap,againC,List.length_map]
 rw [<- h]
 exact flat_take_le againC cs k
theorem again_l2 (hE:Fold E) (hSC:SortsC E 80) (hSR:SortsR E 80) {p:PolD} {ns:List (BitVec 32)} (hns:Nums p ns) (hpr:p.rules.length<=80) (hpc:∀ r∈p.rules,r.conds.length<=20) {v:Value} (hv:SliceOf (CaseAt 0) H0 2 v (planOf p ns).cases)
  {t7 t8:Nat} (b7:H0.get t7 = .cells [v,u32 (planOf p ns).default] none) (hle:szB (planOf p ns).cases<=80) (g0:Has H0 H0 H (agL t8 p.default nilS [])) {t34 t35:Value} {q:Nat} (hq:q<2 ^ 30) {X0:List Value->AH->Prop}
  (next:∀ H',Ext H0 H'->X0 [t34,t35,vi ((q+1:Nat):Int)] H') :
  LoopL (fun l H X1=>F.f24_l2 E Q X0 (nth l 0) (nth l 1) (nth l 2) (nth l 3) (nth l 4) (nth l 5) (nth l 6) (nth l 7) H X1) [ptr t7 0,ptr t8 0,t34,t35,vi q,v,vi (planOf p ns).cases.length,(.int .i64 0)] H:=by
 have i0:(.int .i64 0:Value)=vi ((0:Nat):Int):=rfl
 rw [i0]
 obtain ⟨z1,z2,z3,z4⟩:=plan_sizes hns (a:=80) (k:=20) hpr hpc
 have hap:=fun ns' h'=>again_plan p (ns':=ns') hns h'
 have hagr:(againP (planOf p ns)).rules=(planOf p ns).cases.flatMap againC:=rfl
 have hagd:(againP (planOf p ns)).default=p.default:=rfl
 have hpd:(planOf p ns).default=p.default:=rfl
 have hagc:∀ r∈(planOf p ns).cases.flatMap againC,r.conds.length<2 ^ 20:=fun r hr=>by
  obtain ⟨c,hc,hrc⟩:=List.mem_flatMap.1 hr
  obtain ⟨b,hb,rfl⟩:=List.mem_map.1 hrc
  have:=(z4 c hc).2 b hb
  show b.conds.length<_
  omega
 have hagl:((planOf p ns).cases.flatMap againC).length<=80:=by
  have:=again_flat_le (cs:=(planOf p ns).cases) (k:=(planOf p ns).cases.length)
  rw [List.take_length] at this
  omega
 generalize againP (planOf p ns)=ag at *
 rw [hpd] at b7
 have hpl0:PlanAt H0 (planOf p ns) [v,u32 p.default]:=⟨v,rfl,hv⟩
 have hcases:(planOf p ns).cases=(planOf p ns).cases:=rfl
 generalize hcs:(planOf p ns).cases=cs at *
 refine LoopL.count cs.length (fun k ls H'=>ls=[ptr t7 0,ptr t8 0,t34,t35,vi q,v,vi cs.length,vi k]/\∃ rv rows,Each (RuleAt H0) rows ((cs.take k).flatMap againC)/\Has H0 H0 H' (agL t8 p.default rv rows)) ?_ ⟨rfl,nilS,[],Each.nil _,g0⟩
 rintro k _ H1 X1 hk ih ⟨rfl,rv,rows,hr,g⟩
 rcases Nat.lt_or_ge k cs.length with hlt | hge
 ·have hlt':decide ((k:Int)<cs.length)=true:=decide_eq_true (by omega)
  obtain ⟨b,o,bv,f1,f2,hbp,hbs⟩:=case_ix hv hlt
  obtain ⟨lo,_,_⟩:=f2 H1 g.ext
  have ih:=ih hlt
  rw [flat_take againC hlt] at ih
  have hbk:=(z4 cs[k] (List.getElem_mem hlt)).1
  have hfl:=again_flat_le (cs:=cs) (k:=k)
  generalize cs[k]=c at *
  have st:storeN 2 (ptr H1.next 0) (.agg [u32 c.number,bv].toArray) (H1.new (.cells [(.int .u32 0),(.slice none 0 0)] none))=some (H1.new (.cells [u32 c.number,bv] none)):=slice_empty_store2 rfl hbp rfl
  have g2:=g.newbox [u32 c.number,bv]
  have bx:=AH.get_new_self H1 (.cells [u32 c.number,bv] none)
  have p1:[u32 c.number,bv][1]? = some bv:=rfl
  have hlb:=SliceOf.lenSlc hbs
  simp only [F.f24_l2,i64_lss,hlt',f1,lo,allocW_eq,st,bx,p1,hlb,stdZ]
  exact again_l3 hE hbs (by omega) hr (by omega) g2 (k:=k) (by omega) fun rv' rows' H' hr' g'=>ih _ _ ⟨rfl,rv',rows',hr',g'⟩
 have hke:k=cs.length:=by omega
 subst hke
 have hlt':decide ((cs.length:Int)<cs.length)=false:=decide_eq_false (by omega)
 rw [List.take_length] at hr
 have b8:=g.box (k:=0) (b:=t8) (c:=agC p.default rv) rfl
 have hrv:=g.rows (k:=1) (sz:=3) (v:=rv) (rows:=rows) rfl
 have hpa:PolAt H1 ag (agC p.default rv):=by
  refine ⟨by rw [hagr]; omega,_,rv,_,_,_,by rw [hagd]; rfl,rows,hrv,by rw [hagr]; exact hr.1,fun i h1 h2 =>?_⟩
  have h1':i<(cs.flatMap againC).length:=by rw [<- hagr]; exact h1
  have:=hr.2 i h1' h2
  have he:ag.rules[i]=(cs.flatMap againC)[i]:=by simp only [hagr]
  rw [he]
  exact this.sub g.ext.sub
 have lo8:loadN 6 (ptr t8 0) H1=some (.agg (agC p.default rv).toArray):=by rw [loadN_ptr,b8]; rfl
 simp only [F.f24_l2,i64_lss,hlt',lo8,stdZ]
 refine S.f4 hE (sm:=80) (by decide) hSC hSR ag _ hpa (by rw [hagr]; exact hagl) (by rw [hagr]; exact hagc) fun ns' ol H2 e2 hns' hol =>?_
 rw [hap ns' hns'] at hol
 obtain ⟨ov,rfl,hov⟩:=id hol
 have hop:plain1 ov=true:=by obtain ⟨rows,h1,_⟩:=hov; exact h1.plain
 have st2:storeN 2 (ptr H2.next 0) (.agg [ov,u32 p.default].toArray) (H2.new (.cells [(.slice none 0 0),(.int .u32 0)] none))=some (H2.new (.cells [ov,u32 p.default] none)):=slice_empty_store2 hop rfl rfl
 have x3:Ext H2 (H2.new (.cells [ov,u32 p.default] none)):=(Ext.refl _).new _
 have b3:=AH.get_new_self H2 (.cells [ov,u32 p.default] none)
 have e3:=(g.ext.trans e2).trans x3
 have hol3:=hol.mono x3
 have lo7:loadN 2 (ptr t7 0) (H2.new (.cells [ov,u32 p.default] none))=some (.agg [v,u32 p.default].toArray):=by rw [loadN_ptr,e3.cells b7]; rfl
 simp only [allocW_eq,st2,lo7,stdZ]
 generalize H2.new (.cells [ov,u32 p.default] none)=H3 at *
 generalize H2.next=t13 at *
 refine S.f7 hE (planOf p ns) _ (hpl0.mono e3) (by rw [hcs]; omega) (by rw [hcs]; omega) (by rw [hcs]; omega) (by rw [hcs]; intro c hc; have:=(z4 c hc).1; omega) fun H4 e4 =>?_
 rw [hcs]
 have lo13:loadN 2 (ptr t13 0) H4=some (.agg [ov,u32 p.default].toArray):=by rw [loadN_ptr,e4.cells b3]; rfl
 have hffl:(cs.filter full).length<=cs.length:=List.length_filter_le _ _
 have hfb:szB (cs.filter full)=szB cs:=by unfold szB; rw [flat_full]
 have hfc:szC (cs.filter full)=szC cs:=by unfold szC; rw [flat_full]
 simp only [ext_tuple,List.getElem?_cons_zero,List.getElem?_cons_succ,lo13,stdZ]
 refine S.f7 hE ⟨cs.filter full,p.default⟩ _ (hol3.mono e4) (by show (cs.filter full).length<_; omega) (by show szB (cs.filter full)<_; omega) (by show szC (cs.filter full)<_; omega) (fun c hc=>by have:=(z4 c (List.mem_filter.1 hc).1).1; omega) fun H5 e5 =>?_
 have d1:decide (((szB cs:Nat):Int)≠((szB (cs.filter full):Nat):Int))=false:=decide_eq_false (by rw [hfb]; simp)
 have d2:decide (((szC cs:Nat):Int)≠((szC (cs.filter full):Nat):Int))=false:=decide_eq_false (by rw [hfc]; simp)
 have e35:=e4.trans e5
 have e05:=e3.trans e35
 have q0:[v,u32 p.default][0]? = some v:=rfl
 have hlv:=SliceOf.lenSlc hv
 simp only [ext_tuple,List.getElem?_cons_zero,List.getElem?_cons_succ,i64_neq,d1,d2,e05.cells b7,q0,hlv,stdZ]
 have hov3:SliceOf (CaseAt 0) H3 2 ov (cs.filter full):=hov.sub (fun _ _ _ _ h e=>CaseAt.sub h e) x3.sub
 exact again_l4 hE (hv.sub (fun _ _ _ _ h e=>CaseAt.sub h e) e05.sub) (by omega) (fun c hc=>by have:=(z4 c hc).1; omega) (hov3.sub (fun _ _ _ _ h e=>CaseAt.sub h e) e35.sub) (e35.cells b3) hq fun H' e'=>next _ (e05.trans e')
theorem sortS_len:∀ l:List RuleD,(sortS l).length=l.length
 | []=>rfl
 | x :: l=>by
  have ih:=sortS_len l
  have hx:=(rankA_le x.action).1
  simp only [sortS,byRank,List.length_append,List.filter_cons,List.length_cons] at ih ⊢
  have h4:rankA x.action=0\/rankA x.action=1\/rankA x.action=2\/rankA x.action=3:=by omega
  rcases h4 with h | h | h | h <;> simp [h] <;> omega
theorem filter_two {α:Type} (P:α->Bool):∀ l:List α,(l.filter P).length+(l.filter fun x => !P x).length=l.length
 | []=>rfl
 | x :: l=>by
  have ih:=filter_two P l
  rw [List.filter_cons,List.filter_cons]
  cases h:P x <;> simp <;> omega
theorem ofNum_sum:∀ (ns:List (BitVec 32)) (rs:List RuleD),ns.Nodup->(ns.map fun n=>(ofNum rs n).length).sum<=rs.length
 | [],rs,_=>by simp
 | n :: ns,rs,h=>by
  have h:=List.nodup_cons.1 h
  have ih:=ofNum_sum ns (rs.filter fun x => !decide (x.number=n)) h.2
  have he:(ns.map fun m=>(ofNum (rs.filter fun x => !decide (x.number=n)) m).length)=ns.map fun m=>(ofNum rs m).length:=by
   refine List.map_congr_left fun m hm =>?_
   unfold ofNum
   rw [List.filter_filter]
   congr 1
   refine List.filter_congr fun x _ =>?_
   by_cases hx:x.number=m
   ·have:¬ x.number=n:=fun e=>h.1 (by rw [<- e,hx]; exact hm)
    simp [hx,this]
    rw [<- hx]; exact this
   ·simp [hx]
  rw [he] at ih
  have hp:(ofNum rs n).length+(rs.filter fun x => !decide (x.number=n)).length=rs.length:=by
   unfold ofNum
   exact filter_two (fun x=>decide (x.number=n)) rs
  rw [List.map_cons,List.sum_cons]
  omega
theorem szB_le {p:PolD} {ns:List (BitVec 32)} (h:Nums p ns):szB (planOf p ns).cases<=p.rules.length:=by
 refine Nat.le_trans ?_ (ofNum_sum ns p.rules h.nodup)
 have:∀ l:List (BitVec 32),szB (l.map (caseOf p))<=(l.map fun n=>(ofNum p.rules n).length).sum:=by
  intro l
  induction l with
  | nil=>simp [szB]
  | cons n l ih =>
   rw [List.map_cons,szB_cons,List.map_cons,List.sum_cons]
   have h1:=branchesF_le (sortS (ofNum p.rules n))
   rw [sortS_len] at h1
   have h1:(caseOf p n).branches.length<=(ofNum p.rules n).length:=h1
   omega
 exact this ns
theorem S.law_IrAgain (hE:Fold E) (args:List Value) (ha:ArgsSV H [polSh,smallSh] args) (hQ:∀ H',Q (vb true) H'):E.call (E.fid i.f24) args H Q:=by
 obtain ⟨v1,_,rfl,h1,ha⟩:=ha.cons_inv
 obtain ⟨v2,_,rfl,h2,ha⟩:=ha.cons_inv
 obtain rfl:=ha.nil_inv
 obtain ⟨x,xc,rfl,hx,hxf⟩:=h1.pol
 obtain ⟨s,sc,rfl,hs⟩:=h2.small
 apply hE.f24
 have hs8:sc.length=8:=by obtain ⟨_,_,_,_,rfl,_⟩:=hs; rfl
 have x2:Ext H ((H.new (.cells xc none)).new (.cells sc none)):=((Ext.refl _).new _).new _
 have b1:((H.new (.cells xc none)).new (.cells sc none)).get H.next = .cells xc none:=by rw [AH.get_new_ne _ _ (by rw [AH.next_new]; omega),AH.get_new_self]
 have b2:((H.new (.cells xc none)).new (.cells sc none)).get (H.next+1) = .cells sc none:=AH.get_new_self (H.new _) _
 simp only [F.f24,boxO_agg_z,AM.mk_some,mkPtr_eq_z,List.toList_toArray,AH.next_new_z,stdZ]
 generalize (H.new (.cells xc none)).new (.cells sc none)=H2 at *
 have hSC:SortsC E 80:=sortsC_any hE 80 (by decide)
 have hSR:SortsR E 80:=sortsR_any hE 80 (by decide)
 refine S.f23 hE (sm:=80) (by decide) (by decide) hSC hSR fun H3 e3 =>?_
 have x3:=x2.trans e3
 have lo1:∀ {K},Ext H2 K->loadN 6 (ptr H.next 0) K=some (.agg xc.toArray):=fun e=>by rw [loadN_ptr,e.cells b1,row_all _ _ 6 (polx6e hx).1]; rfl
 have lo2:∀ {K},Ext H2 K->loadN 8 (ptr (H.next+1) 0) K=some (.agg sc.toArray):=fun e=>by rw [loadN_ptr,e.cells b2,row_all _ _ 8 hs8]; rfl
 simp only [lo1 e3,stdZ]
 refine S.f19 hE x xc (hx.mono x3) hxf fun fbl H4 e4 hfew =>?_
 have e34:=e3.trans e4
 cases fbl with
 | false=>simp only [un_not_z,Bool.not_false,stdZ]; exact hQ _
 | true =>
  have hfew:=hfew rfl
  simp only [un_not_z,Bool.not_true,lo1 e34,lo2 e34,stdZ]
  refine S.f20 hE s sc (hs.sub (x2.trans e34).sub) fun H5 pc e5 hps =>?_
  have e35:=e34.trans e5
  refine ⟨(lo1 e35).trans (lo1 e34).symm,?_⟩
  have hbs:=buildS_full 2 6 [str [],u32 0#32,nilS,u16 0#16,nilS,nilS] [(0,.agg xc.toArray),(1,.agg pc.toArray)] [.agg xc.toArray,.agg pc.toArray] rfl rfl rfl rfl (by simp [(polx6e hx).1,(polx6e hps).1])
  have hbs:buildS 2 6 #[(.string ⟨#[]⟩),(.int .u32 0),(.slice none 0 0),(.int .u16 0),(.slice none 0 0),(.slice none 0 0)] [(0,.agg xc.toArray),(1,.agg pc.toArray)]=some (.cells (xc++pc) none,mkSlc 2 2):=by
   rw [show (xc++pc)=([.agg xc.toArray,.agg pc.toArray]:List Value).flatMap vcells by simp]
   exact hbs
  simp only [hbs,AM.mk_some,mkSlc_eq,stdZ]
  have e6:Ext H5 (H5.new (.cells (xc++pc) none)):=(Ext.refl _).new _
  have hrows:Rows (H5.new (.cells (xc++pc) none)) 6 (slc H5.next 0 2 2) [xc,pc]:=Rows.made (f:=none) (by rw [AH.get_new_self]; simp) (.inl rfl) rfl (by simp [(polx6e hx).1,(polx6e hps).1])
  generalize H5.new (.cells (xc++pc) none)=H6 at *
  have x6:=((x2.trans e35).trans e6)
  have hps6:=hps.mono e6
  have hx6:=hx.mono x6
  have i0:(.int .i64 0:Value)=vi ((0:Nat):Int):=rfl
  rw [i0]
  refine LoopL.count 2 (fun j ls H'=>ls=[slc H5.next 0 2 2,vi 2,vi j]/\Ext H6 H') ?_ ⟨rfl,Ext.refl _⟩
  rintro j _ H7 X hj hX ⟨rfl,e7⟩
  rcases Nat.lt_or_ge j 2 with hlt | hge
  rotate_left
  ·have hd:decide ((j:Int)<2)=false:=decide_eq_false (by omega)
   simp only [F.f24_l1,i64_lss,hd,stdZ]
   exact hQ _
  have hlt':decide ((j:Int)<2)=true:=decide_eq_true (by omega)
  have ⟨q,qc,hq1,hq2,hq3⟩:∃ (q:PolX) (qc:List Value),[xc,pc][j]? = some qc/\PolXAt H7 q qc/\q.few:=by
   match j,hlt with
   | 0,_=>exact ⟨x,xc,rfl,hx6.mono e7,hfew⟩
   | 1,_=>exact ⟨s.pol,pc,rfl,hps6.mono e7,s.pol_few⟩
  obtain ⟨b,o,f1,f2⟩:=(hrows.mono e7).ix (i:=j) hlt
  have hjj:[xc,pc][j]=qc:=by
   rw [List.getElem?_eq_getElem hlt] at hq1
   exact Option.some.inj hq1
  rw [hjj] at f2
  have lo:loadN 6 (ptr b o) H7=some (.agg qc.toArray):=by rw [loadN_ptr,f2]; rfl
  obtain ⟨hq6,hqp⟩:=polx6e hq2
  have hst:storeN 6 (ptr H7.next 0) (.agg qc.toArray) (H7.new (.cells [(.string ⟨#[]⟩),(.int .u32 0),(.slice none 0 0),(.int .u16 0),(.slice none 0 0),(.slice none 0 0)] none))=some (H7.new (.cells qc none)):=fresh_store rfl hq6 hqp
  have hlo7:loadN 6 (ptr H7.next 0) (H7.new (.cells qc none))=some (.agg qc.toArray):=fresh_load hq6
  have x8:Ext H7 (H7.new (.cells qc none)):=(Ext.refl _).new _
  have b8:=AH.get_new_self H7 (.cells qc none)
  simp only [F.f24_l1,i64_lss,hlt',f1,lo,allocW_eq,hst,hlo7,stdZ]
  have hq8:=hq2.mono x8
  have hX:=hX hlt
  generalize H7.new (.cells qc none)=H8 at *
  generalize H7.next=t8 at *
  have hrl:=hq3.1
  refine S.f4 hE (sm:=80) (by decide) hSC hSR q.pol qc (hq8.at_ (by omega)) hrl (fun r hr=>by have:=hq3.2.1 r hr; omega) fun ns pl H9 e9 hns hpl =>?_
  obtain ⟨pv,rfl,hpv⟩:=id hpl
  have hpvp:plain1 pv=true:=by obtain ⟨rows,h1,_⟩:=hpv; exact h1.plain
  have hpd:(planOf q.pol ns).default=q.pol.default:=rfl
  have st9:storeN 2 (ptr H9.next 0) (.agg [pv,u32 (planOf q.pol ns).default].toArray) (H9.new (.cells [(.slice none 0 0),(.int .u32 0)] none))=some (H9.new (.cells [pv,u32 (planOf q.pol ns).default] none)):=slice_empty_store2 hpvp rfl rfl
  have x9:Ext H9 (H9.new (.cells [pv,u32 (planOf q.pol ns).default] none)):=(Ext.refl _).new _
  have b9:=AH.get_new_self H9 (.cells [pv,u32 (planOf q.pol ns).default] none)
  have e10:=e9.trans x9
  have b810:=e10.cells b8
  obtain ⟨v',pv',qv',hqc,_⟩:=hq8
  have c1:qc[1]? = some (u32 q.pol.default):=by rw [hqc]; rfl
  have hbv:buildV [(0,1),(1,1),(2,1),(3,1),(4,1),(5,1)] #[(.string ⟨#[]⟩),(.int .u32 0),(.slice none 0 0),(.int .u16 0),(.slice none 0 0),(.slice none 0 0)] [(1,u32 q.pol.default)]=some (.agg (agC q.pol.default nilS).toArray):=by rw [buildV_eq]; rfl
  simp only [allocW_eq,st9,b810,c1,hbv,stdZ]
  rw [show H9.next+1=(H9.new (.cells [pv,u32 (planOf q.pol ns).default] none)).next from rfl]
  have hpv10:=hpv.sub (fun _ _ _ _ h e=>CaseAt.sub h e) x9.sub
  generalize H9.new (.cells [pv,u32 (planOf q.pol ns).default] none)=H10 at *
  generalize H9.next=t9 at *
  have st10:storeN 6 (ptr H10.next 0) (.agg (agC q.pol.default nilS).toArray) (H10.new (.cells [(.string ⟨#[]⟩),(.int .u32 0),(.slice none 0 0),(.int .u16 0),(.slice none 0 0),(.slice none 0 0)] none))=some (H10.new (.cells (agC q.pol.default nilS) none)):=fresh_store rfl rfl (by simp [agC])
  have g11:Has H10 H10 (H10.new (.cells (agC q.pol.default nilS) none)) (agL H10.next q.pol.default nilS []):=((Has.begin (Ext.refl H10) (Sub.refl H10)).newbox (agC q.pol.default nilS)).nils 3
  have b911:=((Ext.refl H10).new (.cells (agC q.pol.default nilS) none)).cells b9
  have q0:[pv,u32 (planOf q.pol ns).default][0]? = some pv:=rfl
  have hlpv:=SliceOf.lenSlc hpv
  simp only [st10,b911,q0,hlpv,stdZ]
  have hszb:=szB_le hns
  exact again_l2 hE hSC hSR hns hrl hq3.2.1 hpv10 b9 (by omega) g11 (q:=j) (by omega) fun H' e'=>hX _ _ ⟨rfl,((e7.trans x8).trans e10).trans e'⟩
end
end Go.AM
end
