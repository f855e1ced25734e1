/- CONTRACTS ON THE PRINTED FUNCTIONS. -/
import Derived.Test.YtcodjlonfgiegaaI15c5C0
set_option linter.all false
section
namespace Go.AM
open Go.Sort
set_option maxRecDepth 20000
section
variable {α:Type} [Inhabited α] {E:Sy} {H H':AH} {Q:Value->AH->Prop} {b c n:Nat} {enc:α->List Value} {LT:α->α->Bool} {fv:Value} {d:Array α} {tail:List Value} {f:Option Nat}
theorem S.f52 (hE:Fold E) (he:EncOk 2 enc) (hC:CmpOk E fv enc LT) (hg:H.get b=arrM enc d tail f) (hn:d.size=n) (hsz:n<2 ^ 60) (lo hi first:Nat) (hlo:lo<=n) (hf:first+hi<=n)
  (hQ:∀ H',SortMo H b enc tail f (siftDown LT hi first lo d) H'->Q (.tuple #[]) H'):E.call (E.fid i.f52) [slc b 0 n c,vi lo,vi hi,vi first,fv] H Q:=by
 apply hE.f52
 simp only [F.f52,stdZ]
 obtain ⟨R,hR⟩:∃ R,R=siftDown LT hi first lo d:=⟨_,rfl⟩
 rw [<- hR] at hQ
 refine LoopL.ind (fun m l H'=>∃ (r:Nat) (d':Array α),l=[slc b 0 n c,vi hi,vi first,fv,vi r]/\SortMo H b enc tail f d' H'/\d'.size=n/\R=siftDown LT hi first r d'/\r<=n/\m=hi - r) ?_ (hi - lo) ⟨lo,d,rfl,.refl hg,hn,hR,hlo,rfl⟩
 rintro m _ H1 X hX ⟨r,d1,rfl,s1,n1,r1,hr,rfl⟩
 have a1:=i64_dbl r (by omega)
 have a2:=i64_succ (2*r) (by omega)
 have a3:=i64_succ (2*r+1) (by omega)
 have step:∀ (ch:Nat) (H2:AH),SortMo H b enc tail f d1 H2->r<ch->ch<hi->R=(if !LT d1[first+r]! d1[first+ch]! then d1 else siftDown LT hi first ch (swp d1 (first+r) (first+ch)))->F.f52_j1 E Q X (slc b 0 n c) (vi hi) (vi first) fv (vi r) (vi ch) H2:=by
  intro ch H2 s2 h1 h2 hR'
  have b1:=i64_add_nat first r (by omega)
  have b2:=i64_add_nat first ch (by omega)
  have f1:=mrr_ix (sz:=2) (b:=b) (c:=c) (n:=n) (i:=first+r) (by omega)
  have f2:=mrr_ix (sz:=2) (b:=b) (c:=c) (n:=n) (i:=first+ch) (by omega)
  have g1:=mrr_load he s2.get (i:=first+r) (by omega)
  have g2:=mrr_load he s2.get (i:=first+ch) (by omega)
  have hp1:first+r<n:=by omega
  have hp2:first+ch<n:=by omega
  generalize hp:first+r=p at *
  generalize hq:first+ch=q at *
  simp only [F.f52_j1,b1,b2,f1,f2,g1,g2,stdZ]
  refine hC _ _ _ _ fun z H3 e3 hz =>?_
  have s3:=s2.ext e3
  have g1:=mrr_load he s3.get (i:=p) (by omega)
  have g2:=mrr_load he s3.get (i:=q) (by omega)
  obtain ⟨w1,w2⟩:=mrr_swap he s3.get (i:=p) (j:=q) (by omega) (by omega)
  cases hl:LT d1[p]! d1[q]! with
  | true =>
   simp only [hl,Bool.not_true,Bool.false_eq_true,if_false] at hR'
   simp only [i64_lss,hz,hl,un_not_z,Bool.not_true,b1,b2,f1,f2,g1,g2,w1,w2,stdZ]
   exact hX (hi - ch) (by omega) _ _ ⟨ch,_,rfl,s3.put _,by rw [size_swp]; exact n1,hR',by omega,rfl⟩
  | false =>
   simp only [hl,Bool.not_false,if_true] at hR'
   subst hR'
   simp only [i64_lss,hz,hl,un_not_z,Bool.not_false,stdZ]
   exact hQ _ s3
 rw [siftDown] at r1
 by_cases c1:2*r+1>=hi
 ·rw [dif_pos c1] at r1
  subst r1
  have c1':decide ((hi:Int)<=((2*r+1:Nat):Int))=true:=decide_eq_true (by omega)
  generalize 2*r+1=ch at *
  generalize 2*r=rr at *
  simp only [F.f52_l1,a1,a2,i64_geq,c1',stdZ]
  exact hQ _ s1
 rw [dif_neg c1] at r1
 have c1':decide ((hi:Int)<=((2*r+1:Nat):Int))=false:=decide_eq_false (by omega)
 have b1:=i64_add_nat first (2*r+1) (by omega)
 have b2:=i64_succ (first+(2*r+1)) (by omega)
 by_cases c2:2*r+1+1<hi
 ·have c2':decide (((2*r+1+1:Nat):Int)<hi)=true:=decide_eq_true (by omega)
  have f1:=mrr_ix (sz:=2) (b:=b) (c:=c) (n:=n) (i:=first+(2*r+1)) (by omega)
  have f2:=mrr_ix (sz:=2) (b:=b) (c:=c) (n:=n) (i:=first+(2*r+1)+1) (by omega)
  have g1:=mrr_load he s1.get (i:=first+(2*r+1)) (by omega)
  have g2:=mrr_load he s1.get (i:=first+(2*r+1)+1) (by omega)
  have st1:=fun H2 s2=>step (2*r+1) H2 s2 (by omega) (by omega)
  have st2:=fun H2 s2=>step (2*r+1+1) H2 s2 (by omega) c2
  rw [dif_pos (by omega:2*r+2<hi)] at r1
  simp only [c2,decide_true,Bool.true_and] at r1
  rw [show 2*r+2=2*r+1+1 by omega] at r1
  generalize hq2:first+(2*r+1)+1=q2 at *
  generalize hq:first+(2*r+1)=q at *
  generalize hc2:2*r+1+1=ch2 at *
  generalize hc1:2*r+1=ch at *
  generalize 2*r=rr at *
  simp only [F.f52_l1,a1,a2,a3,i64_geq,i64_lss,c1',c2',b1,b2,f1,f2,g1,g2,stdZ]
  refine hC _ _ _ _ fun z H3 e3 hz =>?_
  have s3:=s1.ext e3
  cases hl:LT d1[q]! d1[q2]! with
  | true =>
   simp only [hl,if_true] at r1
   simp only [i64_lss,hz,hl,a3,stdZ]
   exact st2 _ s3 r1
  | false =>
   simp only [hl,if_false,Bool.false_eq_true] at r1
   simp only [i64_lss,hz,hl,stdZ]
   exact st1 _ s3 r1
 ·have c2':decide (((2*r+1+1:Nat):Int)<hi)=false:=decide_eq_false (by omega)
  have st1:=step (2*r+1) _ s1 (by omega) (by omega)
  simp only [c2,decide_false,Bool.false_and,Bool.false_eq_true,if_false] at r1
  generalize hc2:2*r+1+1=ch2 at *
  generalize hc1:2*r+1=ch at *
  generalize 2*r=rr at *
  simp only [F.f52_l1,a1,a2,a3,i64_geq,i64_lss,c1',c2',stdZ]
  exact st1 r1
theorem size_siftDown_ir_Case (hi first r:Nat) (d:Array α):(siftDown LT hi first r d).size=d.size:=by
 obtain ⟨m,hm⟩:∃ m,hi - r<=m:=⟨_,Nat.le_refl _⟩
 induction m generalizing r d with
 | zero =>
  rw [siftDown,dif_pos (by omega)]
 | succ m ih =>
  rw [siftDown]
  split
  ·rfl
  ·split
   ·split
    ·rfl
    ·split
     ·rw [ih _ _ (by omega),size_swp]
     ·rfl
   ·split
    ·rfl
    ·rw [ih _ _ (by omega),size_swp]
theorem S.f39 (hE:Fold E) (he:EncOk 2 enc) (hC:CmpOk E fv enc LT) (hg:H.get b=arrM enc d tail f) (hn:d.size=n) (hsz:n<2 ^ 60) (a e:Nat) (hae:a<e) (hle:e<=n)
  (hQ:∀ H',SortMo H b enc tail f (heapSort LT d a e) H'->Q (.tuple #[]) H'):E.call (E.fid i.f39) [slc b 0 n c,vi a,vi e,fv] H Q:=by
 apply hE.f39
 have a1:=i64_sub_nat e a (by omega) (by omega)
 have a2:=i64_dec (e - a) (by omega) (by omega)
 have a3:=i64_quo_num (e - a - 1) 2 (by decide) (by omega)
 unfold heapSort at hQ
 have a1':binInt .sub (vi e) (vi a)=some (vi ((e - a:Nat):Int)):=a1
 generalize hw:e - a=w at *
 have a3':binInt .quo (vi ((w - 1:Nat):Int)) (.int .i64 2)=some (vi (((w - 1) / 2:Nat):Int)):=a3
 generalize hw1:w - 1=w1 at *
 generalize hh:w1 / 2=h2 at *
 have hh2:h2<=w1:=by rw [<- hh]; exact Nat.div_le_self _ _
 simp only [F.f39,a1',a2,a3',stdZ]
 obtain ⟨R,hR⟩:∃ R,R=heapPop LT a w (heapBuild LT w a (h2+1) d):=⟨_,rfl⟩
 rw [<- hR] at hQ
 refine LoopL.ind (fun m l H'=>∃ (k:Nat) (d':Array α),l=[slc b 0 n c,fv,vi a,vi 0,vi w,vi ((k:Int) - 1)]/\SortMo H b enc tail f d' H'/\d'.size=n/\R=heapPop LT a w (heapBuild LT w a k d')/\k<=w/\m=k) ?_ (h2+1) ⟨h2+1,d,by simp,.refl hg,hn,hR,by omega,rfl⟩
 rintro m _ H1 X hX ⟨k,d1,rfl,s1,n1,r1,hk,rfl⟩
 cases m with
 | succ k =>
  have e1:((k+1:Nat):Int) - 1=(k:Int):=by omega
  have hd:binInt .sub (vi k) (.int .i64 1)=some (vi ((k:Int) - 1)):=i64_sub (by omega) (by omega)
  have c0:decide ((0:Int)<=(k:Int))=true:=decide_eq_true (by omega)
  rw [e1]
  simp only [F.f39_l1,i64_geq,c0,stdZ]
  refine S.f52 hE he hC s1.get n1 hsz k w a (by omega) (by omega) fun H2 s2 =>?_
  simp only [hd,stdZ]
  exact hX k (by omega) _ _ ⟨k,_,rfl,s1.trans s2,by rw [size_siftDown_ir_Case]; exact n1,by rw [r1]; rfl,by omega,rfl⟩
 | zero =>
  have hd:binInt .sub (vi w) (.int .i64 1)=some (vi ((w:Int) - 1)):=i64_sub (by omega) (by omega)
  have c0:decide ((0:Int)<=((0:Nat):Int) - 1)=false:=by decide
  simp only [F.f39_l1,i64_geq,c0,hd,stdZ]
  clear hX
  refine LoopL.ind (fun m l H'=>∃ (k:Nat) (d':Array α),l=[slc b 0 n c,fv,vi a,vi 0,vi ((k:Int) - 1)]/\SortMo H b enc tail f d' H'/\d'.size=n/\R=heapPop LT a k d'/\k<=w/\m=k) ?_ w ⟨w,d1,rfl,s1,n1,r1,Nat.le_refl _,rfl⟩
  rintro m _ H2 X hX ⟨k,d2,rfl,s2,n2,r2,hk,rfl⟩
  cases m with
  | succ k =>
   have e1:((k+1:Nat):Int) - 1=(k:Int):=by omega
   have hd:binInt .sub (vi k) (.int .i64 1)=some (vi ((k:Int) - 1)):=i64_sub (by omega) (by omega)
   have b1:=i64_add_nat a k (by omega)
   have f1:=mrr_ix (sz:=2) (b:=b) (c:=c) (n:=n) (i:=a) (by omega)
   have f2:=mrr_ix (sz:=2) (b:=b) (c:=c) (n:=n) (i:=a+k) (by omega)
   have g1:=mrr_load he s2.get (i:=a) (by omega)
   have g2:=mrr_load he s2.get (i:=a+k) (by omega)
   obtain ⟨w1,w2⟩:=mrr_swap he s2.get (i:=a) (j:=a+k) (by omega) (by omega)
   have c0:decide ((0:Int)<=(k:Int))=true:=decide_eq_true (by omega)
   rw [e1]
   rw [heapPop] at r2
   generalize hq:a+k=q at *
   simp only [F.f39_l2,i64_geq,c0,b1,f1,f2,g1,g2,w1,w2,stdZ]
   have s3:=s2.put (swp d2 a q)
   refine S.f52 hE he hC s3.get (by rw [size_swp]; exact n2) hsz 0 k a (by omega) (by omega) fun H3 s4 =>?_
   simp only [hd,stdZ]
   exact hX k (by omega) _ _ ⟨k,_,rfl,s3.trans s4,by rw [size_siftDown_ir_Case,size_swp]; exact n2,r2,by omega,rfl⟩
  | zero =>
   have c0:decide ((0:Int)<=((0:Nat):Int) - 1)=false:=by decide
   simp only [F.f39_l2,i64_geq,c0,stdZ]
   rw [heapPop] at r2
   subst r2
   exact hQ _ s2
theorem S.f50 (hE:Fold E) (he:EncOk 2 enc) (hg:H.get b=arrM enc d tail f) (hn:d.size=n) (hsz:n<2 ^ 60) (a e:Nat) (hae:a<e) (hle:e<=n)
  (hQ:∀ H',SortMo H b enc tail f (reverseRange d a e) H'->Q (.tuple #[]) H'):E.call (E.fid i.f50) [slc b 0 n c,vi a,vi e,fv] H Q:=by
 apply hE.f50
 have a1:=i64_dec e (by omega) (by omega)
 unfold reverseRange at hQ
 simp only [F.f50,a1,stdZ]
 obtain ⟨R,hR⟩:∃ R,R=reverseLoop a (e - 1) d:=⟨_,rfl⟩
 rw [<- hR] at hQ
 refine LoopL.ind (fun m l H'=>∃ (p q:Nat) (d':Array α),l=[slc b 0 n c,vi p,vi q]/\SortMo H b enc tail f d' H'/\d'.size=n/\R=reverseLoop p q d'/\p<=n/\q<n/\m=q - p) ?_ (e - 1 - a) ⟨a,e - 1,d,rfl,.refl hg,hn,hR,by omega,by omega,rfl⟩
 rintro m _ H1 X hX ⟨p,q,d1,rfl,s1,n1,r1,hp,hq,rfl⟩
 rw [reverseLoop] at r1
 by_cases h:p<q
 ·rw [if_pos h] at r1
  have h':decide ((p:Int)<q)=true:=decide_eq_true (by omega)
  have f1:=mrr_ix (sz:=2) (b:=b) (c:=c) (n:=n) (i:=p) (by omega)
  have f2:=mrr_ix (sz:=2) (b:=b) (c:=c) (n:=n) (i:=q) (by omega)
  have g1:=mrr_load he s1.get (i:=p) (by omega)
  have g2:=mrr_load he s1.get (i:=q) (by omega)
  obtain ⟨w1,w2⟩:=mrr_swap he s1.get (i:=p) (j:=q) (by omega) (by omega)
  have b1:=i64_succ p (by omega)
  have b2:=i64_dec q (by omega) (by omega)
  simp only [F.f50_l1,i64_lss,h',f1,f2,g1,g2,w1,w2,b1,b2,stdZ]
  exact hX (q - 1 - (p+1)) (by omega) _ _ ⟨p+1,q - 1,_,rfl,s1.put _,by rw [size_swp]; exact n1,r1,by omega,by omega,rfl⟩
 ·rw [if_neg h] at r1
  subst r1
  have h':decide ((p:Int)<q)=false:=decide_eq_false (by omega)
  simp only [F.f50_l1,i64_lss,h',stdZ]
  exact hQ _ s1
end
end Go.AM
end
section
namespace Go.AM
open Go.Sort
set_option maxRecDepth 20000
section
variable {α:Type} [Inhabited α] {E:Sy} {H H':AH} {Q:Value->AH->Prop} {b c n:Nat} {enc:α->List Value} {LT:α->α->Bool} {fv:Value} {d:Array α} {tail:List Value} {f:Option Nat}
theorem S.f47 (hE:Fold E) (he:EncOk 2 enc) (hC:CmpOk E fv enc LT) (hg:H.get b=arrM enc d tail f) (hn:d.size=n) (hsz:n<2 ^ 60) (a e pivot:Nat) (h1:a<=pivot) (h2:pivot<e) (hle:e<=n)
  (hQ:∀ H',SortMo H b enc tail f (partition LT d a e pivot).2.2 H'->Q (.tuple #[vi (partition LT d a e pivot).1,vb (partition LT d a e pivot).2.1]) H'):E.call (E.fid i.f47) [slc b 0 n c,vi a,vi e,vi pivot,fv] H Q:=by
 apply hE.f47
 have f1:=mrr_ix (sz:=2) (b:=b) (c:=c) (n:=n) (i:=a) (by omega)
 have f2:=mrr_ix (sz:=2) (b:=b) (c:=c) (n:=n) (i:=pivot) (by omega)
 have g1:=mrr_load he hg (i:=a) (by omega)
 have g2:=mrr_load he hg (i:=pivot) (by omega)
 obtain ⟨w1,w2⟩:=mrr_swap he hg (i:=a) (j:=pivot) (by omega) (by omega)
 have b1:=i64_succ a (by omega)
 have b2:=i64_dec e (by omega) (by omega)
 simp only [F.f47,f1,f2,g1,g2,w1,w2,b1,b2,stdZ]
 have s0:=(SortMo.refl hg).put (swp d a pivot)
 have n0:(swp d a pivot).size=n:=by rw [size_swp]; exact hn
 unfold partition at hQ
 generalize hd0:swp d a pivot=d0 at *
 generalize H.put b (arrM enc d0 tail f)=H0 at *
 clear w1 w2 g1 g2 f2
 simp only at hQ
 obtain ⟨I,hI⟩:∃ I,I=scanUp (fun x=>LT x d0[a]!) d0 (e - 1) (a+1):=⟨_,rfl⟩
 rw [<- hI] at hQ
 obtain ⟨J,hJ⟩:∃ J,J=scanDown (fun x => !LT x d0[a]!) d0 I (e - 1):=⟨_,rfl⟩
 rw [<- hJ] at hQ
 have hIl:=sUp_le (fun x=>LT x d0[a]!) d0 (e - 1) _ (a+1) (Nat.le_refl _)
 rw [<- hI] at hIl
 have hJl:=sDown_le (fun x => !LT x d0[a]!) d0 I (e - 1)
 rw [<- hJ] at hJl
 refine LoopL.ind (fun m l H'=>SortMo H b enc tail f d0 H'/\∃ p:Nat,l=[slc b 0 n c,vi a,fv,vi p,vi ((e - 1:Nat):Int)]/\I=scanUp (fun x=>LT x d0[a]!) d0 (e - 1) p/\a+1<=p/\p<=e/\m=e - p) ?_ (e - (a+1)) ⟨s0,a+1,rfl,hI,Nat.le_refl _,by omega,rfl⟩
 rintro m _ H1 X hX ⟨s1,p,rfl,r1,hp1,hp2,rfl⟩
 rw [scanUp] at r1
 have exit1:I=p->∀ H2,SortMo H b enc tail f d0 H2->LoopL (fun l H X0=>F.f47_l2 E Q (nth l 0) (nth l 1) (nth l 2) (nth l 3) (nth l 4) H X0) [slc b 0 n c,vi a,fv,vi p,vi ((e - 1:Nat):Int)] H2:=by
  rintro rfl H2 s2
  clear hX r1
  refine LoopL.ind (fun m l H'=>SortMo H b enc tail f d0 H'/\∃ q:Nat,l=[slc b 0 n c,vi a,fv,vi I,vi q]/\J=scanDown (fun x => !LT x d0[a]!) d0 I q/\q<=e - 1/\I<=q+1/\m=q) ?_ (e - 1) ⟨s2,e - 1,rfl,hJ,Nat.le_refl _,by omega,rfl⟩
  rintro m _ H3 X hX ⟨s3,q,rfl,r1,hq1,hq2,rfl⟩
  have exit2:J=m->F.f47_l2 E Q (slc b 0 n c) (vi a) fv (vi I) (vi m) H3 X:=by
   rintro rfl
   clear hX
   have f1:=mrr_ix (sz:=2) (b:=b) (c:=c) (n:=n) (i:=a) (by omega)
   have f2:=mrr_ix (sz:=2) (b:=b) (c:=c) (n:=n) (i:=J) (by omega)
   have g1:=mrr_load he s3.get (i:=a) (by omega)
   have g2:=mrr_load he s3.get (i:=J) (by omega)
   by_cases hij:I<=J
   ·have hij':decide ((I:Int)<=J)=true:=decide_eq_true (by omega)
    have hij'':decide ((J:Int)<I)=false:=decide_eq_false (by omega)
    have hnl:LT d0[J]! d0[a]! = true:=by
     cases J with
     | zero=>omega
     | succ q =>
      rw [scanDown] at r1
      split at r1
      ·have:=sDown_le (fun x => !LT x d0[a]!) d0 I q
       omega
      ·rename_i hc
       simp at hc
       exact hc (by omega)
    have f3:=mrr_ix (sz:=2) (b:=b) (c:=c) (n:=n) (i:=I) (by omega)
    have b3:=i64_succ I (by omega)
    have b4:=i64_dec J (by omega) (by omega)
    simp only [F.f47_l2,i64_leq,hij',f1,f2,g1,g2,stdZ]
    refine hC _ _ _ _ fun z H4 e4 hz =>?_
    have s4:=s3.ext e4
    have g2:=mrr_load he s4.get (i:=J) (by omega)
    have g3:=mrr_load he s4.get (i:=I) (by omega)
    obtain ⟨w3,w4⟩:=mrr_swap he s4.get (i:=I) (j:=J) (by omega) (by omega)
    simp only [i64_lss,i64_gtr,hz,hnl,un_not_z,Bool.not_true,hij'',f2,f3,g2,g3,w3,w4,b3,b4,stdZ]
    rw [if_neg (by omega)] at hQ
    have s1:=s4.put (swp d0 I J)
    have n1:(swp d0 I J).size=n:=by rw [size_swp]; exact n0
    generalize hd1:swp d0 I J=d1 at *
    simp only at hQ
    obtain ⟨R,hR⟩:∃ R,R=partLoop LT a (I+1) (J - 1) d1:=⟨_,rfl⟩
    rw [<- hR] at hQ
    refine LoopL.ind (fun m l H'=>∃ (p q:Nat) (d2:Array α),l=[slc b 0 n c,vi a,fv,vi p,vi q]/\SortMo H b enc tail f d2 H'/\d2.size=n/\R=partLoop LT a p q d2/\a+1<=p/\p<=q+1+1/\p<=e/\q<=e - 1/\a<=q/\m=q+1 - p) ?_ (J - 1+1 - (I+1)) ⟨I+1,J - 1,d1,rfl,s1,n1,hR,by omega,by omega,by omega,by omega,by omega,rfl⟩
    clear hR s1 n1 hd1 w3 w4 g1 g2 g3 s4 s3 s2
    rintro m _ H5 X3 hX3 ⟨p,q,d2,rfl,s2,n2,r2,hp1,hp2,hpe,hq1,hqa,rfl⟩
    rw [partLoop] at r2
    simp only [F.f47_l3,nth_0,nth_1,nth_2,nth_3,nth_4]
    obtain ⟨I2,hI2⟩:∃ I,I=scanUp (fun x=>LT x d2[a]!) d2 q p:=⟨_,rfl⟩
    obtain ⟨J2,hJ2⟩:∃ J,J=scanDown (fun x => !LT x d2[a]!) d2 I2 q:=⟨_,rfl⟩
    rw [<- hI2] at r2
    try simp only at r2
    rw [<- hJ2] at r2
    have hIl2:=sUp_le (fun x=>LT x d2[a]!) d2 q _ p (Nat.le_refl _)
    rw [<- hI2] at hIl2
    have hJl2:=sDown_le (fun x => !LT x d2[a]!) d2 I2 q
    rw [<- hJ2] at hJl2
    have hI2e:I2<=q+1\/(I2=p/\q+1<p):=by
     by_cases h:p<=q+1
     ·exact .inl (hIl2.2 h)
     ·refine .inr ⟨?_,by omega⟩
      rw [hI2,scanUp,if_neg (by simp; omega)]
    have hJ2e:I2<=q+1\/J2=q:=by
     rcases hI2e with h | ⟨h,h'⟩
     ·exact .inl h
     ·right
      rw [hJ2]
      cases q with
      | zero=>rfl
      | succ q=>rw [scanDown,if_neg (by simp; omega)]
    refine LoopL.ind (fun m l H'=>SortMo H b enc tail f d2 H'/\∃ p':Nat,l=[slc b 0 n c,vi a,fv,vi p',vi q]/\I2=scanUp (fun x=>LT x d2[a]!) d2 q p'/\p<=p'/\p'<=e/\m=q+1 - p') ?_ (q+1 - p) ⟨s2,p,rfl,hI2,Nat.le_refl _,by omega,rfl⟩
    rintro m _ H6 X4 hX4 ⟨s6,p',rfl,r4,hp3,hp4,rfl⟩
    rw [scanUp] at r4
    have exit4:I2=p'->∀ H7,SortMo H b enc tail f d2 H7->LoopL (fun l H X1=>F.f47_l5 E Q X3 (nth l 0) (nth l 1) (nth l 2) (nth l 3) (nth l 4) H X1) [slc b 0 n c,vi a,fv,vi p',vi q] H7:=by
     rintro rfl H7 s7
     clear hX4 r4
     refine LoopL.ind (fun m l H'=>SortMo H b enc tail f d2 H'/\∃ q':Nat,l=[slc b 0 n c,vi a,fv,vi I2,vi q']/\J2=scanDown (fun x => !LT x d2[a]!) d2 I2 q'/\q'<=q/\m=q') ?_ q ⟨s7,q,rfl,hJ2,Nat.le_refl _,rfl⟩
     rintro m _ H8 X5 hX5 ⟨s8,q',rfl,r5,hq3,rfl⟩
     have exit5:J2=m->∀ H9,SortMo H b enc tail f d2 H9->(hnl:I2<=m->LT d2[m]! d2[a]! = true)->F.f47_l5 E Q X3 (slc b 0 n c) (vi a) fv (vi I2) (vi m) H8 X5:=by
      rintro rfl H9 s9 hnl
      clear hX5
      have f2:=mrr_ix (sz:=2) (b:=b) (c:=c) (n:=n) (i:=J2) (by omega)
      have g1:=mrr_load he s8.get (i:=a) (by omega)
      have g2:=mrr_load he s8.get (i:=J2) (by omega)
      by_cases hij:I2<=J2
      ·have hij':decide ((I2:Int)<=J2)=true:=decide_eq_true (by omega)
       have hij'':decide ((J2:Int)<I2)=false:=decide_eq_false (by omega)
       have hnl:=hnl hij
       have f3:=mrr_ix (sz:=2) (b:=b) (c:=c) (n:=n) (i:=I2) (by omega)
       have b3:=i64_succ I2 (by omega)
       have b4:=i64_dec J2 (by omega) (by omega)
       simp only [F.f47_l5,i64_leq,hij',f1,f2,g1,g2,stdZ]
       refine hC _ _ _ _ fun z H10 e10 hz =>?_
       have s10:=s8.ext e10
       have g2:=mrr_load he s10.get (i:=J2) (by omega)
       have g3:=mrr_load he s10.get (i:=I2) (by omega)
       obtain ⟨w3,w4⟩:=mrr_swap he s10.get (i:=I2) (j:=J2) (by omega) (by omega)
       simp only [i64_lss,i64_gtr,hz,hnl,un_not_z,Bool.not_true,hij'',f2,f3,g2,g3,w3,w4,b3,b4,stdZ]
       rw [if_neg (by omega),dif_pos (by omega)] at r2
       exact hX3 (J2 - 1+1 - (I2+1)) (by omega) _ _ ⟨I2+1,J2 - 1,_,rfl,s10.put _,by rw [size_swp]; exact n2,r2,by omega,by omega,by omega,by omega,by omega,rfl⟩
      ·have hij':decide ((I2:Int)<=J2)=false:=decide_eq_false (by omega)
       have hij'':decide ((J2:Int)<I2)=true:=decide_eq_true (by omega)
       rw [if_pos (by omega)] at r2
       subst r2
       obtain ⟨w1,w2⟩:=mrr_swap he s8.get (i:=J2) (j:=a) (by omega) (by omega)
       simp only [F.f47_l5,i64_leq,i64_gtr,hij',hij'',f1,f2,g1,g2,w1,w2,stdZ]
       exact hQ _ (s8.put _)
     cases m with
     | zero=>exact exit5 r5 _ s8 fun h=>by omega
     | succ q' =>
      by_cases hc:I2<=q'+1/\LT d2[q'+1]! d2[a]! = false
      ·rw [scanDown,if_pos (by simp [hc.1,hc.2])] at r5
       have hc':decide ((I2:Int)<=((q'+1:Nat):Int))=true:=decide_eq_true (by omega)
       have f2:=mrr_ix (sz:=2) (b:=b) (c:=c) (n:=n) (i:=q'+1) (by omega)
       have g1:=mrr_load he s8.get (i:=a) (by omega)
       have g2:=mrr_load he s8.get (i:=q'+1) (by omega)
       have b4:binInt .sub (vi ((q'+1:Nat):Int)) (.int .i64 1)=some (vi (q':Int)):=i64_dec (q'+1) (by omega) (by omega)
       have hlt:=hc.2
       simp only [F.f47_l5,i64_leq,hc',f1,f2,g1,g2,stdZ]
       refine hC _ _ _ _ fun z H10 e10 hz =>?_
       simp only [i64_lss,hz,hlt,un_not_z,Bool.not_false,b4,stdZ]
       exact hX5 q' (by omega) _ _ ⟨s8.ext e10,q',rfl,r5,by omega,rfl⟩
      ·rw [scanDown,if_neg (by simpa using hc)] at r5
       exact exit5 r5 _ s8 fun h=>by simpa using fun h'=>hc ⟨h,h'⟩
    by_cases hc:p'<=q/\LT d2[p']! d2[a]! = true
    ·rw [if_pos (by simp [hc.1,hc.2])] at r4
     have hc':decide ((p':Int)<=q)=true:=decide_eq_true (by omega)
     have f2:=mrr_ix (sz:=2) (b:=b) (c:=c) (n:=n) (i:=p') (by omega)
     have g1:=mrr_load he s6.get (i:=a) (by omega)
     have g2:=mrr_load he s6.get (i:=p') (by omega)
     have b3:=i64_succ p' (by omega)
     simp only [F.f47_l4,i64_leq,hc',f1,f2,g1,g2,stdZ]
     refine hC _ _ _ _ fun z H10 e10 hz =>?_
     simp only [i64_lss,hz,hc.2,b3,stdZ]
     exact hX4 (q+1 - (p'+1)) (by omega) _ _ ⟨s6.ext e10,p'+1,rfl,r4,by omega,by omega,rfl⟩
    ·rw [if_neg (by simpa using hc)] at r4
     by_cases hpq:p'<=q
     ·have hc':decide ((p':Int)<=q)=true:=decide_eq_true (by omega)
      have hlt:LT d2[p']! d2[a]! = false:=by simpa using fun h=>hc ⟨hpq,h⟩
      have f2:=mrr_ix (sz:=2) (b:=b) (c:=c) (n:=n) (i:=p') (by omega)
      have g1:=mrr_load he s6.get (i:=a) (by omega)
      have g2:=mrr_load he s6.get (i:=p') (by omega)
      simp only [F.f47_l4,i64_leq,hc',f1,f2,g1,g2,stdZ]
      refine hC _ _ _ _ fun z H10 e10 hz =>?_
      simp only [i64_lss,hz,hlt,stdZ]
      exact exit4 r4 _ (s6.ext e10)
     ·have hc':decide ((p':Int)<=q)=false:=decide_eq_false (by omega)
      simp only [F.f47_l4,i64_leq,hc',stdZ]
      exact exit4 r4 _ s6
   ·have hij':decide ((I:Int)<=J)=false:=decide_eq_false (by omega)
    have hij'':decide ((J:Int)<I)=true:=decide_eq_true (by omega)
    obtain ⟨w1,w2⟩:=mrr_swap he s3.get (i:=J) (j:=a) (by omega) (by omega)
    simp only [F.f47_l2,i64_leq,i64_gtr,hij',hij'',f1,f2,g1,g2,w1,w2,stdZ]
    rw [if_pos (by omega)] at hQ
    exact hQ _ (s3.put _)
  cases m with
  | zero=>exact exit2 r1
  | succ q =>
   by_cases hc:I<=q+1/\LT d0[q+1]! d0[a]! = false
   ·rw [scanDown,if_pos (by simp [hc.1,hc.2])] at r1
    have hc':decide ((I:Int)<=((q+1:Nat):Int))=true:=decide_eq_true (by omega)
    have f2:=mrr_ix (sz:=2) (b:=b) (c:=c) (n:=n) (i:=q+1) (by omega)
    have g1:=mrr_load he s3.get (i:=a) (by omega)
    have g2:=mrr_load he s3.get (i:=q+1) (by omega)
    have b4:binInt .sub (vi ((q+1:Nat):Int)) (.int .i64 1)=some (vi (q:Int)):=i64_dec (q+1) (by omega) (by omega)
    have hlt:=hc.2
    simp only [F.f47_l2,i64_leq,hc',f1,f2,g1,g2,stdZ]
    refine hC _ _ _ _ fun z H10 e10 hz =>?_
    simp only [i64_lss,hz,hlt,un_not_z,Bool.not_false,b4,stdZ]
    exact hX q (by omega) _ _ ⟨s3.ext e10,q,rfl,r1,by omega,by omega,rfl⟩
   ·rw [scanDown,if_neg (by simpa using hc)] at r1
    exact exit2 r1
 by_cases hc:p<=e - 1/\LT d0[p]! d0[a]! = true
 ·rw [if_pos (by simp [hc.1,hc.2])] at r1
  have hc':decide ((p:Int)<=((e - 1:Nat):Int))=true:=decide_eq_true (by omega)
  have f2:=mrr_ix (sz:=2) (b:=b) (c:=c) (n:=n) (i:=p) (by omega)
  have g1:=mrr_load he s1.get (i:=a) (by omega)
  have g2:=mrr_load he s1.get (i:=p) (by omega)
  have b3:=i64_succ p (by omega)
  simp only [F.f47_l1,i64_leq,hc',f1,f2,g1,g2,stdZ]
  refine hC _ _ _ _ fun z H10 e10 hz =>?_
  simp only [i64_lss,hz,hc.2,b3,stdZ]
  exact hX (e - (p+1)) (by omega) _ _ ⟨s1.ext e10,p+1,rfl,r1,by omega,by omega,rfl⟩
 ·rw [if_neg (by simpa using hc)] at r1
  have exit1:=exit1 r1
  by_cases hpq:p<=e - 1
  ·have hc':decide ((p:Int)<=((e - 1:Nat):Int))=true:=decide_eq_true (by omega)
   have hlt:LT d0[p]! d0[a]! = false:=by simpa using fun h=>hc ⟨hpq,h⟩
   have f2:=mrr_ix (sz:=2) (b:=b) (c:=c) (n:=n) (i:=p) (by omega)
   have g1:=mrr_load he s1.get (i:=a) (by omega)
   have g2:=mrr_load he s1.get (i:=p) (by omega)
   simp only [F.f47_l1,i64_leq,hc',f1,f2,g1,g2,stdZ]
   refine hC _ _ _ _ fun z H10 e10 hz =>?_
   simp only [i64_lss,hz,hlt,stdZ]
   exact exit1 _ (s1.ext e10)
  ·have hc':decide ((p:Int)<=((e - 1:Nat):Int))=false:=decide_eq_false (by omega)
   simp only [F.f47_l1,i64_leq,hc',stdZ]
   exact exit1 _ s1
end
end Go.AM
end
section
namespace Go.AM
open Go.Sort
set_option maxRecDepth 20000
section
variable {α:Type} [Inhabited α] {E:Sy} {H H':AH} {Q:Value->AH->Prop} {b c n:Nat} {enc:α->List Value} {LT:α->α->Bool} {fv:Value} {d:Array α} {tail:List Value} {f:Option Nat}
theorem S.f48 (hE:Fold E) (he:EncOk 2 enc) (hC:CmpOk E fv enc LT) (hg:H.get b=arrM enc d tail f) (hn:d.size=n) (hsz:n<2 ^ 60) (a e pivot:Nat) (h1:a<=pivot) (h2:pivot<e) (hle:e<=n)
  (hQ:∀ H',SortMo H b enc tail f (partitionEqual LT d a e pivot).2 H'->Q (vi (partitionEqual LT d a e pivot).1) H'):E.call (E.fid i.f48) [slc b 0 n c,vi a,vi e,vi pivot,fv] H Q:=by
 apply hE.f48
 have f1:=mrr_ix (sz:=2) (b:=b) (c:=c) (n:=n) (i:=a) (by omega)
 have f2:=mrr_ix (sz:=2) (b:=b) (c:=c) (n:=n) (i:=pivot) (by omega)
 have g1:=mrr_load he hg (i:=a) (by omega)
 have g2:=mrr_load he hg (i:=pivot) (by omega)
 obtain ⟨w1,w2⟩:=mrr_swap he hg (i:=a) (j:=pivot) (by omega) (by omega)
 have b1:=i64_succ a (by omega)
 have b2:=i64_dec e (by omega) (by omega)
 simp only [F.f48,f1,f2,g1,g2,w1,w2,b1,b2,stdZ]
 have s0:=(SortMo.refl hg).put (swp d a pivot)
 have n0:(swp d a pivot).size=n:=by rw [size_swp]; exact hn
 unfold partitionEqual at hQ
 generalize hd0:swp d a pivot=d0 at *
 generalize H.put b (arrM enc d0 tail f)=H0 at *
 clear w1 w2 f2 g1 g2
 obtain ⟨R,hR⟩:∃ R,R=partEqLoop LT a (a+1) (e - 1) d0:=⟨_,rfl⟩
 rw [<- hR] at hQ
 refine LoopL.ind (fun m l H'=>∃ (p q:Nat) (d2:Array α),l=[slc b 0 n c,vi a,fv,vi p,vi q]/\SortMo H b enc tail f d2 H'/\d2.size=n/\R=partEqLoop LT a p q d2/\a+1<=p/\p<=q+1+1/\p<=e/\q<=e - 1/\a<=q/\m=q+1 - p) ?_ (e - 1+1 - (a+1)) ⟨a+1,e - 1,d0,rfl,s0,n0,hR,by omega,by omega,by omega,by omega,by omega,rfl⟩
 clear hR s0 n0 hd0
 rintro m _ H2 X3 hX3 ⟨p,q,d2,rfl,s2,n2,r2,hp1,hp2,hpe,hq1,hqa,rfl⟩
 rw [partEqLoop] at r2
 simp only [F.f48_l1,nth_0,nth_1,nth_2,nth_3,nth_4]
 obtain ⟨I2,hI2⟩:∃ I,I=scanUp (fun x => !LT d2[a]! x) d2 q p:=⟨_,rfl⟩
 obtain ⟨J2,hJ2⟩:∃ J,J=scanDown (fun x=>LT d2[a]! x) d2 I2 q:=⟨_,rfl⟩
 rw [<- hI2] at r2
 try simp only at r2
 rw [<- hJ2] at r2
 have hIl2:=sUp_le (fun x => !LT d2[a]! x) d2 q _ p (Nat.le_refl _)
 rw [<- hI2] at hIl2
 have hJl2:=sDown_le (fun x=>LT d2[a]! x) d2 I2 q
 rw [<- hJ2] at hJl2
 have hI2e:I2<=q+1\/(I2=p/\q+1<p):=by
  by_cases h:p<=q+1
  ·exact .inl (hIl2.2 h)
  ·refine .inr ⟨?_,by omega⟩
   rw [hI2,scanUp,if_neg (by simp; omega)]
 have hJ2e:I2<=q+1\/J2=q:=by
  rcases hI2e with h | ⟨h,h'⟩
  ·exact .inl h
  ·right
   rw [hJ2]
   cases q with
   | zero=>rfl
   | succ q=>rw [scanDown,if_neg (by simp; omega)]
 refine LoopL.ind (fun m l H'=>SortMo H b enc tail f d2 H'/\∃ p':Nat,l=[slc b 0 n c,vi a,fv,vi p',vi q]/\I2=scanUp (fun x => !LT d2[a]! x) d2 q p'/\p<=p'/\p'<=e/\m=q+1 - p') ?_ (q+1 - p) ⟨s2,p,rfl,hI2,Nat.le_refl _,by omega,rfl⟩
 rintro m _ H6 X4 hX4 ⟨s6,p',rfl,r4,hp3,hp4,rfl⟩
 rw [scanUp] at r4
 have exit4:I2=p'->∀ H7,SortMo H b enc tail f d2 H7->LoopL (fun l H X1=>F.f48_l3 E Q X3 (nth l 0) (nth l 1) (nth l 2) (nth l 3) (nth l 4) H X1) [slc b 0 n c,vi a,fv,vi p',vi q] H7:=by
  rintro rfl H7 s7
  clear hX4 r4
  refine LoopL.ind (fun m l H'=>SortMo H b enc tail f d2 H'/\∃ q':Nat,l=[slc b 0 n c,vi a,fv,vi I2,vi q']/\J2=scanDown (fun x=>LT d2[a]! x) d2 I2 q'/\q'<=q/\m=q') ?_ q ⟨s7,q,rfl,hJ2,Nat.le_refl _,rfl⟩
  rintro m _ H8 X5 hX5 ⟨s8,q',rfl,r5,hq3,rfl⟩
  have exit5:J2=m->(I2<=m->LT d2[a]! d2[m]! = false)->F.f48_l3 E Q X3 (slc b 0 n c) (vi a) fv (vi I2) (vi m) H8 X5:=by
   rintro rfl hnl
   clear hX5
   have f2:=mrr_ix (sz:=2) (b:=b) (c:=c) (n:=n) (i:=J2) (by omega)
   have g1:=mrr_load he s8.get (i:=a) (by omega)
   have g2:=mrr_load he s8.get (i:=J2) (by omega)
   by_cases hij:I2<=J2
   ·have hij':decide ((I2:Int)<=J2)=true:=decide_eq_true (by omega)
    have hij'':decide ((J2:Int)<I2)=false:=decide_eq_false (by omega)
    have hnl:=hnl hij
    have f3:=mrr_ix (sz:=2) (b:=b) (c:=c) (n:=n) (i:=I2) (by omega)
    have b3:=i64_succ I2 (by omega)
    have b4:=i64_dec J2 (by omega) (by omega)
    simp only [F.f48_l3,i64_leq,hij',f1,f2,g1,g2,stdZ]
    refine hC _ _ _ _ fun z H10 e10 hz =>?_
    have s10:=s8.ext e10
    have g2:=mrr_load he s10.get (i:=J2) (by omega)
    have g3:=mrr_load he s10.get (i:=I2) (by omega)
    obtain ⟨w3,w4⟩:=mrr_swap he s10.get (i:=I2) (j:=J2) (by omega) (by omega)
    simp only [i64_lss,i64_gtr,hz,hnl,hij'',f2,f3,g2,g3,w3,w4,b3,b4,stdZ]
    rw [if_neg (by omega),dif_pos (by omega)] at r2
    exact hX3 (J2 - 1+1 - (I2+1)) (by omega) _ _ ⟨I2+1,J2 - 1,_,rfl,s10.put _,by rw [size_swp]; exact n2,r2,by omega,by omega,by omega,by omega,by omega,rfl⟩
   ·have hij':decide ((I2:Int)<=J2)=false:=decide_eq_false (by omega)
    have hij'':decide ((J2:Int)<I2)=true:=decide_eq_true (by omega)
    rw [if_pos (by omega)] at r2
    subst r2
    simp only [F.f48_l3,i64_leq,i64_gtr,hij',hij'',stdZ]
    exact hQ _ s8
  cases m with
  | zero=>exact exit5 r5 fun h=>by omega
  | succ q' =>
   by_cases hc:I2<=q'+1/\LT d2[a]! d2[q'+1]! = true
   ·rw [scanDown,if_pos (by simp [hc.1,hc.2])] at r5
    have hc':decide ((I2:Int)<=((q'+1:Nat):Int))=true:=decide_eq_true (by omega)
    have f2:=mrr_ix (sz:=2) (b:=b) (c:=c) (n:=n) (i:=q'+1) (by omega)
    have g1:=mrr_load he s8.get (i:=a) (by omega)
    have g2:=mrr_load he s8.get (i:=q'+1) (by omega)
    have b4:binInt .sub (vi ((q'+1:Nat):Int)) (.int .i64 1)=some (vi (q':Int)):=i64_dec (q'+1) (by omega) (by omega)
    have hlt:=hc.2
    simp only [F.f48_l3,i64_leq,hc',f1,f2,g1,g2,stdZ]
    refine hC _ _ _ _ fun z H10 e10 hz =>?_
    simp only [i64_lss,hz,hlt,b4,stdZ]
    exact hX5 q' (by omega) _ _ ⟨s8.ext e10,q',rfl,r5,by omega,rfl⟩
   ·rw [scanDown,if_neg (by simpa using hc)] at r5
    exact exit5 r5 fun h=>by simpa using fun h'=>hc ⟨h,h'⟩
 by_cases hc:p'<=q/\LT d2[a]! d2[p']! = false
 ·rw [if_pos (by simp [hc.1,hc.2])] at r4
  have hc':decide ((p':Int)<=q)=true:=decide_eq_true (by omega)
  have f2:=mrr_ix (sz:=2) (b:=b) (c:=c) (n:=n) (i:=p') (by omega)
  have g1:=mrr_load he s6.get (i:=a) (by omega)
  have g2:=mrr_load he s6.get (i:=p') (by omega)
  have b3:=i64_succ p' (by omega)
  simp only [F.f48_l2,i64_leq,hc',f1,f2,g1,g2,stdZ]
  refine hC _ _ _ _ fun z H10 e10 hz =>?_
  simp only [i64_lss,hz,hc.2,un_not_z,Bool.not_false,b3,stdZ]
  exact hX4 (q+1 - (p'+1)) (by omega) _ _ ⟨s6.ext e10,p'+1,rfl,r4,by omega,by omega,rfl⟩
 ·rw [if_neg (by simpa using hc)] at r4
  by_cases hpq:p'<=q
  ·have hc':decide ((p':Int)<=q)=true:=decide_eq_true (by omega)
   have hlt:LT d2[a]! d2[p']! = true:=by simpa using fun h=>hc ⟨hpq,h⟩
   have f2:=mrr_ix (sz:=2) (b:=b) (c:=c) (n:=n) (i:=p') (by omega)
   have g1:=mrr_load he s6.get (i:=a) (by omega)
   have g2:=mrr_load he s6.get (i:=p') (by omega)
   simp only [F.f48_l2,i64_leq,hc',f1,f2,g1,g2,stdZ]
   refine hC _ _ _ _ fun z H10 e10 hz =>?_
   simp only [i64_lss,hz,hlt,un_not_z,Bool.not_true,stdZ]
   exact exit4 r4 _ (s6.ext e10)
  ·have hc':decide ((p':Int)<=q)=false:=decide_eq_false (by omega)
   simp only [F.f48_l2,i64_leq,hc',stdZ]
   exact exit4 r4 _ s6
end
end Go.AM
end
section
namespace Go.AM
open Go.Sort
set_option maxRecDepth 20000
section
variable {α:Type} [Inhabited α] {E:Sy} {H H':AH} {Q:Value->AH->Prop} {b c n:Nat} {enc:α->List Value} {LT:α->α->Bool} {fv:Value} {d:Array α} {tail:List Value} {f:Option Nat}
theorem S.f46 (hE:Fold E) (he:EncOk 2 enc) (hC:CmpOk E fv enc LT) (hg:H.get b=arrM enc d tail f) (hn:d.size=n) (hsz:n<2 ^ 60) (a e:Nat) (hae:a<e) (hle:e<=n)
    (hQ:∀ H',SortMo H b enc tail f (partialInsertionSort LT d a e).1 H'->Q (vb (partialInsertionSort LT d a e).2) H'):E.call (E.fid i.f46) [slc b 0 n c,vi a,vi e,fv] H Q:=by
  apply hE.f46
  have b1:=i64_succ a (by omega)
  simp only [F.f46,b1,stdZ]
  unfold partialInsertionSort at hQ
  obtain ⟨R,hR⟩:∃ R,R=partialIns LT a e 5 (a+1) d:=⟨_,rfl⟩
  rw [<- hR] at hQ
  refine LoopL.ind (fun m l H'=>∃ (i:Nat) (d1:Array α),l=[slc b 0 n c,vi a,vi e,fv,vi i,vi ((5 - m:Nat):Int)]/\SortMo H b enc tail f d1 H'/\d1.size=n/\R=partialIns LT a e m i d1/\a+1<=i/\i<=e/\m<=5) ?_ 5 ⟨a+1,d,rfl,.refl hg,hn,hR,Nat.le_refl _,by omega,Nat.le_refl _⟩
  rintro m _ H1 X hX ⟨i0,d1,rfl,s1,n1,r1,hi1,hi2,hm⟩
  cases m with
  | zero =>
    have c5:decide (((5 - 0:Nat):Int)<5)=false:=by decide
    simp only [F.f46_l1,i64_lss,c5,stdZ]
    rw [partialIns] at r1
    subst r1
    exact hQ _ s1
  | succ m =>
    have hms:decide (((5 - (m+1):Nat):Int)<5)=true:=decide_eq_true (by omega)
    have hmi:binInt .add (vi ((5 - (m+1):Nat):Int)) (.int .i64 1)=some (vi ((5 - m:Nat):Int)):=by
      rw [i64_succ _ (by omega)]; congr 3; omega
    have hX:∀ (i:Nat) (d2:Array α) H2,SortMo H b enc tail f d2 H2->d2.size=n->R=partialIns LT a e m i d2->a+1<=i->i<=e->X [slc b 0 n c,vi a,vi e,fv,vi i,vi ((5 - m:Nat):Int)] H2:=fun i d2 H2 q1 q2 q3 q4 q5=>hX m (by omega) _ _ ⟨i,d2,rfl,q1,q2,q3,q4,q5,by omega⟩
    generalize hk:5 - (m+1)=k at *
    generalize hk':5 - m=k' at *
    simp only [F.f46_l1,i64_lss,hms,stdZ]
    rw [partialIns_succ] at r1
    obtain ⟨I,hI⟩:∃ I,I=scanSorted LT d1 e i0:=⟨_,rfl⟩
    rw [<- hI] at r1
    refine LoopL.ind (fun m l H'=>SortMo H b enc tail f d1 H'/\∃ i':Nat,l=[slc b 0 n c,vi a,vi e,fv,vi i',vi k]/\I=scanSorted LT d1 e i'/\a+1<=i'/\i'<=e/\m=e - i') ?_ (e - i0) ⟨s1,i0,rfl,hI,hi1,hi2,rfl⟩
    clear s1
    rintro mm _ H2 X1 hX1 ⟨s1,i',rfl,r2,hi3,hi4,rfl⟩
    rw [scanSorted] at r2
    have b2:binInt .sub (vi e) (vi a)=some (vi ((e - a:Nat):Int)):=i64_sub_nat e a (by omega) (by omega)
    have hkk:binInt .add (vi k) (.int .i64 1)=some (vi k'):=hmi
    have j1:∀ (d3:Array α) H3,SortMo H b enc tail f d3 H3->d3.size=n->a+1<=I->I<e->R=partialIns LT a e m I (fixUp LT e I d3)->F.f46_j1 E Q X (slc b 0 n c) (vi a) (vi e) fv (vi I) (vi k) H3:=by
      intro d3 H3 s3 n3 hI3 hI4 r3
      unfold fixUp at r3
      have b5:binInt .sub (vi e) (vi I)=some (vi ((e - I:Nat):Int)):=i64_sub_nat e I (by omega) (by omega)
      by_cases c3:e - I>=2
      · rw [if_pos c3] at r3
        have c3':decide ((2:Int)<=((e - I:Nat):Int))=true:=decide_eq_true (by omega)
        have b6:=i64_succ I (by omega)
        simp only [F.f46_j1,b5,i64_geq,c3',b6,stdZ]
        obtain ⟨D,hD⟩:∃ D,D=shiftUp LT e (I+1) d3:=⟨_,rfl⟩
        rw [<- hD] at r3
        refine LoopL.ind (fun mm l H'=>∃ (q:Nat) (d4:Array α),l=[slc b 0 n c,vi a,vi e,fv,vi I,vi k,vi q]/\SortMo H b enc tail f d4 H'/\d4.size=n/\D=shiftUp LT e q d4/\1<=q/\q<=e/\mm=e - q) ?_ (e - (I+1)) ⟨I+1,d3,rfl,s3,n3,hD,by omega,by omega,rfl⟩
        rintro mm _ H4 X5 hX5 ⟨q,d4,rfl,s4,n4,r4,hq1,hq2,rfl⟩
        rw [shiftUp] at r4
        have done:D=d4->∀ H5,SortMo H b enc tail f d4 H5->X [slc b 0 n c,vi a,vi e,fv,vi I,vi k'] H5:=by
          rintro rfl H5 s5
          exact hX I D H5 s5 n4 r3 hI3 (by omega)
        by_cases c4:q<e
        · have c4':decide ((q:Int)<e)=true:=decide_eq_true (by omega)
          rw [if_pos c4] at r4
          have b7:=i64_dec q (by omega) (by omega)
          have b8:=i64_succ q (by omega)
          have f1:=mrr_ix (sz:=2) (b:=b) (c:=c) (n:=n) (i:=q) (by omega)
          have f2:=mrr_ix (sz:=2) (b:=b) (c:=c) (n:=n) (i:=q - 1) (by omega)
          have g1:=mrr_load he s4.get (i:=q) (by omega)
          have g2:=mrr_load he s4.get (i:=q - 1) (by omega)
          have hY:=fun (d5:Array α) H5 q1 q2 q3=>hX5 (e - (q+1)) (by omega) [slc b 0 n c,vi a,vi e,fv,vi I,vi k,vi ((q+1:Nat):Int)] H5 ⟨q+1,d5,rfl,q1,q2,q3,by omega,by omega,rfl⟩
          have hqn:q<n:=by omega
          have hqn':q - 1<n:=by omega
          generalize hq':q - 1=q' at *
          generalize hq'':q+1=q'' at *
          simp only [F.f46_l3,i64_lss,c4',b7,f1,f2,g1,g2,stdZ]
          refine hC _ _ _ _ fun z H5 e5 hz =>?_
          have s5:=s4.ext e5
          cases hl:LT d4[q]! d4[q']! with
          | true =>
            simp only [hl,Bool.not_true,Bool.false_eq_true,if_false] at r4
            have g1:=mrr_load he s5.get (i:=q) (by omega)
            have g2:=mrr_load he s5.get (i:=q') (by omega)
            obtain ⟨w1,w2⟩:=mrr_swap he s5.get (i:=q) (j:=q') (by omega) (by omega)
            simp only [i64_lss,hz,hl,un_not_z,Bool.not_true,b7,b8,f1,f2,g1,g2,w1,w2,stdZ]
            exact hY _ _ (s5.put _) (by rw [size_swp]; exact n4) r4
          | false =>
            simp only [hl,Bool.not_false,if_true] at r4
            simp only [i64_lss,hz,hl,un_not_z,Bool.not_false,hkk,stdZ]
            exact done r4 _ s5
        · have c4':decide ((q:Int)<e)=false:=decide_eq_false (by omega)
          rw [if_neg c4] at r4
          simp only [F.f46_l3,i64_lss,c4',hkk,stdZ]
          exact done r4 _ s4
      · rw [if_neg c3] at r3
        have c3':decide ((2:Int)<=((e - I:Nat):Int))=false:=decide_eq_false (by omega)
        simp only [F.f46_j1,b5,i64_geq,c3',hkk,stdZ]
        exact hX I d3 H3 s3 n3 r3 hI3 (by omega)
    have exit:I=i'->∀ H3,SortMo H b enc tail f d1 H3 ->
        (opt (binInt .eql (vi i') (vi e)) fun v15 =>
         ifB v15 (Q (.bool true) H3) (
         opt (binInt .sub (vi e) (vi a)) fun v16 =>
         opt (binInt .lss v16 (.int .i64 50)) fun v17 =>
         ifB v17 (Q (.bool false) H3) (
         opt (binInt .sub (vi i') (.int .i64 1)) fun v18 =>
         opt (binInt .sub (vi i') (.int .i64 1)) fun v19 =>
         opt (ixSlc 2 (slc b 0 n c) v19) fun v20 =>
         opt (loadN 2 v20 H3) fun v21 =>
         opt (ixSlc 2 (slc b 0 n c) (vi i')) fun v22 =>
         opt (loadN 2 v22 H3) fun v23 =>
         opt (ixSlc 2 (slc b 0 n c) (vi i')) fun v24 =>
         opt (storeN 2 v24 v21 H3) fun H12 =>
         opt (ixSlc 2 (slc b 0 n c) v18) fun v25 =>
         opt (storeN 2 v25 v23 H12) fun H13 =>
         opt (binInt .sub (vi i') (vi a)) fun v26 =>
         opt (binInt .geq v26 (.int .i64 2)) fun v27 =>
         ifB v27 (
         opt (binInt .sub (vi i') (.int .i64 1)) fun v28 =>
         LoopL (fun l H X1=>F.f46_l4 E Q X (nth l 0) (nth l 1) (nth l 2) (nth l 3) (nth l 4) (nth l 5) (nth l 6) H X1) [slc b 0 n c,vi a,vi e,fv,vi i',vi k,v28] H13) (
         F.f46_j1 E Q X (slc b 0 n c) (vi a) (vi e) fv (vi i') (vi k) H13)))):=by
      rintro rfl H3 s3
      clear hX1
      by_cases c1:I=e
      · rw [if_pos c1] at r1
        subst r1
        have c1':decide ((I:Int)=e)=true:=decide_eq_true (by omega)
        simp only [i64_eql,c1',stdZ]
        exact hQ _ s3
      rw [if_neg c1] at r1
      have c1':decide ((I:Int)=e)=false:=decide_eq_false (by omega)
      by_cases c2:e - a<50
      · rw [if_pos c2] at r1
        subst r1
        have c2':decide (((e - a:Nat):Int)<50)=true:=decide_eq_true (by omega)
        simp only [i64_eql,c1',b2,i64_lss,c2',stdZ]
        exact hQ _ s3
      rw [if_neg c2] at r1
      have c2':decide (((e - a:Nat):Int)<50)=false:=decide_eq_false (by omega)
      have b3:=i64_dec I (by omega) (by omega)
      have b4:binInt .sub (vi I) (vi a)=some (vi ((I - a:Nat):Int)):=i64_sub_nat I a (by omega) (by omega)
      have f1:=mrr_ix (sz:=2) (b:=b) (c:=c) (n:=n) (i:=I) (by omega)
      have f2:=mrr_ix (sz:=2) (b:=b) (c:=c) (n:=n) (i:=I - 1) (by omega)
      have g1:=mrr_load he s3.get (i:=I) (by omega)
      have g2:=mrr_load he s3.get (i:=I - 1) (by omega)
      obtain ⟨w1,w2⟩:=mrr_swap he s3.get (i:=I) (j:=I - 1) (by omega) (by omega)
      have s2:=s3.put (swp d1 I (I - 1))
      have n2:(swp d1 I (I - 1)).size=n:=by rw [size_swp]; exact n1
      unfold fixDown at r1
      by_cases c3:I - a>=2
      · rw [if_pos c3] at r1
        have c3':decide ((2:Int)<=((I - a:Nat):Int))=true:=decide_eq_true (by omega)
        obtain ⟨D,hD⟩:∃ D,D=shiftDown LT (I - 1) (swp d1 I (I - 1)):=⟨_,rfl⟩
        rw [<- hD] at r1
        have hI1n:I - 1<n:=by omega
        simp only [i64_eql,c1',b2,i64_lss,c2',b3,b4,i64_geq,f1,f2,g1,g2,w1,w2,c3',stdZ]
        refine LoopL.ind (fun mm l H'=>∃ (q:Nat) (d4:Array α),l=[slc b 0 n c,vi a,vi e,fv,vi I,vi k,vi q]/\SortMo H b enc tail f d4 H'/\d4.size=n/\D=shiftDown LT q d4/\q<n/\mm=q) ?_ (I - 1) ⟨I - 1,_,rfl,s2,n2,hD,hI1n,rfl⟩
        clear s2 n2 hD g1 g2 w1 w2
        rintro mm _ H4 X5 hX5 ⟨q,d4,rfl,s4,n4,r4,hq1,rfl⟩
        cases mm with
        | zero =>
          have c4':decide ((1:Int)<=((0:Nat):Int))=false:=by decide
          simp only [F.f46_l4,i64_geq,c4',stdZ]
          rw [shiftDown] at r4
          subst r4
          exact j1 _ _ s4 n4 hi3 (by omega) r1
        | succ q =>
          have c4':decide ((1:Int)<=((q+1:Nat):Int))=true:=decide_eq_true (by omega)
          rw [shiftDown] at r4
          have b7:binInt .sub (vi ((q+1:Nat):Int)) (vi 1)=some (vi (q:Int)):=i64_dec (q+1) (by omega) (by omega)
          have f1:=mrr_ix (sz:=2) (b:=b) (c:=c) (n:=n) (i:=q+1) (by omega)
          have f2:=mrr_ix (sz:=2) (b:=b) (c:=c) (n:=n) (i:=q) (by omega)
          have g1:=mrr_load he s4.get (i:=q+1) (by omega)
          have g2:=mrr_load he s4.get (i:=q) (by omega)
          have hY:=fun (d5:Array α) H5 q1 q2 q3=>hX5 q (by omega) [slc b 0 n c,vi a,vi e,fv,vi I,vi k,vi (q:Int)] H5 ⟨q,d5,rfl,q1,q2,q3,by omega,rfl⟩
          generalize hq':q+1=q' at *
          simp only [F.f46_l4,i64_geq,c4',b7,f1,f2,g1,g2,stdZ]
          refine hC _ _ _ _ fun z H5 e5 hz =>?_
          have s5:=s4.ext e5
          cases hl:LT d4[q']! d4[q]! with
          | true =>
            simp only [hl,Bool.not_true,Bool.false_eq_true,if_false] at r4
            have g1:=mrr_load he s5.get (i:=q') (by omega)
            have g2:=mrr_load he s5.get (i:=q) (by omega)
            obtain ⟨w1,w2⟩:=mrr_swap he s5.get (i:=q') (j:=q) (by omega) (by omega)
            simp only [i64_lss,hz,hl,un_not_z,Bool.not_true,b7,f1,f2,g1,g2,w1,w2,stdZ]
            exact hY _ _ (s5.put _) (by rw [size_swp]; exact n4) r4
          | false =>
            simp only [hl,Bool.not_false,if_true] at r4
            simp only [i64_lss,hz,hl,un_not_z,Bool.not_false,stdZ]
            subst r4
            exact j1 _ _ s5 n4 hi3 (by omega) r1
      · rw [if_neg c3] at r1
        have c3':decide ((2:Int)<=((I - a:Nat):Int))=false:=decide_eq_false (by omega)
        simp only [i64_eql,c1',b2,i64_lss,c2',b3,b4,i64_geq,f1,f2,g1,g2,w1,w2,c3',stdZ]
        exact j1 _ _ s2 n2 hi3 (by omega) r1
    have b7:=i64_succ i' (by omega)
    by_cases c4:i'<e
    · have c4':decide ((i':Int)<e)=true:=decide_eq_true (by omega)
      have b6:=i64_dec i' (by omega) (by omega)
      have f1:=mrr_ix (sz:=2) (b:=b) (c:=c) (n:=n) (i:=i') (by omega)
      have f2:=mrr_ix (sz:=2) (b:=b) (c:=c) (n:=n) (i:=i' - 1) (by omega)
      have g1:=mrr_load he s1.get (i:=i') (by omega)
      have g2:=mrr_load he s1.get (i:=i' - 1) (by omega)
      simp only [F.f46_l2,i64_lss,c4',b6,f1,f2,g1,g2,stdZ]
      refine hC _ _ _ _ fun z H5 e5 hz =>?_
      have s5:=s1.ext e5
      cases hl:LT d1[i']! d1[i' - 1]! with
      | true =>
        rw [if_neg (by simp [hl])] at r2
        simp only [i64_lss,hz,hl,un_not_z,Bool.not_true,stdZ]
        exact exit r2 _ s5
      | false =>
        rw [if_pos (by simp [hl,c4])] at r2
        simp only [i64_lss,hz,hl,un_not_z,Bool.not_false,b7,stdZ]
        exact hX1 (e - (i'+1)) (by omega) [slc b 0 n c,vi a,vi e,fv,vi ((i'+1:Nat):Int),vi k] _ ⟨s5,i'+1,rfl,r2,by omega,by omega,rfl⟩
    · have c4':decide ((i':Int)<e)=false:=decide_eq_false (by omega)
      rw [if_neg (by simp [c4])] at r2
      simp only [F.f46_l2,i64_lss,c4',stdZ]
      exact exit r2 _ s1
end
end Go.AM
end
section
namespace Go.AM
open Go.Sort
set_option maxRecDepth 20000
section
variable {α:Type} [Inhabited α] {E:Sy} {H H':AH} {Q:Value->AH->Prop} {b c n:Nat} {enc:α->List Value} {LT:α->α->Bool} {fv:Value} {d:Array α} {tail:List Value} {f:Option Nat}
theorem S.f45 (hE:Fold E) (he:EncOk 2 enc) (hC:CmpOk E fv enc LT) (hg:H.get b=arrM enc d tail f) (hn:d.size=n) (p q:Nat) (hp:p<n) (hq:q<n) (s k:Nat) (hs:H.get s = .cells [vi k] none) (hk:k<1000) (hsb:s≠b)
  (hQ:∀ r1 r2 k' H',((r1=p/\r2=q)\/(r1=q/\r2=p))->Only [s] H H'->H'.get s = .cells [vi (k':Nat)] none->k'<=k+1->Q (.tuple #[vi (r1:Nat),vi (r2:Nat)]) H') :
  E.call (E.fid i.f45) [slc b 0 n c,vi p,vi q,ptr s 0,fv] H Q:=by
 apply hE.f45
 have f1:=mrr_ix (sz:=2) (b:=b) (c:=c) (n:=n) (i:=p) hp
 have f2:=mrr_ix (sz:=2) (b:=b) (c:=c) (n:=n) (i:=q) hq
 have g1:=mrr_load he hg (i:=p) (by omega)
 have g2:=mrr_load he hg (i:=q) (by omega)
 have hlt:=AH.lt_cells hs
 have b1:=i64_succ k (by omega)
 simp only [F.f45,f1,f2,g1,g2,stdZ]
 refine hC _ _ _ _ fun z H1 e1 hz =>?_
 have hs1:=e1.cells hs
 have hlt1:=AH.lt_cells hs1
 cases hl:LT d[q]! d[p]! with
 | true =>
  have st:store1 (ptr s 0) (vi ((k+1:Nat):Int)) H1=some (H1.put s (.cells [vi ((k+1:Nat):Int)] none)):=by
   rw [store1_ptr,if_pos (show plain1 (vi ((k+1:Nat):Int))=true from rfl),hs1]; rfl
  have hl0:[vi (k:Int)][0]? = some (vi k):=rfl
  simp only [i64_lss,hz,hl,hs1,hl0,b1,st,stdZ]
  exact hQ q p (k+1) _ (.inr ⟨rfl,rfl⟩) (e1.only.put (.inl (by simp)) _) (AH.get_put_self _ _ hlt1) (Nat.le_refl _)
 | false =>
  simp only [i64_lss,hz,hl,stdZ]
  exact hQ p q k _ (.inl ⟨rfl,rfl⟩) e1.only hs1 (by omega)
theorem S.f43 (hE:Fold E) (he:EncOk 2 enc) (hC:CmpOk E fv enc LT) (hg:H.get b=arrM enc d tail f) (hn:d.size=n) (p q r:Nat) (hp:p<n) (hq:q<n) (hr:r<n) (s k:Nat) (hs:H.get s = .cells [vi k] none) (hk:k<900) (hsb:s≠b)
  (hQ:∀ m k' H',(m=p\/m=q\/m=r)->Only [s] H H'->H'.get s = .cells [vi (k':Nat)] none->k'<=k+3->Q (vi (m:Nat)) H') :
  E.call (E.fid i.f43) [slc b 0 n c,vi p,vi q,vi r,ptr s 0,fv] H Q:=by
 apply hE.f43
 have keep:∀ {H'},Only [s] H H'->H'.get b=arrM enc d tail f:=fun o=>by rw [o.get (mrr_lt hg) (by simpa using Ne.symm hsb)]; exact hg
 simp only [F.f43,stdZ]
 refine S.f45 hE he hC hg hn p q hp hq s k hs (by omega) hsb fun a1 a2 k1 H1 e1 o1 s1 l1 =>?_
 simp only [ext_tuple,List.getElem?_cons_zero,List.getElem?_cons_succ,stdZ]
 refine S.f45 hE he hC (keep o1) hn a2 r (by omega) hr s k1 s1 (by omega) hsb fun a3 a4 k2 H2 e2 o2 s2 l2 =>?_
 have o12:=o1.trans' o2
 simp only [ext_tuple,List.getElem?_cons_zero,List.getElem?_cons_succ,stdZ]
 refine S.f45 hE he hC (keep o12) hn a1 a3 (by omega) (by omega) s k2 s2 (by omega) hsb fun a5 a6 k3 H3 e3 o3 s3 l3 =>?_
 simp only [ext_tuple,List.getElem?_cons_zero,List.getElem?_cons_succ,stdZ]
 exact hQ a6 k3 H3 (by omega) (o12.trans' o3) s3 (by omega)
theorem S.f42 (hE:Fold E) (he:EncOk 2 enc) (hC:CmpOk E fv enc LT) (hg:H.get b=arrM enc d tail f) (hn:d.size=n) (hsz:n<2 ^ 60) (p:Nat) (hp0:1<=p) (hp:p+1<n) (s k:Nat) (hs:H.get s = .cells [vi k] none) (hk:k<900) (hsb:s≠b)
  (hQ:∀ m k' H',(p - 1<=m/\m<=p+1)->Only [s] H H'->H'.get s = .cells [vi (k':Nat)] none->k'<=k+3->Q (vi (m:Nat)) H') :
  E.call (E.fid i.f42) [slc b 0 n c,vi p,ptr s 0,fv] H Q:=by
 apply hE.f42
 have b1:=i64_dec p hp0 (by omega)
 have b2:=i64_succ p (by omega)
 simp only [F.f42,b1,b2,stdZ]
 refine S.f43 hE he hC hg hn (p - 1) p (p+1) (by omega) (by omega) hp s k hs hk hsb fun m k' H' e1 o1 s1 l1=>hQ m k' H' (by omega) o1 s1 l1
theorem S.f38 (hE:Fold E) (he:EncOk 2 enc) (hC:CmpOk E fv enc LT) (hg:H.get b=arrM enc d tail f) (hn:d.size=n) (hsz:n<2 ^ 60) (a e:Nat) (hae:a+8<=e) (hle:e<=n)
  (hQ:∀ (m:Nat) (h:Int) H',a<=m->m<e->Ext H H'->Q (.tuple #[vi m,vi h]) H'):E.call (E.fid i.f38) [slc b 0 n c,vi a,vi e,fv] H Q:=by
 apply hE.f38
 have a1:binInt .sub (vi e) (vi a)=some (vi ((e - a:Nat):Int)):=i64_sub_nat e a (by omega) (by omega)
 have hbl:=mrr_lt hg
 generalize hw:e - a=w at *
 have a2:binInt .quo (vi (w:Int)) (.int .i64 4)=some (vi ((w / 4:Nat):Int)):=i64_quo_num w 4 (by decide) (by omega)
 have hq4:w / 4*4<=w:=Nat.div_mul_le_self _ _
 have hq4':1<=w / 4:=by omega
 have hq50:50<=w->12<=w / 4:=fun h=>by omega
 generalize hq:w / 4=q at *
 have m1:binInt .mul (vi (q:Int)) (.int .i64 1)=some (vi ((q*1:Nat):Int)):=by rw [i64_mul (by omega) (by omega)]; congr 2
 have m2:binInt .mul (vi (q:Int)) (.int .i64 2)=some (vi ((q*2:Nat):Int)):=by rw [i64_mul (by omega) (by omega)]; congr 2
 have m3:binInt .mul (vi (q:Int)) (.int .i64 3)=some (vi ((q*3:Nat):Int)):=by rw [i64_mul (by omega) (by omega)]; congr 2
 have p1:=i64_add_nat a (q*1) (by omega)
 have p2:=i64_add_nat a (q*2) (by omega)
 have p3:=i64_add_nat a (q*3) (by omega)
 have c8:decide ((8:Int)<=w)=true:=decide_eq_true (by omega)
 have hg1:(H.new (.cells [vi 0] none)).get b=arrM enc d tail f:=by rw [AH.get_new_lt _ _ hbl]; exact hg
 have hs1:(H.new (.cells [vi 0] none)).get H.next = .cells [vi ((0:Nat):Int)] none:=AH.get_new_self _ _
 have hsb:H.next≠b:=by omega
 have x1:Ext H (H.new (.cells [vi 0] none)):=(Ext.refl H).new _
 have ext_of:∀ {H'},Only [H.next] (H.new (.cells [vi 0] none)) H'->Ext H H':=fun o=>o.ext x1 (by simp)
 have keep:∀ {H'},Only [H.next] (H.new (.cells [vi 0] none)) H'->H'.get b=arrM enc d tail f:=fun o=>by rw [o.get (mrr_lt hg1) (by simpa using Ne.symm hsb)]; exact hg1
 have last:∀ (m k:Nat) H',a<=m->m<e->Ext H H'->H'.get H.next = .cells [vi (k:Nat)] none->F.f38_j1 E Q (ptr H.next 0) (vi m) H':=by
  intro m k H' h1 h2 e1 s1
  have hl0:[vi (k:Int)][0]? = some (vi k):=rfl
  by_cases k0:(k:Int)=0
  ·have d0:decide ((k:Int)=0)=true:=decide_eq_true k0
   simp only [F.f38_j1,s1,hl0,i64_eql,d0,stdZ]
   exact hQ m _ H' h1 h2 e1
  ·have d0:decide ((k:Int)=0)=false:=decide_eq_false k0
   by_cases k12:(k:Int)=12
   ·have d12:decide ((k:Int)=12)=true:=decide_eq_true k12
    simp only [F.f38_j1,s1,hl0,i64_eql,d0,d12,stdZ]
    exact hQ m _ H' h1 h2 e1
   ·have d12:decide ((k:Int)=12)=false:=decide_eq_false k12
    simp only [F.f38_j1,s1,hl0,i64_eql,d0,d12,stdZ]
    exact hQ m _ H' h1 h2 e1
 have last2:∀ (x y z k:Nat) H',a<=x->x<e->a<=y->y<e->a<=z->z<e->Only [H.next] (H.new (.cells [vi 0] none)) H'->H'.get H.next = .cells [vi (k:Nat)] none->k<900->F.f38_j2 E Q (slc b 0 n c) fv (ptr H.next 0) (vi x) (vi y) (vi z) H':=by
  intro x y z k H' h1 h2 h3 h4 h5 h6 o1 s1 hk
  simp only [F.f38_j2,stdZ]
  refine S.f43 hE he hC (keep o1) hn x y z (by omega) (by omega) (by omega) H.next k s1 hk hsb fun m k' H2 hm o2 s2 _ =>?_
  exact last m k' H2 (by omega) (by omega) (ext_of (o1.trans' o2)) s2
 by_cases c50:50<=w
 ·have c50':decide ((50:Int)<=w)=true:=decide_eq_true (by omega)
  have hq50:=hq50 c50
  have g1:a+1<=a+q*1/\a+q*1+1<e:=by omega
  have g2:a+1<=a+q*2/\a+q*2+1<e:=by omega
  have g3:a+1<=a+q*3/\a+q*3+1<e:=by omega
  generalize hx:a+q*1=x at *
  generalize hy:a+q*2=y at *
  generalize hz:a+q*3=z at *
  generalize q*1=q1 at *
  generalize q*2=q2 at *
  generalize q*3=q3 at *
  simp only [F.f38,allocW_eq,a1,a2,m1,m2,m3,p1,p2,p3,i64_geq,c8,c50',stdZ]
  refine S.f42 hE he hC hg1 hn hsz x (by omega) (by omega) H.next 0 hs1 (by omega) hsb fun r1 k1 H1 e1 o1 s1 l1 =>?_
  refine S.f42 hE he hC (keep o1) hn hsz y (by omega) (by omega) H.next k1 s1 (by omega) hsb fun r2 k2 H2 e2 o2 s2 l2 =>?_
  refine S.f42 hE he hC (keep (o1.trans' o2)) hn hsz z (by omega) (by omega) H.next k2 s2 (by omega) hsb fun r3 k3 H3 e3 o3 s3 l3 =>?_
  exact last2 r1 r2 r3 k3 H3 (by omega) (by omega) (by omega) (by omega) (by omega) (by omega) ((o1.trans' o2).trans' o3) s3 (by omega)
 ·have c50':decide ((50:Int)<=w)=false:=decide_eq_false (by omega)
  have g1:a+q*1<e:=by omega
  have g2:a+q*2<e:=by omega
  have g3:a+q*3<e:=by omega
  have g0:a<=a+q*1/\a<=a+q*2/\a<=a+q*3:=by omega
  generalize hx:a+q*1=x at *
  generalize hy:a+q*2=y at *
  generalize hz:a+q*3=z at *
  generalize q*1=q1 at *
  generalize q*2=q2 at *
  generalize q*3=q3 at *
  simp only [F.f38,allocW_eq,a1,a2,m1,m2,m3,p1,p2,p3,i64_geq,c8,c50',stdZ]
  exact last2 x y z 0 _ g0.1 g1 g0.2.1 g2 g0.2.2 g3 (Only.refl _ _) hs1 (by omega)
theorem S.f37 (hE:Fold E) (he:EncOk 2 enc) (hg:H.get b=arrM enc d tail f) (hn:d.size=n) (hsz:n<2 ^ 31) (a e:Nat) (hae:a+8<=e) (hle:e<=n)
  (hQ:∀ d' H',PermIn a e d d'->SortMo H b enc tail f d' H'->Q (.tuple #[]) H'):E.call (E.fid i.f37) [slc b 0 n c,vi a,vi e,fv] H Q:=by
 apply hE.f37
 have a1:binInt .sub (vi e) (vi a)=some (vi ((e - a:Nat):Int)):=i64_sub_nat e a (by omega) (by omega)
 have hbl:=mrr_lt hg
 generalize hw:e - a=w at *
 have a2:binInt .quo (vi (w:Int)) (.int .i64 4)=some (vi ((w / 4:Nat):Int)):=i64_quo_num w 4 (by decide) (by omega)
 have hq4:w / 4*4<=w:=Nat.div_mul_le_self _ _
 have hq4':2<=w / 4:=by omega
 generalize hq:w / 4=q at *
 have m2:binInt .mul (vi (q:Int)) (.int .i64 2)=some (vi ((q*2:Nat):Int)):=by rw [i64_mul (by omega) (by omega)]; congr 2
 have p2:=i64_add_nat a (q*2) (by omega)
 have p3:=i64_dec (a+q*2) (by omega) (by omega)
 have p4:=i64_succ (a+q*2) (by omega)
 have c8:decide ((8:Int)<=w)=true:=decide_eq_true (by omega)
 have hc:convInt .u64 (vi (w:Int))=some (u64 (BitVec.ofNat 64 w)):=by rw [i64_to_u64,BitVec.ofInt_natCast]
 have hm2:2 ^ bitsLen w<=2*w:=two_pow_bitsLen_le (by omega)
 have hm1:=Nat.two_pow_pos (bitsLen w)
 generalize hM:2 ^ bitsLen w=M at *
 have gx:a+1<=a+q*2/\a+q*2+1<e:=by omega
 generalize hx:a+q*2=x at *
 generalize q*2=q2 at *
 have x1:Ext H (H.new (.cells [u64 (BitVec.ofNat 64 w)] none)):=(Ext.refl H).new _
 simp [F.f37,a1,a2,m2,p2,p3,c8,hc]
 refine S.f44 hE w (by omega) ?_
 rw [hM]
 simp [a2,m2,p2,p3]
 refine LoopL.ind (fun m l H'=>∃ (j:Nat) (d1:Array α) (y:BitVec 64),l=[slc b 0 n c,vi a,vi w,ptr H.next 0,u64 (BitVec.ofNat 64 M),vi j]/\SortMo H b enc tail f d1 H'/\d1.size=n/\PermIn a e d d1/\H'.get H.next = .cells [u64 y] none/\a<=j/\j<=x+2/\m=x+2 - j) ?_ (x+2 - (x - 1))
  ⟨x - 1,d,_,by simp,⟨x1.only,by rw [AH.get_new_lt _ _ hbl]; exact hg⟩,hn,permIn_refl _ _ _,AH.get_new_self _ _,by omega,by omega,rfl⟩
 rintro m _ H1 X hX ⟨j,d1,y,rfl,s1,n1,pp,hb1,hj1,hj2,rfl⟩
 by_cases cj:j<=x+1
 ·have cj':decide ((j:Int)<=((x+1:Nat):Int))=true:=decide_eq_true (by omega)
  have pj:=i64_succ j (by omega)
  have fin:∀ (o:Nat) (y':BitVec 64),o<w->F.f37_j1 E Q X (slc b 0 n c) (vi a) (vi w) (ptr H.next 0) (u64 (BitVec.ofNat 64 M)) (vi j) (vi o) (H1.put H.next (.cells [u64 y'] none)):=by
   intro o y' ho
   have hnb:b≠H.next:=by omega
   have s2:SortMo H b enc tail f d1 (H1.put H.next (.cells [u64 y'] none)):=⟨s1.only.put (.inr (Nat.le_refl _)) _,by rw [AH.get_put_ne _ _ hnb]; exact s1.get⟩
   have pa:=i64_add_nat a o (by omega)
   have f1:=mrr_ix (sz:=2) (b:=b) (c:=c) (n:=n) (i:=j) (by omega)
   have f2:=mrr_ix (sz:=2) (b:=b) (c:=c) (n:=n) (i:=a+o) (by omega)
   have g1:=mrr_load he s2.get (i:=j) (by omega)
   have g2:=mrr_load he s2.get (i:=a+o) (by omega)
   obtain ⟨w1,w2⟩:=mrr_swap he s2.get (i:=j) (j:=a+o) (by omega) (by omega)
   have hpp:=swp_permIn d1 a e j (a+o) hj1 (by omega) (by omega) (by omega) (by omega)
   have hX:=hX (x+2 - (j+1)) (by omega) [slc b 0 n c,vi a,vi w,ptr H.next 0,u64 (BitVec.ofNat 64 M),vi ((j+1:Nat):Int)] _ ⟨j+1,_,y',rfl,s2.put (swp d1 j (a+o)),by rw [size_swp]; exact n1,permIn_trans _ _ _ _ _ pp hpp,by rw [AH.get_put_ne _ _ (Ne.symm hnb),AH.get_put_self _ _ (AH.lt_cells hb1)],by omega,by omega,rfl⟩
   simp only [F.f37_j1,pa,f1,f2,g1,g2,w1,w2,pj,stdZ]
   exact hX
  simp only [F.f37_l1,a2,m2,p2,p4,i64_leq,cj',stdZ]
  refine S.f56 hE H.next y hb1 fun y' =>?_
  have l1:(.int .u64 1:Value)=u64 1#64:=rfl
  have hsub:BitVec.ofNat 64 M - 1#64=BitVec.ofNat 64 (M - 1):=by
   apply BitVec.eq_of_toNat_eq
   rw [BitVec.toNat_sub,BitVec.toNat_ofNat,BitVec.toNat_ofNat,BitVec.toNat_ofNat]
   omega
  have hand:(y'&&&BitVec.ofNat 64 (M - 1)).toNat<=M - 1:=by
   rw [BitVec.toNat_and]
   refine Nat.le_trans Nat.and_le_right ?_
   rw [BitVec.toNat_ofNat]
   exact Nat.mod_le _ _
  have hcv:∀ z:BitVec 64,z.toNat<2 ^ 62->convInt .i64 (u64 z)=some (vi (z.toNat:Int)):=by
   intro z hz
   rw [u64_def,convInt_int,wrap_i64 (by omega) (by omega)]
  have hcv':=hcv _ (by omega:(y'&&&BitVec.ofNat 64 (M - 1)).toNat<2 ^ 62)
  simp only [l1,u64_sub,hsub,u64_and,hcv',i64_geq,stdZ]
  generalize (y'&&&BitVec.ofNat 64 (M - 1)).toNat=o at *
  by_cases co:w<=o
  ·have co':decide ((w:Int)<=o)=true:=decide_eq_true (by omega)
   have hs:binInt .sub (vi (o:Int)) (vi (w:Int))=some (vi ((o - w:Nat):Int)):=i64_sub_nat o w co (by omega)
   simp only [co',hs,stdZ]
   exact fin (o - w) y' (by omega)
  ·have co':decide ((w:Int)<=o)=false:=decide_eq_false (by omega)
   simp only [co',stdZ]
   exact fin o y' (by omega)
 ·have cj':decide ((j:Int)<=((x+1:Nat):Int))=false:=decide_eq_false (by omega)
  simp only [F.f37_l1,a2,m2,p2,p4,i64_leq,cj',stdZ]
  exact hQ d1 H1 pp s1
end
end Go.AM
end
section
namespace Go.AM
open Go.Sort
set_option maxHeartbeats 400000
set_option maxRecDepth 20000
section
variable {α:Type} [Inhabited α] {E:Sy} {H H':AH} {Q:Value->AH->Prop} {b c n:Nat} {enc:α->List Value} {LT:α->α->Bool} {fv:Value} {d:Array α} {tail:List Value} {f:Option Nat}
theorem S.f49 (hE:Fold E) (hS:SWO LT) (he:EncOk 2 enc) (hC:CmpOk E fv enc LT):∀ (w:Nat) {H:AH} {Q:Value->AH->Prop} {d:Array α} (_:H.get b=arrM enc d tail f) (_:d.size=n) (_:n<2 ^ 31) (a e:Nat) (_:a<=e) (_:e<=n) (limit:Nat) (_:limit<2 ^ 60) (_:Go.Sort.Below LT a e d) (_:e - a<=w)
    (_:∀ d' H',PermIn a e d d'->SortedIn LT a e d'->SortMo H b enc tail f d' H'->Q (.tuple #[]) H'),E.call (E.fid i.f49) [slc b 0 n c,vi a,vi e,vi limit,fv] H Q:=by
  intro w
  induction w using Nat.strongRecOn with
  | _ w ih =>
  intro H Q d hg hn hsz a0 e0 hae0 he0 limit0 hlim0 hB0 hw hQ
  apply hE.f49
  simp only [F.f49]
  refine LoopL.ind (fun m l H'=>∃ (a e limit:Nat) (wb wp:Bool) (d1:Array α),l=[slc b 0 n c,vi a,vi e,vi limit,fv,vb wb,vb wp]/\SortMo H b enc tail f d1 H'/\d1.size=n/\a<=e/\e<=n/\limit<2 ^ 60/\e - a<=w/\Go.Sort.Below LT a e d1 /\
      (∀ R,PermIn a e d1 R->SortedIn LT a e R->PermIn a0 e0 d R/\SortedIn LT a0 e0 R)/\m=e - a) ?_ (e0 - a0) ⟨a0,e0,limit0,true,true,d,rfl,.refl hg,hn,hae0,he0,hlim0,hw,hB0,fun R h1 h2=>⟨h1,h2⟩,rfl⟩
  rintro m _ H1 X hX ⟨a,e,limit,wb,wp,d1,rfl,s1,n1,hae,hen,hlim,hwe,hB,fin,rfl⟩
  have a1:binInt .sub (vi e) (vi a)=some (vi ((e - a:Nat):Int)):=i64_sub_nat e a (by omega) (by omega)
  by_cases c12:e - a<=12
  · have c12':decide (((e - a:Nat):Int)<=12)=true:=decide_eq_true (by omega)
    simp only [F.f49_l1,a1,i64_leq,c12',stdZ]
    refine S.f40 hE he hC s1.get n1 (by omega) a e hae hen fun H2 s2 =>?_
    obtain ⟨h1,h2⟩:=insertionSort_holds hS d1 a e hae (by omega)
    obtain ⟨h3,h4⟩:=fin _ h1 h2
    exact hQ _ _ h3 h4 (s1.trans s2)
  have c12':decide (((e - a:Nat):Int)<=12)=false:=decide_eq_false (by omega)
  by_cases c0:limit=0
  · subst c0
    have c0':decide (((0:Nat):Int)=0)=true:=by decide
    simp only [F.f49_l1,a1,i64_leq,c12',i64_eql,c0',stdZ]
    refine S.f39 hE he hC s1.get n1 (by omega) a e (by omega) hen fun H2 s2 =>?_
    obtain ⟨h1,h2⟩:=heapSort_holds hS d1 a e hae (by omega)
    obtain ⟨h3,h4⟩:=fin _ h1 h2
    exact hQ _ _ h3 h4 (s1.trans s2)
  have c0':decide ((limit:Int)=0)=false:=decide_eq_false (by omega)
  have w8:binInt .quo (vi ((e - a:Nat):Int)) (.int .i64 8)=some (vi (((e - a) / 8:Nat):Int)):=i64_quo_num (e - a) 8 (by decide) (by omega)
  have j3:∀ (d3:Array α) H3 (lim:Nat) (wb wp:Bool) (pv:Nat),SortMo H b enc tail f d3 H3->d3.size=n->PermIn a e d1 d3->lim<2 ^ 60->a<=pv->pv<e->F.f49_j3 E Q X (slc b 0 n c) (vi a) (vi e) (vi lim) fv (vb wb) (vb wp) (vi ((e - a:Nat):Int)) (vi pv) H3:=by
    intro d3 H3 lim wb wp pv s3 n3 p3 hlim hp1 hp2
    have B3:Go.Sort.Below LT a e d3:=hB.permA permIn_all (by omega) p3
    have fin3:∀ R,PermIn a e d3 R->SortedIn LT a e R->PermIn a0 e0 d R/\SortedIn LT a0 e0 R:=fun R h1 h2=>fin R (permIn_trans _ _ _ _ _ p3 h1) h2
    have part:∀ H3,SortMo H b enc tail f d3 H3->∀ (K:Value->AH->Prop),(K=fun v15 H13 =>
         opt (ext v15 0) fun v16 =>
         opt (ext v15 1) fun v17 =>
         opt (binInt .sub v16 (vi a)) fun v18 =>
         opt (binInt .sub (vi e) v16) fun v19 =>
         opt (binInt .quo (vi ((e - a:Nat):Int)) (.int .i64 8)) fun v20 =>
         opt (binInt .lss v18 v19) fun v21 =>
         ifB v21 (
         opt (binInt .geq v18 v20) fun v22 =>
         E.call (E.fid i.f49) [slc b 0 n c,vi a,v16,vi lim,fv] H13 fun v23 H14 =>
         opt (binInt .add v16 (.int .i64 1)) fun v24 =>
         X [slc b 0 n c,v24,vi e,vi lim,fv,v22,v17] H14) (
         opt (binInt .geq v19 v20) fun v25 =>
         opt (binInt .add v16 (.int .i64 1)) fun v26 =>
         E.call (E.fid i.f49) [slc b 0 n c,v26,vi e,vi lim,fv] H13 fun v27 H15 =>
         X [slc b 0 n c,vi a,v16,vi lim,fv,v25,v17] H15))->E.call (E.fid i.f47) [slc b 0 n c,vi a,vi e,vi pv,fv] H3 K:=by
      rintro H3 s3 K rfl
      refine S.f47 hE he hC s3.get n3 (by omega) a e pv hp1 hp2 hen fun H4 s4 =>?_
      rcases hx:partition LT d3 a e pv with ⟨mid,ap,d4⟩
      rw [hx] at s4
      obtain ⟨g1,g2,hs4,hBa,hBr,hl,hr⟩:=round_part hS (partition_holds LT) hp1 hp2 (by omega) B3 hx
      have n4:d4.size=n:=by omega
      have s4':=s3.trans s4
      have b1:binInt .sub (vi mid) (vi a)=some (vi ((mid - a:Nat):Int)):=i64_sub_nat mid a g1 (by omega)
      have b2:binInt .sub (vi e) (vi mid)=some (vi ((e - mid:Nat):Int)):=i64_sub_nat e mid (by omega) (by omega)
      have b3:=i64_succ mid (by omega)
      simp only [tk_eq,ext_tuple,List.getElem?_cons_zero,List.getElem?_cons_succ,opt_some,b1,b2,b3,w8,i64_lss,i64_geq]
      by_cases cl:mid - a<e - mid
      · have cl':((mid - a:Nat):Int)<((e - mid:Nat):Int):=by omega
        simp only [cl',decide_true,tk_eq,ifB_true,i64_geq,opt_some]
        refine ih (mid - a) (by omega) s4'.get n4 hsz a mid g1 (by omega) lim hlim hBa (Nat.le_refl _) fun d5 H5 p5 q5 s5 =>?_
        obtain ⟨hBL,hfin⟩:=hl d5 p5 q5
        have n5:d5.size=n:=by rw [p5.1]; exact n4
        simp only [b3,tk_eq,opt_some]
        exact hX (e - (mid+1)) (by omega) _ _ ⟨mid+1,e,lim,_,ap,d5,rfl,s4'.trans s5,n5,by omega,hen,hlim,by omega,hBL,fun R h1 h2=>by
          obtain ⟨h3,h4⟩:=hfin R h1 h2
          exact fin3 R h3 h4,rfl⟩
      · have cl':¬ ((mid - a:Nat):Int)<((e - mid:Nat):Int):=by omega
        simp only [cl',decide_false,tk_eq,ifB_false,i64_geq,opt_some,b3]
        refine ih (e - (mid+1)) (by omega) s4'.get n4 hsz (mid+1) e (by omega) hen lim hlim hBr (Nat.le_refl _) fun d5 H5 p5 q5 s5 =>?_
        obtain ⟨hBL,hfin⟩:=hr d5 p5 q5
        have n5:d5.size=n:=by rw [p5.1]; exact n4
        exact hX (mid - a) (by omega) _ _ ⟨a,mid,lim,_,ap,d5,rfl,s4'.trans s5,n5,g1,by omega,hlim,by omega,hBL,fun R h1 h2=>by
          obtain ⟨h3,h4⟩:=hfin R h1 h2
          exact fin3 R h3 h4,rfl⟩
    by_cases ca:0<a
    · have ca':decide ((0:Int)<a)=true:=decide_eq_true (by omega)
      have b1:=i64_dec a (by omega) (by omega)
      have f1:=mrr_ix (sz:=2) (b:=b) (c:=c) (n:=n) (i:=a - 1) (by omega)
      have f2:=mrr_ix (sz:=2) (b:=b) (c:=c) (n:=n) (i:=pv) (by omega)
      have g1:=mrr_load he s3.get (i:=a - 1) (by omega)
      have g2:=mrr_load he s3.get (i:=pv) (by omega)
      simp only [F.f49_j3,i64_gtr,ca',b1,f1,f2,g1,g2,stdZ]
      refine hC _ _ _ _ fun z H10 e10 hz =>?_
      have s10:=s3.ext e10
      cases hl:LT d3[a - 1]! d3[pv]! with
      | true =>
        have part:=part _ s10 _ rfl
        simp only [i64_lss,hz,hl,un_not_z,Bool.not_true,stdZ]
        exact part
      | false =>
        rcases hx:partitionEqual LT d3 a e pv with ⟨mid,d4⟩
        obtain ⟨g3,g4,hs4,hB4,hfin⟩:=round_eq hS (partitionEqual_holds LT) ca hp1 hp2 (by omega) B3 hl hx
        have hY:=fun H4 s4=>hX (e - mid) (by omega) [slc b 0 n c,vi mid,vi e,vi lim,fv,vb wb,vb wp] H4 ⟨mid,e,lim,wb,wp,d4,rfl,s4,by omega,g4,hen,hlim,by omega,hB4,fun R h1 h2=>by
            obtain ⟨h3,h4⟩:=hfin R h1 h2
            exact fin3 R h3 h4,rfl⟩
        simp only [i64_lss,hz,hl,un_not_z,Bool.not_false,stdZ]
        refine S.f48 hE he hC s10.get n3 (by omega) a e pv hp1 hp2 hen fun H4 s4 =>?_
        rw [hx] at s4 ⊢
        exact hY H4 (s10.trans s4)
    · have ca':decide ((0:Int)<a)=false:=decide_eq_false (by omega)
      have part:=part _ s3 _ rfl
      simp only [F.f49_j3,i64_gtr,ca',stdZ]
      exact part
  have j2:∀ (d3:Array α) H3 (lim:Nat) (wb wp:Bool) (pv:Nat) (hint:Int),SortMo H b enc tail f d3 H3->d3.size=n->PermIn a e d1 d3->lim<2 ^ 60->a<=pv->pv<e->F.f49_j2 E Q X (slc b 0 n c) (vi a) (vi e) (vi lim) fv (vb wb) (vb wp) (vi ((e - a:Nat):Int)) (vi pv) (vi hint) H3:=by
    intro d3 H3 lim wb wp pv hint s3 n3 p3 hlim hp1 hp2
    have B3:Go.Sort.Below LT a e d3:=hB.permA permIn_all (by omega) p3
    have h3:=j3 d3 H3 lim wb wp pv s3 n3 p3 hlim hp1 hp2
    have try_:E.call (E.fid i.f46) [slc b 0 n c,vi a,vi e,fv] H3 fun v6 H4=>ifB v6 (Q (.tuple #[]) H4) (F.f49_j3 E Q X (slc b 0 n c) (vi a) (vi e) (vi lim) fv (vb wb) (vb wp) (vi ((e - a:Nat):Int)) (vi pv) H4):=by
      refine S.f46 hE he hC s3.get n3 (by omega) a e (by omega) hen fun H4 s4 =>?_
      obtain ⟨q1,q2⟩:=partialInsertionSort_holds hS d3 a e (by omega) (by omega) B3
      cases hb:(partialInsertionSort LT d3 a e).2 with
      | true =>
        obtain ⟨h5,h6⟩:=fin _ (permIn_trans _ _ _ _ _ p3 q1) (q2 hb)
        simp only [ifB_true]
        exact hQ _ _ h5 h6 (s3.trans s4)
      | false =>
        simp only [ifB_false]
        exact j3 _ H4 lim wb wp pv (s3.trans s4) (by rw [q1.1]; exact n3) (permIn_trans _ _ _ _ _ p3 q1) hlim hp1 hp2
    cases wb with
    | false =>
      simp only [F.f49_j2,stdZ]
      exact h3
    | true =>
      cases wp with
      | false =>
        simp only [F.f49_j2,stdZ]
        exact h3
      | true =>
        by_cases ch:hint=1
        · simp only [F.f49_j2,gd_tt,pick_true_z,tk_eq,opt_some,i64_eql,ch,decide_true,ifB_true]
          exact try_
        · simp only [F.f49_j2,gd_tt,pick_true_z,tk_eq,opt_some,i64_eql,ch,decide_false,ifB_false]
          exact h3
  have j1:∀ (d3:Array α) H3 (lim:Nat) (wb wp:Bool),SortMo H b enc tail f d3 H3->d3.size=n->PermIn a e d1 d3->lim<2 ^ 60->F.f49_j1 E Q X (slc b 0 n c) (vi a) (vi e) (vi lim) fv (vb wb) (vb wp) (vi ((e - a:Nat):Int)) H3:=by
    intro d3 H3 lim wb wp s3 n3 p3 hlim
    simp only [F.f49_j1]
    refine S.f38 hE he hC s3.get n3 (by omega) a e (by omega) hen fun pv hint H4 hp1 hp2 e4 =>?_
    have s4:=s3.ext e4
    simp only [tk_eq,ext_tuple,List.getElem?_cons_zero,List.getElem?_cons_succ,opt_some,i64_eql]
    by_cases ch:hint=2
    · simp only [ch,decide_true,ifB_true]
      refine S.f50 hE he s4.get n3 (by omega) a e (by omega) hen fun H5 s5 =>?_
      have q1:=reverseRange_holds d3 a e hae (by omega)
      have b1:=i64_dec e (by omega) (by omega)
      have b2:binInt .sub (vi pv) (vi a)=some (vi ((pv - a:Nat):Int)):=i64_sub_nat pv a hp1 (by omega)
      have b3:binInt .sub (vi ((e - 1:Nat):Int)) (vi ((pv - a:Nat):Int))=some (vi ((e - 1 - (pv - a):Nat):Int)):=i64_sub_nat (e - 1) (pv - a) (by omega) (by omega)
      simp only [b1,b2,b3,tk_eq,opt_some]
      exact j2 _ H5 lim wb wp _ 1 (s4.trans s5) (by rw [q1.1]; exact n3) (permIn_trans _ _ _ _ _ p3 q1) hlim (by omega) (by omega)
    · simp only [ch,decide_false,ifB_false]
      exact j2 d3 H4 lim wb wp pv hint s4 n3 p3 hlim hp1 hp2
  cases wb with
  | true =>
    have:=j1 d1 H1 limit true wp s1 n1 (permIn_refl _ _ _) hlim
    simp only [F.f49_l1,a1,c12',c0',i64_leq,i64_eql,un_not_z,Bool.not_true,stdZ]
    exact this
  | false =>
    have b1:=i64_dec limit (by omega) (by omega)
    have go:=fun d' H' p' s'=>j1 d' H' (limit - 1) false wp s' (by rw [(p':PermIn a e d1 d').1]; exact n1) p' (by omega)
    clear j1 j2 j3 hX
    simp only [F.f49_l1,a1,c12',c0',i64_leq,i64_eql,un_not_z,Bool.not_false,stdZ]
    refine S.f37 hE he s1.get n1 hsz a e (by omega) hen fun d' H' p' s' =>?_
    simp only [b1,stdZ]
    exact go d' H' p' (s1.trans s')
theorem S.f35 (hE:Fold E) (hS:SWO LT) (he:EncOk 2 enc) (hC:CmpOk E fv enc LT) (hg:H.get b=arrM enc d tail f) (hn:d.size=n) (hsz:n<2 ^ 31)
  (hQ:∀ d' H',PermIn 0 n d d'->SortedIn LT 0 n d'->SortMo H b enc tail f d' H'->Q (.tuple #[]) H'):E.call (E.fid i.f35) [slc b 0 n c,fv] H Q:=by
 apply hE.f35
 have e1:(BitVec.ofNat 64 n).toNat=n:=by rw [BitVec.toNat_ofNat,Nat.mod_eq_of_lt (by omega)]
 have hc:convInt .u64 (vi (n:Int))=some (u64 (BitVec.ofNat 64 n)):=by rw [i64_to_u64,BitVec.ofInt_natCast]
 simp only [F.f35,lenSlc_slc_z,hc,stdZ]
 refine S.f13 hE _ (by rw [e1]; omega) ?_
 rw [e1]
 have hl:bitsLen n<=31:=by rw [bitsLen_le_iff]; exact hsz
 exact S.f49 hE hS he hC n hg hn hsz 0 n (Nat.zero_le _) (Nat.le_refl _) _ (by omega) (.inl rfl) (by omega) hQ
end
end Go.AM
end
section
namespace Go.AM
theorem sortsC_any {E:Sy} (hE:Fold E) (m:Nat) (hm:m<2 ^ 31):SortsC E m:=fun hg hmd hQ=>S.f35 hE swo_ltC caseE_ok (cmp_cases hE) hg rfl (by omega) hQ
end Go.AM
end
section
namespace Go.AM
set_option maxRecDepth 20000
section
variable {E:Sy} {H H' H0 Z:AH} {Q:Value->AH->Prop}
theorem polx6e {x:PolX} {cs:List Value} (h:PolXAt H x cs):cs.length=6/\cs.all plain1=true:=by
 obtain ⟨v,pv,qv,rfl,⟨rows,h1,_⟩,h2,h3⟩:=h
 exact ⟨rfl,by simp [h1.plain,h2.plain,h3.plain]⟩
theorem sortS_len:∀ l:List RuleD,(sortS l).length=l.length
 | []=>rfl
 | x :: l=>by
  have ih:=sortS_len l
  have hx:=(rankA_le x.action).1
  simp only [sortS,byRank,List.length_append,List.filter_cons,List.length_cons] at ih ⊢
  have h4:rankA x.action=0\/rankA x.action=1\/rankA x.action=2\/rankA x.action=3:=by omega
  rcases h4 with h | h | h | h <;> simp [h] <;> omega
end
end Go.AM
end
section
namespace Go.AM
set_option maxRecDepth 20000
theorem clash_symm (c d:CondD):clash c d=clash d c:=by
 rw [Bool.eq_iff_iff]
 unfold clash
 simp only [Bool.and_eq_true,decide_eq_true_eq]
 constructor
 ·rintro ⟨⟨⟨h1,h2⟩,h3⟩,h4⟩; exact ⟨⟨⟨h1.symm,h3⟩,h2⟩,fun e=>h4 e.symm⟩
 ·rintro ⟨⟨⟨h1,h2⟩,h3⟩,h4⟩; exact ⟨⟨⟨h1.symm,h3⟩,h2⟩,fun e=>h4 e.symm⟩
theorem clash_self (c:CondD):clash c c=false:=by unfold clash; simp
theorem neverFrom_iff:∀ (l pre:List CondD),neverFrom pre l=true↔(∃ c∈l,never1 c=true)\/(∃ c∈l,∃ d∈pre++l,clash c d=true)
 | [],pre=>by simp [neverFrom]
 | c :: l,pre=>by
  rw [neverFrom,Bool.or_eq_true,Bool.or_eq_true,neverFrom_iff l (pre++[c]),List.any_eq_true]
  constructor
  ·rintro ((h | ⟨d,hd,h⟩) | (⟨x,hx,h⟩ | ⟨x,hx,d,hd,h⟩))
   ·exact .inl ⟨c,by simp,h⟩
   ·exact .inr ⟨c,by simp,d,by simp [hd],h⟩
   ·exact .inl ⟨x,by simp [hx],h⟩
   ·refine .inr ⟨x,by simp [hx],d,?_,h⟩
    simp only [List.append_assoc,List.mem_append,List.mem_cons,List.not_mem_nil,or_false] at hd ⊢
    simpa using hd
  ·rintro (⟨x,hx,h⟩ | ⟨x,hx,d,hd,h⟩)
   ·rcases List.mem_cons.1 hx with rfl | hx
    ·exact .inl (.inl h)
    ·exact .inr (.inl ⟨x,hx,h⟩)
   ·rcases List.mem_cons.1 hx with rfl | hx
    ·rcases List.mem_append.1 hd with hd | hd
     ·exact .inl (.inr ⟨d,hd,h⟩)
     ·rcases List.mem_cons.1 hd with rfl | hd
      ·rw [clash_self] at h; cases h
      ·exact .inr (.inr ⟨d,hd,x,by simp,by rw [clash_symm]; exact h⟩)
    ·refine .inr (.inr ⟨x,hx,d,?_,h⟩)
     simp only [List.append_assoc,List.mem_append,List.mem_cons] at hd ⊢
     simpa using hd
theorem neverC_iff (l:List CondD):neverC l=true↔(∃ c∈l,never1 c=true)\/(∃ c∈l,∃ d∈l,clash c d=true):=by
 unfold neverC
 rw [neverFrom_iff]
 simp
theorem tidyFrom_mem (x:CondD):∀ (l out:List CondD),x∈tidyFrom out l↔x∈out\/(x∈l/\alwaysC x=false)
 | [],out=>by simp [tidyFrom]
 | c :: l,out=>by
  rw [tidyFrom,tidyFrom_mem x l]
  by_cases h:alwaysC c=false/\c ∉ out
  ·rw [if_pos h]
   simp only [List.mem_append,List.mem_cons,List.not_mem_nil,or_false]
   constructor
   ·rintro ((h1 | rfl) | h1)
    ·exact .inl h1
    ·exact .inr ⟨.inl rfl,h.1⟩
    ·exact .inr ⟨.inr h1.1,h1.2⟩
   ·rintro (h1 | ⟨rfl | h1,h2⟩)
    ·exact .inl (.inl h1)
    ·exact .inl (.inr rfl)
    ·exact .inr ⟨h1,h2⟩
  ·rw [if_neg h]
   simp only [List.mem_cons]
   constructor
   ·rintro (h1 | h1)
    ·exact .inl h1
    ·exact .inr ⟨.inr h1.1,h1.2⟩
   ·rintro (h1 | ⟨rfl | h1,h2⟩)
    ·exact .inl h1
    ·left
     exact Classical.byContradiction fun hn=>h ⟨h2,hn⟩
    ·exact .inr ⟨h1,h2⟩
theorem always_op {c:CondD} (h:alwaysC c=true):c.op=6#8\/c.op=4#8:=by
 unfold alwaysC at h
 simp only [Bool.and_eq_true,Bool.or_eq_true,decide_eq_true_eq] at h
 rcases h.2 with h | h
 ·exact .inl h.1
 ·exact .inr h.1
theorem never1_op {c:CondD} (h:never1 c=true):c.op=3#8\/c.op=5#8:=by
 unfold never1 at h
 simp only [Bool.and_eq_true,Bool.or_eq_true,decide_eq_true_eq] at h
 rcases h with h | h
 ·exact .inl h.1
 ·exact .inr h.1
theorem clash_op {c d:CondD} (h:clash c d=true):c.op=1#8/\d.op=1#8:=by
 unfold clash at h
 simp only [Bool.and_eq_true,decide_eq_true_eq] at h
 exact ⟨h.1.1.2,h.1.2⟩
theorem never_tidy (l:List CondD):neverC (tidyC l)=neverC l:=by
 have hm:∀ x,x∈tidyC l↔(x∈l/\alwaysC x=false):=fun x=>by unfold tidyC; rw [tidyFrom_mem]; simp
 have ha:∀ x:CondD,(x.op≠6#8/\x.op≠4#8)->alwaysC x=false:=fun x hx=>by
  cases h:alwaysC x with
  | false=>rfl
  | true =>
   rcases always_op h with h | h
   ·exact (hx.1 h).elim
   ·exact (hx.2 h).elim
 rw [Bool.eq_iff_iff,neverC_iff,neverC_iff]
 constructor
 ·rintro (⟨c,hc,h⟩ | ⟨c,hc,d,hd,h⟩)
  ·exact .inl ⟨c,((hm c).1 hc).1,h⟩
  ·exact .inr ⟨c,((hm c).1 hc).1,d,((hm d).1 hd).1,h⟩
 ·rintro (⟨c,hc,h⟩ | ⟨c,hc,d,hd,h⟩)
  ·refine .inl ⟨c,(hm c).2 ⟨hc,ha c ?_⟩,h⟩
   rcases never1_op h with e | e <;> rw [e] <;> decide
  ·obtain ⟨h1,h2⟩:=clash_op h
   exact .inr ⟨c,(hm c).2 ⟨hc,ha c (by rw [h1]; decide)⟩,d,(hm d).2 ⟨hd,ha d (by rw [h2]; decide)⟩,h⟩
section
variable {E:Sy} {H H' H0 Z:AH} {Q:Value->AH->Prop}
theorem S.f25 (hE:Fold E) (c:CondD) (hQ:∀ H',Ext H H'->Q (vb (alwaysC c)) H'):E.call (E.fid i.f25) [c.v] H Q:=by
 apply hE.f25
 have x1:Ext H (H.new (.cells c.cells none)):=(Ext.refl _).new _
 have b1:=AH.get_new_self H (.cells c.cells none)
 have c0:c.cells[0]? = some (vi c.arg):=rfl
 have c1:c.cells[1]? = some (u8 c.op):=rfl
 have c3:c.cells[3]? = some (u64 c.value):=rfl
 have hQ:=hQ _ x1
 unfold alwaysC inArg at hQ
 have k6:(.int .u8 6:Value)=u8 6#8:=rfl
 have k4:(.int .u8 4:Value)=u8 4#8:=rfl
 have k0:(.int .u64 0:Value)=u64 0#64:=rfl
 have kM:(.int .u64 18446744073709551615:Value)=u64 18446744073709551615#64:=rfl
 simp only [F.f25,boxO_agg_z,AM.mk_some,mkPtr_eq_z,List.toList_toArray,b1,c0,i64_geq,stdZ]
 generalize H.new (.cells c.cells none)=H1 at *
 cases d0:decide (0<=c.arg) with
 | false =>
  rw [d0] at hQ
  simp only [Bool.false_and] at hQ
  simp only [stdZ]
  exact hQ
 | true =>
  rw [d0,Bool.true_and] at hQ
  simp only [b1,c0,i64_leq,stdZ]
  cases d5:decide (c.arg<=5) with
  | false =>
   rw [d5] at hQ
   simp only [Bool.false_and] at hQ
   simp only [stdZ]
   exact hQ
  | true =>
   rw [d5,Bool.true_and] at hQ
   simp only [b1,c1,k6,u8_eql,stdZ]
   cases d6:decide (c.op=6#8) with
   | true =>
    rw [d6,Bool.true_and] at hQ
    have h4:decide (c.op=4#8)=false:=by rw [of_decide_eq_true d6]; decide
    rw [h4,Bool.false_and,Bool.or_false] at hQ
    simp only [b1,c3,k0,u64_eql,stdZ]
    cases dv:decide (c.value=0#64) with
    | true=>rw [dv] at hQ; simp only [stdZ]; exact hQ
    | false =>
     rw [dv] at hQ
     simp only [b1,c1,k4,u8_eql,h4,stdZ]
     exact hQ
   | false =>
    rw [d6,Bool.false_and,Bool.false_or] at hQ
    simp only [b1,c1,k4,u8_eql,stdZ]
    cases d4:decide (c.op=4#8) with
    | false=>rw [d4,Bool.false_and] at hQ; simp only [stdZ]; exact hQ
    | true=>rw [d4,Bool.true_and] at hQ; simp only [b1,c3,kM,u64_eql,stdZ]; exact hQ
theorem S.f27 (hE:Fold E) (c:CondD) (hQ:∀ H',Ext H H'->Q (vb (never1 c)) H'):E.call (E.fid i.f27) [c.v] H Q:=by
 apply hE.f27
 have x1:Ext H (H.new (.cells c.cells none)):=(Ext.refl _).new _
 have b1:=AH.get_new_self H (.cells c.cells none)
 have c1:c.cells[1]? = some (u8 c.op):=rfl
 have c3:c.cells[3]? = some (u64 c.value):=rfl
 have hQ:=hQ _ x1
 unfold never1 at hQ
 have k3:(.int .u8 3:Value)=u8 3#8:=rfl
 have k5:(.int .u8 5:Value)=u8 5#8:=rfl
 have k0:(.int .u64 0:Value)=u64 0#64:=rfl
 have kM:(.int .u64 18446744073709551615:Value)=u64 18446744073709551615#64:=rfl
 simp only [F.f27,boxO_agg_z,AM.mk_some,mkPtr_eq_z,List.toList_toArray,b1,c1,k3,u8_eql,stdZ]
 generalize H.new (.cells c.cells none)=H1 at *
 cases d3:decide (c.op=3#8) with
 | true =>
  rw [d3,Bool.true_and] at hQ
  have h5:decide (c.op=5#8)=false:=by rw [of_decide_eq_true d3]; decide
  rw [h5,Bool.false_and,Bool.or_false] at hQ
  simp only [b1,c3,k0,u64_eql,stdZ]
  cases dv:decide (c.value=0#64) with
  | true=>rw [dv] at hQ; simp only [stdZ]; exact hQ
  | false =>
   rw [dv] at hQ
   simp only [b1,c1,k5,u8_eql,h5,stdZ]
   exact hQ
 | false =>
  rw [d3,Bool.false_and,Bool.false_or] at hQ
  simp only [b1,c1,k5,u8_eql,stdZ]
  cases d5:decide (c.op=5#8) with
  | false=>rw [d5,Bool.false_and] at hQ; simp only [stdZ]; exact hQ
  | true=>rw [d5,Bool.true_and] at hQ; simp only [b1,c3,kM,u64_eql,stdZ]; exact hQ
theorem dead_l2 (hE:Fold E) {X0:List Value->AH->Prop} {t0 t7 t8:Value} {k:Nat} (hk:k<2 ^ 60) {bc:Nat} {c:CondD} (hb:H0.get bc = .cells c.cells none) {v:Value} {l:List CondD} (hv:Rows H0 4 v (condR l)) (hl:l.length<2 ^ 60)
  (hQ:l.any (clash c)=true->∀ H',Ext H0 H'->Q (vb true) H') (hX:l.any (clash c)=false->∀ H',Ext H0 H'->X0 [t0,t7,t8,vi ((k+1:Nat):Int)] H') :
  LoopL (fun l H X1=>F.f26_l2 E Q X0 (nth l 0) (nth l 1) (nth l 2) (nth l 3) (nth l 4) (nth l 5) (nth l 6) (nth l 7) H X1) [t0,ptr bc 0,t7,t8,vi k,v,vi (l.length:Int),(.int .i64 0)] H0:=by
 have c0:∀ c:CondD,c.cells[0]? = some (vi c.arg):=fun _=>rfl
 have c1:∀ c:CondD,c.cells[1]? = some (u8 c.op):=fun _=>rfl
 have c3:∀ c:CondD,c.cells[3]? = some (u64 c.value):=fun _=>rfl
 have k1:(.int .u8 1:Value)=u8 1#8:=rfl
 have i0:(.int .i64 0:Value)=vi ((0:Nat):Int):=rfl
 rw [i0]
 refine LoopL.count l.length (fun j ls H'=>ls=[t0,ptr bc 0,t7,t8,vi k,v,vi (l.length:Int),vi j]/\Ext H0 H'/\∀ i (hi:i<l.length),i<j->clash c l[i]=false) ?_ ⟨rfl,Ext.refl _,fun i _ h=>by omega⟩
 rintro j _ H1 X1 hj hX1 ⟨rfl,e1,hno⟩
 rcases Nat.lt_or_ge j l.length with hjl | hge
 rotate_left
 ·have hjl':decide ((j:Int)<l.length)=false:=decide_eq_false (by omega)
  have hii:=i64_inc (i:=k) (by omega)
  have ha:l.any (clash c)=false:=by
   rw [List.any_eq_false]
   intro x hx
   obtain ⟨i,hi,rfl⟩:=List.getElem_of_mem hx
   rw [hno i hi (by omega)]
   simp
  simp only [F.f26_l2,i64_lss,hjl',hii,stdZ]
  exact hX ha _ e1
 have hjl':decide ((j:Int)<l.length)=true:=decide_eq_true (by omega)
 have hjj:=i64_inc (i:=j) (by omega)
 have hX1:=hX1 hjl
 obtain ⟨b,o,f1,f2⟩:=cond_ix hv hjl
 have lo:=f2 H1 e1
 have hstep:clash c l[j]=false->∀ i (hi:i<l.length),i<j+1->clash c l[i]=false:=by
  intro h i hi hij
  by_cases e:i=j
  ·subst e; exact h
  ·exact hno i hi (by omega)
 have hyes:clash c l[j]=true->l.any (clash c)=true:=fun h=>List.any_eq_true.2 ⟨_,List.getElem_mem hjl,h⟩
 generalize l[j]=d at *
 have b2:=AH.get_new_self H1 (.cells d.cells none)
 have e2:=e1.trans ((Ext.refl H1).new (.cells d.cells none))
 have bb:=e2.cells hb
 simp only [F.f26_l2,i64_lss,hjl',f1,lo,allocW_eq,cond_new,stdZ]
 generalize H1.new (.cells d.cells none)=H2 at *
 generalize H1.next=bd at *
 simp only [bb,c1,k1,u8_eql,stdZ]
 have no:clash c d=false->X1 [t0,ptr bc 0,t7,t8,vi k,v,vi (l.length:Int),vi ((j+1:Nat):Int)] H2:=fun h=>hX1 _ _ ⟨rfl,e2,hstep h⟩
 by_cases h2:c.op=1#8
 rotate_left
 ·have hd:decide (c.op=1#8)=false:=decide_eq_false h2
  simp only [hd,hjj,stdZ]
  exact no (by simp [clash,h2])
 have hd2:decide (c.op=1#8)=true:=decide_eq_true h2
 simp only [hd2,b2,c1,k1,u8_eql,stdZ]
 by_cases h3:d.op=1#8
 rotate_left
 ·have hd:decide (d.op=1#8)=false:=decide_eq_false h3
  simp only [hd,hjj,stdZ]
  exact no (by simp [clash,h3])
 have hd3:decide (d.op=1#8)=true:=decide_eq_true h3
 simp only [hd3,bb,b2,c0,i64_eql,stdZ]
 by_cases h1:c.arg=d.arg
 rotate_left
 ·have hd:decide (c.arg=d.arg)=false:=decide_eq_false h1
  simp only [hd,hjj,stdZ]
  exact no (by simp [clash,h1])
 have hd1:decide (c.arg=d.arg)=true:=decide_eq_true h1
 simp only [hd1,bb,b2,c3,u64_neq,stdZ]
 by_cases h4:c.value=d.value
 ·have hz:decide (c.value≠d.value)=false:=by simp [h4]
  simp only [hz,hjj,stdZ]
  exact no (by simp [clash,h4])
 ·have hd:clash c d=true:=by simp [clash,h1,h2,h3,h4]
  have hz:decide (c.value≠d.value)=true:=by simp [h4]
  simp only [hz,stdZ]
  exact hQ (hyes hd) _ e2
theorem S.f26 (hE:Fold E) {v:Value} {l:List CondD} (hv:Rows H 4 v (condR l)) (hl:l.length<2 ^ 30) (hQ:∀ H',Ext H H'->Q (vb (neverC l)) H'):E.call (E.fid i.f26) [v] H Q:=by
 apply hE.f26
 have hlv:=hv.lenSlc
 rw [condR_length] at hlv
 have i0:(.int .i64 0:Value)=vi ((0:Nat):Int):=rfl
 simp only [F.f26,hlv,i0,stdZ]
 refine LoopL.count l.length (fun k ls H'=>ls=[v,v,vi l.length,vi k]/\Ext H H'/\neverC l=neverFrom (l.take k) (l.drop k)) ?_ ⟨rfl,Ext.refl _,rfl⟩
 rintro k _ H1 X hk ih ⟨rfl,e1,hn⟩
 rcases Nat.lt_or_ge k l.length with hlt | hge
 rotate_left
 ·have hlt':decide ((k:Int)<l.length)=false:=decide_eq_false (by omega)
  rw [List.drop_of_length_le (by omega),neverFrom] at hn
  simp only [F.f26_l1,i64_lss,hlt',stdZ]
  rw [hn] at hQ
  exact hQ _ e1
 have hlt':decide ((k:Int)<l.length)=true:=decide_eq_true (by omega)
 obtain ⟨b,o,f1,f2⟩:=cond_ix hv hlt
 have lo:=f2 H1 e1
 have htk:l.take (k+1)=l.take k++[l[k]]:=by rw [List.take_succ,List.getElem?_eq_getElem hlt]; rfl
 rw [List.drop_eq_getElem_cons hlt,neverFrom,<- htk] at hn
 have ih:=ih hlt
 generalize l[k]=c at *
 have b2:=AH.get_new_self H1 (.cells c.cells none)
 have e2:=e1.trans ((Ext.refl H1).new (.cells c.cells none))
 simp only [F.f26_l1,i64_lss,hlt',f1,lo,allocW_eq,cond_new,cond_load b2,stdZ]
 generalize H1.new (.cells c.cells none)=H2 at *
 generalize H1.next=bc at *
 refine S.f27 hE c fun H3 e3 =>?_
 have e13:=e2.trans e3
 cases h1:never1 c with
 | true =>
  rw [h1,Bool.true_or,Bool.true_or] at hn
  rw [hn] at hQ
  simp only [stdZ]
  exact hQ _ e13
 | false =>
  rw [h1,Bool.false_or] at hn
  obtain ⟨v',q1,q2⟩:=(hv.mono e13).slice (lo:=none) (hi:=some (vi k)) (i:=0) (j:=k) (.inr ⟨rfl,rfl⟩) (.inl rfl) (Nat.zero_le _) (by rw [condR_length]; omega)
  have hr:(List.take k (condR l)).drop 0=condR (l.take k):=by simp [condR,List.map_take]
  rw [hr] at q2
  have hl2:=q2.lenSlc
  rw [condR_length] at hl2
  simp only [q1,hl2,stdZ]
  refine dead_l2 hE (k:=k) (by omega) (e3.cells b2) q2 (by rw [List.length_take]; omega) (fun ha H' e' =>?_) fun ha H' e' =>?_
  ·rw [ha,Bool.true_or] at hn
   rw [hn] at hQ
   exact hQ _ (e13.trans e')
  ·rw [ha,Bool.false_or] at hn
   exact ih _ _ ⟨rfl,e13.trans e',hn⟩
end
end Go.AM
end
section
namespace Go.AM
set_option maxRecDepth 20000
theorem nth_20 (a0 a1 a2 a3 a4 a5 a6 a7 a8 a9 a10 a11 a12 a13 a14 a15 a16 a17 a18 a19 a20:Value) (l:List Value):nth (a0 :: a1 :: a2 :: a3 :: a4 :: a5 :: a6 :: a7 :: a8 :: a9 :: a10 :: a11 :: a12 :: a13 :: a14 :: a15 :: a16 :: a17 :: a18 :: a19 :: a20 :: l) 20=a20:=nrf rfl
theorem nth_21 (a0 a1 a2 a3 a4 a5 a6 a7 a8 a9 a10 a11 a12 a13 a14 a15 a16 a17 a18 a19 a20 a21:Value) (l:List Value):nth (a0 :: a1 :: a2 :: a3 :: a4 :: a5 :: a6 :: a7 :: a8 :: a9 :: a10 :: a11 :: a12 :: a13 :: a14 :: a15 :: a16 :: a17 :: a18 :: a19 :: a20 :: a21 :: l) 21=a21:=nrf rfl
theorem nth_22 (a0 a1 a2 a3 a4 a5 a6 a7 a8 a9 a10 a11 a12 a13 a14 a15 a16 a17 a18 a19 a20 a21 a22:Value) (l:List Value):nth (a0 :: a1 :: a2 :: a3 :: a4 :: a5 :: a6 :: a7 :: a8 :: a9 :: a10 :: a11 :: a12 :: a13 :: a14 :: a15 :: a16 :: a17 :: a18 :: a19 :: a20 :: a21 :: a22 :: l) 22=a22:=nrf rfl
theorem nth_23 (a0 a1 a2 a3 a4 a5 a6 a7 a8 a9 a10 a11 a12 a13 a14 a15 a16 a17 a18 a19 a20 a21 a22 a23:Value) (l:List Value):nth (a0 :: a1 :: a2 :: a3 :: a4 :: a5 :: a6 :: a7 :: a8 :: a9 :: a10 :: a11 :: a12 :: a13 :: a14 :: a15 :: a16 :: a17 :: a18 :: a19 :: a20 :: a21 :: a22 :: a23 :: l) 23=a23:=nrf rfl
theorem nth_24 (a0 a1 a2 a3 a4 a5 a6 a7 a8 a9 a10 a11 a12 a13 a14 a15 a16 a17 a18 a19 a20 a21 a22 a23 a24:Value) (l:List Value):nth (a0 :: a1 :: a2 :: a3 :: a4 :: a5 :: a6 :: a7 :: a8 :: a9 :: a10 :: a11 :: a12 :: a13 :: a14 :: a15 :: a16 :: a17 :: a18 :: a19 :: a20 :: a21 :: a22 :: a23 :: a24 :: l) 24=a24:=nrf rfl
def nthZ:=And.intro @nth_16<|And.intro @nth_17<|And.intro @nth_18<|And.intro @nth_19<|And.intro @nth_20<|And.intro @nth_21<|And.intro @nth_22<|And.intro @nth_23 @nth_24
section
variable {E:Sy} {H H' H0 Z:AH} {Q:Value->AH->Prop}
theorem cond_neq (c:CondD):binAgg [0,0,0,0] .neq c.v c.v=some (vb false):=by
 have h:=cond_agg c c
 have hd:decide (c=c)=true:=decide_eq_true rfl
 rw [hd] at h
 simp only [CondD.v,binAgg] at h ⊢
 cases hs:sameCells [0,0,0,0] c.cells.toArray.toList c.cells.toArray.toList with
 | none=>rw [hs] at h; cases h
 | some b =>
  rw [hs] at h
  have:b=true:=by simpa using h
  subst this
  rfl
theorem row_extP {H H':AH} (e:Ext H H') {b o n:Nat} {l:List Value} (h:(H.get b).row o n=some l):(H'.get b).row o n=some l:=by rw [e.get (AH.lt_of_get (row_notdead h))]; exact h
theorem plans_l9 (hE:Fold E) {cs:List CondD} {cv lv:Value} (hc:Rows H0 4 cv (condR cs)) (hl:Rows H0 4 lv (condR cs)) (hcl:cs.length<=1000) {t29:Nat} {a:Value} (b29:H0.get t29 = .cells [cv,a] none)
  {t6 t7 t10 t14 t42 t43 t44 t68 t69 t70 t124 t125:Value} {nb nc k w:Nat} (hb1:nb<2 ^ 40) (hb2:nc<2 ^ 40) (hk:k<2 ^ 40) (hw:w<2 ^ 40) {X0 X1 X2:List Value->AH->Prop}
  (next:∀ H',Ext H0 H'->X2 [t6,t7,vi ((nb+1:Nat):Int),vi ((nc+cs.length:Nat):Int),t10,t14,vi ((k+1:Nat):Int),vb (decide (cs.length=0)),t42,t43,t44,t68,t69,t70,t124,t125,vi ((w+1:Nat):Int)] H') :
  LoopL (fun l H X3=>F.f24_l9 E Q X0 X1 X2 (nth l 0) (nth l 1) (nth l 2) (nth l 3) (nth l 4) (nth l 5) (nth l 6) (nth l 7) (nth l 8) (nth l 9) (nth l 10) (nth l 11) (nth l 12) (nth l 13) (nth l 14) (nth l 15) (nth l 16) (nth l 17) (nth l 18) (nth l 19) H X3) [t6,t7,vi nb,vi nc,t10,t14,vi k,lv,ptr t29 0,t42,t43,t44,t68,t69,t70,t124,t125,vi w,vi cs.length,(.int .i64 0)] H0:=by
 have i0:(.int .i64 0:Value)=vi ((0:Nat):Int):=rfl
 rw [i0]
 refine LoopL.count cs.length (fun j ls H'=>ls=[t6,t7,vi nb,vi nc,t10,t14,vi k,lv,ptr t29 0,t42,t43,t44,t68,t69,t70,t124,t125,vi w,vi cs.length,vi j]/\H'=H0) ?_ ⟨rfl,rfl⟩
 rintro j _ _ X3 hj ih ⟨rfl,rfl⟩
 have hll:=hl.lenSlc
 rw [condR_length] at hll
 rcases Nat.lt_or_ge j cs.length with hlt | hge
 rotate_left
 ·have hlt':decide ((j:Int)<cs.length)=false:=decide_eq_false (by omega)
  have i1:=i64_inc (i:=k) (by omega)
  have i2:=i64_inc (i:=nb) (by omega)
  have i3:=i64_inc (i:=w) (by omega)
  have a1:=i64_add_nat nc cs.length (by omega)
  have hd:(decide ((cs.length:Int)=0))=decide (cs.length=0):=decide_eq_decide.2 (by omega)
  simp only [F.f24_l9,nthZ,i64_lss,hlt',i1,i2,i3,hll,a1,i64_eql,hd,stdZ]
  exact next _ (Ext.refl _)
 have hlt':decide ((j:Int)<cs.length)=true:=decide_eq_true (by omega)
 obtain ⟨b,o,f1,f2⟩:=cond_ix hc hlt
 obtain ⟨b',o',g1,g2⟩:=cond_ix hl hlt
 have lo:=f2 _ (Ext.refl _)
 have lo':=g2 _ (Ext.refl _)
 have ih:=ih hlt
 have hne:=cond_neq cs[j]
 have hinc:=i64_inc (i:=j) (by omega)
 have q0:[cv,a][0]? = some cv:=rfl
 generalize cs[j]=c at *
 simp only [F.f24_l9,nthZ,i64_lss,hlt',b29,q0,f1,lo,g1,lo',hne,hinc,stdZ]
 exact ih _ _ ⟨rfl,rfl⟩
theorem plans_l8 (hE:Fold E) {c:CondD} {out:List CondD} {lv:Value} (hol:out.length<=1000) {t25:Nat} {L:List Res} {n m:Nat} (g0:Has H0 Z H L) (hn:L[n]? = some (growR 4 lv (condR out))) (hm:L[m]? = some (boxR t25 c.cells)) (b0:Bool)
  {t6 t7 t8 t9 t10 t14 t19 t42 t43 t44 t68 t69 t70 t124 t125 t126 t153 t154:Value} {w:Nat} (hw:w<2 ^ 40) {X0 X1 X2 X3:List Value->AH->Prop}
  (yes:(b0||decide (c∈out))=true->∀ H',Has H0 Z H' L->X3 [t6,t7,t8,t9,t10,t14,t19,lv,t42,t43,t44,t68,t69,t70,t124,t125,t126,t153,t154,vi ((w+1:Nat):Int)] H')
  (no:(b0||decide (c∈out))=false->∀ lv' H',Has H0 Z H' (L.set n (growR 4 lv' (condR (out++[c]))))->X3 [t6,t7,t8,t9,t10,t14,t19,lv',t42,t43,t44,t68,t69,t70,t124,t125,t126,t153,t154,vi ((w+1:Nat):Int)] H') :
  LoopL (fun l H X4=>F.f24_l8 E Q X0 X1 X2 X3 (nth l 0) (nth l 1) (nth l 2) (nth l 3) (nth l 4) (nth l 5) (nth l 6) (nth l 7) (nth l 8) (nth l 9) (nth l 10) (nth l 11) (nth l 12) (nth l 13) (nth l 14) (nth l 15) (nth l 16) (nth l 17) (nth l 18) (nth l 19) (nth l 20) (nth l 21) (nth l 22) (nth l 23) (nth l 24) H X4) [t6,t7,t8,t9,t10,t14,t19,lv,ptr t25 0,vb b0,t42,t43,t44,t68,t69,t70,t124,t125,t126,t153,t154,vi w,lv,vi out.length,(.int .i64 0)] H:=by
 have i0:(.int .i64 0:Value)=vi ((0:Nat):Int):=rfl
 rw [i0]
 refine LoopL.count out.length (fun j ls H'=>ls=[t6,t7,t8,t9,t10,t14,t19,lv,ptr t25 0,vb (b0||decide (c∈out.take j)),t42,t43,t44,t68,t69,t70,t124,t125,t126,t153,t154,vi w,lv,vi out.length,vi j]/\Has H0 Z H' L) ?_ ⟨by simp,g0⟩
 rintro j _ H1 X4 hj ih ⟨rfl,g⟩
 have b25:=g.box hm
 have lo25:loadN 4 (ptr t25 0) H1=some c.v:=cond_load b25
 rcases Nat.lt_or_ge j out.length with hlt | hge
 rotate_left
 ·have hlt':decide ((j:Int)<out.length)=false:=decide_eq_false (by omega)
  have i1:=i64_inc (i:=w) (by omega)
  rw [List.take_of_length_le (by omega)]
  cases hb:(b0||decide (c∈out)) with
  | true =>
   simp only [F.f24_l8,nthZ,i64_lss,hlt',un_not_z,Bool.not_true,i1,stdZ]
   exact yes hb _ g
  | false =>
   have hbS:buildS 1 4 #[(.int .i64 0),(.int .u8 0),(.int .u64 0),(.int .u64 0)] [(0,c.v)]=some (.cells c.cells none,mkSlc 1 1):=buildS_one 4 [vi 0,u8 0#8,u64 0#64,u64 0#64] c.cells rfl rfl
   obtain ⟨v',H2,a1,_,g2⟩:=g.app1 (k:=n) (sz:=4) (v:=lv) (rows:=condR out) (bytes:=32) hn c.cells rfl (by simp [CondD.cells]) (by decide) (by decide) (by rw [condR_length]; omega)
   have hr:condR (out++[c])=condR out++[c.cells]:=by simp [condR]
   simp only [F.f24_l8,nthZ,i64_lss,hlt',un_not_z,Bool.not_false,lo25,hbS,AM.mk_some,mkSlc_eq,a1,i1,stdZ]
   refine no hb v' H2 ?_
   rw [hr]; exact g2
 have hlt':decide ((j:Int)<out.length)=true:=decide_eq_true (by omega)
 obtain ⟨b,o,f1,f2⟩:=cond_ix (g.rows hn) hlt
 have lo:=f2 _ (Ext.refl _)
 have htk:decide (c∈out.take (j+1))=(decide (c∈out.take j)||decide (c=out[j])):=by
  rw [List.take_succ,List.getElem?_eq_getElem hlt]
  simp only [Option.toList_some,List.mem_append,List.mem_cons,List.not_mem_nil,or_false,Bool.decide_or]
 have ih:=ih hlt
 rw [htk,<- Bool.or_assoc] at ih
 have hinc:=i64_inc (i:=j) (by omega)
 generalize out[j]=y at *
 have g2:=g.grow ((Ext.refl H1).new (.cells y.cells none))
 have b2:=AH.get_new_self H1 (.cells y.cells none)
 have b252:=g2.box hm
 have lo252:loadN 4 (ptr t25 0) (H1.new (.cells y.cells none))=some c.v:=cond_load b252
 cases hb:(b0||decide (c∈out.take j)) with
 | true =>
  rw [hb,Bool.true_or] at ih
  simp only [F.f24_l8,nthZ,i64_lss,hlt',f1,lo,allocW_eq,cond_new,hinc,stdZ]
  exact ih _ _ ⟨rfl,g2⟩
 | false =>
  rw [hb,Bool.false_or] at ih
  simp only [F.f24_l8,nthZ,i64_lss,hlt',f1,lo,allocW_eq,cond_new,lo252,cond_load b2,cond_agg,hinc,stdZ]
  exact ih _ _ ⟨rfl,g2⟩
theorem plans_l7 (hE:Fold E) {x:RuleD} {xv bv:Value} {B:List BranchD} (hx:Rows H0 4 xv (condR x.conds)) (hxl:x.conds.length<=100) (hb:SliceOf (BranchAt 0) H0 2 bv B) {k:Nat} (hk:k<B.length) (hbk:B[k]=⟨tidyC x.conds,x.action⟩) (hkl:k<2 ^ 30)
  {t14:Nat} {num:Value} (b14:H0.get t14 = .cells [num,bv] none) {t6 t7 t10 t42 t43 t44 t68 t69 t70 t124 t125:Value} {nb nc w:Nat} (hb1:nb<2 ^ 40) (hb2:nc<2 ^ 40) (hw:w<2 ^ 40) {X0 X1 X2:List Value->AH->Prop}
  (next:∀ H',Ext H0 H'->X2 [t6,t7,vi ((nb+1:Nat):Int),vi ((nc+(tidyC x.conds).length:Nat):Int),t10,ptr t14 0,vi ((k+1:Nat):Int),vb (decide ((tidyC x.conds).length=0)),t42,t43,t44,t68,t69,t70,t124,t125,vi ((w+1:Nat):Int)] H') :
  LoopL (fun l H X3=>F.f24_l7 E Q X0 X1 X2 (nth l 0) (nth l 1) (nth l 2) (nth l 3) (nth l 4) (nth l 5) (nth l 6) (nth l 7) (nth l 8) (nth l 9) (nth l 10) (nth l 11) (nth l 12) (nth l 13) (nth l 14) (nth l 15) (nth l 16) (nth l 17) (nth l 18) (nth l 19) H X3) [t6,t7,vi nb,vi nc,t10,ptr t14 0,vi k,nilS,t42,t43,t44,t68,t69,t70,t124,t125,vi w,xv,vi x.conds.length,(.int .i64 0)] H0:=by
 have i0:(.int .i64 0:Value)=vi ((0:Nat):Int):=rfl
 rw [i0]
 refine LoopL.count x.conds.length (fun j ls H'=>∃ lv out,ls=[t6,t7,vi nb,vi nc,t10,ptr t14 0,vi k,lv,t42,t43,t44,t68,t69,t70,t124,t125,vi w,xv,vi x.conds.length,vi j]/\Has H0 H0 H' [growR 4 lv (condR out)]/\tidyC x.conds=tidyFrom out (x.conds.drop j)/\out.length<=j) ?_ ⟨nilS,[],rfl,(Has.begin (Ext.refl H0) (Sub.refl H0)).nils 4,rfl,Nat.le_refl _⟩
 rintro j _ H1 X3 hj ih ⟨lv,out,rfl,g,ht,hol⟩
 have hlv:=(g.rows (k:=0) (sz:=4) (v:=lv) (rows:=condR out) rfl).lenSlc
 rw [condR_length] at hlv
 rcases Nat.lt_or_ge j x.conds.length with hlt | hge
 rotate_left
 ·have hlt':decide ((j:Int)<x.conds.length)=false:=decide_eq_false (by omega)
  rw [List.drop_of_length_le (by omega),tidyFrom] at ht
  rw [ht] at next hbk
  obtain ⟨b,o,cv,f1,f2,hcp,hcr,_⟩:=branch_ix hb hk
  rw [hbk] at f2 hcr
  have hcr:Rows H0 4 cv (condR out):=hcr
  have lo:=f2 H1 g.ext
  have q1:[num,bv][1]? = some bv:=rfl
  have st:storeN 2 (ptr H1.next 0) (.agg [cv,u32 x.action].toArray) (H1.new (.cells [(.slice none 0 0),(.int .u32 0)] none))=some (H1.new (.cells [cv,u32 x.action] none)):=slice_empty_store2 hcp rfl rfl
  have x2:Ext H1 (H1.new (.cells [cv,u32 x.action] none)):=(Ext.refl _).new _
  have bx:=AH.get_new_self H1 (.cells [cv,u32 x.action] none)
  have q0:[cv,u32 x.action][0]? = some cv:=rfl
  have hlc:=(hcr.mono (g.ext.trans x2)).lenSlc
  rw [condR_length] at hlc
  have dne:decide ((out.length:Int)≠(out.length:Int))=false:=decide_eq_false (by simp)
  simp only [F.f24_l7,nthZ,i64_lss,hlt',g.ext.cells b14,q1,f1,lo,allocW_eq,st,bx,q0,hlc,hlv,i64_neq,dne,stdZ]
  exact plans_l9 hE (hcr.mono (g.ext.trans x2)) ((g.rows (k:=0) (sz:=4) (v:=lv) (rows:=condR out) rfl).mono x2) (by omega) bx hb1 hb2 (by omega) hw fun H' e'=>next _ ((g.ext.trans x2).trans e')
 have hlt':decide ((j:Int)<x.conds.length)=true:=decide_eq_true (by omega)
 obtain ⟨b,o,f1,f2⟩:=cond_ix hx hlt
 have lo:=f2 H1 g.ext
 rw [List.drop_eq_getElem_cons hlt,tidyFrom] at ht
 have ih:=ih hlt
 generalize x.conds[j]=c at *
 have g2:=g.newbox c.cells
 have b2:=AH.get_new_self H1 (.cells c.cells none)
 simp only [F.f24_l7,nthZ,i64_lss,hlt',f1,lo,allocW_eq,cond_new,cond_load b2,stdZ]
 generalize H1.new (.cells c.cells none)=H2 at *
 generalize H1.next=t25 at *
 refine S.f25 hE c fun H3 e3 =>?_
 have g3:=g2.grow e3
 simp only [hlv,nthZ,stdZ]
 refine plans_l8 hE (by omega) g3 (n:=0) (m:=1) rfl rfl (alwaysC c) (w:=j) (by omega) (fun hb H' g' =>?_) fun hb lv' H' g' =>?_
 ·refine ih _ _ ⟨lv,out,rfl,g'.drop 1,?_,by omega⟩
  rw [if_neg] at ht
  ·exact ht
  ·rintro ⟨h1,h2⟩
   rw [h1,Bool.false_or] at hb
   exact h2 (of_decide_eq_true hb)
 ·rw [Bool.or_eq_false_iff] at hb
  rw [if_pos ⟨hb.1,of_decide_eq_false hb.2⟩] at ht
  exact ih _ _ ⟨lv',out++[c],rfl,g'.drop 1,ht,by rw [List.length_append]; simp; omega⟩
theorem branchesF_live {x:RuleD} {l:List RuleD} (h:neverC x.conds=false):∃ rest,branchesF (x :: l)=⟨tidyC x.conds,x.action⟩ :: rest/\(tidyC x.conds=[]->rest=[])/\(tidyC x.conds≠[]->rest=branchesF l):=by
 have hn:neverC (tidyC x.conds)=false:=by rw [never_tidy]; exact h
 rw [branchesF,if_neg (by rw [hn]; decide)]
 by_cases ht:tidyC x.conds=[]
 ·rw [if_pos ht]
  exact ⟨[],by rw [ht],fun _=>rfl,fun h=>(h ht).elim⟩
 ·rw [if_neg ht]
  exact ⟨_,rfl,fun h=>(ht h).elim,fun _=>rfl⟩
theorem branchesF_dead {x:RuleD} {l:List RuleD} (h:neverC x.conds=true):branchesF (x :: l)=branchesF l:=by
 rw [branchesF,if_pos (by rw [never_tidy]; exact h)]
theorem plans_l6 (hE:Fold E) {W:List RuleD} {wv bv:Value} (hw:SliceOf RuleAt H0 3 wv W) (hwl:W.length<=1000) (hwc:∀ x∈W,x.conds.length<=100) (hb:SliceOf (BranchAt 0) H0 2 bv (branchesF W))
  {t14:Nat} {num:Value} (b14:H0.get t14 = .cells [num,bv] none) {t6 t7 t10 t42 t43 t44 t68 t69:Value} {nb nc w:Nat} (hb1:nb<2 ^ 30) (hb2:nc<2 ^ 30) (hwk:w<2 ^ 30) {X0 X1:List Value->AH->Prop}
  (next:∀ H',Ext H0 H'->X1 [t6,t7,vi ((nb+(branchesF W).length:Nat):Int),vi ((nc+((branchesF W).flatMap BranchD.conds).length:Nat):Int),t10,t42,t43,t44,t68,t69,vi ((w+1:Nat):Int)] H') :
  LoopL (fun l H X2=>F.f24_l6 E Q X0 X1 (nth l 0) (nth l 1) (nth l 2) (nth l 3) (nth l 4) (nth l 5) (nth l 6) (nth l 7) (nth l 8) (nth l 9) (nth l 10) (nth l 11) (nth l 12) (nth l 13) (nth l 14) (nth l 15) (nth l 16) H X2) [t6,t7,vi nb,vi nc,t10,ptr t14 0,(.int .i64 0),(.bool false),t42,t43,t44,t68,t69,vi w,wv,vi W.length,(.int .i64 0)] H0:=by
 have i0:(.int .i64 0:Value)=vi ((0:Nat):Int):=rfl
 rw [i0]
 have hBl:=branchesF_le W
 have hBc:((branchesF W).flatMap BranchD.conds).length<=100*(branchesF W).length:=flat_len_le BranchD.conds 100 (branchesF W) (branchesF_conds W hwc)
 have hBe:branchesF W=branchesF W:=rfl
 generalize hB:branchesF W=B at *
 have hlb:=SliceOf.lenSlc hb
 have q1:[num,bv][1]? = some bv:=rfl
 refine LoopL.count W.length (fun j ls H'=>∃ (k:Nat) (e:Bool),ls=[t6,t7,vi ((nb+k:Nat):Int),vi ((nc+((B.take k).flatMap BranchD.conds).length:Nat):Int),t10,ptr t14 0,vi k,vb e,t42,t43,t44,t68,t69,vi w,wv,vi W.length,vi j]/\Ext H0 H'/\k<=B.length/\(e=false->B.drop k=branchesF (W.drop j))/\(e=true->k=B.length)) ?_ ⟨0,false,rfl,Ext.refl _,Nat.zero_le _,fun _=>hB.symm,fun h=>by cases h⟩
 rintro j _ H1 X2 hj ih ⟨k,e,rfl,e1,hkB,hf,ht⟩
 rcases Nat.lt_or_ge j W.length with hlt | hge
 rotate_left
 ·have hlt':decide ((j:Int)<W.length)=false:=decide_eq_false (by omega)
  have hkE:k=B.length:=by
   cases e with
   | true=>exact ht rfl
   | false =>
    have:=hf rfl
    rw [List.drop_of_length_le (show W.length<=j by omega)] at this
    have:=congrArg List.length this
    rw [List.length_drop] at this
    have h0:(branchesF []).length=0:=rfl
    omega
  subst hkE
  rw [List.take_length]
  have i1:=i64_inc (i:=w) (by omega)
  have dne:decide ((B.length:Int)≠(B.length:Int))=false:=decide_eq_false (by simp)
  simp only [F.f24_l6,nthZ,i64_lss,hlt',e1.cells b14,q1,hlb,i64_neq,dne,i1,stdZ]
  exact next _ e1
 have hlt':decide ((j:Int)<W.length)=true:=decide_eq_true (by omega)
 obtain ⟨b,o,rc,f1,f2,f3⟩:=(hw.sub (fun _ _ _ _ h e=>RuleAt.sub h e) e1.sub).ix hlt
 obtain ⟨hxl,xv,rfl,hxr⟩:=id f3
 have hxr:Rows H1 4 xv (condR W[j].conds):=hxr
 have lo:loadN 3 (ptr b o) H1=some (.agg [u32 W[j].number,u32 W[j].action,xv].toArray):=by rw [loadN_ptr,f2]; rfl
 have hxc:=hwc W[j] (List.getElem_mem hlt)
 have hdr:=List.drop_eq_getElem_cons hlt
 rw [hdr] at hf
 have ih:=ih hlt
 have hinc:=i64_inc (i:=j) (by omega)
 generalize W[j]=x at *
 have hxp:plain1 xv=true:=hxr.plain
 have st:storeN 3 (ptr H1.next 0) (.agg [u32 x.number,u32 x.action,xv].toArray) (H1.new (.cells [(.int .u32 0),(.int .u32 0),(.slice none 0 0)] none))=some (H1.new (.cells [u32 x.number,u32 x.action,xv] none)):=fresh_store (n:=3) rfl rfl (by simp [hxp])
 have x2:Ext H1 (H1.new (.cells [u32 x.number,u32 x.action,xv] none)):=(Ext.refl _).new _
 have bx:=AH.get_new_self H1 (.cells [u32 x.number,u32 x.action,xv] none)
 have p2:[u32 x.number,u32 x.action,xv][2]? = some xv:=rfl
 have p1:[u32 x.number,u32 x.action,xv][1]? = some (u32 x.action):=rfl
 cases e with
 | true =>
  simp only [F.f24_l6,nthZ,i64_lss,hlt',f1,lo,allocW_eq,st,hinc,stdZ]
  exact ih _ _ ⟨k,true,rfl,e1.trans x2,hkB,fun h=>(by cases h),ht⟩
 | false =>
  have hf:=hf rfl
  simp only [F.f24_l6,nthZ,i64_lss,hlt',f1,lo,allocW_eq,st,bx,p2,stdZ]
  have hxr2:=hxr.mono x2
  have e2:=e1.trans x2
  generalize H1.new (.cells [u32 x.number,u32 x.action,xv] none)=H2 at *
  generalize H1.next=tx at *
  refine S.f26 hE hxr2 (by omega) fun H3 e3 =>?_
  have e13:=e2.trans e3
  cases hd:neverC x.conds with
  | true =>
   rw [branchesF_dead hd] at hf
   simp only [hinc,nthZ,stdZ]
   exact ih _ _ ⟨k,false,rfl,e13,hkB,fun _=>hf,fun h=>(by cases h)⟩
  | false =>
   obtain ⟨rest,r1,r2,r3⟩:=branchesF_live (l:=W.drop (j+1)) hd
   rw [r1] at hf
   have hk:k<B.length:=by
    have:=congrArg List.length hf
    rw [List.length_drop,List.length_cons] at this
    omega
   have hd2:=List.drop_eq_getElem_cons hk
   rw [hd2] at hf
   have hbk:B[k]=⟨tidyC x.conds,x.action⟩:=(List.cons.inj hf).1
   have hrest:B.drop (k+1)=rest:=(List.cons.inj hf).2
   obtain ⟨b2,o2,cv,g1,g2,hcp,hcr,_⟩:=branch_ix hb hk
   rw [hbk] at g2
   have g2:=g2 H3 e13
   have hc2:((H3.get b2).cell (o2+1))=some (u32 x.action):=by
    rw [loadN_ptr] at g2
    cases hro:(H3.get b2).row o2 2 with
    | none=>rw [hro] at g2; cases g2
    | some l =>
     rw [hro] at g2
     have hl:l=[cv,u32 x.action]:=by
      have:=Option.some.inj g2
      have:=congrArg (fun v=>match v with | .agg a=>a.toList | _=>[]) this
      simpa using this
     subst hl
     have:=row_at hro (j:=1) (by omega)
     simpa using this
   have dge:decide ((B.length:Int)<=(k:Int))=false:=decide_eq_false (by omega)
   have dne:decide (x.action≠x.action)=false:=decide_eq_false (by simp)
   have bx3:=e3.cells bx
   have hlx:=(hxr2.mono e3).lenSlc
   rw [condR_length] at hlx
   have b143:=e13.cells b14
   have htf:=flat_take BranchD.conds hk
   have htl:((B.take (k+1)).flatMap BranchD.conds).length=((B.take k).flatMap BranchD.conds).length+(tidyC x.conds).length:=by rw [htf,List.length_append,hbk]
   have hfl:=flat_take_le BranchD.conds B k
   simp only [b143,q1,hlb,i64_geq,dge,g1,hc2,bx3,p1,u32_neq,dne,p2,hlx,nthZ,stdZ]
   refine plans_l7 hE (hxr2.mono e3) hxc (hb.sub (fun _ _ _ _ h e=>BranchAt.sub h e) e13.sub) hk hbk (by omega) b143 (w:=j) (by omega) (by omega) (by omega) fun H' e' =>?_
   refine ih _ _ ⟨k+1,decide ((tidyC x.conds).length=0),?_,e13.trans e',hk,fun h =>?_,fun h =>?_⟩
   ·rw [htl]; simp only [Nat.add_assoc]
   ·rw [hrest]
    exact r3 fun hz=>by rw [hz] at h; simp at h
   ·have hz:=r2 (List.length_eq_zero_iff.1 (of_decide_eq_true h))
    rw [hz] at hrest
    have:=congrArg List.length hrest
    rw [List.length_drop,List.length_nil] at this
    omega
def wantF (rs:List RuleD) (n:BitVec 32):Nat->List RuleD
 | 0=>[]
 | m+1=>wantF rs n m++byRank (ofNum rs n) m
theorem wantF_4 (rs:List RuleD) (n:BitVec 32):wantF rs n 4=sortS (ofNum rs n):=rfl
def isW (n:BitVec 32) (m:Nat) (x:RuleD):Bool:=decide (x.number=n)&&decide (rankA x.action=m)
theorem isW_filter (rs:List RuleD) (n:BitVec 32) (m:Nat):rs.filter (isW n m)=byRank (ofNum rs n) m:=by
 unfold byRank ofNum
 rw [List.filter_filter]
 refine List.filter_congr fun x _ =>?_
 unfold isW
 rw [Bool.and_comm]
theorem plans_l5 (hE:Fold E) {rs:List RuleD} {rv:Value} (hr:SliceOf RuleAt H0 3 rv rs) (hrl:rs.length<=1000) {n:BitVec 32} {bv:Value} {t14:Nat} (b14:H0.get t14 = .cells [u32 n,bv] none) {m:Nat} (hm:m<=3) {wv:Value} {rows:List (List Value)} {W:List RuleD} (he:Each (RuleAt H0) rows W) (hwl:W.length<=4000)
  (g0:Has H0 H0 H [growR 3 wv rows]) {t6 t7 t8 t9 t10 t42 t43 t44 t68 t69 t70:Value} {X0 X1 X2:List Value->AH->Prop}
  (next:∀ wv' rows' H',Each (RuleAt H0) rows' (W++byRank (ofNum rs n) m)->Has H0 H0 H' [growR 3 wv' rows']->X2 [t6,t7,t8,t9,t10,ptr t14 0,wv',vi (3 - (m:Int) - 1),t42,t43,t44,t68,t69,t70] H') :
  LoopL (fun l H X3=>F.f24_l5 E Q X0 X1 X2 (nth l 0) (nth l 1) (nth l 2) (nth l 3) (nth l 4) (nth l 5) (nth l 6) (nth l 7) (nth l 8) (nth l 9) (nth l 10) (nth l 11) (nth l 12) (nth l 13) (nth l 14) (nth l 15) (nth l 16) H X3) [t6,t7,t8,t9,t10,ptr t14 0,wv,vi (3 - (m:Int)),t42,t43,t44,t68,t69,t70,rv,vi rs.length,(.int .i64 0)] H:=by
 have i0:(.int .i64 0:Value)=vi ((0:Nat):Int):=rfl
 rw [i0]
 rw [<- isW_filter] at next
 refine LoopL.count rs.length (fun j ls H'=>∃ wv rows,ls=[t6,t7,t8,t9,t10,ptr t14 0,wv,vi (3 - (m:Int)),t42,t43,t44,t68,t69,t70,rv,vi rs.length,vi j]/\Each (RuleAt H0) rows (W++(rs.take j).filter (isW n m))/\Has H0 H0 H' [growR 3 wv rows]) ?_ ⟨wv,rows,rfl,by simpa using he,g0⟩
 rintro j _ H1 X3 hj ih ⟨wv,rows,rfl,he,g⟩
 rcases Nat.lt_or_ge j rs.length with hlt | hge
 rotate_left
 ·have hlt':decide ((j:Int)<rs.length)=false:=decide_eq_false (by omega)
  rw [List.take_of_length_le (by omega)] at he
  have hs:binInt .sub (vi (3 - (m:Int))) (.int .i64 1)=some (vi (3 - (m:Int) - 1)):=i64_sub (by omega) (by omega)
  simp only [F.f24_l5,nthZ,i64_lss,hlt',hs,stdZ]
  exact next wv rows H1 he g
 have hlt':decide ((j:Int)<rs.length)=true:=decide_eq_true (by omega)
 obtain ⟨b,o,rc,f1,f2,f3⟩:=hr.ix hlt
 obtain ⟨hxl,xv,rfl,hxr⟩:=id f3
 have lo:loadN 3 (ptr b o) H1=some (.agg [u32 rs[j].number,u32 rs[j].action,xv].toArray):=by rw [loadN_ptr,row_extP g.ext f2]; rfl
 have htk:(rs.take (j+1)).filter (isW n m)=(rs.take j).filter (isW n m)++(if isW n m rs[j]=true then [rs[j]] else []):=by
  rw [List.take_succ,List.getElem?_eq_getElem hlt,List.filter_append]
  simp only [Option.toList_some,List.filter_cons,List.filter_nil]
 have hfl:=List.length_filter_le (isW n m) (rs.take j)
 rw [List.length_take] at hfl
 have ih:=ih hlt
 rw [htk,<- List.append_assoc] at ih
 have hinc:=i64_inc (i:=j) (by omega)
 have hrl2:rows.length<=6000:=by rw [he.1,List.length_append]; omega
 generalize W++(rs.take j).filter (isW n m)=W1 at *
 generalize rs[j]=x at *
 have hxp:plain1 xv=true:=hxr.plain
 have st:storeN 3 (ptr H1.next 0) (.agg [u32 x.number,u32 x.action,xv].toArray) (H1.new (.cells [(.int .u32 0),(.int .u32 0),(.slice none 0 0)] none))=some (H1.new (.cells [u32 x.number,u32 x.action,xv] none)):=fresh_store (n:=3) rfl rfl (by simp [hxp])
 have g2:=g.newbox [u32 x.number,u32 x.action,xv]
 have bx:=AH.get_new_self H1 (.cells [u32 x.number,u32 x.action,xv] none)
 have lox:loadN 3 (ptr H1.next 0) (H1.new (.cells [u32 x.number,u32 x.action,xv] none))=some (.agg [u32 x.number,u32 x.action,xv].toArray):=fresh_load rfl
 have p0:[u32 x.number,u32 x.action,xv][0]? = some (u32 x.number):=rfl
 have p1:[u32 x.number,u32 x.action,xv][1]? = some (u32 x.action):=rfl
 have q0:[u32 n,bv][0]? = some (u32 n):=rfl
 have b14':=g2.ext.cells b14
 simp only [F.f24_l5,nthZ,i64_lss,hlt',f1,lo,allocW_eq,st,bx,p0,b14',q0,u32_eql,stdZ]
 have skip:isW n m x=false->X3 [t6,t7,t8,t9,t10,ptr t14 0,wv,vi (3 - (m:Int)),t42,t43,t44,t68,t69,t70,rv,vi rs.length,vi ((j+1:Nat):Int)] (H1.new (.cells [u32 x.number,u32 x.action,xv] none)):=fun hw=>by
  rw [hw,if_neg (by decide),List.append_nil] at ih
  exact ih _ _ ⟨wv,rows,rfl,he,g2.drop 1⟩
 by_cases hn:x.number=n
 rotate_left
 ·have hd:decide (x.number=n)=false:=decide_eq_false hn
  simp only [hd,hinc,nthZ,stdZ]
  exact skip (by simp [isW,hn])
 have hd:decide (x.number=n)=true:=decide_eq_true hn
 simp only [hd,bx,p1,nthZ,stdZ]
 refine S.f29 hE x.action ?_
 rw [rstrength_eq]
 have hrk:=(rankA_le x.action).2
 have hrk3:=(rankA_le x.action).1
 by_cases hs:rankA x.action=m
 rotate_left
 ·have hd2:decide (astrength x.action=3 - (m:Int))=false:=decide_eq_false (by omega)
  simp only [hd,nthZ,i64_eql,hd2,hinc,stdZ]
  exact skip (by simp [isW,hs])
 have hd2:decide (astrength x.action=3 - (m:Int))=true:=decide_eq_true (by omega)
 have hw:isW n m x=true:=by simp [isW,hn,hs]
 rw [hw,if_pos rfl] at ih
 have hbS:buildS 1 3 #[(.int .u32 0),(.int .u32 0),(.slice none 0 0)] [(0,.agg [u32 x.number,u32 x.action,xv].toArray)]=some (.cells [u32 x.number,u32 x.action,xv] none,mkSlc 1 1):=buildS_one 3 [u32 0#32,u32 0#32,nilS] [u32 x.number,u32 x.action,xv] rfl rfl
 obtain ⟨w,H4,a1,pw,g4⟩:=g2.app1 (k:=0) (sz:=3) (v:=wv) (rows:=rows) (bytes:=32) rfl [u32 x.number,u32 x.action,xv] rfl (by simp [hxp]) (by decide) (by decide) (by omega)
 rw [AH.next_new] at a1
 simp only [hd,nthZ,i64_eql,hd2,lox,hbS,AM.mk_some,mkSlc_eq,a1,hinc,stdZ]
 exact ih _ _ ⟨w,_,rfl,he.snoc f3,g4.drop 1⟩
theorem plans_l4 (hE:Fold E) {rs:List RuleD} {rv:Value} (hr:SliceOf RuleAt H0 3 rv rs) (hrl:rs.length<=1000) (hrc:∀ x∈rs,x.conds.length<=100) {n:BitVec 32} {bv:Value} {t6 t14:Nat} (b14:H0.get t14 = .cells [u32 n,bv] none) {pc:List Value} (b6:H0.get t6 = .cells pc none) (hpc:pc[2]? = some rv)
  (hb:SliceOf (BranchAt 0) H0 2 bv (branchesF (sortS (ofNum rs n)))) {t7 t10 t42 t43 t44 t68 t69:Value} {nb nc w:Nat} (hb1:nb<2 ^ 30) (hb2:nc<2 ^ 30) (hwk:w<2 ^ 30) {X0 X1:List Value->AH->Prop}
  (next:∀ H',Ext H0 H'->X1 [ptr t6 0,t7,vi ((nb+(branchesF (sortS (ofNum rs n))).length:Nat):Int),vi ((nc+((branchesF (sortS (ofNum rs n))).flatMap BranchD.conds).length:Nat):Int),t10,t42,t43,t44,t68,t69,vi ((w+1:Nat):Int)] H') :
  LoopL (fun l H X2=>F.f24_l4 E Q X0 X1 (nth l 0) (nth l 1) (nth l 2) (nth l 3) (nth l 4) (nth l 5) (nth l 6) (nth l 7) (nth l 8) (nth l 9) (nth l 10) (nth l 11) (nth l 12) (nth l 13) H X2) [ptr t6 0,t7,vi nb,vi nc,t10,ptr t14 0,nilS,(.int .i64 3),t42,t43,t44,t68,t69,vi w] H0:=by
 have i3:(.int .i64 3:Value)=vi (3 - ((0:Nat):Int)):=rfl
 rw [i3]
 have hon:(ofNum rs n).length<=1000:=Nat.le_trans (List.length_filter_le _ _) hrl
 have hbr:∀ m,(byRank (ofNum rs n) m).length<=1000:=fun m=>Nat.le_trans (List.length_filter_le _ _) hon
 refine LoopL.ind (fun q ls H'=>∃ (m:Nat) (wv:Value) (rows:List (List Value)),q=4 - m/\m<=4/\ls=[ptr t6 0,t7,vi nb,vi nc,t10,ptr t14 0,wv,vi (3 - (m:Int)),t42,t43,t44,t68,t69,vi w]/\Each (RuleAt H0) rows (wantF rs n m)/\(wantF rs n m).length<=1000*m/\Has H0 H0 H' [growR 3 wv rows]) ?_ 4 ⟨0,nilS,[],rfl,by omega,rfl,Each.nil _,by simp [wantF],(Has.begin (Ext.refl H0) (Sub.refl H0)).nils 3⟩
 rintro q _ H1 X2 ih ⟨m,wv,rows,rfl,hm4,rfl,he,hwl,g⟩
 rcases Nat.lt_or_ge m 4 with hlt | hge
 ·have hd:decide ((0:Int)<=3 - (m:Int))=true:=decide_eq_true (by omega)
  have hlr:=SliceOf.lenSlc (hr.sub (fun _ _ _ _ h e=>RuleAt.sub h e) g.ext.sub)
  simp only [F.f24_l4,i64_geq,hd,g.ext.cells b6,hpc,hlr,nthZ,stdZ]
  refine plans_l5 hE hr hrl b14 (m:=m) (by omega) he (by omega) g fun wv' rows' H' he' g' =>?_
  refine ih (4 - (m+1)) (by omega) _ _ ⟨m+1,wv',rows',rfl,hlt,?_,he',?_,g'⟩
  ·have:3 - (m:Int) - 1=3 - ((m+1:Nat):Int):=by omega
   rw [this]
  ·have:=hbr m
   rw [wantF,List.length_append]; omega
 ·have hm:m=4:=by omega
  subst hm
  have hd:decide ((0:Int)<=3 - ((4:Nat):Int))=false:=by decide
  rw [wantF_4] at he
  have hW:SliceOf RuleAt H1 3 wv (sortS (ofNum rs n)):=⟨rows,g.rows (k:=0) rfl,he.1,fun i h1 h2=>(he.2 i h1 h2).sub g.ext.sub⟩
  have hlw:=SliceOf.lenSlc hW
  have hmem:∀ x∈sortS (ofNum rs n),x∈rs:=fun x hx=>by
   have h1:∀ j,x∈byRank (ofNum rs n) j->x∈rs:=fun j hj=>(List.mem_filter.1 (List.mem_filter.1 hj).1).1
   unfold sortS at hx
   simp only [List.mem_append] at hx
   rcases hx with ((hx | hx) | hx) | hx <;> exact h1 _ hx
  simp only [F.f24_l4,i64_geq,hd,hlw,nthZ,stdZ]
  exact plans_l6 hE hW (by rw [sortS_len]; exact hon) (fun x hx=>hrc x (hmem x hx)) (hb.sub (fun _ _ _ _ h e=>BranchAt.sub h e) g.ext.sub) (g.ext.cells b14) hb1 hb2 hwk fun H' e'=>next H' (g.ext.trans e')
def insKN (K:List (BitVec 32)) (n:BitVec 32):List (BitVec 32):=if n∈K then K else K++[n]
def keysN (rs:List RuleD):List (BitVec 32):=rs.foldl (fun K x=>insKN K x.number) []
theorem insKN_mem (K:List (BitVec 32)) (n m:BitVec 32):m∈insKN K n↔m∈K\/m=n:=by
 unfold insKN
 split
 ·constructor
  ·exact .inl
  ·rintro (h | rfl) <;> assumption
 ·simp
theorem insKN_nodup {K:List (BitVec 32)} (h:K.Nodup) (n:BitVec 32):(insKN K n).Nodup:=by
 unfold insKN
 split
 ·exact h
 ·rename_i hn
  rw [List.nodup_append]
  exact ⟨h,by simp,fun x hx y hy=>by rw [List.mem_singleton.1 hy]; exact fun e=>hn (e▸hx)⟩
theorem keysN_go:∀ (rs:List RuleD) (K:List (BitVec 32)),K.Nodup->(rs.foldl (fun K x=>insKN K x.number) K).Nodup/\∀ m,m∈rs.foldl (fun K x=>insKN K x.number) K↔m∈K\/∃ r∈rs,r.number=m
 | [],K,h=>⟨h,fun m=>by simp⟩
 | x :: rs,K,h=>by
  obtain ⟨h1,h2⟩:=keysN_go rs (insKN K x.number) (insKN_nodup h _)
  refine ⟨h1,fun m =>?_⟩
  rw [List.foldl_cons,h2,insKN_mem]
  constructor
  ·rintro ((h | rfl) | ⟨r,hr,rfl⟩)
   ·exact .inl h
   ·exact .inr ⟨x,by simp,rfl⟩
   ·exact .inr ⟨r,by simp [hr],rfl⟩
  ·rintro (h | ⟨r,hr,rfl⟩)
   ·exact .inl (.inl h)
   ·rcases List.mem_cons.1 hr with rfl | hr
    ·exact .inl (.inr rfl)
    ·exact .inr ⟨r,hr,rfl⟩
theorem keysN_len {p:PolD} {ns:List (BitVec 32)} (h:Nums p ns):(keysN p.rules).length=ns.length:=by
 obtain ⟨h1,h2⟩:=keysN_go p.rules [] (by simp)
 have hm:∀ m,m∈keysN p.rules↔m∈ns:=fun m=>by rw [h.mem]; unfold keysN; rw [h2]; simp
 exact Nat.le_antisymm (nodup_le _ _ h1 fun x hx=>(hm x).1 hx) (nodup_le _ _ h.nodup fun x hx=>(hm x).2 hx)
theorem aset_tt (n:BitVec 32):∀ K:List (BitVec 32),aset n true (K.map fun x=>(x,true))=(insKN K n).map fun x=>(x,true):=fun K=>by
 by_cases h:n∈K
 ·unfold insKN
  rw [if_pos h]
  induction K with
  | nil=>simp at h
  | cons k K ih =>
   rw [List.map_cons,aset]
   by_cases hk:k=n
   ·rw [if_pos hk,hk]
   ·rw [if_neg hk,ih (by rcases List.mem_cons.1 h with e | e; exact (hk e.symm).elim; exact e)]
 ·unfold insKN
  rw [if_neg h,List.map_append,aset_fresh n true _ (by simpa using h)]
  rfl
theorem lookup_tt (n:BitVec 32):∀ K:List (BitVec 32),n∈K->(K.map fun x=>(x,true)).lookup n=some true
 | [],h=>by simp at h
 | k :: K,h=>by
  rw [List.map_cons,List.lookup_cons]
  by_cases hk:n=k
  ·subst hk; simp
  ·have:(n == k)=false:=by simpa using hk
   rw [this]
   exact lookup_tt n K (by simpa [hk] using h)
theorem plans_l3 (hE:Fold E) {p:PolD} {ns:List (BitVec 32)} (hns:Nums p ns) (hpr:p.rules.length<=80) (hpc:∀ r∈p.rules,r.conds.length<=20) {v rv:Value} (hv:SliceOf (CaseAt 0) H0 2 v (planOf p ns).cases) (hr:SliceOf RuleAt H0 3 rv p.rules)
  {t6 t7 r:Nat} {pc:List Value} (b6:H0.get t6 = .cells pc none) (hp2:pc[2]? = some rv) (b7:H0.get t7 = .cells [v,u32 (planOf p ns).default] none) (hm:MapAt u32 Value.bool H0 r ((keysN p.rules).map fun x=>(x,true))) {t42 t43:Value} {q:Nat} (hq:q<2 ^ 30) {X0:List Value->AH->Prop}
  (next:∀ H',Ext H0 H'->X0 [t42,t43,vi ((q+1:Nat):Int)] H') :
  LoopL (fun l H X1=>F.f24_l3 E Q X0 (nth l 0) (nth l 1) (nth l 2) (nth l 3) (nth l 4) (nth l 5) (nth l 6) (nth l 7) (nth l 8) (nth l 9) (nth l 10) H X1) [ptr t6 0,ptr t7 0,(.int .i64 0),(.int .i64 0),.map (some r),t42,t43,vi q,v,vi (planOf p ns).cases.length,(.int .i64 0)] H0:=by
 have i0:(.int .i64 0:Value)=vi ((0:Nat):Int):=rfl
 rw [i0]
 obtain ⟨z1,z2,z3,z4⟩:=plan_sizes hns (a:=80) (k:=20) hpr hpc
 have hup:=plan_up hns
 have hkl:=keysN_len hns
 have hcl:(planOf p ns).cases.length=ns.length:=by unfold planOf; simp
 have hcn:∀ i (h:i<(planOf p ns).cases.length),(planOf p ns).cases[i]=caseOf p (ns[i]'(by omega)):=fun i h=>List.getElem_map ..
 have hpl0:PlanAt H0 (planOf p ns) [v,u32 (planOf p ns).default]:=⟨v,rfl,hv⟩
 have hrlt:=hm.lt
 have q0:[v,u32 (planOf p ns).default][0]? = some v:=rfl
 have hlv:=SliceOf.lenSlc hv
 have hmk:∀ {K},Ext H0 K->MapAt u32 Value.bool K r ((keysN p.rules).map fun x=>(x,true)):=fun e=>hm.keep (e.get hrlt)
 have hkin:∀ n∈ns,n∈keysN p.rules:=fun n hn=>by
  obtain ⟨h1,h2⟩:=keysN_go p.rules [] (by simp)
  unfold keysN
  rw [h2]
  exact .inr ((hns.mem n).1 hn)
 refine LoopL.count (planOf p ns).cases.length (fun k ls H'=>ls=[ptr t6 0,ptr t7 0,vi (szB ((planOf p ns).cases.take k):Nat),vi (szC ((planOf p ns).cases.take k):Nat),.map (some r),t42,t43,vi q,v,vi (planOf p ns).cases.length,vi k]/\Ext H0 H') ?_ ⟨rfl,Ext.refl _⟩
 rintro k _ H1 X1 hk ih ⟨rfl,e1⟩
 rcases Nat.lt_or_ge k (planOf p ns).cases.length with hlt | hge
 rotate_left
 ·have hke:k=(planOf p ns).cases.length:=by omega
  subst hke
  have hlt':decide (((planOf p ns).cases.length:Int)<((planOf p ns).cases.length:Int))=false:=decide_eq_false (by omega)
  rw [List.take_length]
  have i1:=i64_inc (i:=q) (by omega)
  have lo7:loadN 2 (ptr t7 0) H1=some (.agg [v,u32 (planOf p ns).default].toArray):=by rw [loadN_ptr,e1.cells b7]; rfl
  simp only [F.f24_l3,i64_lss,hlt',lo7,nthZ,stdZ]
  refine S.f7 hE (planOf p ns) _ (hpl0.mono e1) (by omega) (by omega) (by omega) (fun c hc=>by have:=(z4 c hc).1; omega) fun H2 e2 =>?_
  have e12:=e1.trans e2
  have hml:=(hmk e12).len
  rw [List.length_map,hkl,<- hcl] at hml
  have d1:∀ a:Nat,decide ((a:Int)≠(a:Int))=false:=fun a=>decide_eq_false (by simp)
  simp only [ext_tuple,List.getElem?_cons_zero,List.getElem?_cons_succ,e12.cells b7,q0,hlv,hml,i64_neq,d1,i1,nthZ,stdZ]
  exact next _ e12
 have hlt':decide ((k:Int)<((planOf p ns).cases.length:Int))=true:=decide_eq_true (by omega)
 obtain ⟨b,o,bv,f1,f2,hbp,hbs⟩:=case_ix hv hlt
 obtain ⟨lo,_,_⟩:=f2 H1 e1
 have htb:szB ((planOf p ns).cases.take (k+1))=szB ((planOf p ns).cases.take k)+(planOf p ns).cases[k].branches.length:=by
  unfold szB; rw [flat_take CaseD.branches hlt,List.length_append]
 have htc:szC ((planOf p ns).cases.take (k+1))=szC ((planOf p ns).cases.take k)+((planOf p ns).cases[k].branches.flatMap BranchD.conds).length:=by
  unfold szC; rw [flat_take CaseD.branches hlt,List.flatMap_append,List.length_append]
 have hfb:szB ((planOf p ns).cases.take k)<=szB (planOf p ns).cases:=flat_take_le CaseD.branches (planOf p ns).cases k
 have hfc:szC ((planOf p ns).cases.take k)<=szC (planOf p ns).cases:=by
  unfold szC
  have h:(planOf p ns).cases.flatMap CaseD.branches=((planOf p ns).cases.take k).flatMap CaseD.branches++((planOf p ns).cases.drop k).flatMap CaseD.branches:=by rw [<- List.flatMap_append,List.take_append_drop]
  rw [h,List.flatMap_append,List.length_append]; omega
 have hckn:=hcn k hlt
 have hnk:ns[k]'(by omega)∈ns:=List.getElem_mem _
 have ih:=ih hlt
 rw [htb,htc] at ih
 have hprev:0<k->∃ b' o' n',ixSlc 2 v (vi ((k - 1:Nat):Int))=some (ptr b' o')/\(∀ K,Ext H0 K->(K.get b').cell o'=some (u32 n'))/\n'.toNat<(planOf p ns).cases[k].number.toNat:=fun h0=>by
  have hlt2:k - 1<(planOf p ns).cases.length:=by omega
  obtain ⟨b',o',_,g1,g2,_,_⟩:=case_ix hv hlt2
  exact ⟨b',o',_,g1,fun K e=>(g2 K e).2.1,List.pairwise_iff_getElem.1 hup (k - 1) k hlt2 hlt (by omega)⟩
 rw [hckn] at hbs lo ih hprev
 generalize ns[k]'(by omega)=n at *
 have hnum:(caseOf p n).number=n:=rfl
 have hbr:(caseOf p n).branches=branchesF (sortS (ofNum p.rules n)):=rfl
 rw [hnum] at lo hprev
 rw [hbr] at hbs ih
 generalize szB ((planOf p ns).cases.take k)=nb at *
 generalize szC ((planOf p ns).cases.take k)=nc at *
 have st:storeN 2 (ptr H1.next 0) (.agg [u32 n,bv].toArray) (H1.new (.cells [(.int .u32 0),(.slice none 0 0)] none))=some (H1.new (.cells [u32 n,bv] none)):=slice_empty_store2 rfl hbp rfl
 have x2:Ext H1 (H1.new (.cells [u32 n,bv] none)):=(Ext.refl _).new _
 have e2:=e1.trans x2
 have bx:=AH.get_new_self H1 (.cells [u32 n,bv] none)
 have p0:[u32 n,bv][0]? = some (u32 n):=rfl
 have hlk:AM.look 0 (.bool false) false (.map (some r)) (u32 n) (H1.new (.cells [u32 n,bv] none))=some (vb true):=by
  have h:=(hmk e2).look (kd:=0) same_u32 n (.bool false) false
  rw [h,lookup_tt n _ (hkin n hnk)]
  rfl
 have b62:=e2.cells b6
 have b72:=e2.cells b7
 simp only [F.f24_l3,i64_lss,hlt',f1,lo,allocW_eq,st,i64_gtr,nthZ,stdZ]
 have hr2:=hr.sub (fun _ _ _ _ h e=>RuleAt.sub h e) e2.sub
 have hbs2:=hbs.sub (fun _ _ _ _ h e=>BranchAt.sub h e) e2.sub
 have hprev2:0<k->∃ b' o' n',ixSlc 2 v (vi ((k - 1:Nat):Int))=some (ptr b' o')/\((H1.new (.cells [u32 n,bv] none)).get b').cell o'=some (u32 n')/\n'.toNat<n.toNat:=fun h0=>by
  obtain ⟨b',o',n',g1,g2,g3⟩:=hprev h0
  exact ⟨b',o',n',g1,g2 _ e2,g3⟩
 generalize H1.new (.cells [u32 n,bv] none)=H2 at *
 generalize H1.next=t14 at *
 have go:=plans_l4 (Q:=Q) hE (X0:=X0) (X1:=X1) hr2 (by omega) (fun x hx=>by have:=hpc x hx; omega) bx b62 hp2 hbs2 (t7:=ptr t7 0) (t10 := .map (some r)) (t42:=t42) (t43:=t43) (t44:=vi q) (t68:=v) (t69:=vi (planOf p ns).cases.length) (nb:=nb) (nc:=nc) (w:=k) (by omega) (by omega) (by omega) fun H' e'=>ih _ _ ⟨rfl,e2.trans e'⟩
 by_cases h0:0<k
 ·obtain ⟨b',o',n',g1,g2,g3⟩:=hprev2 h0
  have hd:decide ((0:Int)<(k:Int))=true:=decide_eq_true (by omega)
  have hdec:binInt .sub (vi (k:Int)) (.int .i64 1)=some (vi ((k - 1:Nat):Int)):=by rw [i64_sub (by omega) (by omega)]; congr 2; omega
  have dge:decide (n.toNat<=n'.toNat)=false:=decide_eq_false (by omega)
  simp only [hd,b72,q0,hdec,g1,g2,bx,p0,u32_geq,dge,hlk,un_not_z,Bool.not_true,nthZ,stdZ]
  exact go
 ·have hd:decide ((0:Int)<(k:Int))=false:=decide_eq_false (by omega)
  simp only [hd,bx,p0,hlk,un_not_z,Bool.not_true,nthZ,stdZ]
  exact go
theorem plans_l2 (hE:Fold E) {p:PolD} {ns:List (BitVec 32)} (hns:Nums p ns) (hpr:p.rules.length<=80) (hpc:∀ r∈p.rules,r.conds.length<=20) {v rv:Value} (hv:SliceOf (CaseAt 0) H0 2 v (planOf p ns).cases) (hr:SliceOf RuleAt H0 3 rv p.rules)
  {t6 t7 r:Nat} {pc:List Value} (b6:H0.get t6 = .cells pc none) (hp2:pc[2]? = some rv) (b7:H0.get t7 = .cells [v,u32 (planOf p ns).default] none) (g0:Has H0 H0 H [mapR u32 Value.bool r ([]:List (BitVec 32×Bool))]) {t42 t43:Value} {q:Nat} (hq:q<2 ^ 30) {X0:List Value->AH->Prop}
  (next:∀ H',Ext H0 H'->X0 [t42,t43,vi ((q+1:Nat):Int)] H') :
  LoopL (fun l H X1=>F.f24_l2 E Q X0 (nth l 0) (nth l 1) (nth l 2) (nth l 3) (nth l 4) (nth l 5) (nth l 6) (nth l 7) (nth l 8) (nth l 9) (nth l 10) H X1) [ptr t6 0,ptr t7 0,(.int .i64 0),(.int .i64 0),.map (some r),t42,t43,vi q,rv,vi p.rules.length,(.int .i64 0)] H:=by
 have i0:(.int .i64 0:Value)=vi ((0:Nat):Int):=rfl
 refine LoopL.count p.rules.length (fun k ls H'=>ls=[ptr t6 0,ptr t7 0,(.int .i64 0),(.int .i64 0),.map (some r),t42,t43,vi q,rv,vi p.rules.length,vi k]/\Has H0 H0 H' [mapR u32 Value.bool r ((keysN (p.rules.take k)).map fun x=>(x,true))]) ?_ ⟨rfl,g0⟩
 rintro k _ H1 X1 hk ih ⟨rfl,g⟩
 rcases Nat.lt_or_ge k p.rules.length with hlt | hge
 rotate_left
 ·have hlt':decide ((k:Int)<p.rules.length)=false:=decide_eq_false (by omega)
  rw [List.take_of_length_le (by omega)] at g
  have q0:[v,u32 (planOf p ns).default][0]? = some v:=rfl
  have hlv:=SliceOf.lenSlc hv
  simp only [F.f24_l2,i64_lss,hlt',g.ext.cells b7,q0,hlv,nthZ,stdZ]
  exact plans_l3 hE hns hpr hpc (hv.sub (fun _ _ _ _ h e=>CaseAt.sub h e) g.ext.sub) (hr.sub (fun _ _ _ _ h e=>RuleAt.sub h e) g.ext.sub) (g.ext.cells b6) hp2 (g.ext.cells b7) (g.mapAt (k:=0) rfl) hq fun H' e'=>next H' (g.ext.trans e')
 have hlt':decide ((k:Int)<p.rules.length)=true:=decide_eq_true (by omega)
 obtain ⟨b,o,rc,f1,f2,f3⟩:=hr.ix hlt
 obtain ⟨hxl,xv,rfl,hxr⟩:=id f3
 have lo:loadN 3 (ptr b o) H1=some (.agg [u32 p.rules[k].number,u32 p.rules[k].action,xv].toArray):=by rw [loadN_ptr,row_extP g.ext f2]; rfl
 have htk:keysN (p.rules.take (k+1))=insKN (keysN (p.rules.take k)) p.rules[k].number:=by
  unfold keysN
  rw [List.take_succ,List.getElem?_eq_getElem hlt,List.foldl_append]
  rfl
 have ih:=ih hlt
 rw [htk] at ih
 generalize p.rules[k]=x at *
 have hxp:plain1 xv=true:=hxr.plain
 have st:storeN 3 (ptr H1.next 0) (.agg [u32 x.number,u32 x.action,xv].toArray) (H1.new (.cells [(.int .u32 0),(.int .u32 0),(.slice none 0 0)] none))=some (H1.new (.cells [u32 x.number,u32 x.action,xv] none)):=fresh_store (n:=3) rfl rfl (by simp [hxp])
 have g2:=g.newbox [u32 x.number,u32 x.action,xv]
 have bx:=AH.get_new_self H1 (.cells [u32 x.number,u32 x.action,xv] none)
 have p0:[u32 x.number,u32 x.action,xv][0]? = some (u32 x.number):=rfl
 obtain ⟨H3,s1,g3⟩:=g2.mapset (n:=0) (kd:=0) rfl same_u32 x.number true
 rw [aset_tt] at g3
 have s1:setMap 0 (.map (some r)) (u32 x.number) (.bool true) (H1.new (.cells [u32 x.number,u32 x.action,xv] none))=some H3:=s1
 have hinc:=i64_inc (i:=k) (by omega)
 simp only [F.f24_l2,i64_lss,hlt',f1,lo,allocW_eq,st,bx,p0,s1,hinc,nthZ,stdZ]
 exact ih _ _ ⟨rfl,g3.drop 1⟩
theorem S.law_IrPlans (hE:Fold E) (args:List Value) (ha:ArgsSV H [polSh,smallSh] args) (hQ:∀ H',Q (vb true) H'):E.call (E.fid i.f24) args H Q:=by
 obtain ⟨v1,_,rfl,h1,ha⟩:=ha.cons_inv
 obtain ⟨v2,_,rfl,h2,ha⟩:=ha.cons_inv
 obtain rfl:=ha.nil_inv
 obtain ⟨x,xc,rfl,hx,hxf⟩:=h1.pol
 obtain ⟨s,sc,rfl,hs⟩:=h2.small
 apply hE.f24
 have hs8:sc.length=8:=by obtain ⟨_,_,_,_,rfl,_⟩:=hs; rfl
 have x2:Ext H ((H.new (.cells xc none)).new (.cells sc none)):=((Ext.refl _).new _).new _
 have b1:((H.new (.cells xc none)).new (.cells sc none)).get H.next = .cells xc none:=by rw [AH.get_new_ne _ _ (by rw [AH.next_new]; omega),AH.get_new_self]
 have b2:((H.new (.cells xc none)).new (.cells sc none)).get (H.next+1) = .cells sc none:=AH.get_new_self (H.new _) _
 simp only [F.f24,boxO_agg_z,AM.mk_some,mkPtr_eq_z,List.toList_toArray,AH.next_new_z,stdZ]
 generalize (H.new (.cells xc none)).new (.cells sc none)=H2 at *
 have hSC:SortsC E 80:=sortsC_any hE 80 (by decide)
 have hSR:SortsR E 80:=sortsR_any hE 80 (by decide)
 refine S.f23 hE (sm:=80) (by decide) (by decide) hSC hSR fun H3 e3 =>?_
 have x3:=x2.trans e3
 have lo1:∀ {K},Ext H2 K->loadN 6 (ptr H.next 0) K=some (.agg xc.toArray):=fun e=>by rw [loadN_ptr,e.cells b1,row_all _ _ 6 (polx6e hx).1]; rfl
 have lo2:∀ {K},Ext H2 K->loadN 8 (ptr (H.next+1) 0) K=some (.agg sc.toArray):=fun e=>by rw [loadN_ptr,e.cells b2,row_all _ _ 8 hs8]; rfl
 simp only [lo1 e3,stdZ]
 refine S.f19 hE x xc (hx.mono x3) hxf fun fbl H4 e4 hfew =>?_
 have e34:=e3.trans e4
 cases fbl with
 | false=>simp only [un_not_z,Bool.not_false,stdZ]; exact hQ _
 | true =>
  have hfew:=hfew rfl
  simp only [un_not_z,Bool.not_true,lo1 e34,lo2 e34,stdZ]
  refine S.f20 hE s sc (hs.sub (x2.trans e34).sub) fun H5 pc e5 hps =>?_
  have e35:=e34.trans e5
  refine ⟨(lo1 e35).trans (lo1 e34).symm,?_⟩
  have hbs:=buildS_full 2 6 [str [],u32 0#32,nilS,u16 0#16,nilS,nilS] [(0,.agg xc.toArray),(1,.agg pc.toArray)] [.agg xc.toArray,.agg pc.toArray] rfl rfl rfl rfl (by simp [(polx6e hx).1,(polx6e hps).1])
  have hbs:buildS 2 6 #[(.string ⟨#[]⟩),(.int .u32 0),(.slice none 0 0),(.int .u16 0),(.slice none 0 0),(.slice none 0 0)] [(0,.agg xc.toArray),(1,.agg pc.toArray)]=some (.cells (xc++pc) none,mkSlc 2 2):=by
   rw [show (xc++pc)=([.agg xc.toArray,.agg pc.toArray]:List Value).flatMap vcells by simp]
   exact hbs
  simp only [hbs,AM.mk_some,mkSlc_eq,stdZ]
  have e6:Ext H5 (H5.new (.cells (xc++pc) none)):=(Ext.refl _).new _
  have hrows:Rows (H5.new (.cells (xc++pc) none)) 6 (slc H5.next 0 2 2) [xc,pc]:=Rows.made (f:=none) (by rw [AH.get_new_self]; simp) (.inl rfl) rfl (by simp [(polx6e hx).1,(polx6e hps).1])
  generalize H5.new (.cells (xc++pc) none)=H6 at *
  have x6:=((x2.trans e35).trans e6)
  have hps6:=hps.mono e6
  have hx6:=hx.mono x6
  have i0:(.int .i64 0:Value)=vi ((0:Nat):Int):=rfl
  rw [i0]
  refine LoopL.count 2 (fun j ls H'=>ls=[slc H5.next 0 2 2,vi 2,vi j]/\Ext H6 H') ?_ ⟨rfl,Ext.refl _⟩
  rintro j _ H7 X hj hX ⟨rfl,e7⟩
  rcases Nat.lt_or_ge j 2 with hlt | hge
  rotate_left
  ·have hd:decide ((j:Int)<2)=false:=decide_eq_false (by omega)
   simp only [F.f24_l1,i64_lss,hd,stdZ]
   exact hQ _
  have hlt':decide ((j:Int)<2)=true:=decide_eq_true (by omega)
  have ⟨q,qc,hq1,hq2,hq3⟩:∃ (q:PolX) (qc:List Value),[xc,pc][j]? = some qc/\PolXAt H7 q qc/\q.few:=by
   match j,hlt with
   | 0,_=>exact ⟨x,xc,rfl,hx6.mono e7,hfew⟩
   | 1,_=>exact ⟨s.pol,pc,rfl,hps6.mono e7,s.pol_few⟩
  obtain ⟨b,o,f1,f2⟩:=(hrows.mono e7).ix (i:=j) hlt
  have hjj:[xc,pc][j]=qc:=by
   rw [List.getElem?_eq_getElem hlt] at hq1
   exact Option.some.inj hq1
  rw [hjj] at f2
  have lo:loadN 6 (ptr b o) H7=some (.agg qc.toArray):=by rw [loadN_ptr,f2]; rfl
  obtain ⟨hq6,hqp⟩:=polx6e hq2
  have hst:storeN 6 (ptr H7.next 0) (.agg qc.toArray) (H7.new (.cells [(.string ⟨#[]⟩),(.int .u32 0),(.slice none 0 0),(.int .u16 0),(.slice none 0 0),(.slice none 0 0)] none))=some (H7.new (.cells qc none)):=fresh_store rfl hq6 hqp
  have hlo7:loadN 6 (ptr H7.next 0) (H7.new (.cells qc none))=some (.agg qc.toArray):=fresh_load hq6
  have x8:Ext H7 (H7.new (.cells qc none)):=(Ext.refl _).new _
  have b8:=AH.get_new_self H7 (.cells qc none)
  simp only [F.f24_l1,i64_lss,hlt',f1,lo,allocW_eq,hst,hlo7,stdZ]
  have hq8:=hq2.mono x8
  have hX:=hX hlt
  generalize H7.new (.cells qc none)=H8 at *
  generalize H7.next=t8 at *
  have hrl:=hq3.1
  refine S.f4 hE (sm:=80) (by decide) hSC hSR q.pol qc (hq8.at_ (by omega)) hrl (fun r hr=>by have:=hq3.2.1 r hr; omega) fun ns pl H9 e9 hns hpl =>?_
  obtain ⟨pv,rfl,hpv⟩:=id hpl
  have hpvp:plain1 pv=true:=by obtain ⟨rows,h1,_⟩:=hpv; exact h1.plain
  have hpd:(planOf q.pol ns).default=q.pol.default:=rfl
  have st9:storeN 2 (ptr H9.next 0) (.agg [pv,u32 (planOf q.pol ns).default].toArray) (H9.new (.cells [(.slice none 0 0),(.int .u32 0)] none))=some (H9.new (.cells [pv,u32 (planOf q.pol ns).default] none)):=slice_empty_store2 hpvp rfl rfl
  have x9:Ext H9 (H9.new (.cells [pv,u32 (planOf q.pol ns).default] none)):=(Ext.refl _).new _
  have b9:=AH.get_new_self H9 (.cells [pv,u32 (planOf q.pol ns).default] none)
  have e10:=e9.trans x9
  have b810:=e10.cells b8
  obtain ⟨v',pv',qv',hqc,hv',_⟩:=hq8
  have c1:qc[1]? = some (u32 q.pol.default):=by rw [hqc]; rfl
  have c2:qc[2]? = some v':=by rw [hqc]; rfl
  have p1:[pv,u32 (planOf q.pol ns).default][1]? = some (u32 q.pol.default):=rfl
  have dne:decide (q.pol.default≠q.pol.default)=false:=decide_eq_false (by simp)
  have hv10:=hv'.sub (fun _ _ _ _ h e=>RuleAt.sub h e) e10.sub
  simp only [allocW_eq,st9,b9,p1,b810,c1,u32_neq,dne,stdZ]
  have hpv10:=hpv.sub (fun _ _ _ _ h e=>CaseAt.sub h e) x9.sub
  generalize H9.new (.cells [pv,u32 (planOf q.pol ns).default] none)=H10 at *
  generalize H9.next=t9 at *
  have hmw:∀ (H:AH) (K:Value->AH->Prop),mapW H K=K (.map (some H.next)) (H.new (.map [] 0 true)):=fun _ _=>rfl
  have g11:Has H10 H10 (H10.new (.map [] 0 true)) [mapR u32 Value.bool H10.next ([]:List (BitVec 32×Bool))]:=(Has.begin (Ext.refl H10) (Sub.refl H10)).newmap u32 Value.bool
  have b811:=((Ext.refl H10).new (.map [] 0 true)).cells b810
  have hlv':=SliceOf.lenSlc hv10
  simp only [hmw,b811,c2,hlv',stdZ]
  exact plans_l2 hE hns hrl hq3.2.1 hpv10 hv10 b810 c2 b9 g11 (q:=j) (by omega) fun H' e'=>hX _ _ ⟨rfl,((e7.trans x8).trans e10).trans e'⟩
end
end Go.AM
end
