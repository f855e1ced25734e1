/- CONTRACTS ON THE PRINTED FUNCTIONS. -/
import Derived.Test.YtcodjlonfgiegaaI2dafC0
set_option linter.all false
section
namespace Go.AM
open Go.Sort
set_option maxRecDepth 20000
section
variable {α:Type} [Inhabited α] {E:Sy} {H H':AH} {Q:Value->AH->Prop} {b c n:Nat} {enc:α->List Value} {LT:α->α->Bool} {fv:Value} {d:Array α} {tail:List Value} {f:Option Nat}
theorem S.f51 (hE:Fold E) (he:EncOk 2 enc) (hC:CmpOk E fv enc LT) (hg:H.get b=arrM enc d tail f) (hn:d.size=n) (hsz:n<2 ^ 60) (a e pivot:Nat) (h1:a<=pivot) (h2:pivot<e) (hle:e<=n)
  (hQ:∀ H',SortMo H b enc tail f (partition LT d a e pivot).2.2 H'->Q (.tuple #[vi (partition LT d a e pivot).1,vb (partition LT d a e pivot).2.1]) H'):E.call (E.fid i.f51) [slc b 0 n c,vi a,vi e,vi pivot,fv] H Q:=by
 apply hE.f51
 have f1:=mrr_ix (sz:=2) (b:=b) (c:=c) (n:=n) (i:=a) (by omega)
 have f2:=mrr_ix (sz:=2) (b:=b) (c:=c) (n:=n) (i:=pivot) (by omega)
 have g1:=mrr_load he hg (i:=a) (by omega)
 have g2:=mrr_load he hg (i:=pivot) (by omega)
 obtain ⟨w1,w2⟩:=mrr_swap he hg (i:=a) (j:=pivot) (by omega) (by omega)
 have b1:=i64_succ a (by omega)
 have b2:=i64_dec e (by omega) (by omega)
 simp only [F.f51,f1,f2,g1,g2,w1,w2,b1,b2,stdZ]
 have s0:=(SortMo.refl hg).put (swp d a pivot)
 have n0:(swp d a pivot).size=n:=by rw [size_swp]; exact hn
 unfold partition at hQ
 generalize hd0:swp d a pivot=d0 at *
 generalize H.put b (arrM enc d0 tail f)=H0 at *
 clear w1 w2 g1 g2 f2
 simp only at hQ
 obtain ⟨I,hI⟩:∃ I,I=scanUp (fun x=>LT x d0[a]!) d0 (e - 1) (a+1):=⟨_,rfl⟩
 rw [<- hI] at hQ
 obtain ⟨J,hJ⟩:∃ J,J=scanDown (fun x => !LT x d0[a]!) d0 I (e - 1):=⟨_,rfl⟩
 rw [<- hJ] at hQ
 have hIl:=sUp_le (fun x=>LT x d0[a]!) d0 (e - 1) _ (a+1) (Nat.le_refl _)
 rw [<- hI] at hIl
 have hJl:=sDown_le (fun x => !LT x d0[a]!) d0 I (e - 1)
 rw [<- hJ] at hJl
 refine LoopL.ind (fun m l H'=>SortMo H b enc tail f d0 H'/\∃ p:Nat,l=[slc b 0 n c,vi a,fv,vi p,vi ((e - 1:Nat):Int)]/\I=scanUp (fun x=>LT x d0[a]!) d0 (e - 1) p/\a+1<=p/\p<=e/\m=e - p) ?_ (e - (a+1)) ⟨s0,a+1,rfl,hI,Nat.le_refl _,by omega,rfl⟩
 rintro m _ H1 X hX ⟨s1,p,rfl,r1,hp1,hp2,rfl⟩
 rw [scanUp] at r1
 have exit1:I=p->∀ H2,SortMo H b enc tail f d0 H2->LoopL (fun l H X0=>F.f51_l2 E Q (nth l 0) (nth l 1) (nth l 2) (nth l 3) (nth l 4) H X0) [slc b 0 n c,vi a,fv,vi p,vi ((e - 1:Nat):Int)] H2:=by
  rintro rfl H2 s2
  clear hX r1
  refine LoopL.ind (fun m l H'=>SortMo H b enc tail f d0 H'/\∃ q:Nat,l=[slc b 0 n c,vi a,fv,vi I,vi q]/\J=scanDown (fun x => !LT x d0[a]!) d0 I q/\q<=e - 1/\I<=q+1/\m=q) ?_ (e - 1) ⟨s2,e - 1,rfl,hJ,Nat.le_refl _,by omega,rfl⟩
  rintro m _ H3 X hX ⟨s3,q,rfl,r1,hq1,hq2,rfl⟩
  have exit2:J=m->F.f51_l2 E Q (slc b 0 n c) (vi a) fv (vi I) (vi m) H3 X:=by
   rintro rfl
   clear hX
   have f1:=mrr_ix (sz:=2) (b:=b) (c:=c) (n:=n) (i:=a) (by omega)
   have f2:=mrr_ix (sz:=2) (b:=b) (c:=c) (n:=n) (i:=J) (by omega)
   have g1:=mrr_load he s3.get (i:=a) (by omega)
   have g2:=mrr_load he s3.get (i:=J) (by omega)
   by_cases hij:I<=J
   ·have hij':decide ((I:Int)<=J)=true:=decide_eq_true (by omega)
    have hij'':decide ((J:Int)<I)=false:=decide_eq_false (by omega)
    have hnl:LT d0[J]! d0[a]! = true:=by
     cases J with
     | zero=>omega
     | succ q =>
      rw [scanDown] at r1
      split at r1
      ·have:=sDown_le (fun x => !LT x d0[a]!) d0 I q
       omega
      ·rename_i hc
       simp at hc
       exact hc (by omega)
    have f3:=mrr_ix (sz:=2) (b:=b) (c:=c) (n:=n) (i:=I) (by omega)
    have b3:=i64_succ I (by omega)
    have b4:=i64_dec J (by omega) (by omega)
    simp only [F.f51_l2,i64_leq,hij',f1,f2,g1,g2,stdZ]
    refine hC _ _ _ _ fun z H4 e4 hz =>?_
    have s4:=s3.ext e4
    have g2:=mrr_load he s4.get (i:=J) (by omega)
    have g3:=mrr_load he s4.get (i:=I) (by omega)
    obtain ⟨w3,w4⟩:=mrr_swap he s4.get (i:=I) (j:=J) (by omega) (by omega)
    simp only [i64_lss,i64_gtr,hz,hnl,un_not_z,Bool.not_true,hij'',f2,f3,g2,g3,w3,w4,b3,b4,stdZ]
    rw [if_neg (by omega)] at hQ
    have s1:=s4.put (swp d0 I J)
    have n1:(swp d0 I J).size=n:=by rw [size_swp]; exact n0
    generalize hd1:swp d0 I J=d1 at *
    simp only at hQ
    obtain ⟨R,hR⟩:∃ R,R=partLoop LT a (I+1) (J - 1) d1:=⟨_,rfl⟩
    rw [<- hR] at hQ
    refine LoopL.ind (fun m l H'=>∃ (p q:Nat) (d2:Array α),l=[slc b 0 n c,vi a,fv,vi p,vi q]/\SortMo H b enc tail f d2 H'/\d2.size=n/\R=partLoop LT a p q d2/\a+1<=p/\p<=q+1+1/\p<=e/\q<=e - 1/\a<=q/\m=q+1 - p) ?_ (J - 1+1 - (I+1)) ⟨I+1,J - 1,d1,rfl,s1,n1,hR,by omega,by omega,by omega,by omega,by omega,rfl⟩
    clear hR s1 n1 hd1 w3 w4 g1 g2 g3 s4 s3 s2
    rintro m _ H5 X3 hX3 ⟨p,q,d2,rfl,s2,n2,r2,hp1,hp2,hpe,hq1,hqa,rfl⟩
    rw [partLoop] at r2
    simp only [F.f51_l3,nth_0,nth_1,nth_2,nth_3,nth_4]
    obtain ⟨I2,hI2⟩:∃ I,I=scanUp (fun x=>LT x d2[a]!) d2 q p:=⟨_,rfl⟩
    obtain ⟨J2,hJ2⟩:∃ J,J=scanDown (fun x => !LT x d2[a]!) d2 I2 q:=⟨_,rfl⟩
    rw [<- hI2] at r2
    try simp only at r2
    rw [<- hJ2] at r2
    have hIl2:=sUp_le (fun x=>LT x d2[a]!) d2 q _ p (Nat.le_refl _)
    rw [<- hI2] at hIl2
    have hJl2:=sDown_le (fun x => !LT x d2[a]!) d2 I2 q
    rw [<- hJ2] at hJl2
    have hI2e:I2<=q+1\/(I2=p/\q+1<p):=by
     by_cases h:p<=q+1
     ·exact .inl (hIl2.2 h)
     ·refine .inr ⟨?_,by omega⟩
      rw [hI2,scanUp,if_neg (by simp; omega)]
    have hJ2e:I2<=q+1\/J2=q:=by
     rcases hI2e with h | ⟨h,h'⟩
     ·exact .inl h
     ·right
      rw [hJ2]
      cases q with
      | zero=>rfl
      | succ q=>rw [scanDown,if_neg (by simp; omega)]
    refine LoopL.ind (fun m l H'=>SortMo H b enc tail f d2 H'/\∃ p':Nat,l=[slc b 0 n c,vi a,fv,vi p',vi q]/\I2=scanUp (fun x=>LT x d2[a]!) d2 q p'/\p<=p'/\p'<=e/\m=q+1 - p') ?_ (q+1 - p) ⟨s2,p,rfl,hI2,Nat.le_refl _,by omega,rfl⟩
    rintro m _ H6 X4 hX4 ⟨s6,p',rfl,r4,hp3,hp4,rfl⟩
    rw [scanUp] at r4
    have exit4:I2=p'->∀ H7,SortMo H b enc tail f d2 H7->LoopL (fun l H X1=>F.f51_l5 E Q X3 (nth l 0) (nth l 1) (nth l 2) (nth l 3) (nth l 4) H X1) [slc b 0 n c,vi a,fv,vi p',vi q] H7:=by
     rintro rfl H7 s7
     clear hX4 r4
     refine LoopL.ind (fun m l H'=>SortMo H b enc tail f d2 H'/\∃ q':Nat,l=[slc b 0 n c,vi a,fv,vi I2,vi q']/\J2=scanDown (fun x => !LT x d2[a]!) d2 I2 q'/\q'<=q/\m=q') ?_ q ⟨s7,q,rfl,hJ2,Nat.le_refl _,rfl⟩
     rintro m _ H8 X5 hX5 ⟨s8,q',rfl,r5,hq3,rfl⟩
     have exit5:J2=m->∀ H9,SortMo H b enc tail f d2 H9->(hnl:I2<=m->LT d2[m]! d2[a]! = true)->F.f51_l5 E Q X3 (slc b 0 n c) (vi a) fv (vi I2) (vi m) H8 X5:=by
      rintro rfl H9 s9 hnl
      clear hX5
      have f2:=mrr_ix (sz:=2) (b:=b) (c:=c) (n:=n) (i:=J2) (by omega)
      have g1:=mrr_load he s8.get (i:=a) (by omega)
      have g2:=mrr_load he s8.get (i:=J2) (by omega)
      by_cases hij:I2<=J2
      ·have hij':decide ((I2:Int)<=J2)=true:=decide_eq_true (by omega)
       have hij'':decide ((J2:Int)<I2)=false:=decide_eq_false (by omega)
       have hnl:=hnl hij
       have f3:=mrr_ix (sz:=2) (b:=b) (c:=c) (n:=n) (i:=I2) (by omega)
       have b3:=i64_succ I2 (by omega)
       have b4:=i64_dec J2 (by omega) (by omega)
       simp only [F.f51_l5,i64_leq,hij',f1,f2,g1,g2,stdZ]
       refine hC _ _ _ _ fun z H10 e10 hz =>?_
       have s10:=s8.ext e10
       have g2:=mrr_load he s10.get (i:=J2) (by omega)
       have g3:=mrr_load he s10.get (i:=I2) (by omega)
       obtain ⟨w3,w4⟩:=mrr_swap he s10.get (i:=I2) (j:=J2) (by omega) (by omega)
       simp only [i64_lss,i64_gtr,hz,hnl,un_not_z,Bool.not_true,hij'',f2,f3,g2,g3,w3,w4,b3,b4,stdZ]
       rw [if_neg (by omega),dif_pos (by omega)] at r2
       exact hX3 (J2 - 1+1 - (I2+1)) (by omega) _ _ ⟨I2+1,J2 - 1,_,rfl,s10.put _,by rw [size_swp]; exact n2,r2,by omega,by omega,by omega,by omega,by omega,rfl⟩
      ·have hij':decide ((I2:Int)<=J2)=false:=decide_eq_false (by omega)
       have hij'':decide ((J2:Int)<I2)=true:=decide_eq_true (by omega)
       rw [if_pos (by omega)] at r2
       subst r2
       obtain ⟨w1,w2⟩:=mrr_swap he s8.get (i:=J2) (j:=a) (by omega) (by omega)
       simp only [F.f51_l5,i64_leq,i64_gtr,hij',hij'',f1,f2,g1,g2,w1,w2,stdZ]
       exact hQ _ (s8.put _)
     cases m with
     | zero=>exact exit5 r5 _ s8 fun h=>by omega
     | succ q' =>
      by_cases hc:I2<=q'+1/\LT d2[q'+1]! d2[a]! = false
      ·rw [scanDown,if_pos (by simp [hc.1,hc.2])] at r5
       have hc':decide ((I2:Int)<=((q'+1:Nat):Int))=true:=decide_eq_true (by omega)
       have f2:=mrr_ix (sz:=2) (b:=b) (c:=c) (n:=n) (i:=q'+1) (by omega)
       have g1:=mrr_load he s8.get (i:=a) (by omega)
       have g2:=mrr_load he s8.get (i:=q'+1) (by omega)
       have b4:binInt .sub (vi ((q'+1:Nat):Int)) (.int .i64 1)=some (vi (q':Int)):=i64_dec (q'+1) (by omega) (by omega)
       have hlt:=hc.2
       simp only [F.f51_l5,i64_leq,hc',f1,f2,g1,g2,stdZ]
       refine hC _ _ _ _ fun z H10 e10 hz =>?_
       simp only [i64_lss,hz,hlt,un_not_z,Bool.not_false,b4,stdZ]
       exact hX5 q' (by omega) _ _ ⟨s8.ext e10,q',rfl,r5,by omega,rfl⟩
      ·rw [scanDown,if_neg (by simpa using hc)] at r5
       exact exit5 r5 _ s8 fun h=>by simpa using fun h'=>hc ⟨h,h'⟩
    by_cases hc:p'<=q/\LT d2[p']! d2[a]! = true
    ·rw [if_pos (by simp [hc.1,hc.2])] at r4
     have hc':decide ((p':Int)<=q)=true:=decide_eq_true (by omega)
     have f2:=mrr_ix (sz:=2) (b:=b) (c:=c) (n:=n) (i:=p') (by omega)
     have g1:=mrr_load he s6.get (i:=a) (by omega)
     have g2:=mrr_load he s6.get (i:=p') (by omega)
     have b3:=i64_succ p' (by omega)
     simp only [F.f51_l4,i64_leq,hc',f1,f2,g1,g2,stdZ]
     refine hC _ _ _ _ fun z H10 e10 hz =>?_
     simp only [i64_lss,hz,hc.2,b3,stdZ]
     exact hX4 (q+1 - (p'+1)) (by omega) _ _ ⟨s6.ext e10,p'+1,rfl,r4,by omega,by omega,rfl⟩
    ·rw [if_neg (by simpa using hc)] at r4
     by_cases hpq:p'<=q
     ·have hc':decide ((p':Int)<=q)=true:=decide_eq_true (by omega)
      have hlt:LT d2[p']! d2[a]! = false:=by simpa using fun h=>hc ⟨hpq,h⟩
      have f2:=mrr_ix (sz:=2) (b:=b) (c:=c) (n:=n) (i:=p') (by omega)
      have g1:=mrr_load he s6.get (i:=a) (by omega)
      have g2:=mrr_load he s6.get (i:=p') (by omega)
      simp only [F.f51_l4,i64_leq,hc',f1,f2,g1,g2,stdZ]
      refine hC _ _ _ _ fun z H10 e10 hz =>?_
      simp only [i64_lss,hz,hlt,stdZ]
      exact exit4 r4 _ (s6.ext e10)
     ·have hc':decide ((p':Int)<=q)=false:=decide_eq_false (by omega)
      simp only [F.f51_l4,i64_leq,hc',stdZ]
      exact exit4 r4 _ s6
   ·have hij':decide ((I:Int)<=J)=false:=decide_eq_false (by omega)
    have hij'':decide ((J:Int)<I)=true:=decide_eq_true (by omega)
    obtain ⟨w1,w2⟩:=mrr_swap he s3.get (i:=J) (j:=a) (by omega) (by omega)
    simp only [F.f51_l2,i64_leq,i64_gtr,hij',hij'',f1,f2,g1,g2,w1,w2,stdZ]
    rw [if_pos (by omega)] at hQ
    exact hQ _ (s3.put _)
  cases m with
  | zero=>exact exit2 r1
  | succ q =>
   by_cases hc:I<=q+1/\LT d0[q+1]! d0[a]! = false
   ·rw [scanDown,if_pos (by simp [hc.1,hc.2])] at r1
    have hc':decide ((I:Int)<=((q+1:Nat):Int))=true:=decide_eq_true (by omega)
    have f2:=mrr_ix (sz:=2) (b:=b) (c:=c) (n:=n) (i:=q+1) (by omega)
    have g1:=mrr_load he s3.get (i:=a) (by omega)
    have g2:=mrr_load he s3.get (i:=q+1) (by omega)
    have b4:binInt .sub (vi ((q+1:Nat):Int)) (.int .i64 1)=some (vi (q:Int)):=i64_dec (q+1) (by omega) (by omega)
    have hlt:=hc.2
    simp only [F.f51_l2,i64_leq,hc',f1,f2,g1,g2,stdZ]
    refine hC _ _ _ _ fun z H10 e10 hz =>?_
    simp only [i64_lss,hz,hlt,un_not_z,Bool.not_false,b4,stdZ]
    exact hX q (by omega) _ _ ⟨s3.ext e10,q,rfl,r1,by omega,by omega,rfl⟩
   ·rw [scanDown,if_neg (by simpa using hc)] at r1
    exact exit2 r1
 by_cases hc:p<=e - 1/\LT d0[p]! d0[a]! = true
 ·rw [if_pos (by simp [hc.1,hc.2])] at r1
  have hc':decide ((p:Int)<=((e - 1:Nat):Int))=true:=decide_eq_true (by omega)
  have f2:=mrr_ix (sz:=2) (b:=b) (c:=c) (n:=n) (i:=p) (by omega)
  have g1:=mrr_load he s1.get (i:=a) (by omega)
  have g2:=mrr_load he s1.get (i:=p) (by omega)
  have b3:=i64_succ p (by omega)
  simp only [F.f51_l1,i64_leq,hc',f1,f2,g1,g2,stdZ]
  refine hC _ _ _ _ fun z H10 e10 hz =>?_
  simp only [i64_lss,hz,hc.2,b3,stdZ]
  exact hX (e - (p+1)) (by omega) _ _ ⟨s1.ext e10,p+1,rfl,r1,by omega,by omega,rfl⟩
 ·rw [if_neg (by simpa using hc)] at r1
  have exit1:=exit1 r1
  by_cases hpq:p<=e - 1
  ·have hc':decide ((p:Int)<=((e - 1:Nat):Int))=true:=decide_eq_true (by omega)
   have hlt:LT d0[p]! d0[a]! = false:=by simpa using fun h=>hc ⟨hpq,h⟩
   have f2:=mrr_ix (sz:=2) (b:=b) (c:=c) (n:=n) (i:=p) (by omega)
   have g1:=mrr_load he s1.get (i:=a) (by omega)
   have g2:=mrr_load he s1.get (i:=p) (by omega)
   simp only [F.f51_l1,i64_leq,hc',f1,f2,g1,g2,stdZ]
   refine hC _ _ _ _ fun z H10 e10 hz =>?_
   simp only [i64_lss,hz,hlt,stdZ]
   exact exit1 _ (s1.ext e10)
  ·have hc':decide ((p:Int)<=((e - 1:Nat):Int))=false:=decide_eq_false (by omega)
   simp only [F.f51_l1,i64_leq,hc',stdZ]
   exact exit1 _ s1
end
end Go.AM
end
section
namespace Go.AM
open Go.Sort
set_option maxRecDepth 20000
section
variable {α:Type} [Inhabited α] {E:Sy} {H H':AH} {Q:Value->AH->Prop} {b c n:Nat} {enc:α->List Value} {LT:α->α->Bool} {fv:Value} {d:Array α} {tail:List Value} {f:Option Nat}
theorem S.f52 (hE:Fold E) (he:EncOk 2 enc) (hC:CmpOk E fv enc LT) (hg:H.get b=arrM enc d tail f) (hn:d.size=n) (hsz:n<2 ^ 60) (a e pivot:Nat) (h1:a<=pivot) (h2:pivot<e) (hle:e<=n)
  (hQ:∀ H',SortMo H b enc tail f (partitionEqual LT d a e pivot).2 H'->Q (vi (partitionEqual LT d a e pivot).1) H'):E.call (E.fid i.f52) [slc b 0 n c,vi a,vi e,vi pivot,fv] H Q:=by
 apply hE.f52
 have f1:=mrr_ix (sz:=2) (b:=b) (c:=c) (n:=n) (i:=a) (by omega)
 have f2:=mrr_ix (sz:=2) (b:=b) (c:=c) (n:=n) (i:=pivot) (by omega)
 have g1:=mrr_load he hg (i:=a) (by omega)
 have g2:=mrr_load he hg (i:=pivot) (by omega)
 obtain ⟨w1,w2⟩:=mrr_swap he hg (i:=a) (j:=pivot) (by omega) (by omega)
 have b1:=i64_succ a (by omega)
 have b2:=i64_dec e (by omega) (by omega)
 simp only [F.f52,f1,f2,g1,g2,w1,w2,b1,b2,stdZ]
 have s0:=(SortMo.refl hg).put (swp d a pivot)
 have n0:(swp d a pivot).size=n:=by rw [size_swp]; exact hn
 unfold partitionEqual at hQ
 generalize hd0:swp d a pivot=d0 at *
 generalize H.put b (arrM enc d0 tail f)=H0 at *
 clear w1 w2 f2 g1 g2
 obtain ⟨R,hR⟩:∃ R,R=partEqLoop LT a (a+1) (e - 1) d0:=⟨_,rfl⟩
 rw [<- hR] at hQ
 refine LoopL.ind (fun m l H'=>∃ (p q:Nat) (d2:Array α),l=[slc b 0 n c,vi a,fv,vi p,vi q]/\SortMo H b enc tail f d2 H'/\d2.size=n/\R=partEqLoop LT a p q d2/\a+1<=p/\p<=q+1+1/\p<=e/\q<=e - 1/\a<=q/\m=q+1 - p) ?_ (e - 1+1 - (a+1)) ⟨a+1,e - 1,d0,rfl,s0,n0,hR,by omega,by omega,by omega,by omega,by omega,rfl⟩
 clear hR s0 n0 hd0
 rintro m _ H2 X3 hX3 ⟨p,q,d2,rfl,s2,n2,r2,hp1,hp2,hpe,hq1,hqa,rfl⟩
 rw [partEqLoop] at r2
 simp only [F.f52_l1,nth_0,nth_1,nth_2,nth_3,nth_4]
 obtain ⟨I2,hI2⟩:∃ I,I=scanUp (fun x => !LT d2[a]! x) d2 q p:=⟨_,rfl⟩
 obtain ⟨J2,hJ2⟩:∃ J,J=scanDown (fun x=>LT d2[a]! x) d2 I2 q:=⟨_,rfl⟩
 rw [<- hI2] at r2
 try simp only at r2
 rw [<- hJ2] at r2
 have hIl2:=sUp_le (fun x => !LT d2[a]! x) d2 q _ p (Nat.le_refl _)
 rw [<- hI2] at hIl2
 have hJl2:=sDown_le (fun x=>LT d2[a]! x) d2 I2 q
 rw [<- hJ2] at hJl2
 have hI2e:I2<=q+1\/(I2=p/\q+1<p):=by
  by_cases h:p<=q+1
  ·exact .inl (hIl2.2 h)
  ·refine .inr ⟨?_,by omega⟩
   rw [hI2,scanUp,if_neg (by simp; omega)]
 have hJ2e:I2<=q+1\/J2=q:=by
  rcases hI2e with h | ⟨h,h'⟩
  ·exact .inl h
  ·right
   rw [hJ2]
   cases q with
   | zero=>rfl
   | succ q=>rw [scanDown,if_neg (by simp; omega)]
 refine LoopL.ind (fun m l H'=>SortMo H b enc tail f d2 H'/\∃ p':Nat,l=[slc b 0 n c,vi a,fv,vi p',vi q]/\I2=scanUp (fun x => !LT d2[a]! x) d2 q p'/\p<=p'/\p'<=e/\m=q+1 - p') ?_ (q+1 - p) ⟨s2,p,rfl,hI2,Nat.le_refl _,by omega,rfl⟩
 rintro m _ H6 X4 hX4 ⟨s6,p',rfl,r4,hp3,hp4,rfl⟩
 rw [scanUp] at r4
 have exit4:I2=p'->∀ H7,SortMo H b enc tail f d2 H7->LoopL (fun l H X1=>F.f52_l3 E Q X3 (nth l 0) (nth l 1) (nth l 2) (nth l 3) (nth l 4) H X1) [slc b 0 n c,vi a,fv,vi p',vi q] H7:=by
  rintro rfl H7 s7
  clear hX4 r4
  refine LoopL.ind (fun m l H'=>SortMo H b enc tail f d2 H'/\∃ q':Nat,l=[slc b 0 n c,vi a,fv,vi I2,vi q']/\J2=scanDown (fun x=>LT d2[a]! x) d2 I2 q'/\q'<=q/\m=q') ?_ q ⟨s7,q,rfl,hJ2,Nat.le_refl _,rfl⟩
  rintro m _ H8 X5 hX5 ⟨s8,q',rfl,r5,hq3,rfl⟩
  have exit5:J2=m->(I2<=m->LT d2[a]! d2[m]! = false)->F.f52_l3 E Q X3 (slc b 0 n c) (vi a) fv (vi I2) (vi m) H8 X5:=by
   rintro rfl hnl
   clear hX5
   have f2:=mrr_ix (sz:=2) (b:=b) (c:=c) (n:=n) (i:=J2) (by omega)
   have g1:=mrr_load he s8.get (i:=a) (by omega)
   have g2:=mrr_load he s8.get (i:=J2) (by omega)
   by_cases hij:I2<=J2
   ·have hij':decide ((I2:Int)<=J2)=true:=decide_eq_true (by omega)
    have hij'':decide ((J2:Int)<I2)=false:=decide_eq_false (by omega)
    have hnl:=hnl hij
    have f3:=mrr_ix (sz:=2) (b:=b) (c:=c) (n:=n) (i:=I2) (by omega)
    have b3:=i64_succ I2 (by omega)
    have b4:=i64_dec J2 (by omega) (by omega)
    simp only [F.f52_l3,i64_leq,hij',f1,f2,g1,g2,stdZ]
    refine hC _ _ _ _ fun z H10 e10 hz =>?_
    have s10:=s8.ext e10
    have g2:=mrr_load he s10.get (i:=J2) (by omega)
    have g3:=mrr_load he s10.get (i:=I2) (by omega)
    obtain ⟨w3,w4⟩:=mrr_swap he s10.get (i:=I2) (j:=J2) (by omega) (by omega)
    simp only [i64_lss,i64_gtr,hz,hnl,hij'',f2,f3,g2,g3,w3,w4,b3,b4,stdZ]
    rw [if_neg (by omega),dif_pos (by omega)] at r2
    exact hX3 (J2 - 1+1 - (I2+1)) (by omega) _ _ ⟨I2+1,J2 - 1,_,rfl,s10.put _,by rw [size_swp]; exact n2,r2,by omega,by omega,by omega,by omega,by omega,rfl⟩
   ·have hij':decide ((I2:Int)<=J2)=false:=decide_eq_false (by omega)
    have hij'':decide ((J2:Int)<I2)=true:=decide_eq_true (by omega)
    rw [if_pos (by omega)] at r2
    subst r2
    simp only [F.f52_l3,i64_leq,i64_gtr,hij',hij'',stdZ]
    exact hQ _ s8
  cases m with
  | zero=>exact exit5 r5 fun h=>by omega
  | succ q' =>
   by_cases hc:I2<=q'+1/\LT d2[a]! d2[q'+1]! = true
   ·rw [scanDown,if_pos (by simp [hc.1,hc.2])] at r5
    have hc':decide ((I2:Int)<=((q'+1:Nat):Int))=true:=decide_eq_true (by omega)
    have f2:=mrr_ix (sz:=2) (b:=b) (c:=c) (n:=n) (i:=q'+1) (by omega)
    have g1:=mrr_load he s8.get (i:=a) (by omega)
    have g2:=mrr_load he s8.get (i:=q'+1) (by omega)
    have b4:binInt .sub (vi ((q'+1:Nat):Int)) (.int .i64 1)=some (vi (q':Int)):=i64_dec (q'+1) (by omega) (by omega)
    have hlt:=hc.2
    simp only [F.f52_l3,i64_leq,hc',f1,f2,g1,g2,stdZ]
    refine hC _ _ _ _ fun z H10 e10 hz =>?_
    simp only [i64_lss,hz,hlt,b4,stdZ]
    exact hX5 q' (by omega) _ _ ⟨s8.ext e10,q',rfl,r5,by omega,rfl⟩
   ·rw [scanDown,if_neg (by simpa using hc)] at r5
    exact exit5 r5 fun h=>by simpa using fun h'=>hc ⟨h,h'⟩
 by_cases hc:p'<=q/\LT d2[a]! d2[p']! = false
 ·rw [if_pos (by simp [hc.1,hc.2])] at r4
  have hc':decide ((p':Int)<=q)=true:=decide_eq_true (by omega)
  have f2:=mrr_ix (sz:=2) (b:=b) (c:=c) (n:=n) (i:=p') (by omega)
  have g1:=mrr_load he s6.get (i:=a) (by omega)
  have g2:=mrr_load he s6.get (i:=p') (by omega)
  have b3:=i64_succ p' (by omega)
  simp only [F.f52_l2,i64_leq,hc',f1,f2,g1,g2,stdZ]
  refine hC _ _ _ _ fun z H10 e10 hz =>?_
  simp only [i64_lss,hz,hc.2,un_not_z,Bool.not_false,b3,stdZ]
  exact hX4 (q+1 - (p'+1)) (by omega) _ _ ⟨s6.ext e10,p'+1,rfl,r4,by omega,by omega,rfl⟩
 ·rw [if_neg (by simpa using hc)] at r4
  by_cases hpq:p'<=q
  ·have hc':decide ((p':Int)<=q)=true:=decide_eq_true (by omega)
   have hlt:LT d2[a]! d2[p']! = true:=by simpa using fun h=>hc ⟨hpq,h⟩
   have f2:=mrr_ix (sz:=2) (b:=b) (c:=c) (n:=n) (i:=p') (by omega)
   have g1:=mrr_load he s6.get (i:=a) (by omega)
   have g2:=mrr_load he s6.get (i:=p') (by omega)
   simp only [F.f52_l2,i64_leq,hc',f1,f2,g1,g2,stdZ]
   refine hC _ _ _ _ fun z H10 e10 hz =>?_
   simp only [i64_lss,hz,hlt,un_not_z,Bool.not_true,stdZ]
   exact exit4 r4 _ (s6.ext e10)
  ·have hc':decide ((p':Int)<=q)=false:=decide_eq_false (by omega)
   simp only [F.f52_l2,i64_leq,hc',stdZ]
   exact exit4 r4 _ s6
end
end Go.AM
end
section
namespace Go.AM
open Go.Sort
set_option maxRecDepth 20000
section
variable {α:Type} [Inhabited α] {E:Sy} {H H':AH} {Q:Value->AH->Prop} {b c n:Nat} {enc:α->List Value} {LT:α->α->Bool} {fv:Value} {d:Array α} {tail:List Value} {f:Option Nat}
theorem S.f50 (hE:Fold E) (he:EncOk 2 enc) (hC:CmpOk E fv enc LT) (hg:H.get b=arrM enc d tail f) (hn:d.size=n) (hsz:n<2 ^ 60) (a e:Nat) (hae:a<e) (hle:e<=n)
    (hQ:∀ H',SortMo H b enc tail f (partialInsertionSort LT d a e).1 H'->Q (vb (partialInsertionSort LT d a e).2) H'):E.call (E.fid i.f50) [slc b 0 n c,vi a,vi e,fv] H Q:=by
  apply hE.f50
  have b1:=i64_succ a (by omega)
  simp only [F.f50,b1,stdZ]
  unfold partialInsertionSort at hQ
  obtain ⟨R,hR⟩:∃ R,R=partialIns LT a e 5 (a+1) d:=⟨_,rfl⟩
  rw [<- hR] at hQ
  refine LoopL.ind (fun m l H'=>∃ (i:Nat) (d1:Array α),l=[slc b 0 n c,vi a,vi e,fv,vi i,vi ((5 - m:Nat):Int)]/\SortMo H b enc tail f d1 H'/\d1.size=n/\R=partialIns LT a e m i d1/\a+1<=i/\i<=e/\m<=5) ?_ 5 ⟨a+1,d,rfl,.refl hg,hn,hR,Nat.le_refl _,by omega,Nat.le_refl _⟩
  rintro m _ H1 X hX ⟨i0,d1,rfl,s1,n1,r1,hi1,hi2,hm⟩
  cases m with
  | zero =>
    have c5:decide (((5 - 0:Nat):Int)<5)=false:=by decide
    simp only [F.f50_l1,i64_lss,c5,stdZ]
    rw [partialIns] at r1
    subst r1
    exact hQ _ s1
  | succ m =>
    have hms:decide (((5 - (m+1):Nat):Int)<5)=true:=decide_eq_true (by omega)
    have hmi:binInt .add (vi ((5 - (m+1):Nat):Int)) (.int .i64 1)=some (vi ((5 - m:Nat):Int)):=by
      rw [i64_succ _ (by omega)]; congr 3; omega
    have hX:∀ (i:Nat) (d2:Array α) H2,SortMo H b enc tail f d2 H2->d2.size=n->R=partialIns LT a e m i d2->a+1<=i->i<=e->X [slc b 0 n c,vi a,vi e,fv,vi i,vi ((5 - m:Nat):Int)] H2:=fun i d2 H2 q1 q2 q3 q4 q5=>hX m (by omega) _ _ ⟨i,d2,rfl,q1,q2,q3,q4,q5,by omega⟩
    generalize hk:5 - (m+1)=k at *
    generalize hk':5 - m=k' at *
    simp only [F.f50_l1,i64_lss,hms,stdZ]
    rw [partialIns_succ] at r1
    obtain ⟨I,hI⟩:∃ I,I=scanSorted LT d1 e i0:=⟨_,rfl⟩
    rw [<- hI] at r1
    refine LoopL.ind (fun m l H'=>SortMo H b enc tail f d1 H'/\∃ i':Nat,l=[slc b 0 n c,vi a,vi e,fv,vi i',vi k]/\I=scanSorted LT d1 e i'/\a+1<=i'/\i'<=e/\m=e - i') ?_ (e - i0) ⟨s1,i0,rfl,hI,hi1,hi2,rfl⟩
    clear s1
    rintro mm _ H2 X1 hX1 ⟨s1,i',rfl,r2,hi3,hi4,rfl⟩
    rw [scanSorted] at r2
    have b2:binInt .sub (vi e) (vi a)=some (vi ((e - a:Nat):Int)):=i64_sub_nat e a (by omega) (by omega)
    have hkk:binInt .add (vi k) (.int .i64 1)=some (vi k'):=hmi
    have j1:∀ (d3:Array α) H3,SortMo H b enc tail f d3 H3->d3.size=n->a+1<=I->I<e->R=partialIns LT a e m I (fixUp LT e I d3)->F.f50_j1 E Q X (slc b 0 n c) (vi a) (vi e) fv (vi I) (vi k) H3:=by
      intro d3 H3 s3 n3 hI3 hI4 r3
      unfold fixUp at r3
      have b5:binInt .sub (vi e) (vi I)=some (vi ((e - I:Nat):Int)):=i64_sub_nat e I (by omega) (by omega)
      by_cases c3:e - I>=2
      · rw [if_pos c3] at r3
        have c3':decide ((2:Int)<=((e - I:Nat):Int))=true:=decide_eq_true (by omega)
        have b6:=i64_succ I (by omega)
        simp only [F.f50_j1,b5,i64_geq,c3',b6,stdZ]
        obtain ⟨D,hD⟩:∃ D,D=shiftUp LT e (I+1) d3:=⟨_,rfl⟩
        rw [<- hD] at r3
        refine LoopL.ind (fun mm l H'=>∃ (q:Nat) (d4:Array α),l=[slc b 0 n c,vi a,vi e,fv,vi I,vi k,vi q]/\SortMo H b enc tail f d4 H'/\d4.size=n/\D=shiftUp LT e q d4/\1<=q/\q<=e/\mm=e - q) ?_ (e - (I+1)) ⟨I+1,d3,rfl,s3,n3,hD,by omega,by omega,rfl⟩
        rintro mm _ H4 X5 hX5 ⟨q,d4,rfl,s4,n4,r4,hq1,hq2,rfl⟩
        rw [shiftUp] at r4
        have done:D=d4->∀ H5,SortMo H b enc tail f d4 H5->X [slc b 0 n c,vi a,vi e,fv,vi I,vi k'] H5:=by
          rintro rfl H5 s5
          exact hX I D H5 s5 n4 r3 hI3 (by omega)
        by_cases c4:q<e
        · have c4':decide ((q:Int)<e)=true:=decide_eq_true (by omega)
          rw [if_pos c4] at r4
          have b7:=i64_dec q (by omega) (by omega)
          have b8:=i64_succ q (by omega)
          have f1:=mrr_ix (sz:=2) (b:=b) (c:=c) (n:=n) (i:=q) (by omega)
          have f2:=mrr_ix (sz:=2) (b:=b) (c:=c) (n:=n) (i:=q - 1) (by omega)
          have g1:=mrr_load he s4.get (i:=q) (by omega)
          have g2:=mrr_load he s4.get (i:=q - 1) (by omega)
          have hY:=fun (d5:Array α) H5 q1 q2 q3=>hX5 (e - (q+1)) (by omega) [slc b 0 n c,vi a,vi e,fv,vi I,vi k,vi ((q+1:Nat):Int)] H5 ⟨q+1,d5,rfl,q1,q2,q3,by omega,by omega,rfl⟩
          have hqn:q<n:=by omega
          have hqn':q - 1<n:=by omega
          generalize hq':q - 1=q' at *
          generalize hq'':q+1=q'' at *
          simp only [F.f50_l3,i64_lss,c4',b7,f1,f2,g1,g2,stdZ]
          refine hC _ _ _ _ fun z H5 e5 hz =>?_
          have s5:=s4.ext e5
          cases hl:LT d4[q]! d4[q']! with
          | true =>
            simp only [hl,Bool.not_true,Bool.false_eq_true,if_false] at r4
            have g1:=mrr_load he s5.get (i:=q) (by omega)
            have g2:=mrr_load he s5.get (i:=q') (by omega)
            obtain ⟨w1,w2⟩:=mrr_swap he s5.get (i:=q) (j:=q') (by omega) (by omega)
            simp only [i64_lss,hz,hl,un_not_z,Bool.not_true,b7,b8,f1,f2,g1,g2,w1,w2,stdZ]
            exact hY _ _ (s5.put _) (by rw [size_swp]; exact n4) r4
          | false =>
            simp only [hl,Bool.not_false,if_true] at r4
            simp only [i64_lss,hz,hl,un_not_z,Bool.not_false,hkk,stdZ]
            exact done r4 _ s5
        · have c4':decide ((q:Int)<e)=false:=decide_eq_false (by omega)
          rw [if_neg c4] at r4
          simp only [F.f50_l3,i64_lss,c4',hkk,stdZ]
          exact done r4 _ s4
      · rw [if_neg c3] at r3
        have c3':decide ((2:Int)<=((e - I:Nat):Int))=false:=decide_eq_false (by omega)
        simp only [F.f50_j1,b5,i64_geq,c3',hkk,stdZ]
        exact hX I d3 H3 s3 n3 r3 hI3 (by omega)
    have exit:I=i'->∀ H3,SortMo H b enc tail f d1 H3 ->
        (opt (binInt .eql (vi i') (vi e)) fun v15 =>
         ifB v15 (Q (.bool true) H3) (
         opt (binInt .sub (vi e) (vi a)) fun v16 =>
         opt (binInt .lss v16 (.int .i64 50)) fun v17 =>
         ifB v17 (Q (.bool false) H3) (
         opt (binInt .sub (vi i') (.int .i64 1)) fun v18 =>
         opt (binInt .sub (vi i') (.int .i64 1)) fun v19 =>
         opt (ixSlc 2 (slc b 0 n c) v19) fun v20 =>
         opt (loadN 2 v20 H3) fun v21 =>
         opt (ixSlc 2 (slc b 0 n c) (vi i')) fun v22 =>
         opt (loadN 2 v22 H3) fun v23 =>
         opt (ixSlc 2 (slc b 0 n c) (vi i')) fun v24 =>
         opt (storeN 2 v24 v21 H3) fun H12 =>
         opt (ixSlc 2 (slc b 0 n c) v18) fun v25 =>
         opt (storeN 2 v25 v23 H12) fun H13 =>
         opt (binInt .sub (vi i') (vi a)) fun v26 =>
         opt (binInt .geq v26 (.int .i64 2)) fun v27 =>
         ifB v27 (
         opt (binInt .sub (vi i') (.int .i64 1)) fun v28 =>
         LoopL (fun l H X1=>F.f50_l4 E Q X (nth l 0) (nth l 1) (nth l 2) (nth l 3) (nth l 4) (nth l 5) (nth l 6) H X1) [slc b 0 n c,vi a,vi e,fv,vi i',vi k,v28] H13) (
         F.f50_j1 E Q X (slc b 0 n c) (vi a) (vi e) fv (vi i') (vi k) H13)))):=by
      rintro rfl H3 s3
      clear hX1
      by_cases c1:I=e
      · rw [if_pos c1] at r1
        subst r1
        have c1':decide ((I:Int)=e)=true:=decide_eq_true (by omega)
        simp only [i64_eql,c1',stdZ]
        exact hQ _ s3
      rw [if_neg c1] at r1
      have c1':decide ((I:Int)=e)=false:=decide_eq_false (by omega)
      by_cases c2:e - a<50
      · rw [if_pos c2] at r1
        subst r1
        have c2':decide (((e - a:Nat):Int)<50)=true:=decide_eq_true (by omega)
        simp only [i64_eql,c1',b2,i64_lss,c2',stdZ]
        exact hQ _ s3
      rw [if_neg c2] at r1
      have c2':decide (((e - a:Nat):Int)<50)=false:=decide_eq_false (by omega)
      have b3:=i64_dec I (by omega) (by omega)
      have b4:binInt .sub (vi I) (vi a)=some (vi ((I - a:Nat):Int)):=i64_sub_nat I a (by omega) (by omega)
      have f1:=mrr_ix (sz:=2) (b:=b) (c:=c) (n:=n) (i:=I) (by omega)
      have f2:=mrr_ix (sz:=2) (b:=b) (c:=c) (n:=n) (i:=I - 1) (by omega)
      have g1:=mrr_load he s3.get (i:=I) (by omega)
      have g2:=mrr_load he s3.get (i:=I - 1) (by omega)
      obtain ⟨w1,w2⟩:=mrr_swap he s3.get (i:=I) (j:=I - 1) (by omega) (by omega)
      have s2:=s3.put (swp d1 I (I - 1))
      have n2:(swp d1 I (I - 1)).size=n:=by rw [size_swp]; exact n1
      unfold fixDown at r1
      by_cases c3:I - a>=2
      · rw [if_pos c3] at r1
        have c3':decide ((2:Int)<=((I - a:Nat):Int))=true:=decide_eq_true (by omega)
        obtain ⟨D,hD⟩:∃ D,D=shiftDown LT (I - 1) (swp d1 I (I - 1)):=⟨_,rfl⟩
        rw [<- hD] at r1
        have hI1n:I - 1<n:=by omega
        simp only [i64_eql,c1',b2,i64_lss,c2',b3,b4,i64_geq,f1,f2,g1,g2,w1,w2,c3',stdZ]
        refine LoopL.ind (fun mm l H'=>∃ (q:Nat) (d4:Array α),l=[slc b 0 n c,vi a,vi e,fv,vi I,vi k,vi q]/\SortMo H b enc tail f d4 H'/\d4.size=n/\D=shiftDown LT q d4/\q<n/\mm=q) ?_ (I - 1) ⟨I - 1,_,rfl,s2,n2,hD,hI1n,rfl⟩
        clear s2 n2 hD g1 g2 w1 w2
        rintro mm _ H4 X5 hX5 ⟨q,d4,rfl,s4,n4,r4,hq1,rfl⟩
        cases mm with
        | zero =>
          have c4':decide ((1:Int)<=((0:Nat):Int))=false:=by decide
          simp only [F.f50_l4,i64_geq,c4',stdZ]
          rw [shiftDown] at r4
          subst r4
          exact j1 _ _ s4 n4 hi3 (by omega) r1
        | succ q =>
          have c4':decide ((1:Int)<=((q+1:Nat):Int))=true:=decide_eq_true (by omega)
          rw [shiftDown] at r4
          have b7:binInt .sub (vi ((q+1:Nat):Int)) (vi 1)=some (vi (q:Int)):=i64_dec (q+1) (by omega) (by omega)
          have f1:=mrr_ix (sz:=2) (b:=b) (c:=c) (n:=n) (i:=q+1) (by omega)
          have f2:=mrr_ix (sz:=2) (b:=b) (c:=c) (n:=n) (i:=q) (by omega)
          have g1:=mrr_load he s4.get (i:=q+1) (by omega)
          have g2:=mrr_load he s4.get (i:=q) (by omega)
          have hY:=fun (d5:Array α) H5 q1 q2 q3=>hX5 q (by omega) [slc b 0 n c,vi a,vi e,fv,vi I,vi k,vi (q:Int)] H5 ⟨q,d5,rfl,q1,q2,q3,by omega,rfl⟩
          generalize hq':q+1=q' at *
          simp only [F.f50_l4,i64_geq,c4',b7,f1,f2,g1,g2,stdZ]
          refine hC _ _ _ _ fun z H5 e5 hz =>?_
          have s5:=s4.ext e5
          cases hl:LT d4[q']! d4[q]! with
          | true =>
            simp only [hl,Bool.not_true,Bool.false_eq_true,if_false] at r4
            have g1:=mrr_load he s5.get (i:=q') (by omega)
            have g2:=mrr_load he s5.get (i:=q) (by omega)
            obtain ⟨w1,w2⟩:=mrr_swap he s5.get (i:=q') (j:=q) (by omega) (by omega)
            simp only [i64_lss,hz,hl,un_not_z,Bool.not_true,b7,f1,f2,g1,g2,w1,w2,stdZ]
            exact hY _ _ (s5.put _) (by rw [size_swp]; exact n4) r4
          | false =>
            simp only [hl,Bool.not_false,if_true] at r4
            simp only [i64_lss,hz,hl,un_not_z,Bool.not_false,stdZ]
            subst r4
            exact j1 _ _ s5 n4 hi3 (by omega) r1
      · rw [if_neg c3] at r1
        have c3':decide ((2:Int)<=((I - a:Nat):Int))=false:=decide_eq_false (by omega)
        simp only [i64_eql,c1',b2,i64_lss,c2',b3,b4,i64_geq,f1,f2,g1,g2,w1,w2,c3',stdZ]
        exact j1 _ _ s2 n2 hi3 (by omega) r1
    have b7:=i64_succ i' (by omega)
    by_cases c4:i'<e
    · have c4':decide ((i':Int)<e)=true:=decide_eq_true (by omega)
      have b6:=i64_dec i' (by omega) (by omega)
      have f1:=mrr_ix (sz:=2) (b:=b) (c:=c) (n:=n) (i:=i') (by omega)
      have f2:=mrr_ix (sz:=2) (b:=b) (c:=c) (n:=n) (i:=i' - 1) (by omega)
      have g1:=mrr_load he s1.get (i:=i') (by omega)
      have g2:=mrr_load he s1.get (i:=i' - 1) (by omega)
      simp only [F.f50_l2,i64_lss,c4',b6,f1,f2,g1,g2,stdZ]
      refine hC _ _ _ _ fun z H5 e5 hz =>?_
      have s5:=s1.ext e5
      cases hl:LT d1[i']! d1[i' - 1]! with
      | true =>
        rw [if_neg (by simp [hl])] at r2
        simp only [i64_lss,hz,hl,un_not_z,Bool.not_true,stdZ]
        exact exit r2 _ s5
      | false =>
        rw [if_pos (by simp [hl,c4])] at r2
        simp only [i64_lss,hz,hl,un_not_z,Bool.not_false,b7,stdZ]
        exact hX1 (e - (i'+1)) (by omega) [slc b 0 n c,vi a,vi e,fv,vi ((i'+1:Nat):Int),vi k] _ ⟨s5,i'+1,rfl,r2,by omega,by omega,rfl⟩
    · have c4':decide ((i':Int)<e)=false:=decide_eq_false (by omega)
      rw [if_neg (by simp [c4])] at r2
      simp only [F.f50_l2,i64_lss,c4',stdZ]
      exact exit r2 _ s1
end
end Go.AM
end
section
namespace Go.AM
open Go.Sort
set_option maxRecDepth 20000
section
variable {α:Type} [Inhabited α] {E:Sy} {H H':AH} {Q:Value->AH->Prop} {b c n:Nat} {enc:α->List Value} {LT:α->α->Bool} {fv:Value} {d:Array α} {tail:List Value} {f:Option Nat}
theorem S.f49 (hE:Fold E) (he:EncOk 2 enc) (hC:CmpOk E fv enc LT) (hg:H.get b=arrM enc d tail f) (hn:d.size=n) (p q:Nat) (hp:p<n) (hq:q<n) (s k:Nat) (hs:H.get s = .cells [vi k] none) (hk:k<1000) (hsb:s≠b)
  (hQ:∀ r1 r2 k' H',((r1=p/\r2=q)\/(r1=q/\r2=p))->Only [s] H H'->H'.get s = .cells [vi (k':Nat)] none->k'<=k+1->Q (.tuple #[vi (r1:Nat),vi (r2:Nat)]) H') :
  E.call (E.fid i.f49) [slc b 0 n c,vi p,vi q,ptr s 0,fv] H Q:=by
 apply hE.f49
 have f1:=mrr_ix (sz:=2) (b:=b) (c:=c) (n:=n) (i:=p) hp
 have f2:=mrr_ix (sz:=2) (b:=b) (c:=c) (n:=n) (i:=q) hq
 have g1:=mrr_load he hg (i:=p) (by omega)
 have g2:=mrr_load he hg (i:=q) (by omega)
 have hlt:=AH.lt_cells hs
 have b1:=i64_succ k (by omega)
 simp only [F.f49,f1,f2,g1,g2,stdZ]
 refine hC _ _ _ _ fun z H1 e1 hz =>?_
 have hs1:=e1.cells hs
 have hlt1:=AH.lt_cells hs1
 cases hl:LT d[q]! d[p]! with
 | true =>
  have st:store1 (ptr s 0) (vi ((k+1:Nat):Int)) H1=some (H1.put s (.cells [vi ((k+1:Nat):Int)] none)):=by
   rw [store1_ptr,if_pos (show plain1 (vi ((k+1:Nat):Int))=true from rfl),hs1]; rfl
  have hl0:[vi (k:Int)][0]? = some (vi k):=rfl
  simp only [i64_lss,hz,hl,hs1,hl0,b1,st,stdZ]
  exact hQ q p (k+1) _ (.inr ⟨rfl,rfl⟩) (e1.only.put (.inl (by simp)) _) (AH.get_put_self _ _ hlt1) (Nat.le_refl _)
 | false =>
  simp only [i64_lss,hz,hl,stdZ]
  exact hQ p q k _ (.inl ⟨rfl,rfl⟩) e1.only hs1 (by omega)
theorem S.f47 (hE:Fold E) (he:EncOk 2 enc) (hC:CmpOk E fv enc LT) (hg:H.get b=arrM enc d tail f) (hn:d.size=n) (p q r:Nat) (hp:p<n) (hq:q<n) (hr:r<n) (s k:Nat) (hs:H.get s = .cells [vi k] none) (hk:k<900) (hsb:s≠b)
  (hQ:∀ m k' H',(m=p\/m=q\/m=r)->Only [s] H H'->H'.get s = .cells [vi (k':Nat)] none->k'<=k+3->Q (vi (m:Nat)) H') :
  E.call (E.fid i.f47) [slc b 0 n c,vi p,vi q,vi r,ptr s 0,fv] H Q:=by
 apply hE.f47
 have keep:∀ {H'},Only [s] H H'->H'.get b=arrM enc d tail f:=fun o=>by rw [o.get (mrr_lt hg) (by simpa using Ne.symm hsb)]; exact hg
 simp only [F.f47,stdZ]
 refine S.f49 hE he hC hg hn p q hp hq s k hs (by omega) hsb fun a1 a2 k1 H1 e1 o1 s1 l1 =>?_
 simp only [ext_tuple,List.getElem?_cons_zero,List.getElem?_cons_succ,stdZ]
 refine S.f49 hE he hC (keep o1) hn a2 r (by omega) hr s k1 s1 (by omega) hsb fun a3 a4 k2 H2 e2 o2 s2 l2 =>?_
 have o12:=o1.trans' o2
 simp only [ext_tuple,List.getElem?_cons_zero,List.getElem?_cons_succ,stdZ]
 refine S.f49 hE he hC (keep o12) hn a1 a3 (by omega) (by omega) s k2 s2 (by omega) hsb fun a5 a6 k3 H3 e3 o3 s3 l3 =>?_
 simp only [ext_tuple,List.getElem?_cons_zero,List.getElem?_cons_succ,stdZ]
 exact hQ a6 k3 H3 (by omega) (o12.trans' o3) s3 (by omega)
theorem S.f46 (hE:Fold E) (he:EncOk 2 enc) (hC:CmpOk E fv enc LT) (hg:H.get b=arrM enc d tail f) (hn:d.size=n) (hsz:n<2 ^ 60) (p:Nat) (hp0:1<=p) (hp:p+1<n) (s k:Nat) (hs:H.get s = .cells [vi k] none) (hk:k<900) (hsb:s≠b)
  (hQ:∀ m k' H',(p - 1<=m/\m<=p+1)->Only [s] H H'->H'.get s = .cells [vi (k':Nat)] none->k'<=k+3->Q (vi (m:Nat)) H') :
  E.call (E.fid i.f46) [slc b 0 n c,vi p,ptr s 0,fv] H Q:=by
 apply hE.f46
 have b1:=i64_dec p hp0 (by omega)
 have b2:=i64_succ p (by omega)
 simp only [F.f46,b1,b2,stdZ]
 refine S.f47 hE he hC hg hn (p - 1) p (p+1) (by omega) (by omega) hp s k hs hk hsb fun m k' H' e1 o1 s1 l1=>hQ m k' H' (by omega) o1 s1 l1
theorem S.f42 (hE:Fold E) (he:EncOk 2 enc) (hC:CmpOk E fv enc LT) (hg:H.get b=arrM enc d tail f) (hn:d.size=n) (hsz:n<2 ^ 60) (a e:Nat) (hae:a+8<=e) (hle:e<=n)
  (hQ:∀ (m:Nat) (h:Int) H',a<=m->m<e->Ext H H'->Q (.tuple #[vi m,vi h]) H'):E.call (E.fid i.f42) [slc b 0 n c,vi a,vi e,fv] H Q:=by
 apply hE.f42
 have a1:binInt .sub (vi e) (vi a)=some (vi ((e - a:Nat):Int)):=i64_sub_nat e a (by omega) (by omega)
 have hbl:=mrr_lt hg
 generalize hw:e - a=w at *
 have a2:binInt .quo (vi (w:Int)) (.int .i64 4)=some (vi ((w / 4:Nat):Int)):=i64_quo_num w 4 (by decide) (by omega)
 have hq4:w / 4*4<=w:=Nat.div_mul_le_self _ _
 have hq4':1<=w / 4:=by omega
 have hq50:50<=w->12<=w / 4:=fun h=>by omega
 generalize hq:w / 4=q at *
 have m1:binInt .mul (vi (q:Int)) (.int .i64 1)=some (vi ((q*1:Nat):Int)):=by rw [i64_mul (by omega) (by omega)]; congr 2
 have m2:binInt .mul (vi (q:Int)) (.int .i64 2)=some (vi ((q*2:Nat):Int)):=by rw [i64_mul (by omega) (by omega)]; congr 2
 have m3:binInt .mul (vi (q:Int)) (.int .i64 3)=some (vi ((q*3:Nat):Int)):=by rw [i64_mul (by omega) (by omega)]; congr 2
 have p1:=i64_add_nat a (q*1) (by omega)
 have p2:=i64_add_nat a (q*2) (by omega)
 have p3:=i64_add_nat a (q*3) (by omega)
 have c8:decide ((8:Int)<=w)=true:=decide_eq_true (by omega)
 have hg1:(H.new (.cells [vi 0] none)).get b=arrM enc d tail f:=by rw [AH.get_new_lt _ _ hbl]; exact hg
 have hs1:(H.new (.cells [vi 0] none)).get H.next = .cells [vi ((0:Nat):Int)] none:=AH.get_new_self _ _
 have hsb:H.next≠b:=by omega
 have x1:Ext H (H.new (.cells [vi 0] none)):=(Ext.refl H).new _
 have ext_of:∀ {H'},Only [H.next] (H.new (.cells [vi 0] none)) H'->Ext H H':=fun o=>o.ext x1 (by simp)
 have keep:∀ {H'},Only [H.next] (H.new (.cells [vi 0] none)) H'->H'.get b=arrM enc d tail f:=fun o=>by rw [o.get (mrr_lt hg1) (by simpa using Ne.symm hsb)]; exact hg1
 have last:∀ (m k:Nat) H',a<=m->m<e->Ext H H'->H'.get H.next = .cells [vi (k:Nat)] none->F.f42_j1 E Q (ptr H.next 0) (vi m) H':=by
  intro m k H' h1 h2 e1 s1
  have hl0:[vi (k:Int)][0]? = some (vi k):=rfl
  by_cases k0:(k:Int)=0
  ·have d0:decide ((k:Int)=0)=true:=decide_eq_true k0
   simp only [F.f42_j1,s1,hl0,i64_eql,d0,stdZ]
   exact hQ m _ H' h1 h2 e1
  ·have d0:decide ((k:Int)=0)=false:=decide_eq_false k0
   by_cases k12:(k:Int)=12
   ·have d12:decide ((k:Int)=12)=true:=decide_eq_true k12
    simp only [F.f42_j1,s1,hl0,i64_eql,d0,d12,stdZ]
    exact hQ m _ H' h1 h2 e1
   ·have d12:decide ((k:Int)=12)=false:=decide_eq_false k12
    simp only [F.f42_j1,s1,hl0,i64_eql,d0,d12,stdZ]
    exact hQ m _ H' h1 h2 e1
 have last2:∀ (x y z k:Nat) H',a<=x->x<e->a<=y->y<e->a<=z->z<e->Only [H.next] (H.new (.cells [vi 0] none)) H'->H'.get H.next = .cells [vi (k:Nat)] none->k<900->F.f42_j2 E Q (slc b 0 n c) fv (ptr H.next 0) (vi x) (vi y) (vi z) H':=by
  intro x y z k H' h1 h2 h3 h4 h5 h6 o1 s1 hk
  simp only [F.f42_j2,stdZ]
  refine S.f47 hE he hC (keep o1) hn x y z (by omega) (by omega) (by omega) H.next k s1 hk hsb fun m k' H2 hm o2 s2 _ =>?_
  exact last m k' H2 (by omega) (by omega) (ext_of (o1.trans' o2)) s2
 by_cases c50:50<=w
 ·have c50':decide ((50:Int)<=w)=true:=decide_eq_true (by omega)
  have hq50:=hq50 c50
  have g1:a+1<=a+q*1/\a+q*1+1<e:=by omega
  have g2:a+1<=a+q*2/\a+q*2+1<e:=by omega
  have g3:a+1<=a+q*3/\a+q*3+1<e:=by omega
  generalize hx:a+q*1=x at *
  generalize hy:a+q*2=y at *
  generalize hz:a+q*3=z at *
  generalize q*1=q1 at *
  generalize q*2=q2 at *
  generalize q*3=q3 at *
  simp only [F.f42,allocW_eq,a1,a2,m1,m2,m3,p1,p2,p3,i64_geq,c8,c50',stdZ]
  refine S.f46 hE he hC hg1 hn hsz x (by omega) (by omega) H.next 0 hs1 (by omega) hsb fun r1 k1 H1 e1 o1 s1 l1 =>?_
  refine S.f46 hE he hC (keep o1) hn hsz y (by omega) (by omega) H.next k1 s1 (by omega) hsb fun r2 k2 H2 e2 o2 s2 l2 =>?_
  refine S.f46 hE he hC (keep (o1.trans' o2)) hn hsz z (by omega) (by omega) H.next k2 s2 (by omega) hsb fun r3 k3 H3 e3 o3 s3 l3 =>?_
  exact last2 r1 r2 r3 k3 H3 (by omega) (by omega) (by omega) (by omega) (by omega) (by omega) ((o1.trans' o2).trans' o3) s3 (by omega)
 ·have c50':decide ((50:Int)<=w)=false:=decide_eq_false (by omega)
  have g1:a+q*1<e:=by omega
  have g2:a+q*2<e:=by omega
  have g3:a+q*3<e:=by omega
  have g0:a<=a+q*1/\a<=a+q*2/\a<=a+q*3:=by omega
  generalize hx:a+q*1=x at *
  generalize hy:a+q*2=y at *
  generalize hz:a+q*3=z at *
  generalize q*1=q1 at *
  generalize q*2=q2 at *
  generalize q*3=q3 at *
  simp only [F.f42,allocW_eq,a1,a2,m1,m2,m3,p1,p2,p3,i64_geq,c8,c50',stdZ]
  exact last2 x y z 0 _ g0.1 g1 g0.2.1 g2 g0.2.2 g3 (Only.refl _ _) hs1 (by omega)
theorem S.f41 (hE:Fold E) (he:EncOk 2 enc) (hg:H.get b=arrM enc d tail f) (hn:d.size=n) (hsz:n<2 ^ 31) (a e:Nat) (hae:a+8<=e) (hle:e<=n)
  (hQ:∀ d' H',PermIn a e d d'->SortMo H b enc tail f d' H'->Q (.tuple #[]) H'):E.call (E.fid i.f41) [slc b 0 n c,vi a,vi e,fv] H Q:=by
 apply hE.f41
 have a1:binInt .sub (vi e) (vi a)=some (vi ((e - a:Nat):Int)):=i64_sub_nat e a (by omega) (by omega)
 have hbl:=mrr_lt hg
 generalize hw:e - a=w at *
 have a2:binInt .quo (vi (w:Int)) (.int .i64 4)=some (vi ((w / 4:Nat):Int)):=i64_quo_num w 4 (by decide) (by omega)
 have hq4:w / 4*4<=w:=Nat.div_mul_le_self _ _
 have hq4':2<=w / 4:=by omega
 generalize hq:w / 4=q at *
 have m2:binInt .mul (vi (q:Int)) (.int .i64 2)=some (vi ((q*2:Nat):Int)):=by rw [i64_mul (by omega) (by omega)]; congr 2
 have p2:=i64_add_nat a (q*2) (by omega)
 have p3:=i64_dec (a+q*2) (by omega) (by omega)
 have p4:=i64_succ (a+q*2) (by omega)
 have c8:decide ((8:Int)<=w)=true:=decide_eq_true (by omega)
 have hc:convInt .u64 (vi (w:Int))=some (u64 (BitVec.ofNat 64 w)):=by rw [i64_to_u64,BitVec.ofInt_natCast]
 have hm2:2 ^ bitsLen w<=2*w:=two_pow_bitsLen_le (by omega)
 have hm1:=Nat.two_pow_pos (bitsLen w)
 generalize hM:2 ^ bitsLen w=M at *
 have gx:a+1<=a+q*2/\a+q*2+1<e:=by omega
 generalize hx:a+q*2=x at *
 generalize q*2=q2 at *
 have x1:Ext H (H.new (.cells [u64 (BitVec.ofNat 64 w)] none)):=(Ext.refl H).new _
 simp [F.f41,a1,a2,m2,p2,p3,c8,hc]
 refine S.f48 hE w (by omega) ?_
 rw [hM]
 simp [a2,m2,p2,p3]
 refine LoopL.ind (fun m l H'=>∃ (j:Nat) (d1:Array α) (y:BitVec 64),l=[slc b 0 n c,vi a,vi w,ptr H.next 0,u64 (BitVec.ofNat 64 M),vi j]/\SortMo H b enc tail f d1 H'/\d1.size=n/\PermIn a e d d1/\H'.get H.next = .cells [u64 y] none/\a<=j/\j<=x+2/\m=x+2 - j) ?_ (x+2 - (x - 1))
  ⟨x - 1,d,_,by simp,⟨x1.only,by rw [AH.get_new_lt _ _ hbl]; exact hg⟩,hn,permIn_refl _ _ _,AH.get_new_self _ _,by omega,by omega,rfl⟩
 rintro m _ H1 X hX ⟨j,d1,y,rfl,s1,n1,pp,hb1,hj1,hj2,rfl⟩
 by_cases cj:j<=x+1
 ·have cj':decide ((j:Int)<=((x+1:Nat):Int))=true:=decide_eq_true (by omega)
  have pj:=i64_succ j (by omega)
  have fin:∀ (o:Nat) (y':BitVec 64),o<w->F.f41_j1 E Q X (slc b 0 n c) (vi a) (vi w) (ptr H.next 0) (u64 (BitVec.ofNat 64 M)) (vi j) (vi o) (H1.put H.next (.cells [u64 y'] none)):=by
   intro o y' ho
   have hnb:b≠H.next:=by omega
   have s2:SortMo H b enc tail f d1 (H1.put H.next (.cells [u64 y'] none)):=⟨s1.only.put (.inr (Nat.le_refl _)) _,by rw [AH.get_put_ne _ _ hnb]; exact s1.get⟩
   have pa:=i64_add_nat a o (by omega)
   have f1:=mrr_ix (sz:=2) (b:=b) (c:=c) (n:=n) (i:=j) (by omega)
   have f2:=mrr_ix (sz:=2) (b:=b) (c:=c) (n:=n) (i:=a+o) (by omega)
   have g1:=mrr_load he s2.get (i:=j) (by omega)
   have g2:=mrr_load he s2.get (i:=a+o) (by omega)
   obtain ⟨w1,w2⟩:=mrr_swap he s2.get (i:=j) (j:=a+o) (by omega) (by omega)
   have hpp:=swp_permIn d1 a e j (a+o) hj1 (by omega) (by omega) (by omega) (by omega)
   have hX:=hX (x+2 - (j+1)) (by omega) [slc b 0 n c,vi a,vi w,ptr H.next 0,u64 (BitVec.ofNat 64 M),vi ((j+1:Nat):Int)] _ ⟨j+1,_,y',rfl,s2.put (swp d1 j (a+o)),by rw [size_swp]; exact n1,permIn_trans _ _ _ _ _ pp hpp,by rw [AH.get_put_ne _ _ (Ne.symm hnb),AH.get_put_self _ _ (AH.lt_cells hb1)],by omega,by omega,rfl⟩
   simp only [F.f41_j1,pa,f1,f2,g1,g2,w1,w2,pj,stdZ]
   exact hX
  simp only [F.f41_l1,a2,m2,p2,p4,i64_leq,cj',stdZ]
  refine S.f60 hE H.next y hb1 fun y' =>?_
  have l1:(.int .u64 1:Value)=u64 1#64:=rfl
  have hsub:BitVec.ofNat 64 M - 1#64=BitVec.ofNat 64 (M - 1):=by
   apply BitVec.eq_of_toNat_eq
   rw [BitVec.toNat_sub,BitVec.toNat_ofNat,BitVec.toNat_ofNat,BitVec.toNat_ofNat]
   omega
  have hand:(y'&&&BitVec.ofNat 64 (M - 1)).toNat<=M - 1:=by
   rw [BitVec.toNat_and]
   refine Nat.le_trans Nat.and_le_right ?_
   rw [BitVec.toNat_ofNat]
   exact Nat.mod_le _ _
  have hcv:∀ z:BitVec 64,z.toNat<2 ^ 62->convInt .i64 (u64 z)=some (vi (z.toNat:Int)):=by
   intro z hz
   rw [u64_def,convInt_int,wrap_i64 (by omega) (by omega)]
  have hcv':=hcv _ (by omega:(y'&&&BitVec.ofNat 64 (M - 1)).toNat<2 ^ 62)
  simp only [l1,u64_sub,hsub,u64_and,hcv',i64_geq,stdZ]
  generalize (y'&&&BitVec.ofNat 64 (M - 1)).toNat=o at *
  by_cases co:w<=o
  ·have co':decide ((w:Int)<=o)=true:=decide_eq_true (by omega)
   have hs:binInt .sub (vi (o:Int)) (vi (w:Int))=some (vi ((o - w:Nat):Int)):=i64_sub_nat o w co (by omega)
   simp only [co',hs,stdZ]
   exact fin (o - w) y' (by omega)
  ·have co':decide ((w:Int)<=o)=false:=decide_eq_false (by omega)
   simp only [co',stdZ]
   exact fin o y' (by omega)
 ·have cj':decide ((j:Int)<=((x+1:Nat):Int))=false:=decide_eq_false (by omega)
  simp only [F.f41_l1,a2,m2,p2,p4,i64_leq,cj',stdZ]
  exact hQ d1 H1 pp s1
end
end Go.AM
end
section
namespace Go.AM
open Go.Sort
set_option maxHeartbeats 400000
set_option maxRecDepth 20000
section
variable {α:Type} [Inhabited α] {E:Sy} {H H':AH} {Q:Value->AH->Prop} {b c n:Nat} {enc:α->List Value} {LT:α->α->Bool} {fv:Value} {d:Array α} {tail:List Value} {f:Option Nat}
theorem S.f53 (hE:Fold E) (hS:SWO LT) (he:EncOk 2 enc) (hC:CmpOk E fv enc LT):∀ (w:Nat) {H:AH} {Q:Value->AH->Prop} {d:Array α} (_:H.get b=arrM enc d tail f) (_:d.size=n) (_:n<2 ^ 31) (a e:Nat) (_:a<=e) (_:e<=n) (limit:Nat) (_:limit<2 ^ 60) (_:Go.Sort.Below LT a e d) (_:e - a<=w)
    (_:∀ d' H',PermIn a e d d'->SortedIn LT a e d'->SortMo H b enc tail f d' H'->Q (.tuple #[]) H'),E.call (E.fid i.f53) [slc b 0 n c,vi a,vi e,vi limit,fv] H Q:=by
  intro w
  induction w using Nat.strongRecOn with
  | _ w ih =>
  intro H Q d hg hn hsz a0 e0 hae0 he0 limit0 hlim0 hB0 hw hQ
  apply hE.f53
  simp only [F.f53]
  refine LoopL.ind (fun m l H'=>∃ (a e limit:Nat) (wb wp:Bool) (d1:Array α),l=[slc b 0 n c,vi a,vi e,vi limit,fv,vb wb,vb wp]/\SortMo H b enc tail f d1 H'/\d1.size=n/\a<=e/\e<=n/\limit<2 ^ 60/\e - a<=w/\Go.Sort.Below LT a e d1 /\
      (∀ R,PermIn a e d1 R->SortedIn LT a e R->PermIn a0 e0 d R/\SortedIn LT a0 e0 R)/\m=e - a) ?_ (e0 - a0) ⟨a0,e0,limit0,true,true,d,rfl,.refl hg,hn,hae0,he0,hlim0,hw,hB0,fun R h1 h2=>⟨h1,h2⟩,rfl⟩
  rintro m _ H1 X hX ⟨a,e,limit,wb,wp,d1,rfl,s1,n1,hae,hen,hlim,hwe,hB,fin,rfl⟩
  have a1:binInt .sub (vi e) (vi a)=some (vi ((e - a:Nat):Int)):=i64_sub_nat e a (by omega) (by omega)
  by_cases c12:e - a<=12
  · have c12':decide (((e - a:Nat):Int)<=12)=true:=decide_eq_true (by omega)
    simp only [F.f53_l1,a1,i64_leq,c12',stdZ]
    refine S.f44 hE he hC s1.get n1 (by omega) a e hae hen fun H2 s2 =>?_
    obtain ⟨h1,h2⟩:=insertionSort_holds hS d1 a e hae (by omega)
    obtain ⟨h3,h4⟩:=fin _ h1 h2
    exact hQ _ _ h3 h4 (s1.trans s2)
  have c12':decide (((e - a:Nat):Int)<=12)=false:=decide_eq_false (by omega)
  by_cases c0:limit=0
  · subst c0
    have c0':decide (((0:Nat):Int)=0)=true:=by decide
    simp only [F.f53_l1,a1,i64_leq,c12',i64_eql,c0',stdZ]
    refine S.f43 hE he hC s1.get n1 (by omega) a e (by omega) hen fun H2 s2 =>?_
    obtain ⟨h1,h2⟩:=heapSort_holds hS d1 a e hae (by omega)
    obtain ⟨h3,h4⟩:=fin _ h1 h2
    exact hQ _ _ h3 h4 (s1.trans s2)
  have c0':decide ((limit:Int)=0)=false:=decide_eq_false (by omega)
  have w8:binInt .quo (vi ((e - a:Nat):Int)) (.int .i64 8)=some (vi (((e - a) / 8:Nat):Int)):=i64_quo_num (e - a) 8 (by decide) (by omega)
  have j3:∀ (d3:Array α) H3 (lim:Nat) (wb wp:Bool) (pv:Nat),SortMo H b enc tail f d3 H3->d3.size=n->PermIn a e d1 d3->lim<2 ^ 60->a<=pv->pv<e->F.f53_j3 E Q X (slc b 0 n c) (vi a) (vi e) (vi lim) fv (vb wb) (vb wp) (vi ((e - a:Nat):Int)) (vi pv) H3:=by
    intro d3 H3 lim wb wp pv s3 n3 p3 hlim hp1 hp2
    have B3:Go.Sort.Below LT a e d3:=hB.permA permIn_all (by omega) p3
    have fin3:∀ R,PermIn a e d3 R->SortedIn LT a e R->PermIn a0 e0 d R/\SortedIn LT a0 e0 R:=fun R h1 h2=>fin R (permIn_trans _ _ _ _ _ p3 h1) h2
    have part:∀ H3,SortMo H b enc tail f d3 H3->∀ (K:Value->AH->Prop),(K=fun v15 H13 =>
         opt (ext v15 0) fun v16 =>
         opt (ext v15 1) fun v17 =>
         opt (binInt .sub v16 (vi a)) fun v18 =>
         opt (binInt .sub (vi e) v16) fun v19 =>
         opt (binInt .quo (vi ((e - a:Nat):Int)) (.int .i64 8)) fun v20 =>
         opt (binInt .lss v18 v19) fun v21 =>
         ifB v21 (
         opt (binInt .geq v18 v20) fun v22 =>
         E.call (E.fid i.f53) [slc b 0 n c,vi a,v16,vi lim,fv] H13 fun v23 H14 =>
         opt (binInt .add v16 (.int .i64 1)) fun v24 =>
         X [slc b 0 n c,v24,vi e,vi lim,fv,v22,v17] H14) (
         opt (binInt .geq v19 v20) fun v25 =>
         opt (binInt .add v16 (.int .i64 1)) fun v26 =>
         E.call (E.fid i.f53) [slc b 0 n c,v26,vi e,vi lim,fv] H13 fun v27 H15 =>
         X [slc b 0 n c,vi a,v16,vi lim,fv,v25,v17] H15))->E.call (E.fid i.f51) [slc b 0 n c,vi a,vi e,vi pv,fv] H3 K:=by
      rintro H3 s3 K rfl
      refine S.f51 hE he hC s3.get n3 (by omega) a e pv hp1 hp2 hen fun H4 s4 =>?_
      rcases hx:partition LT d3 a e pv with ⟨mid,ap,d4⟩
      rw [hx] at s4
      obtain ⟨g1,g2,hs4,hBa,hBr,hl,hr⟩:=round_part hS (partition_holds LT) hp1 hp2 (by omega) B3 hx
      have n4:d4.size=n:=by omega
      have s4':=s3.trans s4
      have b1:binInt .sub (vi mid) (vi a)=some (vi ((mid - a:Nat):Int)):=i64_sub_nat mid a g1 (by omega)
      have b2:binInt .sub (vi e) (vi mid)=some (vi ((e - mid:Nat):Int)):=i64_sub_nat e mid (by omega) (by omega)
      have b3:=i64_succ mid (by omega)
      simp only [tk_eq,ext_tuple,List.getElem?_cons_zero,List.getElem?_cons_succ,opt_some,b1,b2,b3,w8,i64_lss,i64_geq]
      by_cases cl:mid - a<e - mid
      · have cl':((mid - a:Nat):Int)<((e - mid:Nat):Int):=by omega
        simp only [cl',decide_true,tk_eq,ifB_true,i64_geq,opt_some]
        refine ih (mid - a) (by omega) s4'.get n4 hsz a mid g1 (by omega) lim hlim hBa (Nat.le_refl _) fun d5 H5 p5 q5 s5 =>?_
        obtain ⟨hBL,hfin⟩:=hl d5 p5 q5
        have n5:d5.size=n:=by rw [p5.1]; exact n4
        simp only [b3,tk_eq,opt_some]
        exact hX (e - (mid+1)) (by omega) _ _ ⟨mid+1,e,lim,_,ap,d5,rfl,s4'.trans s5,n5,by omega,hen,hlim,by omega,hBL,fun R h1 h2=>by
          obtain ⟨h3,h4⟩:=hfin R h1 h2
          exact fin3 R h3 h4,rfl⟩
      · have cl':¬ ((mid - a:Nat):Int)<((e - mid:Nat):Int):=by omega
        simp only [cl',decide_false,tk_eq,ifB_false,i64_geq,opt_some,b3]
        refine ih (e - (mid+1)) (by omega) s4'.get n4 hsz (mid+1) e (by omega) hen lim hlim hBr (Nat.le_refl _) fun d5 H5 p5 q5 s5 =>?_
        obtain ⟨hBL,hfin⟩:=hr d5 p5 q5
        have n5:d5.size=n:=by rw [p5.1]; exact n4
        exact hX (mid - a) (by omega) _ _ ⟨a,mid,lim,_,ap,d5,rfl,s4'.trans s5,n5,g1,by omega,hlim,by omega,hBL,fun R h1 h2=>by
          obtain ⟨h3,h4⟩:=hfin R h1 h2
          exact fin3 R h3 h4,rfl⟩
    by_cases ca:0<a
    · have ca':decide ((0:Int)<a)=true:=decide_eq_true (by omega)
      have b1:=i64_dec a (by omega) (by omega)
      have f1:=mrr_ix (sz:=2) (b:=b) (c:=c) (n:=n) (i:=a - 1) (by omega)
      have f2:=mrr_ix (sz:=2) (b:=b) (c:=c) (n:=n) (i:=pv) (by omega)
      have g1:=mrr_load he s3.get (i:=a - 1) (by omega)
      have g2:=mrr_load he s3.get (i:=pv) (by omega)
      simp only [F.f53_j3,i64_gtr,ca',b1,f1,f2,g1,g2,stdZ]
      refine hC _ _ _ _ fun z H10 e10 hz =>?_
      have s10:=s3.ext e10
      cases hl:LT d3[a - 1]! d3[pv]! with
      | true =>
        have part:=part _ s10 _ rfl
        simp only [i64_lss,hz,hl,un_not_z,Bool.not_true,stdZ]
        exact part
      | false =>
        rcases hx:partitionEqual LT d3 a e pv with ⟨mid,d4⟩
        obtain ⟨g3,g4,hs4,hB4,hfin⟩:=round_eq hS (partitionEqual_holds LT) ca hp1 hp2 (by omega) B3 hl hx
        have hY:=fun H4 s4=>hX (e - mid) (by omega) [slc b 0 n c,vi mid,vi e,vi lim,fv,vb wb,vb wp] H4 ⟨mid,e,lim,wb,wp,d4,rfl,s4,by omega,g4,hen,hlim,by omega,hB4,fun R h1 h2=>by
            obtain ⟨h3,h4⟩:=hfin R h1 h2
            exact fin3 R h3 h4,rfl⟩
        simp only [i64_lss,hz,hl,un_not_z,Bool.not_false,stdZ]
        refine S.f52 hE he hC s10.get n3 (by omega) a e pv hp1 hp2 hen fun H4 s4 =>?_
        rw [hx] at s4 ⊢
        exact hY H4 (s10.trans s4)
    · have ca':decide ((0:Int)<a)=false:=decide_eq_false (by omega)
      have part:=part _ s3 _ rfl
      simp only [F.f53_j3,i64_gtr,ca',stdZ]
      exact part
  have j2:∀ (d3:Array α) H3 (lim:Nat) (wb wp:Bool) (pv:Nat) (hint:Int),SortMo H b enc tail f d3 H3->d3.size=n->PermIn a e d1 d3->lim<2 ^ 60->a<=pv->pv<e->F.f53_j2 E Q X (slc b 0 n c) (vi a) (vi e) (vi lim) fv (vb wb) (vb wp) (vi ((e - a:Nat):Int)) (vi pv) (vi hint) H3:=by
    intro d3 H3 lim wb wp pv hint s3 n3 p3 hlim hp1 hp2
    have B3:Go.Sort.Below LT a e d3:=hB.permA permIn_all (by omega) p3
    have h3:=j3 d3 H3 lim wb wp pv s3 n3 p3 hlim hp1 hp2
    have try_:E.call (E.fid i.f50) [slc b 0 n c,vi a,vi e,fv] H3 fun v6 H4=>ifB v6 (Q (.tuple #[]) H4) (F.f53_j3 E Q X (slc b 0 n c) (vi a) (vi e) (vi lim) fv (vb wb) (vb wp) (vi ((e - a:Nat):Int)) (vi pv) H4):=by
      refine S.f50 hE he hC s3.get n3 (by omega) a e (by omega) hen fun H4 s4 =>?_
      obtain ⟨q1,q2⟩:=partialInsertionSort_holds hS d3 a e (by omega) (by omega) B3
      cases hb:(partialInsertionSort LT d3 a e).2 with
      | true =>
        obtain ⟨h5,h6⟩:=fin _ (permIn_trans _ _ _ _ _ p3 q1) (q2 hb)
        simp only [ifB_true]
        exact hQ _ _ h5 h6 (s3.trans s4)
      | false =>
        simp only [ifB_false]
        exact j3 _ H4 lim wb wp pv (s3.trans s4) (by rw [q1.1]; exact n3) (permIn_trans _ _ _ _ _ p3 q1) hlim hp1 hp2
    cases wb with
    | false =>
      simp only [F.f53_j2,stdZ]
      exact h3
    | true =>
      cases wp with
      | false =>
        simp only [F.f53_j2,stdZ]
        exact h3
      | true =>
        by_cases ch:hint=1
        · simp only [F.f53_j2,gd_tt,pick_true_z,tk_eq,opt_some,i64_eql,ch,decide_true,ifB_true]
          exact try_
        · simp only [F.f53_j2,gd_tt,pick_true_z,tk_eq,opt_some,i64_eql,ch,decide_false,ifB_false]
          exact h3
  have j1:∀ (d3:Array α) H3 (lim:Nat) (wb wp:Bool),SortMo H b enc tail f d3 H3->d3.size=n->PermIn a e d1 d3->lim<2 ^ 60->F.f53_j1 E Q X (slc b 0 n c) (vi a) (vi e) (vi lim) fv (vb wb) (vb wp) (vi ((e - a:Nat):Int)) H3:=by
    intro d3 H3 lim wb wp s3 n3 p3 hlim
    simp only [F.f53_j1]
    refine S.f42 hE he hC s3.get n3 (by omega) a e (by omega) hen fun pv hint H4 hp1 hp2 e4 =>?_
    have s4:=s3.ext e4
    simp only [tk_eq,ext_tuple,List.getElem?_cons_zero,List.getElem?_cons_succ,opt_some,i64_eql]
    by_cases ch:hint=2
    · simp only [ch,decide_true,ifB_true]
      refine S.f54 hE he s4.get n3 (by omega) a e (by omega) hen fun H5 s5 =>?_
      have q1:=reverseRange_holds d3 a e hae (by omega)
      have b1:=i64_dec e (by omega) (by omega)
      have b2:binInt .sub (vi pv) (vi a)=some (vi ((pv - a:Nat):Int)):=i64_sub_nat pv a hp1 (by omega)
      have b3:binInt .sub (vi ((e - 1:Nat):Int)) (vi ((pv - a:Nat):Int))=some (vi ((e - 1 - (pv - a):Nat):Int)):=i64_sub_nat (e - 1) (pv - a) (by omega) (by omega)
      simp only [b1,b2,b3,tk_eq,opt_some]
      exact j2 _ H5 lim wb wp _ 1 (s4.trans s5) (by rw [q1.1]; exact n3) (permIn_trans _ _ _ _ _ p3 q1) hlim (by omega) (by omega)
    · simp only [ch,decide_false,ifB_false]
      exact j2 d3 H4 lim wb wp pv hint s4 n3 p3 hlim hp1 hp2
  cases wb with
  | true =>
    have:=j1 d1 H1 limit true wp s1 n1 (permIn_refl _ _ _) hlim
    simp only [F.f53_l1,a1,c12',c0',i64_leq,i64_eql,un_not_z,Bool.not_true,stdZ]
    exact this
  | false =>
    have b1:=i64_dec limit (by omega) (by omega)
    have go:=fun d' H' p' s'=>j1 d' H' (limit - 1) false wp s' (by rw [(p':PermIn a e d1 d').1]; exact n1) p' (by omega)
    clear j1 j2 j3 hX
    simp only [F.f53_l1,a1,c12',c0',i64_leq,i64_eql,un_not_z,Bool.not_false,stdZ]
    refine S.f41 hE he s1.get n1 hsz a e (by omega) hen fun d' H' p' s' =>?_
    simp only [b1,stdZ]
    exact go d' H' p' (s1.trans s')
theorem S.f39 (hE:Fold E) (hS:SWO LT) (he:EncOk 2 enc) (hC:CmpOk E fv enc LT) (hg:H.get b=arrM enc d tail f) (hn:d.size=n) (hsz:n<2 ^ 31)
  (hQ:∀ d' H',PermIn 0 n d d'->SortedIn LT 0 n d'->SortMo H b enc tail f d' H'->Q (.tuple #[]) H'):E.call (E.fid i.f39) [slc b 0 n c,fv] H Q:=by
 apply hE.f39
 have e1:(BitVec.ofNat 64 n).toNat=n:=by rw [BitVec.toNat_ofNat,Nat.mod_eq_of_lt (by omega)]
 have hc:convInt .u64 (vi (n:Int))=some (u64 (BitVec.ofNat 64 n)):=by rw [i64_to_u64,BitVec.ofInt_natCast]
 simp only [F.f39,lenSlc_slc_z,hc,stdZ]
 refine S.f14 hE _ (by rw [e1]; omega) ?_
 rw [e1]
 have hl:bitsLen n<=31:=by rw [bitsLen_le_iff]; exact hsz
 exact S.f53 hE hS he hC n hg hn hsz 0 n (Nat.zero_le _) (Nat.le_refl _) _ (by omega) (.inl rfl) (by omega) hQ
end
end Go.AM
end
section
namespace Go.AM
theorem sortsC_any {E:Sy} (hE:Fold E) (m:Nat) (hm:m<2 ^ 31):SortsC E m:=fun hg hmd hQ=>S.f39 hE swo_ltC caseE_ok (cmp_cases hE) hg rfl (by omega) hQ
end Go.AM
end
section
namespace Go.AM
open Go.Sort (SWO PermIn SortedIn insertionSort)
set_option maxRecDepth 20000
structure EntE where
 n:BitVec 32
 v:PlV
 l:List RuleE
def EntE.kv (e:EntE):BitVec 32×PlV:=(e.n,e.v)
def entER (e:EntE):Res:=growR 3 e.v.1 (e.l.map RuleE.cells)
def pv (v:PlV):Value:=v.1
def ofNE (es:List RuleE) (n:BitVec 32):List RuleE:=es.filter fun x=>decide (x.r.number=n)
structure Grp (es:List RuleE) (al:List EntE):Prop where
 nd:(al.map EntE.n).Nodup
 all:∀ e∈al,e.l=ofNE es e.n/\e.l≠[]
 mem:∀ x∈es,x.r.number∈al.map EntE.n
section
variable {E:Sy} {H H' H0 Z:AH} {Q:Value->AH->Prop} {L:List Res}
theorem kv_lookup:∀ (al:List EntE) (n:BitVec 32),alook n (al.map EntE.kv)=(al.find? fun e=>decide (n=e.n)).map EntE.v
 | [],n=>rfl
 | e :: al,n=>by
  rw [List.map_cons,alook_cons,List.find?_cons]
  by_cases h:n=e.n
  ·simp [h,EntE.kv]
  ·simp [h,EntE.kv,kv_lookup al n]
theorem ofNE_snoc (es:List RuleE) (x:RuleE) (n:BitVec 32):ofNE (es++[x]) n=if x.r.number=n then ofNE es n++[x] else ofNE es n:=by
 unfold ofNE
 rw [List.filter_append]
 by_cases h:x.r.number=n <;> simp [h]
theorem Grp.old {es:List RuleE} {al:List EntE} (g:Grp es al) {x:RuleE} {i:Nat} (hi:i<al.length) (hn:al[i].n=x.r.number) (v':PlV):Grp (es++[x]) (al.set i ⟨al[i].n,v',al[i].l++[x]⟩):=by
 have hnm:(al.set i ⟨al[i].n,v',al[i].l++[x]⟩).map EntE.n=al.map EntE.n:=by
  rw [List.map_set]
  show (al.map EntE.n).set i al[i].n=_
  have:=List.set_getElem_self (as:=al.map EntE.n) (i:=i) (by simpa using hi)
  rw [List.getElem_map] at this
  exact this
 refine ⟨by rw [hnm]; exact g.nd,fun e he =>?_,fun y hy =>?_⟩
 ·obtain ⟨j,hj,rfl⟩:=List.getElem_of_mem he
  have hj':j<al.length:=by simpa using hj
  rw [List.getElem_set]
  split
  ·rename_i hij
   subst hij
   obtain ⟨h1,_⟩:=g.all _ (List.getElem_mem hi)
   refine ⟨?_,by simp⟩
   simp only
   rw [ofNE_snoc,if_pos hn.symm,h1]
  ·rename_i hij
   obtain ⟨h1,h2⟩:=g.all _ (List.getElem_mem hj')
   refine ⟨?_,h2⟩
   rw [ofNE_snoc,if_neg,h1]
   intro e
   have hnd:=g.nd
   have:=(List.getElem_inj (xs:=al.map EntE.n) (i:=i) (j:=j) (h₀:=by simpa using hi) (h₁:=by simpa using hj') hnd).1 (by rw [List.getElem_map,List.getElem_map,hn,e])
   exact hij this
 ·rw [hnm]
  rcases List.mem_append.1 hy with hy | hy
  ·exact g.mem y hy
  ·simp only [List.mem_singleton] at hy
   subst hy
   rw [<- hn]
   exact List.mem_map.2 ⟨_,List.getElem_mem hi,rfl⟩
theorem Grp.new {es:List RuleE} {al:List EntE} (g:Grp es al) {x:RuleE} (hn:x.r.number ∉ al.map EntE.n) (v':PlV):Grp (es++[x]) (al++[⟨x.r.number,v',[x]⟩]):=by
 have hno:ofNE es x.r.number=[]:=by
  unfold ofNE
  rw [List.filter_eq_nil_iff]
  intro y hy
  simp only [decide_eq_true_eq]
  intro e
  exact hn (by rw [<- e]; exact g.mem y hy)
 refine ⟨?_,fun e he =>?_,fun y hy =>?_⟩
 ·rw [List.map_append,List.nodup_append]
  exact ⟨g.nd,by simp,fun a ha b hb=>by simp at hb; subst hb; rintro rfl; exact hn ha⟩
 ·rcases List.mem_append.1 he with he | he
  ·obtain ⟨h1,h2⟩:=g.all e he
   refine ⟨?_,h2⟩
   rw [ofNE_snoc,if_neg,h1]
   intro e'
   exact hn (by rw [e']; exact List.mem_map.2 ⟨e,he,rfl⟩)
  ·simp only [List.mem_singleton] at he
   subst he
   refine ⟨?_,by simp⟩
   simp only
   rw [ofNE_snoc,if_pos rfl,hno]
   rfl
 ·rw [List.map_append]
  rcases List.mem_append.1 hy with hy | hy
  ·exact List.mem_append_left _ (g.mem y hy)
  ·simp only [List.mem_singleton] at hy
   subst hy
   simp
theorem aset_kv_old:∀ (al:List EntE) (i:Nat) (hi:i<al.length) (v':PlV) (l':List RuleE),(al.map EntE.n).Nodup->aset al[i].n v' (al.map EntE.kv)=(al.set i ⟨al[i].n,v',l'⟩).map EntE.kv
 | e :: al,0,hi,v',l',_=>by simp [aset,EntE.kv]
 | e :: al,i+1,hi,v',l',hnd=>by
  have hi':i<al.length:=by simpa using hi
  rw [List.map_cons,List.nodup_cons] at hnd
  have hne:¬ e.n=al[i].n:=fun h=>hnd.1 (by rw [h]; exact List.mem_map.2 ⟨_,List.getElem_mem hi',rfl⟩)
  have ih:=aset_kv_old al i hi' v' l' hnd.2
  simp only [List.getElem_cons_succ,List.map_cons,List.set_cons_succ,aset]
  have h0:(e.kv).1=e.n:=rfl
  rw [h0,if_neg hne,ih]
theorem aset_kv_new:∀ (al:List EntE) (n:BitVec 32) (v':PlV),n ∉ al.map EntE.n->aset n v' (al.map EntE.kv)=al.map EntE.kv++[(n,v')]
 | [],n,v',_=>rfl
 | e :: al,n,v',h=>by
  simp only [List.map_cons,List.mem_cons,not_or] at h
  have h0:(e.kv).1=e.n:=rfl
  rw [List.map_cons,aset,h0,if_neg (fun x=>h.1 x.symm),aset_kv_new al n v' h.2]
  rfl
def ofBase (t2 t3 r:Nat) (c2 c3:List Value) (al:List EntE):List Res:=[boxR t2 c2,boxR t3 c3,mapR u32 pv r (al.map EntE.kv)]++al.map entER
theorem three_new (x:RuleE) (H:AH):storeN 3 (ptr H.next 0) (.agg x.cells.toArray) (H.new (.cells [(.int .u32 0),(.int .u32 0),(.slice none 0 0)] none))=some (H.new (.cells x.cells none)):=by
 rw [storeN_ptr,AH.get_new_self]
 have h3:AM.splice [(.int .u32 0),(.int .u32 0),(.slice none 0 0)] 0 x.cells=x.cells:=rfl
 have h4:x.cells.all plain1=true:=ruleE_ok.plain x
 have h5:x.cells.length=3:=rfl
 simp only [List.size_toArray,List.toList_toArray,h4,h5,List.length_cons,List.length_nil,Nat.zero_add,Nat.le_refl,and_self,if_true,h3,AH.new_put]
theorem of_step {t2 t3 r:Nat} {c2 c3:List Value} {al:List EntE} {es:List RuleE} (g:Has H0 Z H (ofBase t2 t3 r c2 c3 al)) (gr:Grp es al) (hlen:es.length<1000) (x:RuleE) {R:AH->Prop}
  (next:∀ al' H',Has H0 Z H' (ofBase t2 t3 r c2 c3 al')->Grp (es++[x]) al'->R H') {b4:Nat} (hb4:b4=H.next) :
  opt (look 0 (.slice none 0 0) false (.map (some r)) (u32 x.r.number) (H.new (.cells x.cells none))) fun v9 =>
  opt2 (app 3 32 v9 (slc (H.next+1) 0 1 1) ((H.new (.cells x.cells none)).new (.cells x.cells none))) fun v12 H4 =>
  load1 (ptr b4 0) H4=load1 (ptr b4 0) (H.new (.cells x.cells none))/\opt (setMap 0 (.map (some r)) (u32 x.r.number) v12 H4) fun H5=>R H5:=by
 subst hb4
 have g2:=g.newbox x.cells
 have hbl:(ofBase t2 t3 r c2 c3 al).length=3+al.length:=by simp [ofBase]; omega
 have hm:=g2.mapAt (k:=2) (fk:=u32) (fv:=pv) (r:=r) (l:=al.map EntE.kv) (by simp [ofBase])
 have hl:=hm.look (kd:=0) same_u32 x.r.number (.slice none 0 0) false
 have hl2:(al.map EntE.kv).lookup x.r.number=(al.find? fun e=>decide (x.r.number=e.n)).map EntE.v:=kv_lookup al x.r.number
 rw [hl2] at hl
 have hbx:∀ {L':List Res} {H'':AH},Has H0 Z H'' L'->L'[3+al.length]? = some (boxR H.next x.cells)->load1 (ptr H.next 0) H''=load1 (ptr H.next 0) (H.new (.cells x.cells none)):=by
  intro L' H'' g' h'
  rw [load1_ptr,load1_ptr,g'.box h',AH.get_new_self]
 have hnx:(H.new (.cells x.cells none)).next=H.next+1:=rfl
 cases hf:al.find? fun e=>decide (x.r.number=e.n) with
 | some e =>
  rw [hf] at hl
  have hl:look 0 (.slice none 0 0) false (.map (some r)) (u32 x.r.number) (H.new (.cells x.cells none))=some e.v.1:=hl
  obtain ⟨h1,i,hi,rfl,_⟩:=List.find?_eq_some_iff_getElem.1 hf
  simp only [decide_eq_true_eq] at h1
  have hk:(ofBase t2 t3 r c2 c3 al++[boxR H.next x.cells])[3+i]? = some (growR 3 al[i].v.1 (al[i].l.map RuleE.cells)):=by
   rw [List.getElem?_append_left (by rw [hbl]; omega)]
   simp only [ofBase]
   rw [List.getElem?_append_right (by simp)]
   simp [hi,entER]
  have hle:al[i].l.length<=es.length:=by rw [(gr.all _ (List.getElem_mem hi)).1]; exact List.length_filter_le _ _
  obtain ⟨v',H4,a1,a2,g4⟩:=g2.app1 (k:=3+i) (bytes:=32) hk x.cells rfl (ruleE_ok.plain x) (by decide) (by decide) (by rw [List.length_map]; omega)
  rw [hnx] at a1
  simp only [hl,a1,stdZ]
  have hset:(ofBase t2 t3 r c2 c3 al++[boxR H.next x.cells]).set (3+i) (growR 3 v' (al[i].l.map RuleE.cells++[x.cells]))=[boxR t2 c2,boxR t3 c3,mapR u32 pv r (al.map EntE.kv)]++((al.set i ⟨al[i].n,⟨v',a2⟩,al[i].l++[x]⟩).map entER++[boxR H.next x.cells]):=by
   rw [List.set_append_left _ _ (by rw [hbl]; omega)]
   simp only [ofBase]
   rw [List.set_append_right _ _ (by simp),List.append_assoc]
   congr 2
   rw [List.map_set]
   simp [entER]
  rw [hset] at g4
  have hbq:=hbx g4 (by rw [List.getElem?_append_right (by simp),List.getElem?_append_right (by simp),List.length_map,List.length_set,show 3+al.length - [boxR t2 c2,boxR t3 c3,mapR u32 pv r (al.map EntE.kv)].length - al.length=0 by simp]; rfl)
  refine ⟨hbq,?_⟩
  obtain ⟨H5,m1,g5⟩:=g4.mapset (n:=2) (r:=r) (l:=al.map EntE.kv) (fk:=u32) (fv:=pv) (by simp) same_u32 x.r.number ⟨v',a2⟩
  have m1:setMap 0 (.map (some r)) (u32 x.r.number) v' H4=some H5:=m1
  simp only [m1,stdZ]
  rw [h1,aset_kv_old al i hi ⟨v',a2⟩ (al[i].l++[x]) gr.nd] at g5
  have g6:=g5.drop (3+al.length)
  refine next (al.set i ⟨al[i].n,⟨v',a2⟩,al[i].l++[x]⟩) H5 ?_ (gr.old hi h1.symm ⟨v',a2⟩)
  have he:(([boxR t2 c2,boxR t3 c3,mapR u32 pv r (al.map EntE.kv)]++((al.set i ⟨al[i].n,⟨v',a2⟩,al[i].l++[x]⟩).map entER++[boxR H.next x.cells])).set 2 (mapR u32 pv r ((al.set i ⟨al[i].n,⟨v',a2⟩,al[i].l++[x]⟩).map EntE.kv))).eraseIdx (3+al.length)=ofBase t2 t3 r c2 c3 (al.set i ⟨al[i].n,⟨v',a2⟩,al[i].l++[x]⟩):=by
   simp only [ofBase,List.cons_append,List.nil_append,List.set_cons_succ,List.set_cons_zero]
   rw [show 3+al.length=al.length+1+1+1 by omega,List.eraseIdx_cons_succ,List.eraseIdx_cons_succ,List.eraseIdx_cons_succ,List.eraseIdx_append_of_length_le (by simp)]
   simp
  rw [he] at g6
  exact g6
 | none =>
  rw [hf] at hl
  have hl:look 0 (.slice none 0 0) false (.map (some r)) (u32 x.r.number) (H.new (.cells x.cells none))=some nilS:=hl
  have hno:x.r.number ∉ al.map EntE.n:=by
   intro hm
   obtain ⟨e,he,hen⟩:=List.mem_map.1 hm
   rw [List.find?_eq_none] at hf
   have:=hf e he
   simp [hen] at this
  have g3:=g2.nils 3
  obtain ⟨v',H4,a1,a2,g4⟩:=g3.app1 (k:=3+al.length+1) (sz:=3) (v:=nilS) (rows:=[]) (bytes:=32) (by rw [List.getElem?_append_right (by rw [List.length_append,hbl]; simp)]; simp [hbl]) x.cells rfl (ruleE_ok.plain x) (by decide) (by decide) (by simp)
  rw [hnx] at a1
  simp only [hl,a1,stdZ]
  have hset:(ofBase t2 t3 r c2 c3 al++[boxR H.next x.cells]++[growR 3 nilS []]).set (3+al.length+1) (growR 3 v' ([]++[x.cells]))=ofBase t2 t3 r c2 c3 al++[boxR H.next x.cells]++[entER ⟨x.r.number,⟨v',a2⟩,[x]⟩]:=by
   rw [List.set_append_right _ _ (by rw [List.length_append,hbl]; simp)]
   simp [hbl,entER]
  rw [hset] at g4
  have hbq:=hbx g4 (by rw [List.getElem?_append_left (by rw [List.length_append,hbl]; simp),List.getElem?_append_right (by rw [hbl]; omega)]; simp [hbl])
  refine ⟨hbq,?_⟩
  obtain ⟨H5,m1,g5⟩:=g4.mapset (n:=2) (r:=r) (l:=al.map EntE.kv) (fk:=u32) (fv:=pv) (by simp [ofBase]) same_u32 x.r.number ⟨v',a2⟩
  have m1:setMap 0 (.map (some r)) (u32 x.r.number) v' H4=some H5:=m1
  simp only [m1,stdZ]
  rw [aset_kv_new al x.r.number ⟨v',a2⟩ hno] at g5
  have g6:=g5.drop (3+al.length)
  refine next (al++[⟨x.r.number,⟨v',a2⟩,[x]⟩]) H5 ?_ (gr.new hno ⟨v',a2⟩)
  have he:((ofBase t2 t3 r c2 c3 al++[boxR H.next x.cells]++[entER ⟨x.r.number,⟨v',a2⟩,[x]⟩]).set 2 (mapR u32 pv r (al.map EntE.kv++[(x.r.number,⟨v',a2⟩)]))).eraseIdx (3+al.length)=ofBase t2 t3 r c2 c3 (al++[⟨x.r.number,⟨v',a2⟩,[x]⟩]):=by
   simp only [ofBase,List.cons_append,List.nil_append,List.set_cons_succ,List.set_cons_zero,List.append_assoc]
   rw [show 3+al.length=al.length+1+1+1 by omega,List.eraseIdx_cons_succ,List.eraseIdx_cons_succ,List.eraseIdx_cons_succ,List.eraseIdx_append_of_length_le (by simp)]
   simp [EntE.kv]
  rw [he] at g6
  exact g6
end
end Go.AM
end
section
namespace Go.AM
open Go.Sort (SWO PermIn SortedIn insertionSort)
set_option maxRecDepth 20000
theorem Has.perm {H0 Z H:AH} {L L':List Res} (h:Has H0 Z H L) (p:L.Perm L'):Has H0 Z H L' :=
 ⟨h.ext,h.sub,fun r hr=>h.all r (p.mem_iff.2 hr),(p.flatMap_right Res.fp).nodup_iff.1 h.nd⟩
def itR (ib r:Nat) (l done:List (BitVec 32×PlV)):Res:=⟨[r,ib],fun H=>IterAt u32 pv H ib r l done,fun h e=>h.keep (e _ (by simp)) (e _ (by simp))⟩
section
variable {E:Sy} {H H' H0 Z:AH} {Q:Value->AH->Prop} {L:List Res}
theorem rank_filter (l:List RuleE) (k:Nat):(l.filter fun x=>decide (rkR x=k)).map RuleE.r=byRank (l.map RuleE.r) k:=by
 unfold byRank
 rw [List.filter_map]
 rfl
theorem ranked_sort (l:List RuleE):(ranked rkR l 4).map RuleE.r=sortS (l.map RuleE.r):=by
 simp only [ranked,List.nil_append,List.map_append,rank_filter,sortS]
theorem ofNE_map (es:List RuleE) (n:BitVec 32):(ofNE es n).map RuleE.r=ofNum (es.map RuleE.r) n:=by
 unfold ofNE ofNum
 rw [List.filter_map]
 rfl
theorem ranked_mem (l:List RuleE):∀ (n:Nat) {x:RuleE},x∈ranked rkR l n->x∈l
 | 0,x,h=>by simp [ranked] at h
 | n+1,x,h=>by
  rw [ranked,List.mem_append] at h
  rcases h with h | h
  ·exact ranked_mem l n h
  ·exact (List.mem_filter.1 h).1
theorem ranked_len (l:List RuleE):(ranked rkR l 4).length=l.length:=by
 have h0:∀ n,(ranked rkR l n).length=(l.filter fun x=>decide (rkR x<n)).length:=by
  intro n
  induction n with
  | zero =>
   have:l.filter (fun x=>decide (rkR x<0))=[]:=List.filter_eq_nil_iff.2 fun x _=>by simp
   rw [this]; rfl
  | succ n ih =>
   rw [ranked,List.length_append,ih]
   clear ih
   induction l with
   | nil=>rfl
   | cons x l ih =>
    by_cases h1:rkR x<n
    ·have h2:¬ rkR x=n:=by omega
     have h3:rkR x<n+1:=by omega
     simp only [List.filter_cons,h1,h2,h3,decide_true,decide_false,if_true,Bool.false_eq_true,if_false,List.length_cons] at ih ⊢
     omega
    ·by_cases h2:rkR x=n
     ·have h3:rkR x<n+1:=by omega
      simp only [List.filter_cons,h1,h2,h3,decide_true,decide_false,if_true,Bool.false_eq_true,if_false,List.length_cons] at ih ⊢
      rw [h2] at h1
      simp only [h1,decide_false,Bool.false_eq_true,if_false,Nat.lt_succ_self,decide_true,if_true,List.length_cons]
      omega
     ·have h3:¬ rkR x<n+1:=by omega
      simp only [List.filter_cons,h1,h2,h3,decide_false,Bool.false_eq_true,if_false] at ih ⊢
      omega
 rw [h0,List.filter_eq_self.2]
 intro x _
 simpa using rk_lt x
def ofL (t2 t3 r ib:Nat) (d:BitVec 32) (kv done:List (BitVec 32×PlV)) (cv:Value) (rows:List (List Value)) (es:List EntE):List Res :=
 [boxR t2 [nilS,u32 0#32],boxR t3 [cv,u32 d],itR ib r kv done,growR 2 cv rows]++es.map entER
theorem sortR_nonempty {m:Nat} (hSR:SortsR E m) {v:Value} {l:List RuleE} (g:Grow zH H 3 v (l.map RuleE.cells)) (hne:l≠[]) (hl:l.length<=m)
  (hQ:∀ H',Upd (growR 3 v (l.map RuleE.cells)) (growR 3 v ((ranked rkR l 4).map RuleE.cells)) H H'->Q (.tuple #[]) H') :
  E.call (E.fid i.f40) [v,.func (.func (E.fid i.f5)) #[] #[]] H Q:=by
 obtain ⟨b,c,tail,f,rfl,hg,up⟩:=g.arrE ruleE_ok hne
 have hs:(l.toArray).size=l.length:=by simp
 have:=hSR (Q:=Q) (c:=c) hg (by rw [hs]; exact hl) fun d' H' hd s =>?_
 ·rw [hs] at this; exact this
 ·have hd:d'.toList=ranked rkR l 4:=by simpa using hd
  have h:=up d' H' (by rw [<- Array.length_toList,hd,ranked_len]) s
  rw [hd] at h
  exact hQ H' h
noncomputable local instance:DecidableEq (BitVec 32×PlV):=fun a b=>Classical.propDecidable _
theorem eraseIdx_map2 {α β:Type} (f:α->β):∀ (l:List α) (i:Nat),(l.map f).eraseIdx i=(l.eraseIdx i).map f
 | [],_=>rfl
 | _ :: _,0=>rfl
 | a :: l,i+1=>by simp [eraseIdx_map2 f l i]
theorem getElem_map_some {α β:Type} (f:α->β) {l:List α} {i:Nat} (h:i<l.length):(l.map f)[i]? = some (f l[i]):=by simp [h]
theorem irof_l2 (hE:Fold E) {sm:Nat} (hsm:sm<=80) (hSC:SortsC E sm) (hSR:SortsR E sm) {H1:AH} {t2 t3 r ib:Nat} {d:BitVec 32} {al:List EntE} {pes:List RuleE} (gr:Grp pes al) (hpl:pes.length<=sm) (hca:∀ x∈pes,RuleAt H x.r x.cells/\x.r.conds.length<2 ^ 20)
  (g1:Has H Z H1 (ofL t2 t3 r ib d (al.map EntE.kv) [] nilS [] al)) (hQ:∀ ns cs H',Ext H H'->Nums ⟨d,pes.map RuleE.r⟩ ns->PlanAt H' (planOf ⟨d,pes.map RuleE.r⟩ ns) cs->Q (.agg cs.toArray) H') :
  LoopL (fun l H X0=>F.f4_l2 E Q (nth l 0) (nth l 1) (nth l 2) H X0) [ptr t2 0,ptr t3 0,ptr ib 0] H1:=by
 have hall:al.length<=sm:=by
  have h1:=nodup_le (al.map EntE.n) (pes.map fun x=>x.r.number) gr.nd fun n hn=>by
   obtain ⟨e,he,rfl⟩:=List.mem_map.1 hn
   obtain ⟨h1,h2⟩:=gr.all e he
   obtain ⟨x,hx⟩:=List.exists_mem_of_ne_nil _ h2
   rw [h1] at hx
   have:=List.mem_filter.1 hx
   exact List.mem_map.2 ⟨x,this.1,by simpa using this.2⟩
  simp only [List.length_map] at h1
  omega
 refine LoopL.ind (fun m ls H'=>∃ cv ces es done Z,ls=[ptr t2 0,ptr t3 0,ptr ib 0]/\Has H Z H' (ofL t2 t3 r ib d (al.map EntE.kv) done cv (ces.map CaseE.cells) es)/\(∀ x∈ces,SliceOf (BranchAt 0) Z 2 x.v.1 x.c.branches) /\
   (∀ e∈al,e.kv ∉ done->e∈es)/\ces.map CaseE.c=done.map (fun p=>caseOf ⟨d,pes.map RuleE.r⟩ p.1)/\(done=[]->cv=nilS)/\m=al.length - done.length) ?_ al.length
  ⟨nilS,[],al,[],Z,rfl,g1,by simp,fun e he _=>he,rfl,fun _=>rfl,by simp⟩
 rintro m _ H2 X ih ⟨cv,ces,es,done,Z,rfl,g,hces,hes,hcd,hnil,rfl⟩
 have it:IterAt u32 pv H2 ib r (al.map EntE.kv) done:=g.get (k:=2) rfl
 have hcl:ces.length=done.length:=by have:=congrArg List.length hcd; simpa using this
 simp only [F.f4_l2,stdZ]
 refine IterAt.next it (fun p ob hp hnd it' hen =>?_) fun hperm =>?_
 ·
  have hdl:done.length<al.length:=by
   have h1:=it'.nodup
   have:=nodup_le (done++[p]) (al.map EntE.kv) h1.1 h1.2
   simp at this
   omega
  obtain ⟨e,he,rfl⟩:=List.mem_map.1 hp
  have hee:=hes e he hnd
  obtain ⟨i,hi,hie⟩:=List.getElem_of_mem hee
  have g2:Has H Z (H2.put ib ob) (ofL t2 t3 r ib d (al.map EntE.kv) (done++[e.kv]) cv (ces.map CaseE.cells) es):=by
   refine g.step (k:=2) (r':=itR ib r (al.map EntE.kv) (done++[e.kv])) rfl ⟨(Only.refl _ _).put (.inl (by simp [itR])) _,it',fun b hb=>⟨.inl hb,?_⟩,?_⟩
   ·simp only [itR,List.mem_cons,List.not_mem_nil,or_false] at hb
    rcases hb with rfl | rfl
    ·exact it.map.lt
    ·exact it.lt
   ·have:=it.map.lt
    obtain ⟨es',clock,h1,h2,h3,h4,h5,ix,h6,h7,h8,h9⟩:=it
    simp only [itR,List.nodup_cons,List.mem_cons,List.not_mem_nil,or_false,not_false_eq_true,List.nodup_nil,and_true]
    rintro rfl
    rw [h1] at h9
    simp at h9
  generalize H2.put ib ob=H3 at *
  have hk:(ofL t2 t3 r ib d (al.map EntE.kv) (done++[e.kv]) cv (ces.map CaseE.cells) es)[4+i]? = some (growR 3 e.v.1 (e.l.map RuleE.cells)):=by
   simp only [ofL]
   rw [List.getElem?_append_right (by simp)]
   have:4+i - [boxR t2 [nilS,u32 0#32],boxR t3 [cv,u32 d],itR ib r (al.map EntE.kv) (done++[e.kv]),growR 2 cv (ces.map CaseE.cells)].length=i:=by simp
   rw [this,getElem_map_some entER hi,hie]
   rfl
  obtain ⟨hel,hene⟩:=gr.all e he
  have hell:e.l.length<=sm:=by rw [hel]; exact Nat.le_trans (List.length_filter_le _ _) hpl
  have x0:(EntE.kv e).1=e.n:=rfl
  have x1:pv (EntE.kv e).2=e.v.1:=rfl
  simp only [hen,x0,x1,stdZ]
  refine sortR_nonempty hSR (g2.slice hk) hene hell fun H4 u4 =>?_
  have g4:=g2.step hk u4
  have hk4:((ofL t2 t3 r ib d (al.map EntE.kv) (done++[e.kv]) cv (ces.map CaseE.cells) es).set (4+i) (growR 3 e.v.1 ((ranked rkR e.l 4).map RuleE.cells)))[4+i]? = some (growR 3 e.v.1 ((ranked rkR e.l 4).map RuleE.cells)):=by
   rw [List.getElem?_set_self]
   simp [ofL,hi]; omega
  have r4:=g4.rows hk4
  have hbx:H4.get t3 = .cells [cv,u32 d] none:=g4.box (k:=1) (b:=t3) (by
   rw [List.getElem?_set_ne (by omega)]; rfl)
  simp only [hbx,stdZ]
  have hsl:=rules_sliceOf r4 fun x hx=>by
   have hx:=ranked_mem e.l 4 hx
   rw [hel] at hx
   exact ((hca x (List.mem_filter.1 hx).1).1).mono (g4.ext)
  rw [ranked_sort,hel,ofNE_map] at hsl
  refine S.f10 hE hsl ?_ ?_ fun v' H5 e5 hbr hfr =>?_
  ·have hlen:=ranked_len e.l
   have:(sortS (ofNum (pes.map RuleE.r) e.n)).length=(ranked rkR e.l 4).length:=by
    rw [<- ofNE_map,<- hel,<- ranked_sort,List.length_map]
   omega
  ·intro x hx
   rw [<- ofNE_map,<- hel,<- ranked_sort] at hx
   obtain ⟨y,hy,rfl⟩:=List.mem_map.1 hx
   have hy:=ranked_mem e.l 4 hy
   rw [hel] at hy
   exact (hca y (List.mem_filter.1 hy).1).2
  ·have hk1:∀ {H'':AH},Ext H4 H''->H''.get t3 = .cells [cv,u32 d] none:=fun e=>e.cells hbx
   refine ⟨by rw [load1_ptr,load1_ptr,hk1 e5,hbx],?_⟩
   obtain ⟨Z5,fz,g5,keep⟩:=g4.callee e5
   have hbz:SliceOf (BranchAt 0) Z5 2 v' (branchesF (sortS (ofNum (pes.map RuleE.r) e.n))):=by
    obtain ⟨rows,h1,h2,h3⟩:=hbr
    refine ⟨rows,keep _ _ _ h1 hfr,h2,fun i a b =>?_⟩
    obtain ⟨q0,w,q1,q2,q3⟩:=h3 i a b
    exact ⟨q0,w,q1,keep _ _ _ q2 q3,FreshV.zero w⟩
   have hpv:plain1 v'=true:=by obtain ⟨rows,h1,_⟩:=hbr; exact h1.plain
   have hbv:buildV [(0,1),(1,1)] #[(.int .u32 0),(.slice none 0 0)] [(0,u32 e.n),(1,v')]=some (.agg [u32 e.n,v'].toArray):=by
    have hd:=plain_defd hpv
    have hvc:=plain_vcells hpv
    simp [hd,hvc,splice]
   have hbS:buildS 1 2 #[(.int .u32 0),(.slice none 0 0)] [(0,.agg [u32 e.n,v'].toArray)]=some (.cells [u32 e.n,v'] none,mkSlc 1 1):=buildS_one 2 [u32 0#32,nilS] _ rfl rfl
   have g6:=g5.drop (4+i)
   have hdr:((ofL t2 t3 r ib d (al.map EntE.kv) (done++[e.kv]) cv (ces.map CaseE.cells) es).set (4+i) (growR 3 e.v.1 ((ranked rkR e.l 4).map RuleE.cells))).eraseIdx (4+i)=ofL t2 t3 r ib d (al.map EntE.kv) (done++[e.kv]) cv (ces.map CaseE.cells) (es.eraseIdx i):=by
    simp only [ofL,List.cons_append,List.nil_append]
    rw [show 4+i=i+1+1+1+1 by omega]
    simp only [List.set_cons_succ,List.eraseIdx_cons_succ,List.eraseIdx_set_eq,eraseIdx_map2]
   rw [hdr] at g6
   obtain ⟨cv',H7,a1,a2,g7⟩:=g6.app1 (k:=3) (sz:=2) (v:=cv) (rows:=ces.map CaseE.cells) (bytes:=32) rfl [u32 e.n,v'] rfl (by simp [hpv]) (by decide) (by decide) (by rw [List.length_map]; omega)
   have hb7:=g7.box (k:=1) (b:=t3) (c:=[cv,u32 d]) rfl
   have st7:store1 (ptr t3 0) cv' H7=some (H7.put t3 (.cells [cv',u32 d] none)):=by
    rw [store1_ptr,if_pos a2,hb7]; rfl
   simp only [hbv,hbS,AM.mk_some,mkSlc_eq,a1,opt2_some,st7,stdZ]
   have g8:=g7.put (k:=1) (b:=t3) (c:=[cv,u32 d]) rfl [cv',u32 d]
   refine ih (al.length - (done++[e.kv]).length) (by simp; omega) _ _ ⟨cv',ces++[(⟨caseOf ⟨d,pes.map RuleE.r⟩ e.n,⟨v',hpv⟩⟩:CaseE)],es.eraseIdx i,done++[e.kv],Z5,rfl,?_,?_,?_,?_,by simp,rfl⟩
   ·have:(ofL t2 t3 r ib d (al.map EntE.kv) (done++[e.kv]) cv (ces.map CaseE.cells) (es.eraseIdx i)).set 3 (growR 2 cv' (ces.map CaseE.cells++[[u32 e.n,v']]))=[boxR t2 [nilS,u32 0#32],boxR t3 [cv,u32 d],itR ib r (al.map EntE.kv) (done++[e.kv]),growR 2 cv' (ces.map CaseE.cells++[[u32 e.n,v']])]++(es.eraseIdx i).map entER:=rfl
    rw [this] at g8
    have:([boxR t2 [nilS,u32 0#32],boxR t3 [cv,u32 d],itR ib r (al.map EntE.kv) (done++[e.kv]),growR 2 cv' (ces.map CaseE.cells++[[u32 e.n,v']])]++(es.eraseIdx i).map entER).set 1 (boxR t3 [cv',u32 d])=ofL t2 t3 r ib d (al.map EntE.kv) (done++[e.kv]) cv' ((ces++[(⟨caseOf ⟨d,pes.map RuleE.r⟩ e.n,⟨v',hpv⟩⟩:CaseE)]).map CaseE.cells) (es.eraseIdx i):=by
     rw [List.map_append]; rfl
    rw [this] at g8
    exact g8
   ·intro x hx
    rcases List.mem_append.1 hx with hx | hx
    ·exact (hces x hx).sub (fun _ _ _ _ h e=>BranchAt.sub h e) fz.1
    ·simp only [List.mem_singleton] at hx
     subst hx
     exact hbz
   ·intro e' he' hn'
    simp only [List.mem_append,List.mem_singleton,not_or] at hn'
    have h1:=hes e' he' hn'.1
    obtain ⟨j,hj,hje⟩:=List.getElem_of_mem h1
    refine List.mem_eraseIdx_iff_getElem?.2 ⟨j,?_,by rw [List.getElem?_eq_getElem hj,hje]⟩
    rintro rfl
    rw [hje] at hie
    exact hn'.2 (by rw [hie])
   ·rw [List.map_append,List.map_append,hcd]; rfl
 ·
  have hb2:=g.box (k:=1) (b:=t3) (c:=[cv,u32 d]) rfl
  have hex:ext (Value.tuple #[Value.bool false]) 0=some (.bool false):=rfl
  simp only [hex,hb2,stdZ]
  have hdm:∀ n,n∈done.map Prod.fst↔∃ x∈pes.map RuleE.r,x.number=n:=by
   intro n
   have h1:n∈done.map Prod.fst↔n∈al.map EntE.n:=by
    rw [(hperm.map Prod.fst).mem_iff,List.map_map]; rfl
   rw [h1]
   constructor
   ·intro h
    obtain ⟨e,he,rfl⟩:=List.mem_map.1 h
    obtain ⟨h1,h2⟩:=gr.all e he
    obtain ⟨x,hx⟩:=List.exists_mem_of_ne_nil _ h2
    rw [h1] at hx
    have:=List.mem_filter.1 hx
    exact ⟨x.r,List.mem_map.2 ⟨x,this.1,rfl⟩,by simpa using this.2⟩
   ·rintro ⟨x,hx,rfl⟩
    obtain ⟨y,hy,rfl⟩:=List.mem_map.1 hx
    exact gr.mem y hy
  have hdn:(done.map Prod.fst).Nodup:=by
   have h1:=(hperm.map Prod.fst).nodup_iff
   rw [h1,List.map_map]
   exact gr.nd
  have hcn:ces.map (fun x=>x.c.number)=done.map Prod.fst:=by
   have:=congrArg (List.map CaseD.number) hcd
   rw [List.map_map,List.map_map] at this
   exact this
  have hcase:∀ x∈ces,x.c=caseOf ⟨d,pes.map RuleE.r⟩ x.c.number:=by
   intro x hx
   have:x.c∈ces.map CaseE.c:=List.mem_map.2 ⟨x,hx,rfl⟩
   rw [hcd] at this
   obtain ⟨p,_,hp⟩:=List.mem_map.1 this
   rw [<- hp]; rfl
  have fin:∀ (l':List CaseE) (H':AH),l'.Perm ces->l'.Pairwise (fun x y=>x.c.number.toNat<y.c.number.toNat)->Has H Z H' (ofL t2 t3 r ib d (al.map EntE.kv) done cv (l'.map CaseE.cells) es) ->
    opt (loadN 2 (ptr t3 0) H') fun v17=>opt (storeN 2 (ptr t2 0) v17 H') fun H8=>opt (loadN 2 (ptr t2 0) H8) fun v18=>Q v18 H8:=by
   intro l' H' hp hs g'
   have hb3:=g'.box (k:=1) (b:=t3) (c:=[cv,u32 d]) rfl
   have hb2:=g'.box (k:=0) (b:=t2) (c:=[nilS,u32 0#32]) rfl
   have hr:=g'.rows (k:=3) (sz:=2) (v:=cv) (rows:=l'.map CaseE.cells) rfl
   have hpc:=hr.plain
   have lo3:loadN 2 (ptr t3 0) H'=some (.agg [cv,u32 d].toArray):=by rw [loadN_ptr,hb3]; rfl
   have st2:storeN 2 (ptr t2 0) (.agg [cv,u32 d].toArray) H'=some (H'.put t2 (.cells [cv,u32 d] none)):=by
    rw [storeN_ptr,hb2]
    have h3:AM.splice [nilS,u32 0#32] 0 [cv,u32 d]=[cv,u32 d]:=rfl
    have h4:[cv,u32 d].all plain1=true:=by simp [hpc]
    simp only [List.size_toArray,List.toList_toArray,h4,List.length_cons,List.length_nil,Nat.zero_add,Nat.le_refl,and_self,if_true,h3]
   have g8:=g'.put (k:=0) (b:=t2) (c:=[nilS,u32 0#32]) rfl [cv,u32 d]
   have hb8:=g8.box (k:=0) (b:=t2) (c:=[cv,u32 d]) rfl
   have lo2:loadN 2 (ptr t2 0) (H'.put t2 (.cells [cv,u32 d] none))=some (.agg [cv,u32 d].toArray):=by rw [loadN_ptr,hb8]; rfl
   simp only [lo3,st2,lo2,stdZ]
   have hr8:=g8.rows (k:=3) (sz:=2) (v:=cv) (rows:=l'.map CaseE.cells) rfl
   have hmem:∀ x∈l',x∈ces:=fun x hx=>hp.mem_iff.1 hx
   refine hQ (l'.map fun x=>x.c.number) [cv,u32 d] _ g8.ext ⟨?_,fun n =>?_⟩ ⟨cv,rfl,?_⟩
   ·rw [List.pairwise_map]; exact hs
   ·rw [(hp.map fun x:CaseE=>x.c.number).mem_iff,hcn]
    exact hdm n
   ·have hpl:(planOf ⟨d,pes.map RuleE.r⟩ (l'.map fun x=>x.c.number)).cases=l'.map CaseE.c:=by
     unfold planOf
     simp only [List.map_map]
     apply List.map_congr_left
     intro x hx
     exact (hcase x (hmem x hx)).symm
    rw [hpl]
    refine ⟨_,hr8,by simp,fun i h1 h2 =>?_⟩
    simp only [List.getElem_map]
    have hx:l'[i]'(by simpa using h1)∈l':=List.getElem_mem _
    exact ⟨_,rfl,(hces _ (hmem _ hx)).sub (fun _ _ _ _ h e=>BranchAt.sub h e) g8.sub⟩
  by_cases hce:ces=[]
  ·have hd0:done=[]:=List.length_eq_zero_iff.1 (by rw [<- hcl,hce]; rfl)
   have:=hnil hd0
   subst this
   subst hce
   refine S.slices_SortFunc_nil hE ?_
   exact fin [] H2 (List.Perm.refl _) List.Pairwise.nil g
  ·have g0:=g.slice (k:=3) (sz:=2) (v:=cv) (rows:=ces.map CaseE.cells) rfl
   obtain ⟨b,c,tail,f,hcv,hg,up⟩:=g0.arrE caseE_ok hce
   have hs:(ces.toArray).size=ces.length:=by simp
   have:=hSC (c:=c) (Q:=fun v16 H7=>opt (loadN 2 (ptr t3 0) H7) fun v17=>opt (storeN 2 (ptr t2 0) v17 H7) fun H8=>opt (loadN 2 (ptr t2 0) H8) fun v18=>Q v18 H8) hg (by rw [hs,hcl,hperm.length_eq,List.length_map]; exact hall) fun d' H' hp hso s =>?_
   ·rw [hs,<- hcv] at this
    exact this
   ·have hsz:d'.size=ces.length:=by rw [hp.1,hs]
    have hpm:d'.toList.Perm ces:=by
     have h1:=hp.2.2
     have e1:d'.extract 0 ces.toArray.size=d':=by rw [hs,<- hsz]; simp
     have e2:ces.toArray.extract 0 ces.toArray.size=ces.toArray:=by simp
     rw [e1,e2] at h1
     simpa using h1
    have g9:=g.step (k:=3) (r:=growR 2 cv (ces.map CaseE.cells)) rfl (up d' H' hsz s)
    refine fin d'.toList H' hpm ?_ g9
    rw [List.pairwise_iff_getElem]
    intro i j hi hj hij
    have hi':i<d'.size:=by simpa using hi
    have hj':j<d'.size:=by simpa using hj
    have h1:=hso i j (Nat.zero_le _) hij (by rw [hs,<- hsz]; exact hj')
    rw [getElem!_pos d' i hi',getElem!_pos d' j hj'] at h1
    unfold ltC at h1
    simp only [decide_eq_false_iff_not] at h1
    simp only [Array.getElem_toList]
    have hnd:(d'.toList.map fun x=>x.c.number).Nodup:=by
     rw [(hpm.map fun x:CaseE=>x.c.number).nodup_iff,hcn]
     exact hdn
    rcases Nat.lt_or_ge d'[i].c.number.toNat d'[j].c.number.toNat with h2 | h2
    ·exact h2
    ·have he:d'[i].c.number=d'[j].c.number:=BitVec.eq_of_toNat_eq (by omega)
     have:=(List.getElem_inj (xs:=d'.toList.map fun x=>x.c.number) (i:=i) (j:=j) (h₀:=by simpa using hi) (h₁:=by simpa using hj) hnd).1 (by simpa using he)
     omega
theorem irof_l1 (hE:Fold E) {H1:AH} {t2 t3 r:Nat} {c2 c3:List Value} {pes:List RuleE} (hpl:pes.length<=80) {v:Value} (hv:Rows H 3 v (pes.map RuleE.cells)) (g1:Has H zH H1 (ofBase t2 t3 r c2 c3 []))
  (next:∀ al H',Has H zH H' (ofBase t2 t3 r c2 c3 al)->Grp pes al->mk (rangeM (.map (some r)) H') H' fun v14 H6=>LoopL (fun l H X0=>F.f4_l2 E Q (nth l 0) (nth l 1) (nth l 2) H X0) [ptr t2 0,ptr t3 0,v14] H6) :
  LoopL (fun l H X0=>F.f4_l1 E Q (nth l 0) (nth l 1) (nth l 2) (nth l 3) (nth l 4) (nth l 5) H X0) [ptr t2 0,ptr t3 0,.map (some r),v,vi (pes.length:Int),(.int .i64 0)] H1:=by
 have i0:(.int .i64 0:Value)=vi ((0:Nat):Int):=rfl
 rw [i0]
 refine LoopL.count pes.length (fun j ls H'=>∃ al,ls=[ptr t2 0,ptr t3 0,.map (some r),v,vi (pes.length:Int),vi j]/\Has H zH H' (ofBase t2 t3 r c2 c3 al)/\Grp (pes.take j) al) ?_ ⟨[],rfl,g1,⟨by simp,by simp,by simp⟩⟩
 rintro j _ H2 X hj hX ⟨al,rfl,g,gr⟩
 by_cases hjl:j<pes.length
 rotate_left
 ·have hjl':¬ (j:Int)<pes.length:=by omega
  rw [List.take_of_length_le (by omega)] at gr
  simp only [F.f4_l1,i64_lss,hjl',decide_false,stdZ]
  exact next al H2 g gr
 have hX:=hX hjl
 have hjl':(j:Int)<pes.length:=by omega
 have hjj:=i64_inc (i:=j) (by omega)
 obtain ⟨b,o,f1,f2⟩:=(hv.mono g.ext).ix (i:=j) (by rw [List.length_map]; exact hjl)
 have htk:pes.take (j+1)=pes.take j++[pes[j]]:=List.take_succ_eq_append_getElem hjl
 rw [List.getElem_map] at f2
 rw [htk] at hX
 have htl:(pes.take j).length<1000:=by rw [List.length_take]; omega
 generalize pes[j]=x at *
 have lo1:loadN 3 (ptr b o) H2=some (.agg x.cells.toArray):=by rw [loadN_ptr,f2]; rfl
 have b4:=AH.get_new_self H2 (.cells x.cells none)
 have c0:x.cells[0]? = some (u32 x.r.number):=rfl
 have lo4:loadN 3 (ptr H2.next 0) (H2.new (.cells x.cells none))=some (.agg x.cells.toArray):=by rw [loadN_ptr,b4]; rfl
 have hbS:buildS 1 3 #[(.int .u32 0),(.int .u32 0),(.slice none 0 0)] [(0,.agg x.cells.toArray)]=some (.cells x.cells none,mkSlc 1 1):=buildS_one 3 [u32 0#32,u32 0#32,nilS] _ rfl rfl
 have:=of_step (R:=fun H5=>opt (binInt .add (vi j) (.int .i64 1)) fun v13=>X [ptr t2 0,ptr t3 0,.map (some r),v,vi (pes.length:Int),v13] H5) g gr htl x (fun al' H' g' gr'=>by
  simp only [hjj,stdZ]
  exact hX _ _ ⟨al',rfl,g',gr'⟩) rfl
 simp only [F.f4_l1,i64_lss,hjl',decide_true,f1,lo1,allocW_eq,three_new,b4,c0,lo4,hbS,AM.mk_some,mkSlc_eq,stdZ]
 cases hlk:look 0 (.slice none 0 0) false (.map (some r)) (u32 x.r.number) (H2.new (.cells x.cells none)) with
 | none=>rw [hlk] at this; exact this.elim
 | some w =>
  rw [hlk] at this
  simp only [lo4,hbS,AM.mk_some,mkSlc_eq,stdZ] at this ⊢
  exact this
theorem S.f4 (hE:Fold E) {sm:Nat} (hsm:sm<=80) (hSC:SortsC E sm) (hSR:SortsR E sm) (p:PolD) (cs:List Value) (hp:PolAt H p cs) (hpl:p.rules.length<=sm) (hc:∀ r∈p.rules,r.conds.length<2 ^ 20)
  (hQ:∀ ns cs' H',Ext H H'->Nums p ns->PlanAt H' (planOf p ns) cs'->Q (.agg cs'.toArray) H'):E.call (E.fid i.f4) [.agg cs.toArray] H Q:=by
 apply hE.f4
 obtain ⟨_,a,v,b,c,d,rfl,hv⟩:=hp
 obtain ⟨es,he1,he2,he3⟩:=sliceOf_rules hv
 have hel:es.length=p.rules.length:=by rw [<- he1,List.length_map]
 have g1:=(Has.begin (H0:=H) (Z:=zH) (Ext.refl H) ⟨Nat.zero_le _,fun b hb=>(hb (zH_get b)).elim⟩).newbox [a,u32 p.default,v,b,c,d]
 have hb1:=AH.get_new_self H (.cells [a,u32 p.default,v,b,c,d] none)
 simp only [F.f4,boxO_agg_z,AM.mk_some,mkPtr_eq_z,List.toList_toArray,stdZ]
 generalize H.new (.cells [a,u32 p.default,v,b,c,d] none)=H1 at *
 generalize H.next=bp at *
 have g2:=g1.newbox [nilS,u32 0#32]
 have x2:Ext H1 (H1.new (.cells [nilS,u32 0#32] none)):=(Ext.refl _).new _
 have hb2:=x2.cells hb1
 have hz:([(.slice none 0 0),(.int .u32 0)]:List Value)=[nilS,u32 0#32]:=rfl
 simp only [allocW_eq,hz,stdZ]
 generalize H1.new (.cells [nilS,u32 0#32] none)=H2 at *
 generalize H1.next=t2 at *
 have hbv:buildV [(0,1),(1,1)] [nilS,u32 0#32].toArray [(1,u32 p.default)]=some (.agg [nilS,u32 p.default].toArray):=rfl
 simp only [hb2,hz,hbv,stdZ]
 have g3:=g2.newbox [nilS,u32 p.default]
 have st3:storeN 2 (ptr H2.next 0) (.agg [nilS,u32 p.default].toArray) (H2.new (.cells [nilS,u32 0#32] none))=some (H2.new (.cells [nilS,u32 p.default] none)):=two_store rfl rfl rfl
 have x3:Ext H2 (H2.new (.cells [nilS,u32 p.default] none)):=(Ext.refl _).new _
 have hb3:=x3.cells hb2
 simp only [allocW_eq,hz,st3,stdZ]
 generalize H2.new (.cells [nilS,u32 p.default] none)=H3 at *
 generalize H2.next=t3 at *
 have g4:=g3.newmap u32 pv
 have x4:Ext H3 (H3.new (.map [] 0 true)):=(Ext.refl _).new _
 have hb4:=x4.cells hb3
 have hlv:=he2.lenSlc
 rw [List.length_map] at hlv
 have hmw:∀ K:Value->AH->Prop,mapW H3 K=K (.map (some H3.next)) (H3.new (.map [] 0 true)):=fun _=>rfl
 simp only [hmw,stdZ]
 generalize H3.new (.map [] 0 true)=H4 at *
 generalize H3.next=r at *
 simp only [hb4,hlv,stdZ]
 have g5:Has H zH H4 (ofBase t2 t3 r [nilS,u32 0#32] [nilS,u32 p.default] []):=g4.drop 0
 refine irof_l1 hE (by omega) he2 g5 fun al H5 g6 gr =>?_
 have hm:=g6.mapAt (k:=2) (fk:=u32) (fv:=pv) (r:=r) (l:=al.map EntE.kv) rfl
 obtain ⟨o,o1,o2⟩:=IterAt.start hm
 simp only [o1,AM.mk_some,mkPtr_eq_z,stdZ]
 have g7:=g6.step (k:=2) (r':=itR H5.next r (al.map EntE.kv) []) (H':=H5.new o) rfl ⟨((Ext.refl H5).new o).only,o2,fun b hb=>by
  simp only [itR,List.mem_cons,List.not_mem_nil,or_false] at hb
  rcases hb with rfl | rfl
  ·exact ⟨.inl (by simp [mapR]),o2.map.lt⟩
  ·exact ⟨.inr (Nat.le_refl _),o2.lt⟩,by
  have:=hm.lt
  simp only [itR,List.nodup_cons,List.mem_cons,List.not_mem_nil,or_false,not_false_eq_true,List.nodup_nil,and_true]
  omega⟩
 have g8:=g7.nils 2
 have g9:Has H zH (H5.new o) (ofL t2 t3 r H5.next p.default (al.map EntE.kv) [] nilS [] al):=by
  refine g8.perm ?_
  show List.Perm (([boxR t2 [nilS,u32 0#32],boxR t3 [nilS,u32 p.default],itR H5.next r (al.map EntE.kv) []]++al.map entER)++[growR 2 nilS []]) ([boxR t2 [nilS,u32 0#32],boxR t3 [nilS,u32 p.default],itR H5.next r (al.map EntE.kv) [],growR 2 nilS []]++al.map entER)
  rw [List.append_assoc]
  exact List.Perm.append_left [boxR t2 [nilS,u32 0#32],boxR t3 [nilS,u32 p.default],itR H5.next r (al.map EntE.kv) []] (List.perm_append_singleton _ _)
 obtain ⟨pd,pr⟩:=p
 simp only at he1
 subst he1
 refine irof_l2 hE hsm hSC hSR gr (by omega) (fun x hx=>⟨he3 x hx,hc _ (List.mem_map.2 ⟨x,hx,rfl⟩)⟩) g9 hQ
end
end Go.AM
end
section
namespace Go.AM
set_option maxRecDepth 20000
section
variable {E:Sy} {H H' H0 Z:AH} {Q:Value->AH->Prop} {L:List Res}
theorem decide_1 (hE:Fold E) (x:CaseD) (c:List Value) (hx:CaseAt 0 H x c) (n:BitVec 32) (hQ:∀ H',Ext H H'->Q (vi (cmp32 x.number n)) H'):E.call (E.fid i.f8) [.agg c.toArray,u32 n] H Q:=by
 apply hE.f8
 obtain ⟨v,rfl,_⟩:=hx
 have x1:Ext H (H.new (.cells [u32 x.number,v] none)):=(Ext.refl _).new _
 have hb1:=AH.get_new_self H (.cells [u32 x.number,v] none)
 simp only [F.f8,boxO_agg_z,AM.mk_some,mkPtr_eq_z,List.toList_toArray,hb1,stdZ]
 exact S.f1 hE _ _ (hQ _ x1)
theorem case_elem {v:Value} {l:List CaseD} (h:SliceOf (CaseAt 0) H 2 v l) {j:Nat} (hj:j<l.length):∃ b o c,ixSlc 2 v (vi j)=some (ptr b o)/\(H.get b).row o 2=some c/\loadN 2 (ptr b o) H=some (.agg c.toArray)/\CaseAt 0 H l[j] c:=by
 obtain ⟨b,o,c,h1,h2,h3⟩:=h.ix hj
 exact ⟨b,o,c,h1,h2,by rw [loadN_ptr,h2]; rfl,h3⟩
theorem S.f35 (hE:Fold E) {v:Value} {l:List CaseD} (hs:SliceOf (CaseAt 0) H 2 v l) (hr:l.Pairwise fun a b=>a.number.toNat<b.number.toNat) (hl:l.length<2 ^ 60) (n:BitVec 32)
  (hQ:∀ (a:Nat) H',Ext H H'->a<=l.length->(∀ b (h:b<l.length),b<a->(l[b]).number.toNat<n.toNat)->(∀ b (h:b<l.length),a<=b->n.toNat<=(l[b]).number.toNat)->Q (.tuple #[vi a,vb (decide (l[a]?.map CaseD.number=some n))]) H') :
  E.call (E.fid i.f35) [v,u32 n,.func (.func (E.fid i.f8)) #[] #[]] H Q:=by
 apply hE.f35
 have hlv:=SliceOf.lenSlc hs
 have i0:(.int .i64 0:Value)=vi ((0:Nat):Int):=rfl
 simp only [F.f35,hlv,i0,stdZ]
 refine LoopL.ind (fun m ls H'=>∃ (a b:Nat),m=b - a/\a<=b/\b<=l.length/\ls=[v,u32 n,.func (.func (E.fid i.f8)) #[] #[],vi l.length,vi a,vi b]/\Ext H H'/\(∀ c (h:c<l.length),c<a->(l[c]).number.toNat<n.toNat)/\(∀ c (h:c<l.length),b<=c->n.toNat<=(l[c]).number.toNat)) ?_ l.length
  ⟨0,l.length,rfl,Nat.zero_le _,Nat.le_refl _,rfl,Ext.refl _,fun c _ h=>by omega,fun c h1 h2=>by omega⟩
 rintro m _ H1 X ih ⟨a,b,rfl,hab,hbl,rfl,e1,hlo,hhi⟩
 have hs1:SliceOf (CaseAt 0) H1 2 v l:=hs.sub (fun _ _ _ _ h e=>CaseAt.sub h e) e1.sub
 rcases Nat.lt_or_ge a b with hlt | hge
 ·have hlt':(a:Int)<b:=by omega
  have hadd:binInt .add (vi a) (vi b)=some (vi ((a+b:Nat):Int)):=by
   rw [i64_add (by omega) (by omega)]; congr 2
  obtain ⟨y,y1,y2,y3⟩:=half a b (by omega)
  have hm:(a+b) / 2<l.length:=by omega
  obtain ⟨bb,o,c,q1,_,q2,q3⟩:=case_elem hs1 hm
  have hma:a<=(a+b) / 2/\(a+b) / 2<b:=by omega
  have hmono:∀ p q (hp:p<l.length) (hq:q<l.length),p<=q->(l[p]).number.toNat<=(l[q]).number.toNat:=fun p q hp hq hpq=>by
   rcases Nat.lt_or_ge p q with h | h
   ·exact Nat.le_of_lt (List.pairwise_iff_getElem.1 hr p q hp hq h)
   ·have:p=q:=by omega
    subst this; exact Nat.le_refl _
  have hhj:=i64_inc (i:=(a+b) / 2) (by omega)
  have hlow:∀ c (h:c<l.length),c<=(a+b) / 2->(l[c]).number.toNat<=(l[(a+b) / 2]).number.toNat:=fun c h hc=>hmono _ _ h hm hc
  have hupp:∀ c (h:c<l.length),(a+b) / 2<=c->(l[(a+b) / 2]).number.toNat<=(l[c]).number.toNat:=fun c h hc=>hmono _ _ hm h hc
  generalize l[(a+b) / 2]=x at *
  generalize (a+b) / 2=p at *
  simp only [F.f35_l1,i64_lss,hlt',decide_true,hadd,y1,y2,y3,q1,q2,callV_func,List.nil_append,List.append_nil,stdZ]
  refine decide_1 hE x c q3 n fun H2 e2 =>?_
  unfold cmp32
  by_cases h1:x.number.toNat<n.toNat
  ·have hneg:((-1:Int)<0):=by decide
   rw [if_pos h1]
   simp only [i64_lss,hneg,decide_true,hhj,stdZ]
   exact ih _ (by omega) _ _ ⟨p+1,b,rfl,by omega,hbl,rfl,e1.trans e2,fun c h hc=>Nat.lt_of_le_of_lt (hlow c h (by omega)) h1,hhi⟩
  ·have hz:¬ ((if n.toNat<x.number.toNat then (1:Int) else 0)<0):=by split <;> decide
   rw [if_neg h1]
   simp only [i64_lss,hz,decide_false,stdZ]
   exact ih _ (by omega) _ _ ⟨a,p,rfl,by omega,by omega,rfl,e1.trans e2,hlo,fun c h hc=>Nat.le_trans (by omega) (hupp c h hc)⟩
 ·have hae:a=b:=by omega
  subst hae
  have hlt':¬ (a:Int)<a:=by omega
  rcases Nat.lt_or_ge a l.length with hl1 | hl1
  ·have hl1':(a:Int)<l.length:=by omega
   obtain ⟨bb,o,c,q1,_,q2,q3⟩:=case_elem hs1 hl1
   have hle:=hhi a hl1 (Nat.le_refl _)
   have hget:l[a]?.map CaseD.number=some l[a].number:=by rw [List.getElem?_eq_getElem hl1]; rfl
   simp only [F.f35_l1,i64_lss,hlt',decide_false,hl1',decide_true,q1,q2,callV_func,List.nil_append,List.append_nil,stdZ]
   refine decide_1 hE _ c q3 n fun H2 e2 =>?_
   have hq:=hQ a H2 (e1.trans e2) hbl hlo hhi
   rw [hget] at hq
   unfold cmp32
   by_cases h1:l[a].number=n
   ·rw [if_neg (by rw [h1]; omega),if_neg (by rw [h1]; omega)]
    simp only [h1,decide_true] at hq
    simp only [i64_eql,decide_true,stdZ]
    exact hq
   ·have h2:n.toNat<l[a].number.toNat:=by
     rcases Nat.lt_or_ge n.toNat l[a].number.toNat with h | h
     ·exact h
     ·exact (h1 (BitVec.eq_of_toNat_eq (by omega))).elim
    rw [if_neg (by omega),if_pos h2]
    have hd:decide (some l[a].number=some n)=false:=by simpa using h1
    rw [hd] at hq
    simp only [i64_eql,show ((1:Int)=0)=False by simp,decide_false,stdZ]
    exact hq
  ·have hl1':¬ (a:Int)<l.length:=by omega
   have hq:=hQ a H1 e1 hbl hlo hhi
   rw [List.getElem?_eq_none hl1] at hq
   simp only [F.f35_l1,i64_lss,hlt',decide_false,hl1',stdZ]
   exact hq
theorem S.f7 (hE:Fold E) (p:PlanD) (cs:List Value) (hp:PlanAt H p cs) (hr:p.cases.Pairwise fun a b=>a.number.toNat<b.number.toNat) (hl:p.cases.length<2 ^ 60) (hb:∀ c∈p.cases,c.branches.length<2 ^ 30) (r:RecD) (hro:r.ok)
  (hQ:∀ H',Ext H H'->Q (u32 (decideF p r)) H'):E.call (E.fid i.f7) [.agg cs.toArray,r.v] H Q:=by
 apply hE.f7
 obtain ⟨v,rfl,hv⟩:=hp
 have x2:Ext H ((H.new (.cells [v,u32 p.default] none)).new (.cells r.cells none)):=((Ext.refl _).new _).new _
 have b1:((H.new (.cells [v,u32 p.default] none)).new (.cells r.cells none)).get H.next = .cells [v,u32 p.default] none:=by rw [AH.get_new_ne _ _ (by rw [AH.next_new]; omega),AH.get_new_self]
 have b2:((H.new (.cells [v,u32 p.default] none)).new (.cells r.cells none)).get (H.next+1) = .cells r.cells none:=AH.get_new_self (H.new _) _
 have c1:r.cells[1]? = some (u32 r.arch):=rfl
 have c0:r.cells[0]? = some (u32 r.number):=rfl
 have kA:(.int .u32 3221225534:Value)=u32 3221225534#32:=rfl
 simp only [F.f7,boxO_agg_z,AM.mk_some,mkPtr_eq_z,List.toList_toArray,AH.next_new_z,b1,b2,c1,kA,u32_neq,stdZ]
 generalize (H.new (.cells [v,u32 p.default] none)).new (.cells r.cells none)=H2 at *
 unfold decideF at hQ
 by_cases ha:r.arch=3221225534#32
 rotate_left
 ·rw [if_neg ha] at hQ
  have hd:decide (r.arch≠3221225534#32)=true:=by simpa using ha
  simp only [hd,stdZ]
  exact hQ _ x2
 rw [if_pos ha] at hQ
 have hd:decide (r.arch≠3221225534#32)=false:=by simpa using ha
 simp only [hd,b1,b2,c0,stdZ]
 have hv2:=hv.sub (fun _ _ _ _ h e=>CaseAt.sub h e) x2.sub
 refine S.f35 hE hv2 hr hl r.number fun a H3 e3 ha1 ha2 ha3 =>?_
 have b13:=e3.cells b1
 have b23:=e3.cells b2
 have x3:=x2.trans e3
 by_cases hf:p.cases[a]?.map CaseD.number=some r.number
 rotate_left
 ·have hnone:p.cases.find? (fun c=>decide (c.number=r.number))=none:=by
   rw [List.find?_eq_none]
   intro c hc
   obtain ⟨j,hj,rfl⟩:=List.getElem_of_mem hc
   simp only [decide_eq_true_eq]
   intro he
   rcases Nat.lt_trichotomy j a with h | h | h
   ·have:=ha2 j hj h; rw [he] at this; omega
   ·subst h; exact hf (by rw [List.getElem?_eq_getElem hj,Option.map_some,he])
   ·have hal:a<p.cases.length:=by omega
    have h1:=List.pairwise_iff_getElem.1 hr a j hal hj h
    have h2:=ha3 a hal (Nat.le_refl _)
    rw [he] at h1
    omega
  rw [hnone] at hQ
  have hd:decide (p.cases[a]?.map CaseD.number=some r.number)=false:=by simpa using hf
  simp only [hd,b13,stdZ]
  exact hQ _ x3
 have hal:a<p.cases.length:=by
  rcases Nat.lt_or_ge a p.cases.length with h | h
  ·exact h
  ·rw [List.getElem?_eq_none h] at hf; simp at hf
 rw [List.getElem?_eq_getElem hal,Option.map_some,Option.some.injEq] at hf
 have hd:decide (p.cases[a]?.map CaseD.number=some r.number)=true:=by rw [List.getElem?_eq_getElem hal]; simp [hf]
 have hsome:p.cases.find? (fun c=>decide (c.number=r.number))=some p.cases[a]:=by
  rw [List.find?_eq_some_iff_getElem]
  refine ⟨by simpa using hf,a,hal,rfl,fun j hj =>?_⟩
  have h1:=ha2 j (by omega) hj
  simp only [Bool.not_eq_true',decide_eq_false_iff_not]
  intro he
  rw [he] at h1
  omega
 rw [hsome] at hQ
 simp only at hQ
 have hv3:=hv.sub (fun _ _ _ _ h e=>CaseAt.sub h e) x3.sub
 obtain ⟨b,o,c,q1,q2,_,q3⟩:=case_elem hv3 hal
 have hbl:=hb _ (List.getElem_mem hal)
 generalize p.cases[a]=k at *
 obtain ⟨bv,rfl,hbv⟩:=q3
 have q4:(H3.get b).cell (o+1)=some bv:=by have:=row_at q2 (j:=1) (by omega); simpa using this
 have hlb:=hbv.lenSlc
 have i0:(.int .i64 0:Value)=vi ((0:Nat):Int):=rfl
 simp only [hd,b13,q1,q4,hlb,i0,stdZ]
 unfold decideB at hQ
 refine LoopL.count k.branches.length (fun j ls H'=>ls=[ptr H.next 0,ptr (H.next+1) 0,bv,vi (k.branches.length:Int),vi j]/\Ext H3 H'/\∀ i (hi:i<k.branches.length),i<j->holdAll k.branches[i].conds r=false) ?_ ⟨rfl,Ext.refl _,fun i _ h=>by omega⟩
 rintro j _ H4 X hj hX ⟨rfl,e4,hno⟩
 have b14:=e4.cells b13
 have b24:=e4.cells b23
 by_cases hjl:j<k.branches.length
 rotate_left
 ·have hjl':¬ (j:Int)<k.branches.length:=by omega
  have hnone:k.branches.find? (fun b=>holdAll b.conds r)=none:=by
   rw [List.find?_eq_none]
   intro x hx
   obtain ⟨i,hi,rfl⟩:=List.getElem_of_mem hx
   rw [hno i hi (by omega)]
   simp
  rw [hnone] at hQ
  simp only [F.f7_l1,i64_lss,hjl',decide_false,b14,stdZ]
  exact hQ _ (x3.trans e4)
 have hX:=hX hjl
 have hjl':(j:Int)<k.branches.length:=by omega
 have hjj:=i64_inc (i:=j) (by omega)
 obtain ⟨bb,oo,bc,w1,w2,w3⟩:=(hbv.sub (fun _ _ _ _ h e=>BranchAt.sub h e) e4.sub).ix hjl
 have hstep:holdAll k.branches[j].conds r=false->∀ i (hi:i<k.branches.length),i<j+1->holdAll k.branches[i].conds r=false:=by
  intro h i hi hij
  by_cases e:i=j
  ·subst e; exact h
  ·exact hno i hi (by omega)
 have hfound:holdAll k.branches[j].conds r=true->k.branches.find? (fun b=>holdAll b.conds r)=some k.branches[j]:=by
  intro h
  rw [List.find?_eq_some_iff_getElem]
  exact ⟨h,j,hjl,rfl,fun i hi=>by rw [hno i (by omega) hi]; rfl⟩
 generalize k.branches[j]=br at *
 obtain ⟨hcl,cv,rfl,hcv,_⟩:=w3
 have hpc:=hcv.plain
 have lo:loadN 2 (ptr bb oo) H4=some (.agg [cv,u32 br.action].toArray):=by rw [loadN_ptr,w2]; rfl
 have st:storeN 2 (ptr H4.next 0) (.agg [cv,u32 br.action].toArray) (H4.new (.cells [(.slice none 0 0),(.int .u32 0)] none))=some (H4.new (.cells [cv,u32 br.action] none)):=two_store rfl rfl (by simp [hpc])
 have x5:Ext H4 (H4.new (.cells [cv,u32 br.action] none)):=(Ext.refl _).new _
 have b5:=AH.get_new_self H4 (.cells [cv,u32 br.action] none)
 have hlc:=(hcv.mono x5).lenSlc
 rw [condR_length] at hlc
 have hcv5:=hcv.mono x5
 have b25:=x5.cells b24
 simp only [F.f7_l1,i64_lss,hjl',decide_true,w1,lo,allocW_eq,st,b5,hlc,i0,stdZ]
 generalize H4.new (.cells [cv,u32 br.action] none)=H5 at *
 generalize H4.next=bx at *
 refine LoopL.count br.conds.length (fun q ls H'=>ls=[ptr H.next 0,ptr (H.next+1) 0,ptr bx 0,bv,vi (k.branches.length:Int),vi j,cv,vi (br.conds.length:Int),vi q]/\Ext H5 H'/\∀ i (hi:i<br.conds.length),i<q->holds br.conds[i] r.args=true) ?_ ⟨rfl,Ext.refl _,fun i _ h=>by omega⟩
 rintro q _ H6 X1 hq hX1 ⟨rfl,e6,hyes⟩
 by_cases hql:q<br.conds.length
 rotate_left
 ·have hql':¬ (q:Int)<br.conds.length:=by omega
  have hall:holdAll br.conds r=true:=by
   unfold holdAll
   rw [List.all_eq_true]
   intro x hx
   obtain ⟨i,hi,rfl⟩:=List.getElem_of_mem hx
   exact hyes i hi (by omega)
  rw [hfound hall] at hQ
  simp only [F.f7_l2,i64_lss,hql',decide_false,e6.cells b5,stdZ]
  exact hQ _ ((x3.trans e4).trans (x5.trans e6))
 have hX1:=hX1 hql
 have hql':(q:Int)<br.conds.length:=by omega
 have hqq:=i64_inc (i:=q) (by omega)
 obtain ⟨d1,d2,m1,m2⟩:=cond_ix (hcv5.mono e6) hql
 have hy2:holds br.conds[q] r.args=true->∀ i (hi:i<br.conds.length),i<q+1->holds br.conds[i] r.args=true:=by
  intro h i hi hij
  by_cases e:i=q
  ·subst e; exact h
  ·exact hyes i hi (by omega)
 have hn2:holds br.conds[q] r.args=false->holdAll br.conds r=false:=by
  intro h
  unfold holdAll
  rw [List.all_eq_false]
  exact ⟨_,List.getElem_mem hql,by rw [h]; simp⟩
 generalize br.conds[q]=c at *
 have x7:Ext H6 (H6.new (.cells c.cells none)):=(Ext.refl _).new _
 have b7:=AH.get_new_self H6 (.cells c.cells none)
 have b27:=(e6.trans x7).cells b25
 have e9:=row_all r.cells none 9 (RecD.cells_len hro)
 have lor:loadN 9 (ptr (H.next+1) 0) (H6.new (.cells c.cells none))=some r.v:=by rw [loadN_ptr,b27,e9]; rfl
 simp only [F.f7_l2,i64_lss,hql',decide_true,m1,m2 _ (Ext.refl _),allocW_eq,cond_new,cond_load b7,lor,stdZ]
 refine S.f17 hE c r hro fun H8 e8 =>?_
 have x8:=x7.trans e8
 cases hh:holds c r.args with
 | true =>
  simp only [hqq,stdZ]
  exact hX1 _ _ ⟨rfl,e6.trans x8,hy2 hh⟩
 | false =>
  simp only [hjj,stdZ]
  exact hX _ _ ⟨rfl,e4.trans (x5.trans (e6.trans x8)),hstep (hn2 hh)⟩
end
end Go.AM
end
section
namespace Go.AM
set_option maxRecDepth 20000
section
variable {E:Sy} {H H' H0 Z:AH} {Q:Value->AH->Prop}
theorem branchesF_le:∀ l:List RuleD,(branchesF l).length<=l.length
 | []=>Nat.le_refl _
 | r :: l=>by
  have:=branchesF_le l
  rw [branchesF]
  split
  ·simp; omega
  ·split
   ·simp
   ·simp; omega
theorem sortS_le (l:List RuleD):(sortS l).length<=4*l.length:=by
 have h:∀ k,(byRank l k).length<=l.length:=fun k=>List.length_filter_le _ _
 have h0:=h 0
 have h1:=h 1
 have h2:=h 2
 have h3:=h 3
 simp only [sortS,List.length_append]
 omega
theorem Nums.nodup {p:PolD} {ns:List (BitVec 32)} (h:Nums p ns):ns.Nodup:=h.up.imp fun {a b} hab e=>by subst e; omega
theorem Nums.len {p:PolD} {ns:List (BitVec 32)} (h:Nums p ns):ns.length<=p.rules.length:=by
 have:=nodup_le ns (p.rules.map RuleD.number) h.nodup fun n hn=>by
  obtain ⟨r,hr,rfl⟩:=(h.mem n).1 hn
  exact List.mem_map.2 ⟨r,hr,rfl⟩
 simpa using this
theorem plan_up {p:PolD} {ns:List (BitVec 32)} (h:Nums p ns):(planOf p ns).cases.Pairwise fun a b=>a.number.toNat<b.number.toNat:=by
 unfold planOf
 simp only
 rw [List.pairwise_map]
 exact h.up
theorem plan_branches {p:PolD} {ns:List (BitVec 32)}:∀ c∈(planOf p ns).cases,c.branches.length<=4*p.rules.length:=by
 intro c hc
 unfold planOf at hc
 obtain ⟨n,_,rfl⟩:=List.mem_map.1 hc
 have h1:=branchesF_le (sortS (ofNum p.rules n))
 have h2:=sortS_le (ofNum p.rules n)
 have h3:(ofNum p.rules n).length<=p.rules.length:=List.length_filter_le _ _
 show (branchesF (sortS (ofNum p.rules n))).length<=_
 omega
theorem plan_decide (hE:Fold E) {p:PolD} {ns:List (BitVec 32)} (h:Nums p ns) (hl:p.rules.length<=1000) {cs:List Value} (hp:PlanAt H (planOf p ns) cs) (r:RecD) (hro:r.ok)
  (hQ:∀ H',Ext H H'->Q (u32 (says p r)) H'):E.call (E.fid i.f7) [.agg cs.toArray,r.v] H Q:=by
 refine S.f7 hE _ cs hp (plan_up h) ?_ (fun c hc =>?_) r hro fun H' e =>?_
 ·have:=h.len
  show (ns.map (caseOf p)).length<_
  rw [List.length_map]; omega
 ·have:=plan_branches c hc; omega
 ·rw [decide_says p ns h r]
  exact hQ H' e
def awake12:PolD:=⟨0#32,[⟨2#32,2147418112#32,[]⟩,⟨2#32,2147483648#32,[⟨0,1#8,0#64,1#64⟩]⟩]⟩
theorem S.f28 (hE:Fold E) {sm:Nat} (h2:2<=sm) (hsm:sm<=80) (hSC:SortsC E sm) (hSR:SortsR E sm) (hQ:∀ H',Ext H H'->Q (vb true) H'):E.call (E.fid i.f28) [] H Q:=by
 apply hE.f28
 have hbv1:buildV [(0,1),(1,1),(2,1),(3,1)] #[(.int .i64 0),(.int .u8 0),(.int .u64 0),(.int .u64 0)] [(0,(.int .i64 0)),(1,(.int .u8 1)),(3,(.int .u64 1))]=some (CondD.v ⟨0,1#8,0#64,1#64⟩):=rfl
 have hbv2:buildV [(0,1),(1,1),(2,1)] #[(.int .u32 0),(.int .u32 0),(.slice none 0 0)] [(0,(.int .u32 2)),(1,(.int .u32 2147418112))]=some (.agg [u32 2#32,u32 2147418112#32,nilS].toArray):=rfl
 have x1:Ext H (H.new (.cells (CondD.cells ⟨0,1#8,0#64,1#64⟩) none)):=(Ext.refl _).new _
 have b1:=AH.get_new_self H (.cells (CondD.cells ⟨0,1#8,0#64,1#64⟩) none)
 have hbS:=buildS_one 4 [vi 0,u8 0#8,u64 0#64,u64 0#64] (CondD.cells ⟨0,1#8,0#64,1#64⟩) rfl rfl
 have hbS:buildS 1 4 #[(.int .i64 0),(.int .u8 0),(.int .u64 0),(.int .u64 0)] [(0,CondD.v ⟨0,1#8,0#64,1#64⟩)]=some (.cells (CondD.cells ⟨0,1#8,0#64,1#64⟩) none,mkSlc 1 1):=hbS
 simp only [F.f28,hbv1,allocW_eq,cond_new,cond_load b1,hbv2,hbS,AM.mk_some,mkSlc_eq,stdZ]
 have n1:H.next+1=(H.new (.cells (CondD.cells ⟨0,1#8,0#64,1#64⟩) none)).next:=rfl
 rw [n1]
 generalize H.new (.cells (CondD.cells ⟨0,1#8,0#64,1#64⟩) none)=H1 at *
 have x2:Ext H1 (H1.new (.cells (CondD.cells ⟨0,1#8,0#64,1#64⟩) none)):=(Ext.refl _).new _
 have b2:=AH.get_new_self H1 (.cells (CondD.cells ⟨0,1#8,0#64,1#64⟩) none)
 have hbv3:buildV [(0,1),(1,1),(2,1)] #[(.int .u32 0),(.int .u32 0),(.slice none 0 0)] [(0,(.int .u32 2)),(1,(.int .u32 2147483648)),(2,slc H1.next 0 1 1)]=some (.agg [u32 2#32,u32 2147483648#32,slc H1.next 0 1 1].toArray):=rfl
 have hbS2:=buildS_full 2 3 [u32 0#32,u32 0#32,nilS] [(0,.agg [u32 2#32,u32 2147418112#32,nilS].toArray),(1,.agg [u32 2#32,u32 2147483648#32,slc H1.next 0 1 1].toArray)] [.agg [u32 2#32,u32 2147418112#32,nilS].toArray,.agg [u32 2#32,u32 2147483648#32,slc H1.next 0 1 1].toArray] rfl rfl rfl rfl (by simp)
 have hbS2:buildS 2 3 #[(.int .u32 0),(.int .u32 0),(.slice none 0 0)] [(0,.agg [u32 2#32,u32 2147418112#32,nilS].toArray),(1,.agg [u32 2#32,u32 2147483648#32,slc H1.next 0 1 1].toArray)]=some (.cells [u32 2#32,u32 2147418112#32,nilS,u32 2#32,u32 2147483648#32,slc H1.next 0 1 1] none,mkSlc 2 2):=hbS2
 simp only [hbv3,hbS2,AM.mk_some,mkSlc_eq,stdZ]
 have n2:H1.next+1=(H1.new (.cells (CondD.cells ⟨0,1#8,0#64,1#64⟩) none)).next:=rfl
 rw [n2]
 generalize H1.new (.cells (CondD.cells ⟨0,1#8,0#64,1#64⟩) none)=H2 at *
 have x3:Ext H2 (H2.new (.cells [u32 2#32,u32 2147418112#32,nilS,u32 2#32,u32 2147483648#32,slc H1.next 0 1 1] none)):=(Ext.refl _).new _
 have b3:=AH.get_new_self H2 (.cells [u32 2#32,u32 2147418112#32,nilS,u32 2#32,u32 2147483648#32,slc H1.next 0 1 1] none)
 have hbv4:buildV [(0,1),(1,1),(2,1),(3,1),(4,1),(5,1)] #[(.string ⟨#[]⟩),(.int .u32 0),(.slice none 0 0),(.int .u16 0),(.slice none 0 0),(.slice none 0 0)] [(2,slc H2.next 0 2 2)]=some (.agg [str [],u32 0#32,slc H2.next 0 2 2,u16 0#16,nilS,nilS].toArray):=rfl
 simp only [hbv4,stdZ]
 have b23:=x3.cells b2
 generalize H2.new (.cells [u32 2#32,u32 2147418112#32,nilS,u32 2#32,u32 2147483648#32,slc H1.next 0 1 1] none)=H3 at *
 have hcr:Rows H3 4 (slc H1.next 0 1 1) (condR [⟨0,1#8,0#64,1#64⟩]):=Rows.made (f:=none) (by rw [b23]; rfl) (.inl rfl) rfl (by simp [condR,CondD.cells])
 have hrr:Rows H3 3 (slc H2.next 0 2 2) [[u32 2#32,u32 2147418112#32,nilS],[u32 2#32,u32 2147483648#32,slc H1.next 0 1 1]]:=Rows.made (f:=none) (by rw [b3]; rfl) (.inl rfl) rfl (by simp)
 have hpa:PolAt H3 awake12 [str [],u32 0#32,slc H2.next 0 2 2,u16 0#16,nilS,nilS]:=by
  refine ⟨by decide,_,_,_,_,_,rfl,_,hrr,rfl,fun i h1 h2 =>?_⟩
  match i,h1 with
  | 0,_=>exact ⟨(by decide:(0:Nat)<2 ^ 63),nilS,rfl,Rows.nil _ 4 none⟩
  | 1,_=>exact ⟨(by decide:(1:Nat)<2 ^ 63),_,rfl,hcr⟩
 refine S.f4 hE hsm hSC hSR awake12 _ hpa (by show 2<=sm; exact h2) (fun r hr =>?_) fun ns cs H4 e4 hns hpl =>?_
 ·simp only [awake12,List.mem_cons,List.not_mem_nil,or_false] at hr
  rcases hr with rfl | rfl <;> decide
 have hn1:ns=[2#32]:=by
  have hm:∀ n,n∈ns↔n=2#32:=by
   intro n
   rw [hns.mem]
   simp only [awake12,List.mem_cons,List.not_mem_nil,or_false]
   constructor
   ·rintro ⟨r,hr,rfl⟩
    rcases hr with rfl | rfl <;> rfl
   ·rintro rfl
    exact ⟨_,.inl rfl,rfl⟩
  have hl:=hns.nodup
  match ns,hm,hl with
  | [],hm,_=>exact ((List.not_mem_nil) ((hm 2#32).2 rfl)).elim
  | [a],hm,_=>rw [(hm a).1 (by simp)]
  | a :: b :: t,hm,hl =>
   have h1:=(hm a).1 (by simp)
   have h2:=(hm b).1 (by simp)
   rw [List.nodup_cons] at hl
   exact (hl.1 (by rw [h1,h2]; simp)).elim
 subst hn1
 obtain ⟨v,rfl,hv⟩:=hpl
 have hpv:plain1 v=true:=by obtain ⟨rows,h1,_⟩:=hv; exact h1.plain
 have hst:storeN 2 (ptr H4.next 0) (.agg [v,u32 awake12.default].toArray) (H4.new (.cells [(.slice none 0 0),(.int .u32 0)] none))=some (H4.new (.cells [v,u32 awake12.default] none)):=two_store rfl rfl (by simp [hpv])
 have hdf:(planOf awake12 [2#32]).default=awake12.default:=rfl
 have x5:Ext H4 (H4.new (.cells [v,u32 awake12.default] none)):=(Ext.refl _).new _
 have b5:=AH.get_new_self H4 (.cells [v,u32 awake12.default] none)
 have hlv:=hv.lenSlc
 have hcl:(planOf awake12 [2#32]).cases.length=1:=rfl
 rw [hcl] at hlv
 have hv5:=hv.sub (fun _ _ _ _ h e=>CaseAt.sub h e) x5.sub
 obtain ⟨b,o,c,q1,q2,q3⟩:=hv5.ix (i:=0) (by rw [hcl]; omega)
 obtain ⟨bv,rfl,hbv⟩:=q3
 have q4:((H4.new (.cells [v,u32 awake12.default] none)).get b).cell (o+1)=some bv:=by have:=row_at q2 (j:=1) (by omega); simpa using this
 have hlb:=hbv.lenSlc
 have hbl:((planOf awake12 [2#32]).cases[0]'(by decide +kernel)).branches.length=2:=by decide +kernel
 rw [hbl] at hlb
 obtain ⟨b',o',c',w1,w2,w3⟩:=hbv.ix (i:=0) (by rw [hbl]; omega)
 obtain ⟨_,cv,rfl,_⟩:=w3
 have hba:(((planOf awake12 [2#32]).cases[0]'(by decide +kernel)).branches[0]'(by decide +kernel)).action=2147483648#32:=by decide +kernel
 rw [hba] at w2
 have w4:((H4.new (.cells [v,u32 awake12.default] none)).get b').cell (o'+1)=some (u32 2147483648#32):=by have:=row_at w2 (j:=1) (by omega); simpa using this
 have kA:(.int .u32 2147483648:Value)=u32 2147483648#32:=rfl
 have q1:ixSlc 2 v (.int .i64 0)=some (ptr b o):=q1
 have w1:ixSlc 2 bv (.int .i64 0)=some (ptr b' o'):=w1
 have e11:binInt .eql (vi ((1:Nat):Int)) (.int .i64 1)=some (vb true):=by rw [i64_eql]; rfl
 have e22:binInt .eql (vi ((2:Nat):Int)) (.int .i64 2)=some (vb true):=by rw [i64_eql]; rfl
 rw [hdf]
 simp only [allocW_eq,hst,b5,hlv,e11,q1,q4,hlb,e22,w1,w4,kA,u32_eql,decide_true,stdZ]
 exact hQ _ ((((x1.trans x2).trans x3).trans e4).trans x5)
end
end Go.AM
end
section
namespace Go.AM
deriving instance DecidableEq for InsnD
structure PartD where
 kind:BitVec 8
 to:Int
 els:Int
 insn:InsnD
 deriving DecidableEq
structure LwD where
 parts:List PartD
 last:Nat
 other:Nat
 acts:List (BitVec 32×Nat)
 order:List (BitVec 32)
end Go.AM
end
section
namespace Go.AM
set_option maxRecDepth 20000
theorem rec_nine {r:RecD} (h:r.ok):r.cells.length=9:=by
 unfold RecD.ok at h
 simp [RecD.cells,h]
end Go.AM
end
section
namespace Go.AM
set_option maxRecDepth 20000
def partOk (p:PartD):Prop :=
 p.kind=1#8\/p.kind=4#8\/(p.kind=2#8/\((p.insn.code=32#16/\p.insn.k.toNat % 4=0/\p.insn.k.toNat<=60)\/p.insn.code=84#16\/p.insn.code=6#16)) \/
 (p.kind=3#8/\(p.insn.code=21#16\/p.insn.code=37#16\/p.insn.code=53#16))
end Go.AM
end
section
namespace Go.AM
set_option maxRecDepth 20000
def heres (l:List PartD):List Int:=l.filterMap fun p=>if p.kind=1#8 then some p.to else none
end Go.AM
end
section
namespace Go.AM
set_option maxRecDepth 20000
def castN (R:List Nat):List Int:=R.map fun (n:Nat)=>(n:Int)
structure LI (P:List PartD) (last:Nat) (R:List Nat):Prop where
 nd:(heres P++castN R).Nodup
 le:∀ n∈R,n<=last
 hle:∀ n∈heres P,n<=(last:Int)
 fw:∀ a p b,P=a++p :: b->(p.kind=4#8->p.to∈heres b++castN R)/\(p.kind=3#8->p.to∈heres b++castN R/\p.els∈heres b++castN R)
 ok:∀ p∈P,partOk p
def actN (s:LwD):List Nat:=s.acts.map Prod.snd
end Go.AM
end
section
namespace Go.AM
set_option maxRecDepth 20000
def LA (s:LwD):Prop:=s.order=s.acts.map Prod.fst/\(s.acts.map Prod.fst).Nodup
structure LT (s:LwD) (pend:List Nat):Prop where
 li:LI s.parts s.last (pend++actN s)
 la:LA s
end Go.AM
end
section
namespace Go.AM
set_option maxRecDepth 20000
section
variable {E:Sy} {H H' H0 Z:AH} {Q:Value->AH->Prop} {X:List Res} {fb:Nat} {c:List InsnD}
theorem fresh_store {H:AH} {z c:List Value} {n:Nat} (hz:z.length=n) (hc:c.length=n) (hp:c.all plain1=true):storeN n (ptr H.next 0) (.agg c.toArray) (H.new (.cells z none))=some (H.new (.cells c none)):=by
 rw [storeN_ptr,AH.get_new_self]
 have:AM.splice z 0 c=c:=by simp [splice,hz,hc]
 simp only [List.size_toArray,List.toList_toArray,hc,hz,hp,Nat.zero_add,Nat.le_refl,and_self,if_true,this,AH.new_put]
theorem fresh_load {H:AH} {c:List Value} {n:Nat} (hc:c.length=n):loadN n (ptr H.next 0) (H.new (.cells c none))=some (.agg c.toArray):=by rw [loadN_ptr,AH.get_new_self,row_all _ _ n hc]; rfl
end
end Go.AM
end
section
namespace Go.AM
set_option maxRecDepth 20000
section
variable {E:Sy} {H H' H0 Z:AH} {Q:Value->AH->Prop}
theorem polx6d {x:PolX} {cs:List Value} (h:PolXAt H x cs):cs.length=6/\cs.all plain1=true:=by
 obtain ⟨v,pv,qv,rfl,⟨rows,h1,_⟩,h2,h3⟩:=h
 exact ⟨rfl,by simp [h1.plain,h2.plain,h3.plain]⟩
theorem decides_l2 (hE:Fold E) {q:PolX} {qc pl:List Value} {ns:List (BitVec 32)} (hns:Nums q.pol ns) (hq:PolXAt H0 q qc) (hrl:q.pol.rules.length<=80) (hpl:PlanAt H0 (planOf q.pol ns) pl) {t10 t11:Nat} (b10:H0.get t10 = .cells qc none) (b11:H0.get t11 = .cells pl none)
  {rv:Value} {l:List RecD} (hl:Rows H0 9 rv (l.map RecD.cells)) (hok:∀ r∈l,RecD.ok r) (hl50:l.length<=50) {t2 t3 t27 t28:Value} {j:Nat} (hj:j<2 ^ 30) {X0:List Value->AH->Prop}
  (next:∀ H',Ext H0 H'->X0 [t2,t3,t27,t28,vi ((j+1:Nat):Int)] H') :
  LoopL (fun l H X1=>F.f29_l2 E Q X0 (nth l 0) (nth l 1) (nth l 2) (nth l 3) (nth l 4) (nth l 5) (nth l 6) (nth l 7) (nth l 8) (nth l 9) H X1) [t2,t3,ptr t10 0,ptr t11 0,t27,t28,vi j,rv,vi l.length,(.int .i64 0)] H0:=by
 have i0:(.int .i64 0:Value)=vi ((0:Nat):Int):=rfl
 rw [i0]
 refine LoopL.count l.length (fun k ls H'=>ls=[t2,t3,ptr t10 0,ptr t11 0,t27,t28,vi j,rv,vi l.length,vi k]/\Ext H0 H') ?_ ⟨rfl,Ext.refl _⟩
 rintro k _ H1 X1 hk ih ⟨rfl,e1⟩
 rcases Nat.lt_or_ge k l.length with hlt | hge
 rotate_left
 ·have hlt':decide ((k:Int)<l.length)=false:=decide_eq_false (by omega)
  have hinc:=i64_inc (i:=j) (by omega)
  simp only [F.f29_l2,i64_lss,hlt',hinc,stdZ]
  exact next _ e1
 have hlt':decide ((k:Int)<l.length)=true:=decide_eq_true (by omega)
 obtain ⟨bb,o,f1,f2⟩:=(hl.mono e1).ix (i:=k) (by simpa using hlt)
 simp only [List.getElem_map] at f2
 have hr:=hok l[k] (List.getElem_mem hlt)
 have lo:loadN 9 (ptr bb o) H1=some l[k].v:=by rw [loadN_ptr,f2]; rfl
 have hinc:=i64_inc (i:=k) (by omega)
 generalize l[k]=r at *
 have hr9:=rec_nine hr
 have hst:storeN 9 (ptr H1.next 0) r.v (H1.new (.cells [(.int .u32 0),(.int .u32 0),(.int .u64 0),(.int .u64 0),(.int .u64 0),(.int .u64 0),(.int .u64 0),(.int .u64 0),(.int .u64 0)] none))=some (H1.new (.cells r.cells none)):=fresh_store rfl hr9 (by simp [RecD.cells])
 have bx:=AH.get_new_self H1 (.cells r.cells none)
 have e2:=e1.trans ((Ext.refl H1).new (.cells r.cells none))
 obtain ⟨pv,hplc,_⟩:=id hpl
 have lo9:∀ {K},Ext (H1.new (.cells r.cells none)) K->loadN 9 (ptr H1.next 0) K=some r.v:=fun e=>by rw [loadN_ptr,e.cells bx,row_all _ _ 9 hr9]; rfl
 have lo2:∀ {K},Ext (H1.new (.cells r.cells none)) K->loadN 2 (ptr t11 0) K=some (.agg pl.toArray):=fun e=>by rw [loadN_ptr,(e2.trans e).cells b11,row_all _ _ 2 (by rw [hplc]; rfl)]; rfl
 have lo6:∀ {K},Ext (H1.new (.cells r.cells none)) K->loadN 6 (ptr t10 0) K=some (.agg qc.toArray):=fun e=>by rw [loadN_ptr,(e2.trans e).cells b10,row_all _ _ 6 (polx6d hq).1]; rfl
 simp only [F.f29_l2,i64_lss,hlt',f1,lo,allocW_eq,hst,lo9 (Ext.refl _),lo2 (Ext.refl _),lo6 (Ext.refl _),stdZ]
 refine plan_decide hE hns (by omega) (hpl.mono e2) r hr fun H3 e3 =>?_
 refine ⟨(lo9 e3).trans (lo9 (Ext.refl _)).symm,(lo6 e3).trans (lo6 (Ext.refl _)).symm,?_⟩
 refine S.f19 hE q.pol qc ((hq.mono (e2.trans e3)).at_ (by omega)) r hr fun H4 e4 =>?_
 have dd:decide (says q.pol r≠says q.pol r)=false:=decide_eq_false (by simp)
 simp only [u32_neq,dd,hinc,stdZ]
 exact ih hlt _ _ ⟨rfl,(e2.trans e3).trans e4⟩
theorem S.law_IrDecides (hE:Fold E) (args:List Value) (ha:ArgsSV H [polSh,smallSh,.slice 9 recSh,.slice 1 (.int .u8)] args) (hQ:∀ H',Q (vb true) H'):E.call (E.fid i.f29) args H Q:=by
 obtain ⟨v1,_,rfl,h1,ha⟩:=ha.cons_inv
 obtain ⟨v2,_,rfl,h2,ha⟩:=ha.cons_inv
 obtain ⟨v3,_,rfl,h3,ha⟩:=ha.cons_inv
 obtain ⟨v4,_,rfl,h4,ha⟩:=ha.cons_inv
 obtain rfl:=ha.nil_inv
 obtain ⟨x,xc,rfl,hx,hxf⟩:=h1.pol
 obtain ⟨s,sc,rfl,hs⟩:=h2.small
 obtain ⟨l,hl,hok⟩:=h3.recs
 obtain ⟨ks,hks,hkn⟩:=h4.u8s'
 apply hE.f29
 have hs8:sc.length=8:=by obtain ⟨_,_,_,_,rfl,_⟩:=hs; rfl
 have x2:Ext H ((H.new (.cells xc none)).new (.cells sc none)):=((Ext.refl _).new _).new _
 have b1:((H.new (.cells xc none)).new (.cells sc none)).get H.next = .cells xc none:=by rw [AH.get_new_ne _ _ (by rw [AH.next_new]; omega),AH.get_new_self]
 have b2:((H.new (.cells xc none)).new (.cells sc none)).get (H.next+1) = .cells sc none:=AH.get_new_self (H.new _) _
 simp only [F.f29,boxO_agg_z,AM.mk_some,mkPtr_eq_z,List.toList_toArray,AH.next_new_z,stdZ]
 generalize (H.new (.cells xc none)).new (.cells sc none)=H2 at *
 have hSC:SortsC E 80:=sortsC_any hE 80 (by decide)
 have hSR:SortsR E 80:=sortsR_any hE 80 (by decide)
 refine S.f28 hE (sm:=80) (by decide) (by decide) hSC hSR fun H3 e3 =>?_
 have x3:=x2.trans e3
 have lo1:∀ {K},Ext H2 K->loadN 6 (ptr H.next 0) K=some (.agg xc.toArray):=fun e=>by rw [loadN_ptr,e.cells b1,row_all _ _ 6 (polx6d hx).1]; rfl
 have lo2:∀ {K},Ext H2 K->loadN 8 (ptr (H.next+1) 0) K=some (.agg sc.toArray):=fun e=>by rw [loadN_ptr,e.cells b2,row_all _ _ 8 hs8]; rfl
 simp only [lo1 e3,stdZ]
 refine S.f23 hE x xc (hx.mono x3) hxf fun fbl H4 e4 hfew =>?_
 have e34:=e3.trans e4
 cases fbl with
 | false=>simp only [un_not_z,Bool.not_false,stdZ]; exact hQ _
 | true =>
  have hfew:=hfew rfl
  have hlv:=(hl.mono (x2.trans e34)).lenSlc
  rw [List.length_map] at hlv
  by_cases h20:(20:Int)<l.length
  ·have hd:decide ((20:Int)<l.length)=true:=decide_eq_true h20
   simp only [un_not_z,Bool.not_true,hlv,i64_gtr,hd,stdZ]
   exact hQ _
  have hd:decide ((20:Int)<l.length)=false:=decide_eq_false h20
  simp only [un_not_z,Bool.not_true,hlv,i64_gtr,hd,lo1 e34,lo2 e34,stdZ]
  refine S.f24 hE s sc (hs.sub (x2.trans e34).sub) fun H5 pc e5 hps =>?_
  have e35:=e34.trans e5
  refine ⟨(lo1 e35).trans (lo1 e34).symm,?_⟩
  have hbs:=buildS_full 2 6 [str [],u32 0#32,nilS,u16 0#16,nilS,nilS] [(0,.agg xc.toArray),(1,.agg pc.toArray)] [.agg xc.toArray,.agg pc.toArray] rfl rfl rfl rfl (by simp [(polx6d hx).1,(polx6d hps).1])
  have hbs:buildS 2 6 #[(.string ⟨#[]⟩),(.int .u32 0),(.slice none 0 0),(.int .u16 0),(.slice none 0 0),(.slice none 0 0)] [(0,.agg xc.toArray),(1,.agg pc.toArray)]=some (.cells (xc++pc) none,mkSlc 2 2):=by
   rw [show (xc++pc)=([.agg xc.toArray,.agg pc.toArray]:List Value).flatMap vcells by simp]
   exact hbs
  simp only [hbs,AM.mk_some,mkSlc_eq,stdZ]
  have e6:Ext H5 (H5.new (.cells (xc++pc) none)):=(Ext.refl _).new _
  have hrows:Rows (H5.new (.cells (xc++pc) none)) 6 (slc H5.next 0 2 2) [xc,pc]:=Rows.made (f:=none) (by rw [AH.get_new_self]; simp) (.inl rfl) rfl (by simp [(polx6d hx).1,(polx6d hps).1])
  generalize H5.new (.cells (xc++pc) none)=H6 at *
  have x6:=((x2.trans e35).trans e6)
  have hps6:=hps.mono e6
  have hx6:=hx.mono x6
  have i0:(.int .i64 0:Value)=vi ((0:Nat):Int):=rfl
  rw [i0]
  refine LoopL.count 2 (fun j ls H'=>ls=[v3,v4,slc H5.next 0 2 2,vi 2,vi j]/\Ext H6 H') ?_ ⟨rfl,Ext.refl _⟩
  rintro j _ H7 X hj hX ⟨rfl,e7⟩
  rcases Nat.lt_or_ge j 2 with hlt | hge
  rotate_left
  ·have hd:decide ((j:Int)<2)=false:=decide_eq_false (by omega)
   simp only [F.f29_l1,i64_lss,hd,stdZ]
   exact hQ _
  have hlt':decide ((j:Int)<2)=true:=decide_eq_true (by omega)
  have ⟨q,qc,hq1,hq2,hq3⟩:∃ (q:PolX) (qc:List Value),[xc,pc][j]? = some qc/\PolXAt H7 q qc/\q.few:=by
   match j,hlt with
   | 0,_=>exact ⟨x,xc,rfl,hx6.mono e7,hfew⟩
   | 1,_=>exact ⟨s.pol,pc,rfl,hps6.mono e7,s.pol_few⟩
  obtain ⟨b,o,f1,f2⟩:=(hrows.mono e7).ix (i:=j) hlt
  have hjj:[xc,pc][j]=qc:=by
   rw [List.getElem?_eq_getElem hlt] at hq1
   exact Option.some.inj hq1
  rw [hjj] at f2
  have lo:loadN 6 (ptr b o) H7=some (.agg qc.toArray):=by rw [loadN_ptr,f2]; rfl
  obtain ⟨hq6,hqp⟩:=polx6d hq2
  have hst:storeN 6 (ptr H7.next 0) (.agg qc.toArray) (H7.new (.cells [(.string ⟨#[]⟩),(.int .u32 0),(.slice none 0 0),(.int .u16 0),(.slice none 0 0),(.slice none 0 0)] none))=some (H7.new (.cells qc none)):=fresh_store rfl hq6 hqp
  have hlo7:loadN 6 (ptr H7.next 0) (H7.new (.cells qc none))=some (.agg qc.toArray):=fresh_load hq6
  have x8:Ext H7 (H7.new (.cells qc none)):=(Ext.refl _).new _
  have b8:=AH.get_new_self H7 (.cells qc none)
  simp only [F.f29_l1,i64_lss,hlt',f1,lo,allocW_eq,hst,hlo7,stdZ]
  have hq8:=hq2.mono x8
  have hX:=hX hlt
  generalize H7.new (.cells qc none)=H8 at *
  generalize H7.next=t8 at *
  have hrl:=hq3.1
  refine S.f4 hE (sm:=80) (by decide) hSC hSR q.pol qc (hq8.at_ (by omega)) hrl (fun r hr=>by have:=hq3.2.1 r hr; omega) fun ns pl H9 e9 hns hpl =>?_
  obtain ⟨pv,hplc,hpv⟩:=id hpl
  have hpvp:plain1 pv=true:=by obtain ⟨rows,h1,_⟩:=hpv; exact h1.plain
  have st9:storeN 2 (ptr H9.next 0) (.agg pl.toArray) (H9.new (.cells [(.slice none 0 0),(.int .u32 0)] none))=some (H9.new (.cells pl none)):=fresh_store (n:=2) rfl (by rw [hplc]; rfl) (by rw [hplc]; simp [hpvp])
  have x9:Ext H9 (H9.new (.cells pl none)):=(Ext.refl _).new _
  have b9:=AH.get_new_self H9 (.cells pl none)
  have lo8:loadN 6 (ptr t8 0) (H9.new (.cells pl none))=some (.agg qc.toArray):=by rw [loadN_ptr,(e9.trans x9).cells b8,row_all _ _ 6 hq6]; rfl
  simp only [allocW_eq,st9,lo8,stdZ]
  have e10:=e9.trans x9
  have hpl10:=hpl.mono x9
  generalize H9.new (.cells pl none)=H10 at *
  generalize H9.next=t9 at *
  have hq10:=hq8.mono e10
  have xx:=((x6.trans e7).trans x8).trans e10
  refine S.f27 hE q.pol qc (hq10.at_ (by omega)) l v3 (hl.mono xx) hok (by omega) ks v4 (hks.mono xx) hkn fun rv H11 l' e11 hrv hok' hl50 =>?_
  have hlr:=hrv.lenSlc
  rw [List.length_map] at hlr
  simp only [hlr,stdZ]
  exact decides_l2 hE hns (hq10.mono e11) hrl (hpl10.mono e11) ((e10.trans e11).cells b8) (e11.cells b9) hrv hok' hl50 (j:=j) (by omega) fun H' e'=>hX _ _ ⟨rfl,(((e7.trans x8).trans e10).trans e11).trans e'⟩
end
end Go.AM
end
