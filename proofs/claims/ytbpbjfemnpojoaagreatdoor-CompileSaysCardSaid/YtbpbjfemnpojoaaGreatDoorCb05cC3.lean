/- CONTRACTS ON THE PRINTED FUNCTIONS. -/
import Derived.Test.YtbpbjfemnpojoaaGreatDoorCb05cC2
set_option linter.all false
namespace Go.AM
section
open Go.Sort
set_option maxRecDepth 20000
section
variable {α:Type}[Inhabited α]{E:Sy}{H H':AH}{Q:Value->AH->Prop}{b c n:Nat}{enc:α->List Value}{LT:α->α->Bool}{fv:Value}{d:Array α}{tail:List Value}{f:Option Nat}
theorem S.f124(hE:aX E)(he:fO 2 enc)(hC:jF E fv enc LT)(hg:H.get b=fX enc d tail f)(hn:d.size=n)(hsz:n<2 ^ 60)(a e pivot:Nat)(h1:a<=pivot)(h2:pivot<e)(hle:e<=n)(hQ:∀ H',bC H b enc tail f (partition LT d a e pivot).2.2 H'->Q (.tuple #[vi (partition LT d a e pivot).1,vb (partition LT d a e pivot).2.1]) H'):E.call 126 [slc b 0 n c,vi a,vi e,vi pivot,fv] H Q:=by
 apply hE.f124;have f1:=bU (sz:=2) (b:=b) (c:=c) (n:=n) (i:=a) (by omega)
 have f2:=bU (sz:=2) (b:=b) (c:=c) (n:=n) (i:=pivot) (by omega)
 have g1:=aM he hg (i:=a) (by omega)
 have g2:=aM he hg (i:=pivot) (by omega)
 obtain⟨w1,w2⟩:=eV he hg (i:=a) (j:=pivot) (by omega) (by omega)
 have b1:=cN a (by omega)
 have b2:=eH e (by omega) (by omega)
 simp only[F.f124,f1,f2,g1,g2,w1,w2,b1,b2,aC];have s0:=(bC.refl hg).put (swp d a pivot);have n0:(swp d a pivot).size=n:=by rw[size_swp];exact hn
 unfold partition at hQ;generalize hd0:swp d a pivot=d0 at *;generalize H.put b (fX enc d0 tail f)=H0 at *;clear w1 w2 g1 g2 f2;simp only at hQ;obtain⟨I,hI⟩:∃ I,I=scanUp (λx=>LT x d0[a]!) d0 (e - 1) (a+1):=⟨_,rfl⟩;rw[<- hI]at hQ;obtain⟨J,hJ⟩:∃ J,J=scanDown (λx => !LT x d0[a]!) d0 I (e - 1):=⟨_,rfl⟩;rw[<- hJ]at hQ;have hIl:=aEy (λx=>LT x d0[a]!) d0 (e - 1) _ (a+1) (Nat.le_refl _);rw[<- hI]at hIl;have hJl:=tF (λx => !LT x d0[a]!) d0 I (e - 1);rw[<- hJ]at hJl;refine aZ.ind (λm l H'=>bC H b enc tail f d0 H'/\∃ p:Nat,l=[slc b 0 n c,vi a,fv,vi p,vi ((e - 1:Nat):Int)]/\I=scanUp (λx=>LT x d0[a]!) d0 (e - 1) p/\a+1<=p/\p<=e/\m=e - p) ?_ (e - (a+1)) ⟨s0,a+1,rfl,hI,Nat.le_refl _,by omega,rfl⟩
 rintro m _ H1 X hX ⟨s1,p,rfl,r1,hp1,hp2,rfl⟩;rw[scanUp]at r1
 have exit1:I=p->∀ H2,bC H b enc tail f d0 H2->lp5 (F.f124_l2 E Q) [slc b 0 n c,vi a,fv,vi p,vi ((e - 1:Nat):Int)] H2:=by
  rintro rfl H2 s2;clear hX r1;refine aZ.ind (λm l H'=>bC H b enc tail f d0 H'/\∃ q:Nat,l=[slc b 0 n c,vi a,fv,vi I,vi q]/\J=scanDown (λx => !LT x d0[a]!) d0 I q/\q<=e - 1/\I<=q+1/\m=q) ?_ (e - 1) ⟨s2,e - 1,rfl,hJ,Nat.le_refl _,by omega,rfl⟩
  rintro m _ H3 X hX ⟨s3,q,rfl,r1,hq1,hq2,rfl⟩
  have exit2:J=m->F.f124_l2 E Q (slc b 0 n c) (vi a) fv (vi I) (vi m) H3 X:=by
   rintro rfl;clear hX;have f1:=bU (sz:=2) (b:=b) (c:=c) (n:=n) (i:=a) (by omega)
   have f2:=bU (sz:=2) (b:=b) (c:=c) (n:=n) (i:=J) (by omega)
   have g1:=aM he s3.get (i:=a) (by omega)
   have g2:=aM he s3.get (i:=J) (by omega)
   by_cases hij:I<=J
   ·have hij':decide ((I:Int)<=J)=true:=decide_eq_true (by omega)
    have hij'':decide ((J:Int)<I)=false:=decide_eq_false (by omega)
    have hnl:LT d0[J]! d0[a]! = true:=by
     cases J with
     | zero=>omega
     | succ q =>
      rw[scanDown]at r1
      split at r1
      ·have:=tF (λx => !LT x d0[a]!) d0 I q
       omega
      ·rename_i hc
       simp at hc;exact hc (by omega)
    have f3:=bU (sz:=2) (b:=b) (c:=c) (n:=n) (i:=I) (by omega)
    have b3:=cN I (by omega)
    have b4:=eH J (by omega) (by omega)
    simp only[F.f124_l2,cS,hij',f1,f2,g1,g2,aC];refine hC _ _ _ _ λz H4 e4 hz =>?_;have s4:=s3.ext e4;have g2:=aM he s4.get (i:=J) (by omega)
    have g3:=aM he s4.get (i:=I) (by omega)
    obtain⟨w3,w4⟩:=eV he s4.get (i:=I) (j:=J) (by omega) (by omega)
    simp only[aF,cI,hz,hnl,bX,Bool.not_true,hij'',f2,f3,g2,g3,w3,w4,b3,b4,aC];rw[if_neg (by omega)]at hQ
    have s1:=s4.put (swp d0 I J);have n1:(swp d0 I J).size=n:=by rw[size_swp];exact n0
    generalize hd1:swp d0 I J=d1 at *;simp only at hQ;obtain⟨R,hR⟩:∃ R,R=partLoop LT a (I+1) (J - 1) d1:=⟨_,rfl⟩;rw[<- hR]at hQ;refine aZ.ind (λm l H'=>∃ (p q:Nat) (d2:Array α),l=[slc b 0 n c,vi a,fv,vi p,vi q]/\bC H b enc tail f d2 H'/\d2.size=n/\R=partLoop LT a p q d2/\a+1<=p/\p<=q+1+1/\p<=e/\q<=e - 1/\a<=q/\m=q+1 - p) ?_ (J - 1+1 - (I+1)) ⟨I+1,J - 1,d1,rfl,s1,n1,hR,by omega,by omega,by omega,by omega,by omega,rfl⟩
    clear hR s1 n1 hd1 w3 w4 g1 g2 g3 s4 s3 s2;rintro m _ H5 X3 hX3 ⟨p,q,d2,rfl,s2,n2,r2,hp1,hp2,hpe,hq1,hqa,rfl⟩;rw[partLoop]at r2;simp only[F.f124_l3,sH,sA,sF,sG,vD];obtain⟨I2,hI2⟩:∃ I,I=scanUp (λx=>LT x d2[a]!) d2 q p:=⟨_,rfl⟩;obtain⟨J2,hJ2⟩:∃ J,J=scanDown (λx => !LT x d2[a]!) d2 I2 q:=⟨_,rfl⟩;rw[<- hI2]at r2
    try simp only at r2
    rw[<- hJ2]at r2;have hIl2:=aEy (λx=>LT x d2[a]!) d2 q _ p (Nat.le_refl _);rw[<- hI2]at hIl2;have hJl2:=tF (λx => !LT x d2[a]!) d2 I2 q;rw[<- hJ2]at hJl2
    have hI2e:I2<=q+1\/(I2=p/\q+1<p):=by
     by_cases h:p<=q+1
     ·exact .inl (hIl2.2 h)
     ·refine .inr ⟨?_,by omega⟩
      rw[hI2,scanUp,if_neg (by simp;omega)]
    have hJ2e:I2<=q+1\/J2=q:=by
     rcases hI2e with h | ⟨h,h'⟩
     ·exact .inl h
     ·right
      rw[hJ2];cases q with
      | zero=>rfl
      | succ q=>rw[scanDown,if_neg (by simp;omega)]
    refine aZ.ind (λm l H'=>bC H b enc tail f d2 H'/\∃ p':Nat,l=[slc b 0 n c,vi a,fv,vi p',vi q]/\I2=scanUp (λx=>LT x d2[a]!) d2 q p'/\p<=p'/\p'<=e/\m=q+1 - p') ?_ (q+1 - p) ⟨s2,p,rfl,hI2,Nat.le_refl _,by omega,rfl⟩
    rintro m _ H6 X4 hX4 ⟨s6,p',rfl,r4,hp3,hp4,rfl⟩;rw[scanUp]at r4
    have exit4:I2=p'->∀ H7,bC H b enc tail f d2 H7->lp5 (F.f124_l5 E Q X3) [slc b 0 n c,vi a,fv,vi p',vi q] H7:=by
     rintro rfl H7 s7;clear hX4 r4;refine aZ.ind (λm l H'=>bC H b enc tail f d2 H'/\∃ q':Nat,l=[slc b 0 n c,vi a,fv,vi I2,vi q']/\J2=scanDown (λx => !LT x d2[a]!) d2 I2 q'/\q'<=q/\m=q') ?_ q ⟨s7,q,rfl,hJ2,Nat.le_refl _,rfl⟩;rintro m _ H8 X5 hX5 ⟨s8,q',rfl,r5,hq3,rfl⟩
     have exit5:J2=m->∀ H9,bC H b enc tail f d2 H9->(hnl:I2<=m->LT d2[m]! d2[a]! = true)->F.f124_l5 E Q X3 (slc b 0 n c) (vi a) fv (vi I2) (vi m) H8 X5:=by
      rintro rfl H9 s9 hnl;clear hX5;have f2:=bU (sz:=2) (b:=b) (c:=c) (n:=n) (i:=J2) (by omega)
      have g1:=aM he s8.get (i:=a) (by omega)
      have g2:=aM he s8.get (i:=J2) (by omega)
      by_cases hij:I2<=J2
      ·have hij':decide ((I2:Int)<=J2)=true:=decide_eq_true (by omega)
       have hij'':decide ((J2:Int)<I2)=false:=decide_eq_false (by omega)
       have hnl:=hnl hij;have f3:=bU (sz:=2) (b:=b) (c:=c) (n:=n) (i:=I2) (by omega)
       have b3:=cN I2 (by omega)
       have b4:=eH J2 (by omega) (by omega)
       simp only[F.f124_l5,cS,hij',f1,f2,g1,g2,aC];refine hC _ _ _ _ λz H10 e10 hz =>?_;have s10:=s8.ext e10;have g2:=aM he s10.get (i:=J2) (by omega)
       have g3:=aM he s10.get (i:=I2) (by omega)
       obtain⟨w3,w4⟩:=eV he s10.get (i:=I2) (j:=J2) (by omega) (by omega)
       simp only[aF,cI,hz,hnl,bX,Bool.not_true,hij'',f2,f3,g2,g3,w3,w4,b3,b4,aC];rw[if_neg (by omega),dif_pos (by omega)]at r2
       exact hX3 (J2 - 1+1 - (I2+1)) (by omega) _ _ ⟨I2+1,J2 - 1,_,rfl,s10.put _,by rw[size_swp];exact n2,r2,by omega,by omega,by omega,by omega,by omega,rfl⟩
      ·have hij':decide ((I2:Int)<=J2)=false:=decide_eq_false (by omega)
       have hij'':decide ((J2:Int)<I2)=true:=decide_eq_true (by omega)
       rw[if_pos (by omega)]at r2
       subst r2;obtain⟨w1,w2⟩:=eV he s8.get (i:=J2) (j:=a) (by omega) (by omega)
       simp only[F.f124_l5,cS,cI,hij',hij'',f1,f2,g1,g2,w1,w2,aC];exact hQ _ (s8.put _)
     cases m with
     | zero=>exact exit5 r5 _ s8 λh=>by omega
     | succ q' =>
      by_cases hc:I2<=q'+1/\LT d2[q'+1]! d2[a]! = false
      ·rw[scanDown,if_pos (by simp[hc.1,hc.2])]at r5
       have hc':decide ((I2:Int)<=((q'+1:Nat):Int))=true:=decide_eq_true (by omega)
       have f2:=bU (sz:=2) (b:=b) (c:=c) (n:=n) (i:=q'+1) (by omega)
       have g1:=aM he s8.get (i:=a) (by omega)
       have g2:=aM he s8.get (i:=q'+1) (by omega)
       have b4:aA .sub (vi ((q'+1:Nat):Int)) (vi 1)=some (vi (q':Int)):=eH (q'+1) (by omega) (by omega)
       have hlt:=hc.2;simp only[F.f124_l5,cS,hc',f1,f2,g1,g2,aC];refine hC _ _ _ _ λz H10 e10 hz =>?_;simp only[aF,hz,hlt,bX,Bool.not_false,b4,aC];exact hX5 q' (by omega) _ _ ⟨s8.ext e10,q',rfl,r5,by omega,rfl⟩
      ·rw[scanDown,if_neg (by simpa using hc)]at r5
       exact exit5 r5 _ s8 λh=>by simpa using λh'=>hc ⟨h,h'⟩
    by_cases hc:p'<=q/\LT d2[p']! d2[a]! = true
    ·rw[if_pos (by simp[hc.1,hc.2])]at r4
     have hc':decide ((p':Int)<=q)=true:=decide_eq_true (by omega)
     have f2:=bU (sz:=2) (b:=b) (c:=c) (n:=n) (i:=p') (by omega)
     have g1:=aM he s6.get (i:=a) (by omega)
     have g2:=aM he s6.get (i:=p') (by omega)
     have b3:=cN p' (by omega)
     simp only[F.f124_l4,cS,hc',f1,f2,g1,g2,aC];refine hC _ _ _ _ λz H10 e10 hz =>?_;simp only[aF,hz,hc.2,b3,aC];exact hX4 (q+1 - (p'+1)) (by omega) _ _ ⟨s6.ext e10,p'+1,rfl,r4,by omega,by omega,rfl⟩
    ·rw[if_neg (by simpa using hc)]at r4
     by_cases hpq:p'<=q
     ·have hc':decide ((p':Int)<=q)=true:=decide_eq_true (by omega)
      have hlt:LT d2[p']! d2[a]! = false:=by simpa using λh=>hc ⟨hpq,h⟩
      have f2:=bU (sz:=2) (b:=b) (c:=c) (n:=n) (i:=p') (by omega)
      have g1:=aM he s6.get (i:=a) (by omega)
      have g2:=aM he s6.get (i:=p') (by omega)
      simp only[F.f124_l4,cS,hc',f1,f2,g1,g2,aC];refine hC _ _ _ _ λz H10 e10 hz =>?_;simp only[aF,hz,hlt,aC];exact exit4 r4 _ (s6.ext e10)
     ·have hc':decide ((p':Int)<=q)=false:=decide_eq_false (by omega)
      simp only[F.f124_l4,cS,hc',aC];exact exit4 r4 _ s6
   ·have hij':decide ((I:Int)<=J)=false:=decide_eq_false (by omega)
    have hij'':decide ((J:Int)<I)=true:=decide_eq_true (by omega)
    obtain⟨w1,w2⟩:=eV he s3.get (i:=J) (j:=a) (by omega) (by omega)
    simp only[F.f124_l2,cS,cI,hij',hij'',f1,f2,g1,g2,w1,w2,aC];rw[if_pos (by omega)]at hQ
    exact hQ _ (s3.put _)
  cases m with
  | zero=>exact exit2 r1
  | succ q =>
   by_cases hc:I<=q+1/\LT d0[q+1]! d0[a]! = false
   ·rw[scanDown,if_pos (by simp[hc.1,hc.2])]at r1
    have hc':decide ((I:Int)<=((q+1:Nat):Int))=true:=decide_eq_true (by omega)
    have f2:=bU (sz:=2) (b:=b) (c:=c) (n:=n) (i:=q+1) (by omega)
    have g1:=aM he s3.get (i:=a) (by omega)
    have g2:=aM he s3.get (i:=q+1) (by omega)
    have b4:aA .sub (vi ((q+1:Nat):Int)) (vi 1)=some (vi (q:Int)):=eH (q+1) (by omega) (by omega)
    have hlt:=hc.2;simp only[F.f124_l2,cS,hc',f1,f2,g1,g2,aC];refine hC _ _ _ _ λz H10 e10 hz =>?_;simp only[aF,hz,hlt,bX,Bool.not_false,b4,aC];exact hX q (by omega) _ _ ⟨s3.ext e10,q,rfl,r1,by omega,by omega,rfl⟩
   ·rw[scanDown,if_neg (by simpa using hc)]at r1
    exact exit2 r1
 by_cases hc:p<=e - 1/\LT d0[p]! d0[a]! = true
 ·rw[if_pos (by simp[hc.1,hc.2])]at r1
  have hc':decide ((p:Int)<=((e - 1:Nat):Int))=true:=decide_eq_true (by omega)
  have f2:=bU (sz:=2) (b:=b) (c:=c) (n:=n) (i:=p) (by omega)
  have g1:=aM he s1.get (i:=a) (by omega)
  have g2:=aM he s1.get (i:=p) (by omega)
  have b3:=cN p (by omega)
  simp only[F.f124_l1,cS,hc',f1,f2,g1,g2,aC];refine hC _ _ _ _ λz H10 e10 hz =>?_;simp only[aF,hz,hc.2,b3,aC];exact hX (e - (p+1)) (by omega) _ _ ⟨s1.ext e10,p+1,rfl,r1,by omega,by omega,rfl⟩
 ·rw[if_neg (by simpa using hc)]at r1
  have exit1:=exit1 r1
  by_cases hpq:p<=e - 1
  ·have hc':decide ((p:Int)<=((e - 1:Nat):Int))=true:=decide_eq_true (by omega)
   have hlt:LT d0[p]! d0[a]! = false:=by simpa using λh=>hc ⟨hpq,h⟩
   have f2:=bU (sz:=2) (b:=b) (c:=c) (n:=n) (i:=p) (by omega)
   have g1:=aM he s1.get (i:=a) (by omega)
   have g2:=aM he s1.get (i:=p) (by omega)
   simp only[F.f124_l1,cS,hc',f1,f2,g1,g2,aC];refine hC _ _ _ _ λz H10 e10 hz =>?_;simp only[aF,hz,hlt,aC];exact exit1 _ (s1.ext e10)
  ·have hc':decide ((p:Int)<=((e - 1:Nat):Int))=false:=decide_eq_false (by omega)
   simp only[F.f124_l1,cS,hc',aC];exact exit1 _ s1
end
end
section
open Go.Sort
set_option maxRecDepth 20000
section
variable {α:Type}[Inhabited α]{E:Sy}{H H':AH}{Q:Value->AH->Prop}{b c n:Nat}{enc:α->List Value}{LT:α->α->Bool}{fv:Value}{d:Array α}{tail:List Value}{f:Option Nat}
theorem S.f125(hE:aX E)(he:fO 2 enc)(hC:jF E fv enc LT)(hg:H.get b=fX enc d tail f)(hn:d.size=n)(hsz:n<2 ^ 60)(a e pivot:Nat)(h1:a<=pivot)(h2:pivot<e)(hle:e<=n)(hQ:∀ H',bC H b enc tail f (partitionEqual LT d a e pivot).2 H'->Q (vi (partitionEqual LT d a e pivot).1) H'):E.call 125 [slc b 0 n c,vi a,vi e,vi pivot,fv] H Q:=by
 apply hE.f125;have f1:=bU (sz:=2) (b:=b) (c:=c) (n:=n) (i:=a) (by omega)
 have f2:=bU (sz:=2) (b:=b) (c:=c) (n:=n) (i:=pivot) (by omega)
 have g1:=aM he hg (i:=a) (by omega)
 have g2:=aM he hg (i:=pivot) (by omega)
 obtain⟨w1,w2⟩:=eV he hg (i:=a) (j:=pivot) (by omega) (by omega)
 have b1:=cN a (by omega)
 have b2:=eH e (by omega) (by omega)
 simp only[F.f125,f1,f2,g1,g2,w1,w2,b1,b2,aC];have s0:=(bC.refl hg).put (swp d a pivot);have n0:(swp d a pivot).size=n:=by rw[size_swp];exact hn
 unfold partitionEqual at hQ;generalize hd0:swp d a pivot=d0 at *;generalize H.put b (fX enc d0 tail f)=H0 at *;clear w1 w2 f2 g1 g2;obtain⟨R,hR⟩:∃ R,R=partEqLoop LT a (a+1) (e - 1) d0:=⟨_,rfl⟩;rw[<- hR]at hQ;refine aZ.ind (λm l H'=>∃ (p q:Nat) (d2:Array α),l=[slc b 0 n c,vi a,fv,vi p,vi q]/\bC H b enc tail f d2 H'/\d2.size=n/\R=partEqLoop LT a p q d2/\a+1<=p/\p<=q+1+1/\p<=e/\q<=e - 1/\a<=q/\m=q+1 - p) ?_ (e - 1+1 - (a+1)) ⟨a+1,e - 1,d0,rfl,s0,n0,hR,by omega,by omega,by omega,by omega,by omega,rfl⟩
 clear hR s0 n0 hd0;rintro m _ H2 X3 hX3 ⟨p,q,d2,rfl,s2,n2,r2,hp1,hp2,hpe,hq1,hqa,rfl⟩;rw[partEqLoop]at r2;simp only[F.f125_l1,sH,sA,sF,sG,vD];obtain⟨I2,hI2⟩:∃ I,I=scanUp (λx => !LT d2[a]! x) d2 q p:=⟨_,rfl⟩;obtain⟨J2,hJ2⟩:∃ J,J=scanDown (λx=>LT d2[a]! x) d2 I2 q:=⟨_,rfl⟩;rw[<- hI2]at r2
 try simp only at r2
 rw[<- hJ2]at r2;have hIl2:=aEy (λx => !LT d2[a]! x) d2 q _ p (Nat.le_refl _);rw[<- hI2]at hIl2;have hJl2:=tF (λx=>LT d2[a]! x) d2 I2 q;rw[<- hJ2]at hJl2
 have hI2e:I2<=q+1\/(I2=p/\q+1<p):=by
  by_cases h:p<=q+1
  ·exact .inl (hIl2.2 h)
  ·refine .inr ⟨?_,by omega⟩
   rw[hI2,scanUp,if_neg (by simp;omega)]
 have hJ2e:I2<=q+1\/J2=q:=by
  rcases hI2e with h | ⟨h,h'⟩
  ·exact .inl h
  ·right
   rw[hJ2];cases q with
   | zero=>rfl
   | succ q=>rw[scanDown,if_neg (by simp;omega)]
 refine aZ.ind (λm l H'=>bC H b enc tail f d2 H'/\∃ p':Nat,l=[slc b 0 n c,vi a,fv,vi p',vi q]/\I2=scanUp (λx => !LT d2[a]! x) d2 q p'/\p<=p'/\p'<=e/\m=q+1 - p') ?_ (q+1 - p) ⟨s2,p,rfl,hI2,Nat.le_refl _,by omega,rfl⟩
 rintro m _ H6 X4 hX4 ⟨s6,p',rfl,r4,hp3,hp4,rfl⟩;rw[scanUp]at r4
 have exit4:I2=p'->∀ H7,bC H b enc tail f d2 H7->lp5 (F.f125_l3 E Q X3) [slc b 0 n c,vi a,fv,vi p',vi q] H7:=by
  rintro rfl H7 s7;clear hX4 r4;refine aZ.ind (λm l H'=>bC H b enc tail f d2 H'/\∃ q':Nat,l=[slc b 0 n c,vi a,fv,vi I2,vi q']/\J2=scanDown (λx=>LT d2[a]! x) d2 I2 q'/\q'<=q/\m=q') ?_ q ⟨s7,q,rfl,hJ2,Nat.le_refl _,rfl⟩;rintro m _ H8 X5 hX5 ⟨s8,q',rfl,r5,hq3,rfl⟩
  have exit5:J2=m->(I2<=m->LT d2[a]! d2[m]! = false)->F.f125_l3 E Q X3 (slc b 0 n c) (vi a) fv (vi I2) (vi m) H8 X5:=by
   rintro rfl hnl;clear hX5;have f2:=bU (sz:=2) (b:=b) (c:=c) (n:=n) (i:=J2) (by omega)
   have g1:=aM he s8.get (i:=a) (by omega)
   have g2:=aM he s8.get (i:=J2) (by omega)
   by_cases hij:I2<=J2
   ·have hij':decide ((I2:Int)<=J2)=true:=decide_eq_true (by omega)
    have hij'':decide ((J2:Int)<I2)=false:=decide_eq_false (by omega)
    have hnl:=hnl hij;have f3:=bU (sz:=2) (b:=b) (c:=c) (n:=n) (i:=I2) (by omega)
    have b3:=cN I2 (by omega)
    have b4:=eH J2 (by omega) (by omega)
    simp only[F.f125_l3,cS,hij',f1,f2,g1,g2,aC];refine hC _ _ _ _ λz H10 e10 hz =>?_;have s10:=s8.ext e10;have g2:=aM he s10.get (i:=J2) (by omega)
    have g3:=aM he s10.get (i:=I2) (by omega)
    obtain⟨w3,w4⟩:=eV he s10.get (i:=I2) (j:=J2) (by omega) (by omega)
    simp only[aF,cI,hz,hnl,hij'',f2,f3,g2,g3,w3,w4,b3,b4,aC];rw[if_neg (by omega),dif_pos (by omega)]at r2
    exact hX3 (J2 - 1+1 - (I2+1)) (by omega) _ _ ⟨I2+1,J2 - 1,_,rfl,s10.put _,by rw[size_swp];exact n2,r2,by omega,by omega,by omega,by omega,by omega,rfl⟩
   ·have hij':decide ((I2:Int)<=J2)=false:=decide_eq_false (by omega)
    have hij'':decide ((J2:Int)<I2)=true:=decide_eq_true (by omega)
    rw[if_pos (by omega)]at r2
    subst r2;simp only[F.f125_l3,cS,cI,hij',hij'',aC];exact hQ _ s8
  cases m with
  | zero=>exact exit5 r5 λh=>by omega
  | succ q' =>
   by_cases hc:I2<=q'+1/\LT d2[a]! d2[q'+1]! = true
   ·rw[scanDown,if_pos (by simp[hc.1,hc.2])]at r5
    have hc':decide ((I2:Int)<=((q'+1:Nat):Int))=true:=decide_eq_true (by omega)
    have f2:=bU (sz:=2) (b:=b) (c:=c) (n:=n) (i:=q'+1) (by omega)
    have g1:=aM he s8.get (i:=a) (by omega)
    have g2:=aM he s8.get (i:=q'+1) (by omega)
    have b4:aA .sub (vi ((q'+1:Nat):Int)) (vi 1)=some (vi (q':Int)):=eH (q'+1) (by omega) (by omega)
    have hlt:=hc.2;simp only[F.f125_l3,cS,hc',f1,f2,g1,g2,aC];refine hC _ _ _ _ λz H10 e10 hz =>?_;simp only[aF,hz,hlt,b4,aC];exact hX5 q' (by omega) _ _ ⟨s8.ext e10,q',rfl,r5,by omega,rfl⟩
   ·rw[scanDown,if_neg (by simpa using hc)]at r5
    exact exit5 r5 λh=>by simpa using λh'=>hc ⟨h,h'⟩
 by_cases hc:p'<=q/\LT d2[a]! d2[p']! = false
 ·rw[if_pos (by simp[hc.1,hc.2])]at r4
  have hc':decide ((p':Int)<=q)=true:=decide_eq_true (by omega)
  have f2:=bU (sz:=2) (b:=b) (c:=c) (n:=n) (i:=p') (by omega)
  have g1:=aM he s6.get (i:=a) (by omega)
  have g2:=aM he s6.get (i:=p') (by omega)
  have b3:=cN p' (by omega)
  simp only[F.f125_l2,cS,hc',f1,f2,g1,g2,aC];refine hC _ _ _ _ λz H10 e10 hz =>?_;simp only[aF,hz,hc.2,bX,Bool.not_false,b3,aC];exact hX4 (q+1 - (p'+1)) (by omega) _ _ ⟨s6.ext e10,p'+1,rfl,r4,by omega,by omega,rfl⟩
 ·rw[if_neg (by simpa using hc)]at r4
  by_cases hpq:p'<=q
  ·have hc':decide ((p':Int)<=q)=true:=decide_eq_true (by omega)
   have hlt:LT d2[a]! d2[p']! = true:=by simpa using λh=>hc ⟨hpq,h⟩
   have f2:=bU (sz:=2) (b:=b) (c:=c) (n:=n) (i:=p') (by omega)
   have g1:=aM he s6.get (i:=a) (by omega)
   have g2:=aM he s6.get (i:=p') (by omega)
   simp only[F.f125_l2,cS,hc',f1,f2,g1,g2,aC];refine hC _ _ _ _ λz H10 e10 hz =>?_;simp only[aF,hz,hlt,bX,Bool.not_true,aC];exact exit4 r4 _ (s6.ext e10)
  ·have hc':decide ((p':Int)<=q)=false:=decide_eq_false (by omega)
   simp only[F.f125_l2,cS,hc',aC];exact exit4 r4 _ s6
end
end
section
open Go.Sort
set_option maxRecDepth 20000
section
variable {α:Type}[Inhabited α]{E:Sy}{H H':AH}{Q:Value->AH->Prop}{b c n:Nat}{enc:α->List Value}{LT:α->α->Bool}{fv:Value}{d:Array α}{tail:List Value}{f:Option Nat}
theorem S.f123(hE:aX E)(he:fO 2 enc)(hC:jF E fv enc LT)(hg:H.get b=fX enc d tail f)(hn:d.size=n)(hsz:n<2 ^ 60)(a e:Nat)(hae:a<e)(hle:e<=n)(hQ:∀ H',bC H b enc tail f (partialInsertionSort LT d a e).1 H'->Q (vb (partialInsertionSort LT d a e).2) H'):E.call 124 [slc b 0 n c,vi a,vi e,fv] H Q:=by
  apply hE.f123;have b1:=cN a (by omega)
  simp only[F.f123,b1,aC];unfold partialInsertionSort at hQ;obtain⟨R,hR⟩:∃ R,R=partialIns LT a e 5 (a+1) d:=⟨_,rfl⟩;rw[<- hR]at hQ;refine aZ.ind (λm l H'=>∃ (i:Nat) (d1:Array α),l=[slc b 0 n c,vi a,vi e,fv,vi i,vi ((5 - m:Nat):Int)]/\bC H b enc tail f d1 H'/\d1.size=n/\R=partialIns LT a e m i d1/\a+1<=i/\i<=e/\m<=5) ?_ 5 ⟨a+1,d,rfl,.refl hg,hn,hR,Nat.le_refl _,by omega,Nat.le_refl _⟩
  rintro m _ H1 X hX ⟨i0,d1,rfl,s1,n1,r1,hi1,hi2,hm⟩;cases m with
  | zero =>
    have c5:decide (((5 - 0:Nat):Int)<5)=false:=by decide
    simp only[F.f123_l1,aF,c5,aC];rw[partialIns]at r1;subst r1;exact hQ _ s1
  | succ m =>
    have hms:decide (((5 - (m+1):Nat):Int)<5)=true:=decide_eq_true (by omega)
    have hmi:aA .add (vi ((5 - (m+1):Nat):Int)) (vi 1)=some (vi ((5 - m:Nat):Int)):=by
      rw[cN _ (by omega)];congr 3;omega
    have hX:∀ (i:Nat) (d2:Array α) H2,bC H b enc tail f d2 H2->d2.size=n->R=partialIns LT a e m i d2->a+1<=i->i<=e->X [slc b 0 n c,vi a,vi e,fv,vi i,vi ((5 - m:Nat):Int)] H2:=λi d2 H2 q1 q2 q3 q4 q5=>hX m (by omega) _ _ ⟨i,d2,rfl,q1,q2,q3,q4,q5,by omega⟩
    generalize hk:5 - (m+1)=k at *;generalize hk':5 - m=k' at *;simp only[F.f123_l1,aF,hms,aC];rw[partialIns_succ]at r1;obtain⟨I,hI⟩:∃ I,I=scanSorted LT d1 e i0:=⟨_,rfl⟩;rw[<- hI]at r1;refine aZ.ind (λm l H'=>bC H b enc tail f d1 H'/\∃ i':Nat,l=[slc b 0 n c,vi a,vi e,fv,vi i',vi k]/\I=scanSorted LT d1 e i'/\a+1<=i'/\i'<=e/\m=e - i') ?_ (e - i0) ⟨s1,i0,rfl,hI,hi1,hi2,rfl⟩;clear s1;rintro mm _ H2 X1 hX1 ⟨s1,i',rfl,r2,hi3,hi4,rfl⟩;rw[scanSorted]at r2;have b2:aA .sub (vi e) (vi a)=some (vi ((e - a:Nat):Int)):=bZ e a (by omega) (by omega)
    have hkk:aA .add (vi k) (vi 1)=some (vi k'):=hmi
    have j1:∀ (d3:Array α) H3,bC H b enc tail f d3 H3->d3.size=n->a+1<=I->I<e->R=partialIns LT a e m I (fixUp LT e I d3)->F.f123_j1 E Q X (slc b 0 n c) (vi a) (vi e) fv (vi I) (vi k) H3:=by
      intro d3 H3 s3 n3 hI3 hI4 r3;unfold fixUp at r3;have b5:aA .sub (vi e) (vi I)=some (vi ((e - I:Nat):Int)):=bZ e I (by omega) (by omega)
      by_cases c3:e - I>=2
      · rw[if_pos c3]at r3
        have c3':decide ((2:Int)<=((e - I:Nat):Int))=true:=decide_eq_true (by omega)
        have b6:=cN I (by omega)
        simp only[F.f123_j1,b5,dW,c3',b6,aC];obtain⟨D,hD⟩:∃ D,D=shiftUp LT e (I+1) d3:=⟨_,rfl⟩;rw[<- hD]at r3;refine aZ.ind (λmm l H'=>∃ (q:Nat) (d4:Array α),l=[slc b 0 n c,vi a,vi e,fv,vi I,vi k,vi q]/\bC H b enc tail f d4 H'/\d4.size=n/\D=shiftUp LT e q d4/\1<=q/\q<=e/\mm=e - q) ?_ (e - (I+1)) ⟨I+1,d3,rfl,s3,n3,hD,by omega,by omega,rfl⟩
        rintro mm _ H4 X5 hX5 ⟨q,d4,rfl,s4,n4,r4,hq1,hq2,rfl⟩;rw[shiftUp]at r4
        have done:D=d4->∀ H5,bC H b enc tail f d4 H5->X [slc b 0 n c,vi a,vi e,fv,vi I,vi k'] H5:=by
          rintro rfl H5 s5;exact hX I D H5 s5 n4 r3 hI3 (by omega)
        by_cases c4:q<e
        · have c4':decide ((q:Int)<e)=true:=decide_eq_true (by omega)
          rw[if_pos c4]at r4;have b7:=eH q (by omega) (by omega)
          have b8:=cN q (by omega)
          have f1:=bU (sz:=2) (b:=b) (c:=c) (n:=n) (i:=q) (by omega)
          have f2:=bU (sz:=2) (b:=b) (c:=c) (n:=n) (i:=q - 1) (by omega)
          have g1:=aM he s4.get (i:=q) (by omega)
          have g2:=aM he s4.get (i:=q - 1) (by omega)
          have hY:=λ(d5:Array α) H5 q1 q2 q3=>hX5 (e - (q+1)) (by omega) [slc b 0 n c,vi a,vi e,fv,vi I,vi k,vi ((q+1:Nat):Int)] H5 ⟨q+1,d5,rfl,q1,q2,q3,by omega,by omega,rfl⟩
          have hqn:q<n:=by omega
          have hqn':q - 1<n:=by omega
          generalize hq':q - 1=q' at *;generalize hq'':q+1=q'' at *;simp only[F.f123_l3,aF,c4',b7,f1,f2,g1,g2,aC];refine hC _ _ _ _ λz H5 e5 hz =>?_;have s5:=s4.ext e5;cases hl:LT d4[q]! d4[q']! with
          | true =>
            simp only[hl,Bool.not_true,Bool.false_eq_true,if_false]at r4;have g1:=aM he s5.get (i:=q) (by omega)
            have g2:=aM he s5.get (i:=q') (by omega)
            obtain⟨w1,w2⟩:=eV he s5.get (i:=q) (j:=q') (by omega) (by omega)
            simp only[aF,hz,hl,bX,Bool.not_true,b7,b8,f1,f2,g1,g2,w1,w2,aC];exact hY _ _ (s5.put _) (by rw[size_swp];exact n4) r4
          | false =>
            simp only[hl,Bool.not_false,if_true]at r4;simp only[aF,hz,hl,bX,Bool.not_false,hkk,aC];exact done r4 _ s5
        · have c4':decide ((q:Int)<e)=false:=decide_eq_false (by omega)
          rw[if_neg c4]at r4;simp only[F.f123_l3,aF,c4',hkk,aC];exact done r4 _ s4
      · rw[if_neg c3]at r3
        have c3':decide ((2:Int)<=((e - I:Nat):Int))=false:=decide_eq_false (by omega)
        simp only[F.f123_j1,b5,dW,c3',hkk,aC];exact hX I d3 H3 s3 n3 r3 hI3 (by omega)
    have exit:I=i'->∀ H3,bC H b enc tail f d1 H3 ->
        (opt (aA .eql (vi i') (vi e)) λv15 =>
         ifB v15 (Q (.bool true) H3) (
         opt (aA .sub (vi e) (vi a)) λv16 =>
         opt (aA .lss v16 (vi 50)) λv17 =>
         ifB v17 (Q (.bool false) H3) (
         opt (aA .sub (vi i') (vi 1)) λv18 =>
         opt (aA .sub (vi i') (vi 1)) λv19 =>
         opt (aI 2 (slc b 0 n c) v19) λv20 =>
         opt (aE 2 v20 H3) λv21 =>
         opt (aI 2 (slc b 0 n c) (vi i')) λv22 =>
         opt (aE 2 v22 H3) λv23 =>
         opt (aI 2 (slc b 0 n c) (vi i')) λv24 =>
         opt (aH 2 v24 v21 H3) λH12 =>
         opt (aI 2 (slc b 0 n c) v18) λv25 =>
         opt (aH 2 v25 v23 H12) λH13 =>
         opt (aA .sub (vi i') (vi a)) λv26 =>
         opt (aA .geq v26 (vi 2)) λv27 =>
         ifB v27 (
         opt (aA .sub (vi i') (vi 1)) λv28 =>
         aZ (λl H X1=>F.f123_l4 E Q X (nth l 0) (nth l 1) (nth l 2) (nth l 3) (nth l 4) (nth l 5) (nth l 6) H X1) [slc b 0 n c,vi a,vi e,fv,vi i',vi k,v28] H13) (
         F.f123_j1 E Q X (slc b 0 n c) (vi a) (vi e) fv (vi i') (vi k) H13)))):=by
      rintro rfl H3 s3;clear hX1
      by_cases c1:I=e
      · rw[if_pos c1]at r1
        subst r1;have c1':decide ((I:Int)=e)=true:=decide_eq_true (by omega)
        simp only[cZ,c1',aC];exact hQ _ s3
      rw[if_neg c1]at r1;have c1':decide ((I:Int)=e)=false:=decide_eq_false (by omega)
      by_cases c2:e - a<50
      · rw[if_pos c2]at r1
        subst r1;have c2':decide (((e - a:Nat):Int)<50)=true:=decide_eq_true (by omega)
        simp only[cZ,c1',b2,aF,c2',aC];exact hQ _ s3
      rw[if_neg c2]at r1;have c2':decide (((e - a:Nat):Int)<50)=false:=decide_eq_false (by omega)
      have b3:=eH I (by omega) (by omega)
      have b4:aA .sub (vi I) (vi a)=some (vi ((I - a:Nat):Int)):=bZ I a (by omega) (by omega)
      have f1:=bU (sz:=2) (b:=b) (c:=c) (n:=n) (i:=I) (by omega)
      have f2:=bU (sz:=2) (b:=b) (c:=c) (n:=n) (i:=I - 1) (by omega)
      have g1:=aM he s3.get (i:=I) (by omega)
      have g2:=aM he s3.get (i:=I - 1) (by omega)
      obtain⟨w1,w2⟩:=eV he s3.get (i:=I) (j:=I - 1) (by omega) (by omega)
      have s2:=s3.put (swp d1 I (I - 1));have n2:(swp d1 I (I - 1)).size=n:=by rw[size_swp];exact n1
      unfold fixDown at r1
      by_cases c3:I - a>=2
      · rw[if_pos c3]at r1
        have c3':decide ((2:Int)<=((I - a:Nat):Int))=true:=decide_eq_true (by omega)
        obtain⟨D,hD⟩:∃ D,D=shiftDown LT (I - 1) (swp d1 I (I - 1)):=⟨_,rfl⟩;rw[<- hD]at r1;have hI1n:I - 1<n:=by omega
        simp only[cZ,c1',b2,aF,c2',b3,b4,dW,f1,f2,g1,g2,w1,w2,c3',aC];refine aZ.ind (λmm l H'=>∃ (q:Nat) (d4:Array α),l=[slc b 0 n c,vi a,vi e,fv,vi I,vi k,vi q]/\bC H b enc tail f d4 H'/\d4.size=n/\D=shiftDown LT q d4/\q<n/\mm=q) ?_ (I - 1) ⟨I - 1,_,rfl,s2,n2,hD,hI1n,rfl⟩;clear s2 n2 hD g1 g2 w1 w2;rintro mm _ H4 X5 hX5 ⟨q,d4,rfl,s4,n4,r4,hq1,rfl⟩;cases mm with
        | zero =>
          have c4':decide ((1:Int)<=((0:Nat):Int))=false:=by decide
          simp only[F.f123_l4,dW,c4',aC];rw[shiftDown]at r4;subst r4;exact j1 _ _ s4 n4 hi3 (by omega) r1
        | succ q =>
          have c4':decide ((1:Int)<=((q+1:Nat):Int))=true:=decide_eq_true (by omega)
          rw[shiftDown]at r4;have b7:aA .sub (vi ((q+1:Nat):Int)) (vi 1)=some (vi (q:Int)):=eH (q+1) (by omega) (by omega)
          have f1:=bU (sz:=2) (b:=b) (c:=c) (n:=n) (i:=q+1) (by omega)
          have f2:=bU (sz:=2) (b:=b) (c:=c) (n:=n) (i:=q) (by omega)
          have g1:=aM he s4.get (i:=q+1) (by omega)
          have g2:=aM he s4.get (i:=q) (by omega)
          have hY:=λ(d5:Array α) H5 q1 q2 q3=>hX5 q (by omega) [slc b 0 n c,vi a,vi e,fv,vi I,vi k,vi (q:Int)] H5 ⟨q,d5,rfl,q1,q2,q3,by omega,rfl⟩
          generalize hq':q+1=q' at *;simp only[F.f123_l4,dW,c4',b7,f1,f2,g1,g2,aC];refine hC _ _ _ _ λz H5 e5 hz =>?_;have s5:=s4.ext e5;cases hl:LT d4[q']! d4[q]! with
          | true =>
            simp only[hl,Bool.not_true,Bool.false_eq_true,if_false]at r4;have g1:=aM he s5.get (i:=q') (by omega)
            have g2:=aM he s5.get (i:=q) (by omega)
            obtain⟨w1,w2⟩:=eV he s5.get (i:=q') (j:=q) (by omega) (by omega)
            simp only[aF,hz,hl,bX,Bool.not_true,b7,f1,f2,g1,g2,w1,w2,aC];exact hY _ _ (s5.put _) (by rw[size_swp];exact n4) r4
          | false =>
            simp only[hl,Bool.not_false,if_true]at r4;simp only[aF,hz,hl,bX,Bool.not_false,aC];subst r4;exact j1 _ _ s5 n4 hi3 (by omega) r1
      · rw[if_neg c3]at r1
        have c3':decide ((2:Int)<=((I - a:Nat):Int))=false:=decide_eq_false (by omega)
        simp only[cZ,c1',b2,aF,c2',b3,b4,dW,f1,f2,g1,g2,w1,w2,c3',aC];exact j1 _ _ s2 n2 hi3 (by omega) r1
    have b7:=cN i' (by omega)
    by_cases c4:i'<e
    · have c4':decide ((i':Int)<e)=true:=decide_eq_true (by omega)
      have b6:=eH i' (by omega) (by omega)
      have f1:=bU (sz:=2) (b:=b) (c:=c) (n:=n) (i:=i') (by omega)
      have f2:=bU (sz:=2) (b:=b) (c:=c) (n:=n) (i:=i' - 1) (by omega)
      have g1:=aM he s1.get (i:=i') (by omega)
      have g2:=aM he s1.get (i:=i' - 1) (by omega)
      simp only[F.f123_l2,aF,c4',b6,f1,f2,g1,g2,aC];refine hC _ _ _ _ λz H5 e5 hz =>?_;have s5:=s1.ext e5;cases hl:LT d1[i']! d1[i' - 1]! with
      | true =>
        rw[if_neg (by simp[hl])]at r2
        simp only[aF,hz,hl,bX,Bool.not_true,aC];exact exit r2 _ s5
      | false =>
        rw[if_pos (by simp[hl,c4])]at r2
        simp only[aF,hz,hl,bX,Bool.not_false,b7,aC];exact hX1 (e - (i'+1)) (by omega) [slc b 0 n c,vi a,vi e,fv,vi ((i'+1:Nat):Int),vi k] _ ⟨s5,i'+1,rfl,r2,by omega,by omega,rfl⟩
    · have c4':decide ((i':Int)<e)=false:=decide_eq_false (by omega)
      rw[if_neg (by simp[c4])]at r2
      simp only[F.f123_l2,aF,c4',aC];exact exit r2 _ s1
end
end
section
open Go.Sort
set_option maxRecDepth 20000
section
variable {α:Type}[Inhabited α]{E:Sy}{H H':AH}{Q:Value->AH->Prop}{b c n:Nat}{enc:α->List Value}{LT:α->α->Bool}{fv:Value}{d:Array α}{tail:List Value}{f:Option Nat}
theorem S.f122(hE:aX E)(he:fO 2 enc)(hC:jF E fv enc LT)(hg:H.get b=fX enc d tail f)(hn:d.size=n)(p q:Nat)(hp:p<n)(hq:q<n)(s k:Nat)(hs:H.get s = .cells [vi k] none)(hk:k<1000)(hsb:s≠b)(hQ:∀ r1 r2 k' H',((r1=p/\r2=q)\/(r1=q/\r2=p))->dU [s] H H'->H'.get s = .cells [vi (k':Nat)] none->k'<=k+1->Q (.tuple #[vi (r1:Nat),vi (r2:Nat)]) H'):
  E.call 148 [slc b 0 n c,vi p,vi q,ptr s 0,fv] H Q:=by
 apply hE.f122;have f1:=bU (sz:=2) (b:=b) (c:=c) (n:=n) (i:=p) hp;have f2:=bU (sz:=2) (b:=b) (c:=c) (n:=n) (i:=q) hq;have g1:=aM he hg (i:=p) (by omega)
 have g2:=aM he hg (i:=q) (by omega)
 have hlt:=AH.lt_cells hs;have b1:=cN k (by omega)
 simp only[F.f122,f1,f2,g1,g2,aC];refine hC _ _ _ _ λz H1 e1 hz =>?_;have hs1:=e1.cells hs;have hlt1:=AH.lt_cells hs1;cases hl:LT d[q]! d[p]! with
 | true =>
  have st:bD (ptr s 0) (vi ((k+1:Nat):Int)) H1=some (H1.put s (.cells [vi ((k+1:Nat):Int)] none)):=by
   rw[eK,if_pos (show plain1 (vi ((k+1:Nat):Int))=true from rfl),hs1];rfl
  have hl0:[vi (k:Int)][0]? = some (vi k):=rfl;simp only[aF,hz,hl,hs1,hl0,b1,st,aC];exact hQ q p (k+1) _ (.inr ⟨rfl,rfl⟩) (e1.only.put (.inl (by simp)) _) (AH.get_put_self _ _ hlt1) (Nat.le_refl _)
 | false =>
  simp only[aF,hz,hl,aC];exact hQ p q k _ (.inl ⟨rfl,rfl⟩) e1.only hs1 (by omega)
theorem S.f120(hE:aX E)(he:fO 2 enc)(hC:jF E fv enc LT)(hg:H.get b=fX enc d tail f)(hn:d.size=n)(p q r:Nat)(hp:p<n)(hq:q<n)(hr:r<n)(s k:Nat)(hs:H.get s = .cells [vi k] none)(hk:k<900)(hsb:s≠b)(hQ:∀ m k' H',(m=p\/m=q\/m=r)->dU [s] H H'->H'.get s = .cells [vi (k':Nat)] none->k'<=k+3->Q (vi (m:Nat)) H'):
  E.call 140 [slc b 0 n c,vi p,vi q,vi r,ptr s 0,fv] H Q:=by
 apply hE.f120;have keep:∀ {H'},dU [s] H H'->H'.get b=fX enc d tail f:=λo=>by rw[o.get (sO hg) (by simpa using Ne.symm hsb)];exact hg
 simp only[F.f120,aC];refine S.f122 hE he hC hg hn p q hp hq s k hs (by omega) hsb λa1 a2 k1 H1 e1 o1 s1 l1 =>?_
 simp only[nX,List.getElem?_cons_zero,List.getElem?_cons_succ,aC];refine S.f122 hE he hC (keep o1) hn a2 r (by omega) hr s k1 s1 (by omega) hsb λa3 a4 k2 H2 e2 o2 s2 l2 =>?_
 have o12:=o1.trans' o2;simp only[nX,List.getElem?_cons_zero,List.getElem?_cons_succ,aC];refine S.f122 hE he hC (keep o12) hn a1 a3 (by omega) (by omega) s k2 s2 (by omega) hsb λa5 a6 k3 H3 e3 o3 s3 l3 =>?_
 simp only[nX,List.getElem?_cons_zero,List.getElem?_cons_succ,aC];exact hQ a6 k3 H3 (by omega) (o12.trans' o3) s3 (by omega)
theorem S.f119(hE:aX E)(he:fO 2 enc)(hC:jF E fv enc LT)(hg:H.get b=fX enc d tail f)(hn:d.size=n)(hsz:n<2 ^ 60)(p:Nat)(hp0:1<=p)(hp:p+1<n)(s k:Nat)(hs:H.get s = .cells [vi k] none)(hk:k<900)(hsb:s≠b)(hQ:∀ m k' H',(p - 1<=m/\m<=p+1)->dU [s] H H'->H'.get s = .cells [vi (k':Nat)] none->k'<=k+3->Q (vi (m:Nat)) H'):
  E.call 139 [slc b 0 n c,vi p,ptr s 0,fv] H Q:=by
 apply hE.f119;have b1:=eH p hp0 (by omega)
 have b2:=cN p (by omega)
 simp only[F.f119,b1,b2,aC];refine S.f120 hE he hC hg hn (p - 1) p (p+1) (by omega) (by omega) hp s k hs hk hsb λm k' H' e1 o1 s1 l1=>hQ m k' H' (by omega) o1 s1 l1
theorem S.f115(hE:aX E)(he:fO 2 enc)(hC:jF E fv enc LT)(hg:H.get b=fX enc d tail f)(hn:d.size=n)(hsz:n<2 ^ 60)(a e:Nat)(hae:a+8<=e)(hle:e<=n)(hQ:∀ (m:Nat) (h:Int) H',a<=m->m<e->Ext H H'->Q (.tuple #[vi m,vi h]) H'):E.call 122 [slc b 0 n c,vi a,vi e,fv] H Q:=by
 apply hE.f115;have a1:aA .sub (vi e) (vi a)=some (vi ((e - a:Nat):Int)):=bZ e a (by omega) (by omega)
 have hbl:=sO hg;generalize hw:e - a=w at *;have a2:aA .quo (vi (w:Int)) (vi 4)=some (vi ((w / 4:Nat):Int)):=mQ w 4 (by decide) (by omega)
 have hq4:w / 4*4<=w:=Nat.div_mul_le_self _ _;have hq4':1<=w / 4:=by omega
 have hq50:50<=w->12<=w / 4:=λh=>by omega
 generalize hq:w / 4=q at *;have m1:aA .mul (vi (q:Int)) (vi 1)=some (vi ((q*1:Nat):Int)):=by rw[kD (by omega) (by omega)];congr 2
 have m2:aA .mul (vi (q:Int)) (vi 2)=some (vi ((q*2:Nat):Int)):=by rw[kD (by omega) (by omega)];congr 2
 have m3:aA .mul (vi (q:Int)) (vi 3)=some (vi ((q*3:Nat):Int)):=by rw[kD (by omega) (by omega)];congr 2
 have p1:=bW a (q*1) (by omega)
 have p2:=bW a (q*2) (by omega)
 have p3:=bW a (q*3) (by omega)
 have c8:decide ((8:Int)<=w)=true:=decide_eq_true (by omega)
 have hg1:(H.new (.cells [vi 0] none)).get b=fX enc d tail f:=by rw[AH.get_new_lt _ _ hbl];exact hg
 have hs1:(H.new (.cells [vi 0] none)).get H.next = .cells [vi ((0:Nat):Int)] none:=AH.get_new_self _ _;have hsb:H.next≠b:=by omega
 have x1:Ext H (H.new (.cells [vi 0] none)):=(Ext.refl H).new _;have ext_of:∀ {H'},dU [H.next] (H.new (.cells [vi 0] none)) H'->Ext H H':=λo=>o.ext x1 (by simp)
 have keep:∀ {H'},dU [H.next] (H.new (.cells [vi 0] none)) H'->H'.get b=fX enc d tail f:=λo=>by rw[o.get (sO hg1) (by simpa using Ne.symm hsb)];exact hg1
 have last:∀ (m k:Nat) H',a<=m->m<e->Ext H H'->H'.get H.next = .cells [vi (k:Nat)] none->F.f115_j1 E Q (ptr H.next 0) (vi m) H':=by
  intro m k H' h1 h2 e1 s1;have hl0:[vi (k:Int)][0]? = some (vi k):=rfl
  by_cases k0:(k:Int)=0
  ·have d0:decide ((k:Int)=0)=true:=decide_eq_true k0
   simp only[F.f115_j1,s1,hl0,cZ,d0,aC];exact hQ m _ H' h1 h2 e1
  ·have d0:decide ((k:Int)=0)=false:=decide_eq_false k0
   by_cases k12:(k:Int)=12
   ·have d12:decide ((k:Int)=12)=true:=decide_eq_true k12
    simp only[F.f115_j1,s1,hl0,cZ,d0,d12,aC];exact hQ m _ H' h1 h2 e1
   ·have d12:decide ((k:Int)=12)=false:=decide_eq_false k12
    simp only[F.f115_j1,s1,hl0,cZ,d0,d12,aC];exact hQ m _ H' h1 h2 e1
 have last2:∀ (x y z k:Nat) H',a<=x->x<e->a<=y->y<e->a<=z->z<e->dU [H.next] (H.new (.cells [vi 0] none)) H'->H'.get H.next = .cells [vi (k:Nat)] none->k<900->F.f115_j2 E Q (slc b 0 n c) fv (ptr H.next 0) (vi x) (vi y) (vi z) H':=by
  intro x y z k H' h1 h2 h3 h4 h5 h6 o1 s1 hk;simp only[F.f115_j2,aC];refine S.f120 hE he hC (keep o1) hn x y z (by omega) (by omega) (by omega) H.next k s1 hk hsb λm k' H2 hm o2 s2 _ =>?_
  exact last m k' H2 (by omega) (by omega) (ext_of (o1.trans' o2)) s2
 by_cases c50:50<=w
 ·have c50':decide ((50:Int)<=w)=true:=decide_eq_true (by omega)
  have hq50:=hq50 c50;have g1:a+1<=a+q*1/\a+q*1+1<e:=by omega
  have g2:a+1<=a+q*2/\a+q*2+1<e:=by omega
  have g3:a+1<=a+q*3/\a+q*3+1<e:=by omega
  generalize hx:a+q*1=x at *;generalize hy:a+q*2=y at *;generalize hz:a+q*3=z at *;generalize q*1=q1 at *;generalize q*2=q2 at *;generalize q*3=q3 at *;simp only[F.f115,aW,a1,a2,m1,m2,m3,p1,p2,p3,dW,c8,c50',aC];refine S.f119 hE he hC hg1 hn hsz x (by omega) (by omega) H.next 0 hs1 (by omega) hsb λr1 k1 H1 e1 o1 s1 l1 =>?_
  refine S.f119 hE he hC (keep o1) hn hsz y (by omega) (by omega) H.next k1 s1 (by omega) hsb λr2 k2 H2 e2 o2 s2 l2 =>?_
  refine S.f119 hE he hC (keep (o1.trans' o2)) hn hsz z (by omega) (by omega) H.next k2 s2 (by omega) hsb λr3 k3 H3 e3 o3 s3 l3 =>?_
  exact last2 r1 r2 r3 k3 H3 (by omega) (by omega) (by omega) (by omega) (by omega) (by omega) ((o1.trans' o2).trans' o3) s3 (by omega)
 ·have c50':decide ((50:Int)<=w)=false:=decide_eq_false (by omega)
  have g1:a+q*1<e:=by omega
  have g2:a+q*2<e:=by omega
  have g3:a+q*3<e:=by omega
  have g0:a<=a+q*1/\a<=a+q*2/\a<=a+q*3:=by omega
  generalize hx:a+q*1=x at *;generalize hy:a+q*2=y at *;generalize hz:a+q*3=z at *;generalize q*1=q1 at *;generalize q*2=q2 at *;generalize q*3=q3 at *;simp only[F.f115,aW,a1,a2,m1,m2,m3,p1,p2,p3,dW,c8,c50',aC];exact last2 x y z 0 _ g0.1 g1 g0.2.1 g2 g0.2.2 g3 (dU.refl _ _) hs1 (by omega)
theorem S.f114(hE:aX E)(he:fO 2 enc)(hg:H.get b=fX enc d tail f)(hn:d.size=n)(hsz:n<2 ^ 31)(a e:Nat)(hae:a+8<=e)(hle:e<=n)(hQ:∀ d' H',PermIn a e d d'->bC H b enc tail f d' H'->Q (.tuple #[]) H'):E.call 121 [slc b 0 n c,vi a,vi e,fv] H Q:=by
 apply hE.f114;have a1:aA .sub (vi e) (vi a)=some (vi ((e - a:Nat):Int)):=bZ e a (by omega) (by omega)
 have hbl:=sO hg;generalize hw:e - a=w at *;have a2:aA .quo (vi (w:Int)) (vi 4)=some (vi ((w / 4:Nat):Int)):=mQ w 4 (by decide) (by omega)
 have hq4:w / 4*4<=w:=Nat.div_mul_le_self _ _;have hq4':2<=w / 4:=by omega
 generalize hq:w / 4=q at *;have m2:aA .mul (vi (q:Int)) (vi 2)=some (vi ((q*2:Nat):Int)):=by rw[kD (by omega) (by omega)];congr 2
 have p2:=bW a (q*2) (by omega)
 have p3:=eH (a+q*2) (by omega) (by omega)
 have p4:=cN (a+q*2) (by omega)
 have c8:decide ((8:Int)<=w)=true:=decide_eq_true (by omega)
 have hc:aS .u64 (vi (w:Int))=some (u64 (BitVec.ofNat 64 w)):=by rw[kL,BitVec.ofInt_natCast]
 have hm2:2 ^ bitsLen w<=2*w:=two_pow_bitsLen_le (by omega)
 have hm1:=Nat.two_pow_pos (bitsLen w);generalize hM:2 ^ bitsLen w=M at *;have gx:a+1<=a+q*2/\a+q*2+1<e:=by omega
 generalize hx:a+q*2=x at *;generalize q*2=q2 at *;have x1:Ext H (H.new (.cells [u64 (BitVec.ofNat 64 w)] none)):=(Ext.refl H).new _;simp[F.f114,a1,a2,m2,p2,p3,c8,hc];refine S.f121 hE w (by omega) ?_
 rw[hM];simp[a2,m2,p2,p3]
 refine aZ.ind (λm l H'=>∃ (j:Nat) (d1:Array α) (y:BitVec 64),l=[slc b 0 n c,vi a,vi w,ptr H.next 0,u64 (BitVec.ofNat 64 M),vi j]/\bC H b enc tail f d1 H'/\d1.size=n/\PermIn a e d d1/\H'.get H.next = .cells [u64 y] none/\a<=j/\j<=x+2/\m=x+2 - j) ?_ (x+2 - (x - 1))
  ⟨x - 1,d,_,by simp,⟨x1.only,by rw[AH.get_new_lt _ _ hbl];exact hg⟩,hn,permIn_refl _ _ _,AH.get_new_self _ _,by omega,by omega,rfl⟩
 rintro m _ H1 X hX ⟨j,d1,y,rfl,s1,n1,pp,hb1,hj1,hj2,rfl⟩
 by_cases cj:j<=x+1
 ·have cj':decide ((j:Int)<=((x+1:Nat):Int))=true:=decide_eq_true (by omega)
  have pj:=cN j (by omega)
  have fin:∀ (o:Nat) (y':BitVec 64),o<w->F.f114_j1 E Q X (slc b 0 n c) (vi a) (vi w) (ptr H.next 0) (u64 (BitVec.ofNat 64 M)) (vi j) (vi o) (H1.put H.next (.cells [u64 y'] none)):=by
   intro o y' ho;have hnb:b≠H.next:=by omega
   have s2:bC H b enc tail f d1 (H1.put H.next (.cells [u64 y'] none)):=⟨s1.only.put (.inr (Nat.le_refl _)) _,by rw[AH.get_put_ne _ _ hnb];exact s1.get⟩
   have pa:=bW a o (by omega)
   have f1:=bU (sz:=2) (b:=b) (c:=c) (n:=n) (i:=j) (by omega)
   have f2:=bU (sz:=2) (b:=b) (c:=c) (n:=n) (i:=a+o) (by omega)
   have g1:=aM he s2.get (i:=j) (by omega)
   have g2:=aM he s2.get (i:=a+o) (by omega)
   obtain⟨w1,w2⟩:=eV he s2.get (i:=j) (j:=a+o) (by omega) (by omega)
   have hpp:=swp_permIn d1 a e j (a+o) hj1 (by omega) (by omega) (by omega) (by omega)
   have hX:=hX (x+2 - (j+1)) (by omega) [slc b 0 n c,vi a,vi w,ptr H.next 0,u64 (BitVec.ofNat 64 M),vi ((j+1:Nat):Int)] _ ⟨j+1,_,y',rfl,s2.put (swp d1 j (a+o)),by rw[size_swp];exact n1,permIn_trans _ _ _ _ _ pp hpp,by rw[AH.get_put_ne _ _ (Ne.symm hnb),AH.get_put_self _ _ (AH.lt_cells hb1)],by omega,by omega,rfl⟩
   simp only[F.f114_j1,pa,f1,f2,g1,g2,w1,w2,pj,aC];exact hX
  simp only[F.f114_l1,a2,m2,p2,p4,cS,cj',aC];refine S.f133 hE H.next y hb1 λy' =>?_;have l1:(.int .u64 1:Value)=u64 1#64:=rfl
  have hsub:BitVec.ofNat 64 M - 1#64=BitVec.ofNat 64 (M - 1):=by
   apply BitVec.eq_of_toNat_eq;rw[BitVec.toNat_sub,BitVec.toNat_ofNat,BitVec.toNat_ofNat,BitVec.toNat_ofNat];omega
  have hand:(y'&&&BitVec.ofNat 64 (M - 1)).toNat<=M - 1:=by
   rw[BitVec.toNat_and];refine Nat.le_trans Nat.and_le_right ?_;rw[BitVec.toNat_ofNat];exact Nat.mod_le _ _
  have hcv:∀ z:BitVec 64,z.toNat<2 ^ 62->aS .i64 (u64 z)=some (vi (z.toNat:Int)):=by
   intro z hz;rw[dP,fA,mS (by omega) (by omega)]
  have hcv':=hcv _ (by omega:(y'&&&BitVec.ofNat 64 (M - 1)).toNat<2 ^ 62)
  simp only[l1,aHI,hsub,aNF,hcv',dW,aC];generalize (y'&&&BitVec.ofNat 64 (M - 1)).toNat=o at *
  by_cases co:w<=o
  ·have co':decide ((w:Int)<=o)=true:=decide_eq_true (by omega)
   have hs:aA .sub (vi (o:Int)) (vi (w:Int))=some (vi ((o - w:Nat):Int)):=bZ o w co (by omega)
   simp only[co',hs,aC];exact fin (o - w) y' (by omega)
  ·have co':decide ((w:Int)<=o)=false:=decide_eq_false (by omega)
   simp only[co',aC];exact fin o y' (by omega)
 ·have cj':decide ((j:Int)<=((x+1:Nat):Int))=false:=decide_eq_false (by omega)
  simp only[F.f114_l1,a2,m2,p2,p4,cS,cj',aC];exact hQ d1 H1 pp s1
end
end
section
open Go.Sort
set_option maxHeartbeats 400000
set_option maxRecDepth 20000
section
variable {α:Type}[Inhabited α]{E:Sy}{H H':AH}{Q:Value->AH->Prop}{b c n:Nat}{enc:α->List Value}{LT:α->α->Bool}{fv:Value}{d:Array α}{tail:List Value}{f:Option Nat}
theorem S.f126(hE:aX E)(hS:SWO LT)(he:fO 2 enc)(hC:jF E fv enc LT):∀ (w:Nat) {H:AH} {Q:Value->AH->Prop} {d:Array α} (_:H.get b=fX enc d tail f) (_:d.size=n) (_:n<2 ^ 31) (a e:Nat) (_:a<=e) (_:e<=n) (limit:Nat) (_:limit<2 ^ 60) (_:Go.Sort.Below LT a e d) (_:e - a<=w)
    (_:∀ d' H',PermIn a e d d'->SortedIn LT a e d'->bC H b enc tail f d' H'->Q (.tuple #[]) H'),E.call 96 [slc b 0 n c,vi a,vi e,vi limit,fv] H Q:=by
  intro w
  induction w using Nat.strongRecOn with
  | _ w ih =>
  intro H Q d hg hn hsz a0 e0 hae0 he0 limit0 hlim0 hB0 hw hQ;apply hE.f126;simp only[F.f126]
  refine aZ.ind (λm l H'=>∃ (a e limit:Nat) (wb wp:Bool) (d1:Array α),l=[slc b 0 n c,vi a,vi e,vi limit,fv,vb wb,vb wp]/\bC H b enc tail f d1 H'/\d1.size=n/\a<=e/\e<=n/\limit<2 ^ 60/\e - a<=w/\Go.Sort.Below LT a e d1 /\
      (∀ R,PermIn a e d1 R->SortedIn LT a e R->PermIn a0 e0 d R/\SortedIn LT a0 e0 R)/\m=e - a) ?_ (e0 - a0) ⟨a0,e0,limit0,true,true,d,rfl,.refl hg,hn,hae0,he0,hlim0,hw,hB0,λR h1 h2=>⟨h1,h2⟩,rfl⟩
  rintro m _ H1 X hX ⟨a,e,limit,wb,wp,d1,rfl,s1,n1,hae,hen,hlim,hwe,hB,fin,rfl⟩;have a1:aA .sub (vi e) (vi a)=some (vi ((e - a:Nat):Int)):=bZ e a (by omega) (by omega)
  by_cases c12:e - a<=12
  · have c12':decide (((e - a:Nat):Int)<=12)=true:=decide_eq_true (by omega)
    simp only[F.f126_l1,a1,cS,c12',aC];refine S.f117 hE he hC s1.get n1 (by omega) a e hae hen λH2 s2 =>?_
    obtain⟨h1,h2⟩:=insertionSort_holds hS d1 a e hae (by omega)
    obtain⟨h3,h4⟩:=fin _ h1 h2;exact hQ _ _ h3 h4 (s1.trans s2)
  have c12':decide (((e - a:Nat):Int)<=12)=false:=decide_eq_false (by omega)
  by_cases c0:limit=0
  · subst c0
    have c0':decide (((0:Nat):Int)=0)=true:=by decide
    simp only[F.f126_l1,a1,cS,c12',cZ,c0',aC];refine S.f116 hE he hC s1.get n1 (by omega) a e (by omega) hen λH2 s2 =>?_
    obtain⟨h1,h2⟩:=heapSort_holds hS d1 a e hae (by omega)
    obtain⟨h3,h4⟩:=fin _ h1 h2;exact hQ _ _ h3 h4 (s1.trans s2)
  have c0':decide ((limit:Int)=0)=false:=decide_eq_false (by omega)
  have w8:aA .quo (vi ((e - a:Nat):Int)) (vi 8)=some (vi (((e - a) / 8:Nat):Int)):=mQ (e - a) 8 (by decide) (by omega)
  have j3:∀ (d3:Array α) H3 (lim:Nat) (wb wp:Bool) (pv:Nat),bC H b enc tail f d3 H3->d3.size=n->PermIn a e d1 d3->lim<2 ^ 60->a<=pv->pv<e->F.f126_j3 E Q X (slc b 0 n c) (vi a) (vi e) (vi lim) fv (vb wb) (vb wp) (vi ((e - a:Nat):Int)) (vi pv) H3:=by
    intro d3 H3 lim wb wp pv s3 n3 p3 hlim hp1 hp2;have B3:Go.Sort.Below LT a e d3:=hB.permA permIn_all (by omega) p3
    have fin3:∀ R,PermIn a e d3 R->SortedIn LT a e R->PermIn a0 e0 d R/\SortedIn LT a0 e0 R:=λR h1 h2=>fin R (permIn_trans _ _ _ _ _ p3 h1) h2
    have part:∀ H3,bC H b enc tail f d3 H3->∀ (K:Value->AH->Prop),(K=λv15 H13 =>
         opt (ext v15 0) λv16 =>
         opt (ext v15 1) λv17 =>
         opt (aA .sub v16 (vi a)) λv18 =>
         opt (aA .sub (vi e) v16) λv19 =>
         opt (aA .quo (vi ((e - a:Nat):Int)) (vi 8)) λv20 =>
         opt (aA .lss v18 v19) λv21 =>
         ifB v21 (
         opt (aA .geq v18 v20) λv22 =>
         E.call 96 [slc b 0 n c,vi a,v16,vi lim,fv] H13 λv23 H14 =>
         opt (aA .add v16 (vi 1)) λv24 =>
         X [slc b 0 n c,v24,vi e,vi lim,fv,v22,v17] H14) (
         opt (aA .geq v19 v20) λv25 =>
         opt (aA .add v16 (vi 1)) λv26 =>
         E.call 96 [slc b 0 n c,v26,vi e,vi lim,fv] H13 λv27 H15 =>
         X [slc b 0 n c,vi a,v16,vi lim,fv,v25,v17] H15))->E.call 126 [slc b 0 n c,vi a,vi e,vi pv,fv] H3 K:=by
      rintro H3 s3 K rfl;refine S.f124 hE he hC s3.get n3 (by omega) a e pv hp1 hp2 hen λH4 s4 =>?_
      rcases hx:partition LT d3 a e pv with ⟨mid,ap,d4⟩
      rw[hx]at s4;obtain⟨g1,g2,hs4,hBa,hBr,hl,hr⟩:=round_part hS (partition_holds LT) hp1 hp2 (by omega) B3 hx
      have n4:d4.size=n:=by omega
      have s4':=s3.trans s4;have b1:aA .sub (vi mid) (vi a)=some (vi ((mid - a:Nat):Int)):=bZ mid a g1 (by omega)
      have b2:aA .sub (vi e) (vi mid)=some (vi ((e - mid:Nat):Int)):=bZ e mid (by omega) (by omega)
      have b3:=cN mid (by omega)
      simp only[hU,nX,List.getElem?_cons_zero,List.getElem?_cons_succ,aP,b1,b2,b3,w8,aF,dW]
      by_cases cl:mid - a<e - mid
      · have cl':((mid - a:Nat):Int)<((e - mid:Nat):Int):=by omega
        simp only[cl',decide_true,hU,oO,dW,aP];refine ih (mid - a) (by omega) s4'.get n4 hsz a mid g1 (by omega) lim hlim hBa (Nat.le_refl _) λd5 H5 p5 q5 s5 =>?_
        obtain⟨hBL,hfin⟩:=hl d5 p5 q5;have n5:d5.size=n:=by rw[p5.1];exact n4
        simp only[b3,hU,aP]
        exact hX (e - (mid+1)) (by omega) _ _ ⟨mid+1,e,lim,_,ap,d5,rfl,s4'.trans s5,n5,by omega,hen,hlim,by omega,hBL,λR h1 h2=>by
          obtain⟨h3,h4⟩:=hfin R h1 h2;exact fin3 R h3 h4,rfl⟩
      · have cl':¬ ((mid - a:Nat):Int)<((e - mid:Nat):Int):=by omega
        simp only[cl',decide_false,hU,kY,dW,aP,b3];refine ih (e - (mid+1)) (by omega) s4'.get n4 hsz (mid+1) e (by omega) hen lim hlim hBr (Nat.le_refl _) λd5 H5 p5 q5 s5 =>?_
        obtain⟨hBL,hfin⟩:=hr d5 p5 q5;have n5:d5.size=n:=by rw[p5.1];exact n4
        exact hX (mid - a) (by omega) _ _ ⟨a,mid,lim,_,ap,d5,rfl,s4'.trans s5,n5,g1,by omega,hlim,by omega,hBL,λR h1 h2=>by
          obtain⟨h3,h4⟩:=hfin R h1 h2;exact fin3 R h3 h4,rfl⟩
    by_cases ca:0<a
    · have ca':decide ((0:Int)<a)=true:=decide_eq_true (by omega)
      have b1:=eH a (by omega) (by omega)
      have f1:=bU (sz:=2) (b:=b) (c:=c) (n:=n) (i:=a - 1) (by omega)
      have f2:=bU (sz:=2) (b:=b) (c:=c) (n:=n) (i:=pv) (by omega)
      have g1:=aM he s3.get (i:=a - 1) (by omega)
      have g2:=aM he s3.get (i:=pv) (by omega)
      simp only[F.f126_j3,cI,ca',b1,f1,f2,g1,g2,aC];refine hC _ _ _ _ λz H10 e10 hz =>?_;have s10:=s3.ext e10;cases hl:LT d3[a - 1]! d3[pv]! with
      | true =>
        have part:=part _ s10 _ rfl;simp only[aF,hz,hl,bX,Bool.not_true,aC];exact part
      | false =>
        rcases hx:partitionEqual LT d3 a e pv with ⟨mid,d4⟩
        obtain⟨g3,g4,hs4,hB4,hfin⟩:=round_eq hS (partitionEqual_holds LT) ca hp1 hp2 (by omega) B3 hl hx
        have hY:=λH4 s4=>hX (e - mid) (by omega) [slc b 0 n c,vi mid,vi e,vi lim,fv,vb wb,vb wp] H4 ⟨mid,e,lim,wb,wp,d4,rfl,s4,by omega,g4,hen,hlim,by omega,hB4,λR h1 h2=>by
            obtain⟨h3,h4⟩:=hfin R h1 h2;exact fin3 R h3 h4,rfl⟩
        simp only[aF,hz,hl,bX,Bool.not_false,aC];refine S.f125 hE he hC s10.get n3 (by omega) a e pv hp1 hp2 hen λH4 s4 =>?_
        rw[hx]at s4 ⊢;exact hY H4 (s10.trans s4)
    · have ca':decide ((0:Int)<a)=false:=decide_eq_false (by omega)
      have part:=part _ s3 _ rfl;simp only[F.f126_j3,cI,ca',aC];exact part
  have j2:∀ (d3:Array α) H3 (lim:Nat) (wb wp:Bool) (pv:Nat) (hint:Int),bC H b enc tail f d3 H3->d3.size=n->PermIn a e d1 d3->lim<2 ^ 60->a<=pv->pv<e->F.f126_j2 E Q X (slc b 0 n c) (vi a) (vi e) (vi lim) fv (vb wb) (vb wp) (vi ((e - a:Nat):Int)) (vi pv) (vi hint) H3:=by
    intro d3 H3 lim wb wp pv hint s3 n3 p3 hlim hp1 hp2;have B3:Go.Sort.Below LT a e d3:=hB.permA permIn_all (by omega) p3
    have h3:=j3 d3 H3 lim wb wp pv s3 n3 p3 hlim hp1 hp2
    have try_:E.call 124 [slc b 0 n c,vi a,vi e,fv] H3 λv6 H4=>ifB v6 (Q (.tuple #[]) H4) (F.f126_j3 E Q X (slc b 0 n c) (vi a) (vi e) (vi lim) fv (vb wb) (vb wp) (vi ((e - a:Nat):Int)) (vi pv) H4):=by
      refine S.f123 hE he hC s3.get n3 (by omega) a e (by omega) hen λH4 s4 =>?_
      obtain⟨q1,q2⟩:=partialInsertionSort_holds hS d3 a e (by omega) (by omega) B3
      cases hb:(partialInsertionSort LT d3 a e).2 with
      | true =>
        obtain⟨h5,h6⟩:=fin _ (permIn_trans _ _ _ _ _ p3 q1) (q2 hb);simp only[oO];exact hQ _ _ h5 h6 (s3.trans s4)
      | false =>
        simp only[kY];exact j3 _ H4 lim wb wp pv (s3.trans s4) (by rw[q1.1];exact n3) (permIn_trans _ _ _ _ _ p3 q1) hlim hp1 hp2
    cases wb with
    | false =>
      simp only[F.f126_j2,aC];exact h3
    | true =>
      cases wp with
      | false =>
        simp only[F.f126_j2,aC];exact h3
      | true =>
        by_cases ch:hint=1
        · simp only[F.f126_j2,aL7,sV,hU,aP,cZ,ch,decide_true,oO]
          exact try_
        · simp only[F.f126_j2,aL7,sV,hU,aP,cZ,ch,decide_false,kY]
          exact h3
  have j1:∀ (d3:Array α) H3 (lim:Nat) (wb wp:Bool),bC H b enc tail f d3 H3->d3.size=n->PermIn a e d1 d3->lim<2 ^ 60->F.f126_j1 E Q X (slc b 0 n c) (vi a) (vi e) (vi lim) fv (vb wb) (vb wp) (vi ((e - a:Nat):Int)) H3:=by
    intro d3 H3 lim wb wp s3 n3 p3 hlim;simp only[F.f126_j1];refine S.f115 hE he hC s3.get n3 (by omega) a e (by omega) hen λpv hint H4 hp1 hp2 e4 =>?_
    have s4:=s3.ext e4;simp only[hU,nX,List.getElem?_cons_zero,List.getElem?_cons_succ,aP,cZ]
    by_cases ch:hint=2
    · simp only[ch,decide_true,oO]
      refine S.f127 hE he s4.get n3 (by omega) a e (by omega) hen λH5 s5 =>?_
      have q1:=reverseRange_holds d3 a e hae (by omega)
      have b1:=eH e (by omega) (by omega)
      have b2:aA .sub (vi pv) (vi a)=some (vi ((pv - a:Nat):Int)):=bZ pv a hp1 (by omega)
      have b3:aA .sub (vi ((e - 1:Nat):Int)) (vi ((pv - a:Nat):Int))=some (vi ((e - 1 - (pv - a):Nat):Int)):=bZ (e - 1) (pv - a) (by omega) (by omega)
      simp only[b1,b2,b3,hU,aP];exact j2 _ H5 lim wb wp _ 1 (s4.trans s5) (by rw[q1.1];exact n3) (permIn_trans _ _ _ _ _ p3 q1) hlim (by omega) (by omega)
    · simp only[ch,decide_false,kY]
      exact j2 d3 H4 lim wb wp pv hint s4 n3 p3 hlim hp1 hp2
  cases wb with
  | true =>
    have:=j1 d1 H1 limit true wp s1 n1 (permIn_refl _ _ _) hlim;simp only[F.f126_l1,a1,c12',c0',cS,cZ,bX,Bool.not_true,aC];exact this
  | false =>
    have b1:=eH limit (by omega) (by omega)
    have go:=λd' H' p' s'=>j1 d' H' (limit - 1) false wp s' (by rw[(p':PermIn a e d1 d').1];exact n1) p' (by omega)
    clear j1 j2 j3 hX;simp only[F.f126_l1,a1,c12',c0',cS,cZ,bX,Bool.not_false,aC];refine S.f114 hE he s1.get n1 hsz a e (by omega) hen λd' H' p' s' =>?_
    simp only[b1,aC];exact go d' H' p' (s1.trans s')
theorem S.f112(hE:aX E)(hS:SWO LT)(he:fO 2 enc)(hC:jF E fv enc LT)(hg:H.get b=fX enc d tail f)(hn:d.size=n)(hsz:n<2 ^ 31)(hQ:∀ d' H',PermIn 0 n d d'->SortedIn LT 0 n d'->bC H b enc tail f d' H'->Q (.tuple #[]) H'):E.call 67 [slc b 0 n c,fv] H Q:=by
 apply hE.f112;have e1:(BitVec.ofNat 64 n).toNat=n:=by rw[BitVec.toNat_ofNat,Nat.mod_eq_of_lt (by omega)]
 have hc:aS .u64 (vi (n:Int))=some (u64 (BitVec.ofNat 64 n)):=by rw[kL,BitVec.ofInt_natCast]
 simp only[F.f112,nR,hc,aC];refine S.f66 hE _ (by rw[e1];omega) ?_
 rw[e1];have hl:bitsLen n<=31:=by rw[bitsLen_le_iff];exact hsz
 exact S.f126 hE hS he hC n hg hn hsz 0 n (Nat.zero_le _) (Nat.le_refl _) _ (by omega) (.inl rfl) (by omega) hQ
end
end
section
theorem aGi{E:Sy}(hE:aX E)(m:Nat)(hm:m<2 ^ 31):kI E m:=λhg hmd hQ=>S.f112 hE aHs aBp (aCY hE) hg rfl (by omega) hQ
end
section
set_option maxRecDepth 20000
section
variable {E:Sy}{H H' H0 Z Z2:AH}{Q:Value->AH->Prop}{L L' L2 X:List Res}{tb:Nat}{s:Option Nat}
theorem Has.merge(h:Has H0 Z H L)(g:Has H Z2 H' L2):Has H0 Z H' (L++L2):=by
 have k:=h.grow g.ext;refine⟨k.ext,k.sub,λr hr =>?_,?_⟩
 ·rcases List.mem_append.1 hr with hr | hr
  ·exact k.all r hr
  ·obtain⟨h1,h2⟩:=g.all r hr
   exact⟨h1,λb hb=>⟨Nat.le_trans h.ext.1 (h2 b hb).1,(h2 b hb).2.1,AH.get_ge _ (Nat.le_trans h.sub.1 (h2 b hb).1)⟩⟩
 ·rw[List.flatMap_append,List.nodup_append]
  refine⟨h.nd,g.nd,λa ha b hb =>?_⟩;obtain⟨y,hy,ha⟩:=List.mem_flatMap.1 ha;obtain⟨z,hz,hb⟩:=List.mem_flatMap.1 hb;have:=((h.all y hy).2 a ha).2.1;have:=((g.all z hz).2 b hb).1;omega
theorem Has.tbl(h:Has H0 Z H L){k:Nat}(hk:L[k]? = some (cR tb s)):uZ Z H tb s :=
 ⟨h.sub,h.get hk,λb hb=>((h.all _ (List.mem_of_getElem? hk)).2 b hb).2.2⟩
end
end
section
set_option maxRecDepth 20000
theorem aGW(s:eR){rs:List dI}(h1:rs.length<=64)(h2:∀ x∈rs,x.conds.length<=4):iL.soon { s.pol with pol:=⟨s.pol.pol.default,rs⟩ } where
 rules:=by show rs.length<_;omega
 conds:=λr hr=>by have:=h2 r hr;omega
 paths:=by have:=aAG s s.paths.length;show(s.pathsTo s.paths.length).length<_;omega
 names:=λp hp=>by
  have h3:∀ x∈tE,x.length<2 ^ 40:=by decide
  exact h3 _ ((qW s _).2 _ (List.mem_map_of_mem hp))
 ports:=by have:=aAH s s.ports.length;show(s.portsTo s.ports.length).length<_;omega
section
variable {E:Sy}{H H' H0 Z:AH}{Q:Value->AH->Prop}{tb:Nat}
theorem Has.newtbl{L:List Res}(h:Has H0 Z H L)(q:Value):Has H0 Z (H.new (.cells (iM 0 0 q (.map none) (.map none) 0 0) none)) (L++[cR H.next none]) :=
 h.add _ ((Ext.refl H).new _) ⟨q,0,0,AH.get_new_self _ _⟩ (λb hb=>by
  obtain rfl:b=H.next:=by simpa[cR] using hb
  exact⟨Nat.le_refl _,Nat.lt_succ_self _⟩) (by simp[cR])
theorem S.f72(hE:aX E)(hQ:Q (ptr H.next 0) (H.new (.cells (iM 0 0 (.int .u32 0) (.map none) (.map none) 0 0) none))):E.call 6 [] H Q:=by
 apply hE.f72;have hbv2:aK [(0,3),(3,1),(4,1),(5,1),(6,1)] #[(.int .u32 0),(.int .i32 0),(.int .u32 0),(.map none),(.map none),vi 0,vi 0] []=some (.agg (iM 0 0 (.int .u32 0) (.map none) (.map none) 0 0).toArray):=rfl;simp only[F.f72,hbv2,aV,AM.aQ,aR,List.toList_toArray,aC];exact hQ
end
end
section
set_option maxRecDepth 20000
section
variable {E:Sy}{H H' H0 Z:AH}{Q:Value->AH->Prop}{X:List Res}{X0:List Value->AH->Prop}
theorem aMG(hE:aX E)(hSC:kI E 80)(hSR:jP E 80){x:iL}{cs:List Value}(hx:eS Z x cs)(hpl:x.pol.rules.length<=64)(hc6:∀ r∈x.pol.rules,r.conds.length<=6){fb t11 k:Nat}{c:List bM}(hok:iQ c)(hlen:c.length<=4096){lv w t2 t3 t9 t41 t42:Value}{l:List aN}(hro:∀ r∈l,r.ok)(hll:l.length<2 ^ 40)(hkk:k<2 ^ 40)(hw:lenSlc w=some (vi (c.length:Int)))(hrun:∀ ns,pE x.pol ns->∀ r∈l,hO r c.length c 0#32=iS (eA x.pol ns) r)(hsay:∀ r∈l,hO r c.length c 0#32=yY x.pol r)(hb:∀ ns,pE x.pol ns->(eA x.pol ns).cases.length<2 ^ 60/\∀ c∈(eA x.pol ns).cases,c.branches.length<2 ^ 30)(h:Fil H0 Z H fb c (aY 9 lv (fD l) :: bF t11 cs :: X))(hQ:∀ H',Fil H0 Z H' fb c (aY 9 lv (fD l) :: bF t11 cs :: X)->X0 [t2,t3,t9,t41,t42,vi ((k+1:Nat):Int)] H'):
  aOj (F.f87_l2 E Q X0) [t2,t3,t9,ptr t11 0,ptr fb 0,w,lv,t41,t42,vi k,lv,vi l.length,vi ((0:Nat):Int)] H:=by
 obtain⟨h6,_⟩:=nB hx;have hz:([(.int .u32 0),(.int .u32 0),(.int .u64 0),(.int .u64 0),(.int .u64 0),(.int .u64 0),(.int .u64 0),(.int .u64 0),(.int .u64 0)]:List Value)=mJ.cells:=rfl;refine aZ.count l.length (λn ls H'=>ls=[t2,t3,t9,ptr t11 0,ptr fb 0,w,lv,t41,t42,vi k,lv,vi l.length,vi n]/\Fil H0 Z H' fb c (aY 9 lv (fD l) :: bF t11 cs :: X)) ?_ ⟨rfl,h⟩;rintro n _ H5 X5 hn ih ⟨rfl,g⟩
 have hb11:∀ {K:AH} {Y:List Res},Fil H0 Z K fb c (aY 9 lv (fD l) :: bF t11 cs :: Y)->aE 6 (ptr t11 0) K=some (.agg cs.toArray):=λgg=>by
  have:_:=gg.mem (r:=bF t11 cs) (by simp)
  rw[aJ,show AH.get _ t11 = .cells cs none from this,cH _ _ 6 h6];rfl
 have hpz:∀ {K:AH} {Y:List Res},Fil H0 Z K fb c Y->sB K x.pol cs:=λgg=>by
  obtain⟨_,_,_,gg⟩:=gg;exact(hx.sub' gg.sub).at_ (by omega)
 rcases Nat.lt_or_ge n l.length with hlt | hge
 rotate_left
 ·have hlt':decide ((n:Int)<l.length)=false:=decide_eq_false (by omega)
  simp only[F.f87_l2,aF,hlt',hb11 g,aC];refine S.f10 hE hSC hSR x.pol (hpz g) h6 (by omega) (λr hr=>by have:=hc6 r hr;omega) hok hlen hro hll g hrun hb λH6 g6 =>?_
  have st:aH 9 (ptr H6.next 0) mJ.v (H6.new (.cells mJ.cells none))=some (H6.new (.cells mJ.cells none)):=zI (show mJ.ok from rfl) H6;have e6:=g6.grow ((Ext.refl H6).new (.cells mJ.cells none));have hinc:=bE (i:=k) (by omega)
  simp only[aW,hz,st,hinc,aC];exact hQ _ e6
 have hlt':decide ((n:Int)<l.length)=true:=decide_eq_true (by omega)
 have hgr5:dJ zH H5 9 lv (fD l):=g.mem (r:=aY 9 lv (fD l)) (by simp)
 obtain⟨b,o,f1,f2⟩:=aHT hgr5.toRows hlt;have lo:=f2 _ (Ext.refl _);have hr:=hro l[n] (List.getElem_mem hlt);have hsay:=hsay l[n] (List.getElem_mem hlt);have ih:=ih hlt;generalize l[n]=r at *;have hst:=zI hr H5;have hlo2:aE 9 (ptr H5.next 0) (H5.new (.cells r.cells none))=some r.v:=lY (dB hr);have g1:=g.newbox r.cells;have hinc:=bE (i:=n) (by omega)
 simp only[F.f87_l2,aF,hlt',f1,lo,aW,hst,hlo2,aC];generalize H5.new (.cells r.cells none)=H6 at *;generalize H5.next=t at *;refine S.f144 hE hr hok hlen g1 λm H7 hm g2 =>?_;have hbt:H7.get t = .cells r.cells none:=g2.mem (r:=bF t r.cells) (by simp)
 have lot:aE 9 (ptr t 0) H7=some r.v:=by rw[aJ,hbt,cH _ _ 9 (dB hr)];rfl
 simp only[hb11 (Y:=X++[bF t r.cells]) g2,lot,aC];refine S.f71 hE x.pol cs (hpz g2) r hr λH8 e8 =>?_;have g3:=g2.grow e8;have hd:decide (hO r c.length c 0#32≠yY x.pol r)=false:=decide_eq_false (λk=>k hsay);have hd2:decide ((c.length:Int)<(m:Int))=false:=decide_eq_false (by omega)
 simp only[yK,hd,hw,cI,hd2,hinc,aC];exact ih _ _ ⟨rfl,g3.dropLast⟩
end
end
section
set_option maxRecDepth 20000
theorem aKi{x:iL}(h:x.few)(hn:∀ p∈x.paths,p.1.length<=200):x.soon :=
 ⟨by have:=h.1;omega,λr hr=>by have:=h.2.1 r hr;omega,by have:=h.2.2.1;omega,λp hp=>by have:=hn p hp;omega,by have:=h.2.2.2;omega⟩
theorem aN6:∀ {a b:List (BitVec 32)},(a.Pairwise λx y=>x.toNat<y.toNat)->(b.Pairwise λx y=>x.toNat<y.toNat)->(∀ n,n∈a↔n∈b)->a=b
 | [],[],_,_,_=>rfl
 | [],y :: b,_,_,h=>by have:=(h y).2 (List.mem_cons_self ..);cases this
 | x :: a,[],_,_,h=>by have:=(h x).1 (List.mem_cons_self ..);cases this
 | x :: a,y :: b,ha,hb,h=>by
  obtain⟨a1,a2⟩:=List.pairwise_cons.1 ha;obtain⟨b1,b2⟩:=List.pairwise_cons.1 hb
  have e:x=y:=by
   rcases List.mem_cons.1 ((h x).1 (List.mem_cons_self ..)) with e | e
   ·exact e
   rcases List.mem_cons.1 ((h y).2 (List.mem_cons_self ..)) with e' | e'
   ·exact e'.symm
   have:=b1 x e;have:=a1 y e';omega
  subst e;rw[aN6 a2 b2 λn=>⟨λhn =>?_,λhn =>?_⟩]
  ·rcases List.mem_cons.1 ((h n).1 (List.mem_cons_of_mem _ hn)) with e | e
   ·subst e;have:=a1 n hn;omega
   ·exact e
  ·rcases List.mem_cons.1 ((h n).2 (List.mem_cons_of_mem _ hn)) with e | e
   ·subst e;have:=b1 n hn;omega
   ·exact e
theorem pE.one{p:jS}{a b:List (BitVec 32)}(ha:pE p a)(hb:pE p b):a=b:=aN6 ha.up hb.up λn=>(ha.mem n).trans (hb.mem n).symm
end
section
set_option maxRecDepth 20000
section
variable {E:Sy}{H H' H0 Z:AH}{Q:Value->AH->Prop}{X:List Res}{X0:List Value->AH->Prop}{tb:Nat}{s:Option Nat}
theorem aCI(hE:aX E)(hSC:kI E 80)(hSR:jP E 80){x:iL}{cs:List Value}(hx:eS Z x cs)(hs:x.soon){k:Nat}(hk:k<2){t2 t3 t41 p:Value}(h0:fM x≠0)(h:Has H0 Z H [cR tb s])(hix:aI 6 t41 (vi k)=some p)(hld:aE 6 p H=some (.agg cs.toArray))(hQ:∀ s' H',Has H0 Z H' [cR tb s']->X0 [t2,t3,ptr tb 0,t41,vi 2,vi ((k+1:Nat):Int)] H'):
  F.f87_l1 E Q t2 t3 (ptr tb 0) t41 (vi 2) (vi k) H X0:=by
 obtain⟨h6,hp6⟩:=nB hx;have hlt':decide ((k:Int)<2)=true:=decide_eq_true (by omega)
 have st:aH 6 (ptr H.next 0) (.agg cs.toArray) (H.new (.cells [(.string ⟨#[]⟩),(.int .u32 0),(.slice none 0 0),(.int .u16 0),(.slice none 0 0),(.slice none 0 0)] none))=some (H.new (.cells cs none)):=fL (n:=6) rfl h6 hp6;have g1:=h.newbox cs
 have lo:∀ {K:AH} {s':Option Nat},Has H0 Z K [cR tb s',bF H.next cs]->aE 6 (ptr H.next 0) K=some (.agg cs.toArray):=λgg=>by
  rw[aJ,gg.box (k:=1) (b:=H.next) (c:=cs) rfl,cH _ _ 6 h6];rfl
 have g1:Has H0 Z (H.new (.cells cs none)) [cR tb s,bF H.next cs]:=g1;simp only[F.f87_l1,aF,hlt',hix,hld,aW,st,lo g1,aC];generalize H.new (.cells cs none)=H1 at *;generalize H.next=t at *;have z0:(.int .i64 0:Value)=vi 0:=rfl;refine S.f12 hE hSC hSR (g1.tbl (k:=0) rfl) x hx hs λs1 H2 H3 u1 e1=>⟨λ_ =>?_,λk=>absurd k h0⟩;have g2:Has H0 Z H3 [cR tb s1,bF t cs]:=(g1.step (k:=0) rfl u1).grow e1;simp only[lo g2,aC];refine S.f13 hE hSC hSR (g2.tbl (k:=0) rfl) x hx hs λs2 H4 u2=>⟨λ_ =>?_,λk=>absurd k h0⟩;have g3:Has H0 Z H4 [cR tb s2,bF t cs]:=g2.step (k:=0) rfl u2;simp only[lo g3,aC];refine S.f15 hE hSC hSR (g3.tbl (k:=0) rfl) x hx hs λs3 H5 u3=>⟨λ_ =>?_,λk=>absurd k h0⟩;have g4:Has H0 Z H5 [cR tb s3,bF t cs]:=g3.step (k:=0) rfl u3;simp only[lo g4,aC];refine S.f91 hE (g4.tbl (k:=0) rfl) x hx hs λs4 H6 u4 =>?_;have g5:Has H0 Z H6 [cR tb s4,bF t cs]:=g4.step (k:=0) rfl u4;have d1:decide (fM x≠0)=true:=decide_eq_true h0;have d2:decide (fM x≠fM x)=false:=decide_eq_false (λk=>k rfl);have n1:eW iU .neq (.pointer none) (.pointer none)=some (vb false):=rfl;have l0:lenSlc bY=some (vi 0):=rfl;have a0:aA .add (vi 0) (vi 0)=some (vi 0):=rfl;have c0:decide ((0:Int)<0)=false:=rfl;have hinc:=bE (i:=k) (by omega)
 simp only[z0,eG,d1,d2,n1,l0,a0,cI,c0,hinc,aC];exact hQ _ _ (g5.drop 1)
end
end
section
set_option maxRecDepth 20000
section
variable {E:Sy}{H H' H0 Z:AH}{Q:Value->AH->Prop}{tb:Nat}{s:Option Nat}
theorem aAc{sz:Nat}{v:Value}{rows:List (List Value)}{F:List Nat}(h:Rows H sz v rows)(o:dU F H H')(hb:∀ b,blk v=some b->b ∉ F):Rows H' sz v rows:=by
 refine⟨h.len,?_⟩;rcases h.at_ with h | ⟨b,o',c,h1,h2,h3,h4⟩
 ·exact .inl h
 ·have:=o.get (AH.lt_of_get (iD h4)) (hb b (by rw[h1];rfl))
  exact .inr ⟨b,o',c,h1,h2,by rw[this];exact h3,by rw[this];exact h4⟩
theorem aFn{d s:Int}{q m1 a m:Value}{k:Option Nat}{o:Nat}{y:bM}(h:(cT.cells [.int .u32 d,.int .i32 s,q,m1,.map k,a,m] none).row o 4=some y.cells):False:=by
 have h:(if o+4<=7 then some ((([.int .u32 d,.int .i32 s,q,m1,.map k,a,m]:List Value).drop o).take 4) else none)=some y.cells:=h
 by_cases hl:o+4<=7
 rotate_left
 ·rw[if_neg hl]at h;cases h
 rw[if_pos hl]at h;rcases(show o=0\/o=1\/o=2\/o=3 by omega) with rfl | rfl | rfl | rfl<;>· simp[bM.cells,u16,u8,u32]at h
theorem qX{w:Value}{c:List bM}(ht:(cR tb s).P H)(h:Rows H 4 w (bV c))(hc:c≠[]):∀ b,blk w=some b->b ∉ (cR tb s).fp:=by
 intro b hb hm;cases c with
 | nil=>exact hc rfl
 | cons y c =>
  rcases h.at_ with ⟨h1,_⟩ | ⟨b',o,k,rfl,h2,h3,h4⟩
  ·cases h1
  obtain rfl:b'=b:=by simpa[slc,blk] using hb
  have h5:(H.get b').row (o+0) 4=some (((bV (y :: c)).flatten.drop 0).take 4):=xR h4 (by simp[bV];omega)
  have h6:((bV (y :: c)).flatten.drop 0).take 4=y.cells:=rfl;rw[h6,Nat.add_zero]at h5;cases s with
  | none =>
   obtain⟨q,a,m,g⟩:=ht;obtain rfl:b'=tb:=by simpa[cR] using hm
   rw[g]at h5;exact aFn h5
  | some r =>
   obtain⟨_,g1,q,m1,a,m,g⟩:=ht;have hm:b'=tb\/b'=r:=by simpa[cR] using hm
   rcases hm with rfl | rfl
   ·rw[g]at h5
    exact aFn h5
   ·obtain⟨es,nx,hg,_⟩:=g1
    rw[hg]at h5;cases h5
end
end
section
set_option maxRecDepth 20000
theorem aCx{b:aN}(h:b.ok)(c:bA):∀ r∈dH b c,r.ok:=by
 intro r hr;unfold dH at hr
 split at hr
 ·obtain⟨n,_,rfl⟩:=List.mem_map.1 hr
  exact setArg_ok h _ _
 ·cases hr
theorem aEf(p:jS):∀ r∈nG p,r.ok:=by
 intro r hr;unfold nG at hr;rcases List.mem_append.1 hr with hr | hr
 ·simp only[List.mem_cons,List.not_mem_nil,or_false]at hr
  rcases hr with rfl | rfl<;>rfl
 ·obtain⟨x,_,hr⟩:=List.mem_flatMap.1 hr
  rcases List.mem_cons.1 hr with rfl | hr
  ·exact aHS x
  ·obtain⟨c,_,hr⟩:=List.mem_flatMap.1 hr
   exact aCx (aHS x) c r hr
theorem aDE{α β:Type}(f:α->List β)(k:Nat):∀ l:List α,(∀ x∈l,(f x).length<=k)->(l.flatMap f).length<=l.length*k
 | [],_=>by simp
 | x :: l,h=>by
  have h1:=h x (List.mem_cons_self ..);have h2:=aDE f k l λy hy=>h y (List.mem_cons_of_mem _ hy);rw[List.flatMap_cons,List.length_append,List.length_cons,Nat.succ_mul];omega
theorem aIr{p:jS}(h1:p.rules.length<=64)(h2:∀ r∈p.rules,r.conds.length<=6):(nG p).length<=2000:=by
 have h3:(p.rules.flatMap fW).length<=p.rules.length*31:=aDE _ 31 _ λx hx=>by
  have h4:=aDE (dH (mI x)) 5 x.conds λc _=>vF _ c;have h5:=h2 x hx;unfold fW;rw[List.length_cons];omega
 unfold nG;rw[List.length_append];simp only[List.length_cons,List.length_nil];omega
theorem aMB(l:List aN):∀ r∈fD l,r.all plain1=true:=by
 intro r hr;obtain⟨x,_,rfl⟩:=List.mem_map.1 hr;simp[aN.cells,u32,u64]
section
variable {E:Sy}{H H' H0 Z:AH}{Q:Value->AH->Prop}{X0:List Value->AH->Prop}{tb:Nat}{s:Option Nat}
theorem aDo(hE:aX E)(hSC:kI E 80)(hSR:jP E 80){x:iL}{cs:List Value}(hx:eS Z x cs)(h0:fM x=0){fb t k:Nat}(hkk:k<2){c:List bM}(hok:iQ c)(hlen:c.length<=4096){w t2 t3 t41 t42 lv:Value}{n1 n2:Int}(hw:lenSlc w=some (vi (c.length:Int))){rl:List aN}(hl:Rows H0 9 t2 (rl.map aN.cells))(hrl:∀ r∈rl,aN.ok r)(hl20:rl.length<=20){ks:List (BitVec 8)}(hks:iT H0 t3 (ks.map u8))(hkn:ks.length<2 ^ 63){ns:List (BitVec 32)}(hns:pE x.pol ns)(hrun:∀ r,r.ok->hO r c.length c 0#32=iS (eA x.pol ns) r)(h:Has H0 Z H [cR tb s,bF t cs,bF fb [lv,vi n1,vi n2],aY 4 lv (bV c)])(hQ:∀ H',Has H0 Z H' [cR tb s]->X0 [t2,t3,ptr tb 0,t41,t42,vi ((k+1:Nat):Int)] H'):
  E.call 9 [.agg cs.toArray,t2,t3] H λv80 H48 =>
   aE 6 (ptr t 0) H48=aE 6 (ptr t 0) H/\E.call 17 [.agg cs.toArray] H48 λv81 H49 =>
   gN (AM.app 9 64 v80 v81 H49) λv82 H50=>opt (lenSlc v82) λv83 =>
   aOj (F.f87_l2 E Q X0) [t2,t3,ptr tb 0,ptr t 0,ptr fb 0,w,v82,t41,t42,vi k,v82,v83,vi ((0:Nat):Int)] H50:=by
 obtain⟨p1,p2,p3⟩:=sX h0;obtain⟨h6,_⟩:=nB hx
 have lo:∀ {K:AH},Ext H K->aE 6 (ptr t 0) K=some (.agg cs.toArray):=λe=>by
  rw[aJ,e.cells (h.box (k:=1) (b:=t) (c:=cs) rfl),cH _ _ 6 h6];rfl
 refine aIB hE x.pol cs ((hx.sub' h.sub).at_ (by omega)) rl t2 (hl.mono h.ext) hrl hl20 ks t3 (hks.mono h.ext) hkn λrv H2 l' e2 ⟨_,hg⟩ hfr hok' hl50 =>?_
 refine⟨(lo e2).trans (lo (Ext.refl _)).symm,?_⟩
 have g2:=h.add (aY 9 rv (l'.map aN.cells)) e2 hg.toZ (λb hb=>by
  have hb':blk rv=some b:=gW.1 hb;exact⟨hfr b hb',hg.toZ.blk_lt hb'⟩) (wN rv)
 refine S.f11 hE x.pol cs ((hx.sub' g2.sub).at_ (by omega)) (by omega) (λr hr=>by have:=p2 r hr;omega) λew H3 e3 hew hfe =>?_
 have g3:=g2.grow e3;have he:=aIr p1 p2;have hrr:∀ l:List aN,(fD l).length=l.length:=λl=>by simp[fD]
 obtain⟨v',H4,a1,a2,g4⟩:=g3.app (k:=4) (sz:=9) (v:=rv) (rows:=fD l') (bytes:=64) rfl hew.toRows (aMB _) (by decide) (by decide) (by rw[hrr,hrr];omega) (by rw[hrr,hrr];omega)
 have hap:fD l'++fD (nG x.pol)=fD (l'++nG x.pol):=by simp[fD]
 rw[hap]at g4;have hL:(l'++nG x.pol).length<=2050:=by rw[List.length_append];omega
 have hro:∀ r∈l'++nG x.pol,r.ok:=λr hr=>(List.mem_append.1 hr).elim (hok' r) (aEf x.pol r);generalize l'++nG x.pol=L at *;have g4:Has H0 Z H4 [cR tb s,bF t cs,bF fb [lv,vi n1,vi n2],aY 4 lv (bV c),aY 9 v' (fD L)]:=g4;have hvl:=(g4.rows (k:=4) (sz:=9) (v:=v') (rows:=fD L) rfl).lenSlc;rw[hrr]at hvl;have ho2:∀ (K:Value->AH->Prop),gN (some (v',H4)) K=K v' H4:=λ_=>rfl;rw[a1,ho2,hvl,aP]
 have hf:Fil H0 Z H4 fb c (aY 9 v' (fD L) :: bF t cs :: [cR tb s]):=by
  refine⟨lv,n1,n2,g4.perm ?_⟩;generalize cR tb s=a;generalize bF t cs=b;generalize bF fb [lv,vi n1,vi n2]=d;generalize aY 4 lv (bV c)=e;generalize aY 9 v' (fD L)=f;refine List.Perm.trans (l₂:=[d,e,f]++[a,b]) (List.perm_append_comm (l₁:=[a,b]) (l₂:=[d,e,f])) ?_;exact List.Perm.append_left [d,e,f] (List.perm_append_comm (l₁:=[a]) (l₂:=[b]))
 refine aMG hE hSC hSR hx p1 p2 hok hlen hro (by omega) (by omega) hw (λns' hns' r hr=>by obtain rfl:=hns'.one hns;exact hrun r (hro r hr)) (λr hr=>(hrun r (hro r hr)).trans (aE5 _ _ hns r)) (λns' hns'=>⟨?_,λc hc =>?_⟩) hf λH' g =>?_
 ·have:=hns'.len
  show(ns'.map (rC x.pol)).length<_
  rw[List.length_map];omega
 ·have:=vG c hc;omega
 ·obtain⟨_,_,_,g⟩:=g
  exact hQ H' ((((g.drop 0).drop 0).drop 0).drop 0)
end
end
section
set_option maxRecDepth 20000
section
variable {E:Sy}{H H' H0 Z:AH}{Q:Value->AH->Prop}{X0:List Value->AH->Prop}{tb:Nat}{s:Option Nat}
theorem aH5(hE:aX E)(hSC:kI E 80)(hSR:jP E 80){x:iL}{cs:List Value}(hx:eS Z x cs)(hs:x.soon){k:Nat}(hk:k<2){t2 t3 t41 p:Value}{rl:List aN}(hl:Rows H0 9 t2 (rl.map aN.cells))(hrl:∀ r∈rl,aN.ok r)(hl20:rl.length<=20){ks:List (BitVec 8)}(hks:iT H0 t3 (ks.map u8))(hkn:ks.length<2 ^ 63)(h:Has H0 Z H [cR tb s])(hix:aI 6 t41 (vi k)=some p)(hld:aE 6 p H=some (.agg cs.toArray))(hQ:∀ s' H',Has H0 Z H' [cR tb s']->X0 [t2,t3,ptr tb 0,t41,vi 2,vi ((k+1:Nat):Int)] H'):
  F.f87_l1 E Q t2 t3 (ptr tb 0) t41 (vi 2) (vi k) H X0:=by
 by_cases h0:fM x=0
 rotate_left
 ·exact aCI hE hSC hSR hx hs hk h0 h hix hld hQ
 obtain⟨h6,hp6⟩:=nB hx;obtain⟨p1,p2,p3⟩:=sX h0;have hlt':decide ((k:Int)<2)=true:=decide_eq_true (by omega)
 have st:aH 6 (ptr H.next 0) (.agg cs.toArray) (H.new (.cells [(.string ⟨#[]⟩),(.int .u32 0),(.slice none 0 0),(.int .u16 0),(.slice none 0 0),(.slice none 0 0)] none))=some (H.new (.cells cs none)):=fL (n:=6) rfl h6 hp6;have g1:=h.newbox cs
 have lo:∀ {t:Nat} {K:AH} {s':Option Nat} {Y:List Res},Has H0 Z K (cR tb s' :: bF t cs :: Y)->aE 6 (ptr t 0) K=some (.agg cs.toArray):=fun {t K s' Y} gg=>by
  rw[aJ,gg.box (k:=1) (b:=t) (c:=cs) rfl,cH _ _ 6 h6];rfl
 have g1:Has H0 Z (H.new (.cells cs none)) [cR tb s,bF H.next cs]:=g1;simp only[F.f87_l1,aF,hlt',hix,hld,aW,st,lo g1,aC];generalize H.new (.cells cs none)=H1 at *;generalize H.next=t at *;have z0:(.int .i64 0:Value)=vi 0:=rfl;have z205:(.int .i64 205:Value)=vi 205:=rfl;refine S.f12 hE hSC hSR (g1.tbl (k:=0) rfl) x hx hs λs1 H2 H3 u1 e1=>⟨λk=>absurd h0 k,λ_ ns hns=>⟨λe he =>?_,λc fb hc gf =>?_⟩⟩
 ·have hup:=xI hns
  have hin:=aA1 p3 ns;obtain rfl:e=205:=(aAZ _ hup hin).1 e he;have g2:Has H0 Z H3 [cR tb s1,bF t cs]:=(g1.step (k:=0) rfl u1).grow e1;simp only[lo g2,aC];refine S.f13 hE hSC hSR (g2.tbl (k:=0) rfl) x hx hs λs2 H4 u2=>⟨λk=>absurd h0 k,λ_ ns2 hns2=>⟨λe2 he2 =>?_,λc w hc _ =>?_⟩⟩
  rotate_left
  ·obtain rfl:=hns2.one hns
   rw[he]at hc;cases hc
  obtain rfl:=hns2.one hns;rw[he]at he2;cases he2;have g3:Has H0 Z H4 [cR tb s2,bF t cs]:=g2.step (k:=0) rfl u2;simp only[lo g3,aC];refine S.f15 hE hSC hSR (g3.tbl (k:=0) rfl) x hx hs λs3 H5 u3=>⟨λk=>absurd h0 k,λ_ ns3 hns3=>⟨λe3 he3 =>?_,λq w hq _ =>?_⟩⟩
  rotate_left
  ·obtain rfl:=hns3.one hns
   obtain⟨e',he'⟩:=aM4 _ he;rw[he']at hq;cases hq
  obtain rfl:=hns3.one hns;obtain rfl:e3=205:=aHG _ hup e3 he3;have g4:Has H0 Z H5 [cR tb s3,bF t cs]:=g3.step (k:=0) rfl u3;simp only[lo g4,aC];refine S.f91 hE (g4.tbl (k:=0) rfl) x hx hs λs4 H6 u4 =>?_;have g5:Has H0 Z H6 [cR tb s4,bF t cs]:=g4.step (k:=0) rfl u4;have d1:decide ((0:Int)≠0)=false:=rfl;have d2:decide ((205:Int)≠0)=true:=rfl;have d3:decide ((205:Int)≠205)=false:=rfl;have hinc:=bE (i:=k) (by omega)
  rw[h0];simp only[z0,z205,eG,d1,d2,d3,hinc,aC];exact hQ _ _ (g5.drop 1)
 have hup:=xI hns;have hin:=aA1 p3 ns;obtain⟨o1,o2,o3,orun⟩:=(aAZ _ hup hin).2.1 c hc;obtain⟨lv,n1,n2,gf⟩:=gf;have g2:=(g1.step (k:=0) rfl u1).merge gf
 let L:Option Nat->List Res:=λs'=>[cR tb s',bF t cs,bF fb [lv,vi n1,vi n2],aY 4 lv (bV c)]
 have g2:Has H0 Z H3 (L s1):=g2;simp only[lo g2,aC];refine S.f13 hE hSC hSR (g2.tbl (k:=0) rfl) x hx hs λs2 H4 u2=>⟨λk=>absurd h0 k,λ_ ns2 hns2=>⟨λe2 he2 =>?_,λc' w hc' hw4 =>?_⟩⟩
 ·obtain rfl:=hns2.one hns
  rw[hc]at he2;cases he2
 obtain rfl:=hns2.one hns;rw[hc]at hc';cases hc';have g3:Has H0 Z H4 (L s2):=g2.step (k:=0) rfl u2;have hcn:c≠[]:=λk=>by subst k;exact absurd o2.1 (by decide)
 have hlw:=hw4.lenSlc;rw[show(bV c).length=c.length by simp[bV]]at hlw
 simp only[lo g3,aC];refine S.f15 hE hSC hSR (g3.tbl (k:=0) rfl) x hx hs λs3 H5 u3=>⟨λk=>absurd h0 k,λ_ ns3 hns3 =>?_⟩;obtain rfl:=hns3.one hns;have g4:Has H0 Z H5 (L s3):=g3.step (k:=0) rfl u3;have hw5:=aAc hw4 u3.only (qX (g3.tbl (k:=0) rfl).tab hw4 hcn);refine⟨λe3 he3 =>?_,λq wq hq hwq =>?_⟩
 ·obtain rfl:e3=205:=aHG _ hup e3 he3
  simp only[lo g4,aC];refine S.f91 hE (g4.tbl (k:=0) rfl) x hx hs λs4 H6 u4 =>?_;have g5:Has H0 Z H6 (L s4):=g4.step (k:=0) rfl u4;have hw6:=aAc hw5 u4.only (qX (g4.tbl (k:=0) rfl).tab hw5 hcn);have hb:=g5.box (k:=2) (b:=fb) (c:=[lv,vi n1,vi n2]) rfl;have hl6:=(g5.rows (k:=3) (sz:=4) (v:=lv) (rows:=bV c) rfl).lenSlc;rw[show(bV c).length=c.length by simp[bV]]at hl6
  have q1:decide ((0:Int)≠0)=false:=rfl;have q2:decide ((c.length:Int)≠(c.length:Int))=false:=decide_eq_false (λk=>k rfl);rw[h0];have q3:decide ((205:Int)=0)=false:=rfl;have q4:decide ((205:Int)≠0)=true:=rfl;have q5:decide ((205:Int)≠205)=false:=rfl;simp only[z0,z205,eG,cZ,hlw,q1,q2,q3,q4,q5,aC];apply hE.f143;simp only[F.f143,iC,hb,hl6,eG,cZ,hlw,q1,q2,q3,q4,q5,aC];refine S.f0 hE hw6 o1 o2 o3 λH7 e7 =>?_;have st2:aH 2 (ptr H7.next 0) (.agg #[vi 0,vi 0]) (H7.new (.cells [vi 0,vi 0] none))=some (H7.new (.cells [vi 0,vi 0] none)):=fL (n:=2) rfl rfl rfl;have l2:aE 2 (ptr H7.next 0) (H7.new (.cells [vi 0,vi 0] none))=some (.agg #[vi 0,vi 0]):=lY (c:=[vi 0,vi 0]) rfl;have hbv0:aK [(0,1),(1,1)] #[vi 0,vi 0] []=some (.agg #[vi 0,vi 0]):=rfl;have hne:iE [0,0] .neq (.agg #[vi 0,vi 0]) (.agg #[vi 0,vi 0])=some (vb false):=rfl;have g7:Has H0 Z (H7.new (.cells [vi 0,vi 0] none)) (L s4):=g5.grow (e7.trans ((Ext.refl _).new _));simp only[z0,aW,st2,l2,hbv0,hne,lo g7,aC];exact aDo hE hSC hSR hx h0 hk o1 o3 hlw hl hrl hl20 hks hkn hns orun g7 λH' g=>hQ _ H' g
 ·have hle:=aJC _ hc hq
  simp only[lo g4,aC];refine S.f91 hE (g4.tbl (k:=0) rfl) x hx hs λs4 H6 u4 =>?_;have g5:Has H0 Z H6 (L s4):=g4.step (k:=0) rfl u4;have hw6:=aAc hw5 u4.only (qX (g4.tbl (k:=0) rfl).tab hw5 hcn);have hb:=g5.box (k:=2) (b:=fb) (c:=[lv,vi n1,vi n2]) rfl;have hl6:=(g5.rows (k:=3) (sz:=4) (v:=lv) (rows:=bV c) rfl).lenSlc;rw[show(bV c).length=c.length by simp[bV]]at hl6
  have q1:decide ((0:Int)≠0)=false:=rfl;have q2:decide ((c.length:Int)≠(c.length:Int))=false:=decide_eq_false (λk=>k rfl);rw[h0];have q3:decide ((0:Int)=0)=true:=rfl;have q4:decide ((q.out.length:Int)<(c.length:Int))=false:=decide_eq_false (by omega)
  have hlq:=hwq.lenSlc;rw[show(bV q.out).length=q.out.length by simp[bV]]at hlq
  simp only[z0,z205,eG,cZ,hlw,q1,q2,q3,q4,hlq,aF,decide_true,aC];apply hE.f143;simp only[F.f143,iC,hb,hl6,eG,cZ,hlw,q1,q2,q3,q4,hlq,aF,decide_true,aC];refine S.f0 hE hw6 o1 o2 o3 λH7 e7 =>?_;have st2:aH 2 (ptr H7.next 0) (.agg #[vi 0,vi 0]) (H7.new (.cells [vi 0,vi 0] none))=some (H7.new (.cells [vi 0,vi 0] none)):=fL (n:=2) rfl rfl rfl;have l2:aE 2 (ptr H7.next 0) (H7.new (.cells [vi 0,vi 0] none))=some (.agg #[vi 0,vi 0]):=lY (c:=[vi 0,vi 0]) rfl;have hbv0:aK [(0,1),(1,1)] #[vi 0,vi 0] []=some (.agg #[vi 0,vi 0]):=rfl;have hne:iE [0,0] .neq (.agg #[vi 0,vi 0]) (.agg #[vi 0,vi 0])=some (vb false):=rfl;have g7:Has H0 Z (H7.new (.cells [vi 0,vi 0] none)) (L s4):=g5.grow (e7.trans ((Ext.refl _).new _));simp only[z0,aW,st2,l2,hbv0,hne,lo g7,aC];exact aDo hE hSC hSR hx h0 hk o1 o3 hlw hl hrl hl20 hks hkn hns orun g7 λH' g=>hQ _ H' g
end
end
section
set_option maxRecDepth 20000
variable {E:Sy}{H H' H0 Z:AH}{Q:Value->AH->Prop}
theorem S.law_CompileSays(hE:aX E)(args:List Value)(ha:lT H [aHM,aAX,.slice 9 aEU,.slice 1 (.int .u8)] args)(hQ:∀ H',Q (vb true) H'):E.call 4 args H Q:=by
 obtain⟨v1,_,rfl,h1,ha⟩:=ha.cons_inv;obtain⟨v2,_,rfl,h2,ha⟩:=ha.cons_inv;obtain⟨v3,_,rfl,h3,ha⟩:=ha.cons_inv;obtain⟨v4,_,rfl,h4,ha⟩:=ha.cons_inv;obtain rfl:=ha.nil_inv;obtain⟨x,xc,rfl,hx,hxf⟩:=h1.pol;obtain⟨s,sc,rfl,hs⟩:=h2.small;obtain⟨l,hl,hok⟩:=h3.recs;obtain⟨ks,hks,hkn⟩:=h4.u8s';apply hE.f87;have hs8:sc.length=8:=by obtain⟨_,_,_,_,rfl,_⟩:=hs;rfl
 have x2:Ext H ((H.new (.cells xc none)).new (.cells sc none)):=((Ext.refl _).new _).new _;have b1:((H.new (.cells xc none)).new (.cells sc none)).get H.next = .cells xc none:=by rw[AH.get_new_ne _ _ (by rw[AH.next_new];omega),AH.get_new_self]
 have b2:((H.new (.cells xc none)).new (.cells sc none)).get (H.next+1) = .cells sc none:=AH.get_new_self (H.new _) _;simp only[F.f87,aV,AM.aQ,aR,List.toList_toArray,AH.next_new_z,aC];generalize (H.new (.cells xc none)).new (.cells sc none)=H2 at *;have hSC:kI E 80:=aGi hE 80 (by decide)
 have hSR:jP E 80:=aGe hE 80 (by decide)
 refine S.f86 hE λH3 e3 =>?_;have x3:=x2.trans e3;have lo1:∀ {K},Ext H2 K->aE 6 (ptr H.next 0) K=some (.agg xc.toArray):=λe=>by rw[aJ,e.cells b1,cH _ _ 6 (nB hx).1];rfl
 have lo2:∀ {K},Ext H2 K->aE 8 (ptr (H.next+1) 0) K=some (.agg sc.toArray):=λe=>by rw[aJ,e.cells b2,cH _ _ 8 hs8];rfl
 simp only[lo1 e3,bX,Bool.not_true,aC];refine S.pinfoldlaw09_FewN hE x xc (hx.mono x3) hxf λfbl H4 e4 hfew =>?_;have e34:=e3.trans e4;cases fbl with
 | false=>simp only[bX,Bool.not_false,aC];exact hQ _
 | true =>
  obtain⟨hfew,hnm⟩:=hfew rfl;have hsoon:=aKi hfew hnm;have hlv:=(hl.mono (x2.trans e34)).lenSlc;rw[List.length_map]at hlv
  by_cases h20:(20:Int)<l.length
  ·have hd:decide ((20:Int)<l.length)=true:=decide_eq_true h20
   simp only[bX,Bool.not_true,hlv,cI,hd,aC];exact hQ _
  have hd:decide ((20:Int)<l.length)=false:=decide_eq_false h20;simp only[bX,Bool.not_true,hlv,cI,hd,aC];refine S.f72 hE ?_;have g4:Has H4 H4 (H4.new (.cells (iM 0 0 (.int .u32 0) (.map none) (.map none) 0 0) none)) [cR H4.next none]:=(Has.begin (Ext.refl H4) (Sub.refl H4)).newtbl _;have e45:Ext H4 (H4.new (.cells (iM 0 0 (.int .u32 0) (.map none) (.map none) 0 0) none)):=(Ext.refl _).new _;have hx4:=hx.mono (x2.trans e34);have hs4:=hs.sub (x2.trans e34).sub;have hl4:=hl.mono (x2.trans e34);have hks4:=hks.mono (x2.trans e34);generalize H4.new (.cells (iM 0 0 (.int .u32 0) (.map none) (.map none) 0 0) none)=H5 at *;generalize H4.next=tb at *;have e35:=e34.trans e45;simp only[lo1 e35,lo2 e35,aC];refine S.pinfoldlaw09_Small_PolicyZ hE s sc H4 g4.sub hs4 λZ7 H7 pc e7 f7 z7 hps =>?_;have g7:=g4.refreeze e7 f7 z7;have e37:=e35.trans e7;refine⟨(lo1 e37).trans (lo1 e35).symm,?_⟩;have hbs:=iZ 2 6 [str [],u32 0#32,bY,u16 0#16,bY,bY] [(0,.agg xc.toArray),(1,.agg pc.toArray)] [.agg xc.toArray,.agg pc.toArray] rfl rfl rfl rfl (by simp[(nB hx).1,(nB hps).1])
  have hbs:bO 2 6 #[(.string ⟨#[]⟩),(.int .u32 0),(.slice none 0 0),(.int .u16 0),(.slice none 0 0),(.slice none 0 0)] [(0,.agg xc.toArray),(1,.agg pc.toArray)]=some (.cells (xc++pc) none,fC 2 2):=by
   rw[show(xc++pc)=([.agg xc.toArray,.agg pc.toArray]:List Value).flatMap cU by simp]
   exact hbs
  simp only[hbs,AM.aQ,cL,aC];have e8:Ext H7 (H7.new (.cells (xc++pc) none)):=(Ext.refl _).new _;obtain⟨Z8,f8,z8,k8⟩:=g7.sub.newfrozen (.cells (xc++pc) none);have g8:=g7.refreeze e8 f8 z8;have hrows:Rows Z8 6 (slc H7.next 0 2 2) [xc,pc]:=Rows.made (f:=none) (by rw[k8];simp) (.inl rfl) rfl (by simp[(nB hx).1,(nB hps).1])
  have hx8:eS Z8 x xc:=hx4.sub' (f7.1.trans f8.1);have hp8:eS Z8 s.pol pc:=hps.sub' f8.1;have hss:s.pol.soon:=aGW s (rs:=s.pol.pol.rules) (by have:=s.rules_12;omega) s.pol_conds
  generalize H7.new (.cells (xc++pc) none)=H8 at *;generalize H7.next=tr at *;have i0:vi 0=vi ((0:Nat):Int):=rfl;rw[i0];refine aZ.count 2 (λj ls H'=>ls=[v3,v4,ptr tb 0,slc tr 0 2 2,vi 2,vi j]/\∃ s',Has H4 Z8 H' [cR tb s']) ?_ ⟨rfl,_,g8⟩;rintro j _ H9 X hj hX ⟨rfl,s',g9⟩;rcases Nat.lt_or_ge j 2 with hlt | hge
  rotate_left
  ·have hd:decide ((j:Int)<2)=false:=decide_eq_false (by omega)
   simp only[F.f87_l1,aF,hd,aC];exact hQ _
  have⟨q,qc,hq1,hq2,hq3⟩:∃ (q:iL) (qc:List Value),[xc,pc][j]? = some qc/\eS Z8 q qc/\q.soon:=by
   match j,hlt with
   | 0,_=>exact⟨x,xc,rfl,hx8,hsoon⟩
   | 1,_=>exact⟨s.pol,pc,rfl,hp8,hss⟩
  obtain⟨b,o,f1,f2⟩:=(hrows.sub g9.sub).ix (i:=j) hlt
  have hjj:[xc,pc][j]=qc:=by
   rw[List.getElem?_eq_getElem hlt]at hq1;exact Option.some.inj hq1
  rw[hjj]at f2;have lo:aE 6 (ptr b o) H9=some (.agg qc.toArray):=by rw[aJ,f2];rfl
  exact aH5 hE hSC hSR hq2 hq3 hlt hl4 hok (by omega) hks4 (by omega) g9 f1 lo λs'' H10 g10=>hX hlt _ _ ⟨rfl,s'',g10⟩
end
end Go.AM
