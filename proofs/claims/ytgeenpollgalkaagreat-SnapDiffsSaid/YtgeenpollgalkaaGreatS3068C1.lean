/- CONTRACTS ON THE PRINTED FUNCTIONS. -/
import Derived.Test.YtgeenpollgalkaaGreatS3068C0
set_option linter.all false
section
namespace Go.AM
open Go.Sort
section
variable {E:Sy} {H H':AH} {Q:Value->AH->Prop} {b c n:Nat} {d:Array (BitVec 16)} {tail:List Value} {f:Option Nat}
theorem bI:∀ x:BitVec 16,plain1 (u16 x)=true:=fun _=>rfl
theorem S.f2 (hE:bJ E) (x y:BitVec 16) (hQ:Q (vb (cA x y)) H):E.call (E.fid i.f2) [u16 x,u16 y] H Q:=by
 apply hE.f2;simp only [F.f2];apply hE.f4;simp [F.f4];exact hQ
theorem S.f82 (hE:bJ E) (hg:H.get b=eY u16 d tail f) (hn:d.size=n) (hsz:n<2 ^ 60) (a e:Nat) (hae:a<=e) (he:e<=n)
  (hQ:∀ H',bP H b u16 tail f (insertionSort cA d a e) H'->Q (.tuple #[]) H'):E.call (E.fid i.f82) [slc b 0 n c,vi a,vi e] H Q:=by
 apply hE.f82;simp only [F.f82,aJ];rw [bD a (by omega),aE]
 unfold insertionSort at hQ;obtain ⟨R,hR⟩:∃ R,R=insOuter cA a e (a+1) d:=⟨_,rfl⟩;rw [<- hR] at hQ;refine aO.ind (fun m l H'=>∃ (j:Nat) (d':Array (BitVec 16)),l=[slc b 0 n c,vi a,vi e,vi j]/\bP H b u16 tail f d' H'/\d'.size=n/\R=insOuter cA a e j d'/\a<j/\m=e - j) ?_ (e - (a+1)) ⟨a+1,d,rfl,.refl hg,hn,hR,by omega,rfl⟩
 rintro m _ H1 X hX ⟨j,d1,rfl,s1,n1,r1,haj,rfl⟩;unfold insOuter at r1
 by_cases hj:j<e
 ·rw [if_pos hj] at r1
  have hj':(j:Int)<e:=by omega
  simp [F.f82_l1,hj'];refine aO.ind (fun m l H2=>∃ (k:Nat) (d2:Array (BitVec 16)),l=[slc b 0 n c,vi a,vi e,vi j,vi k]/\bP H b u16 tail f d2 H2/\d2.size=n/\insInner cA a j d1=insInner cA a k d2/\k<=j/\m=k) ?_ j ⟨j,d1,rfl,s1,n1,rfl,Nat.le_refl _,rfl⟩;rintro m _ H2 X1 hX1 ⟨k,d2,rfl,s2,n2,r2,hkj,rfl⟩
  have done:insInner cA a m d2=d2->∀ l,l=[slc b 0 n c,vi a,vi e,vi ((j+1:Nat):Int)]->X l H2:=by
   rintro e2 l rfl;rw [e2] at r2;rw [r2] at r1;exact hX (e - (j+1)) (by omega) _ _ ⟨j+1,d2,rfl,s2,n2,r1,by omega,rfl⟩
  by_cases hka:a<m
  ·obtain ⟨k,rfl⟩:∃ k,m=k+1:=⟨m - 1,by omega⟩
   have hka':(a:Int)<((k+1:Nat):Int):=by omega
   have f1:=bF (b:=b) (c:=c) (n:=n) (i:=k+1) (by omega)
   have f2:=bF (b:=b) (c:=c) (n:=n) (i:=k) (by omega)
   have g1:=aL s2.get (i:=k+1) (by omega)
   have g2:=aL s2.get (i:=k) (by omega)
   have hd:aA .sub (vi ((k+1:Nat):Int)) (.int .i64 1)=some (vi (k:Int)):=cO (k+1) (by omega) (by omega)
   obtain ⟨w1,w2⟩:=cU bI s2.get (i:=k+1) (j:=k) (by omega) (by omega)
   have hjj:=bD j (by omega)
   simp only [insInner,hka,decide_true,Bool.true_and] at r2 done;generalize hk1:k+1=k1 at *;simp [-aF,-aD,F.f82_l2,hka',f1,f2,g1,g2,hd];refine S.f2 hE _ _ ?_
   by_cases hl:cA d2[k1]! d2[k]! = true
   ·simp only [hl,if_true] at r2
    simp [-aF,-aD,hl,f1,f2,g1,g2,hd,w1,w2];exact hX1 k (by omega) _ _ ⟨k,_,rfl,s2.put _,by rw [size_swp]; exact n2,r2,by omega,rfl⟩
   ·simp only [hl,if_false] at done
    simp [-aF,-aD,hl,hjj];exact done rfl _ rfl
  ·have hka':¬ (a:Int)<(m:Int):=by omega
   have hjj:=bD j (by omega)
   simp [-aF,-aD,F.f82_l2,hka',hjj];refine done ?_ _ rfl;cases m with
   | zero=>rfl
   | succ k=>simp [insInner,hka]
 ·rw [if_neg hj] at r1
  subst r1;have hj':¬ (j:Int)<e:=by omega
  simp [F.f82_l1,hj'];exact hQ _ s1
theorem S.f101 (hE:bJ E) (hg:H.get b=eY u16 d tail f) (hn:d.size=n) (hsz:n<2 ^ 60) (lo hi first:Nat) (hlo:lo<=n) (hf:first+hi<=n)
  (hQ:∀ H',bP H b u16 tail f (siftDown cA hi first lo d) H'->Q (.tuple #[]) H'):E.call (E.fid i.f101) [slc b 0 n c,vi lo,vi hi,vi first] H Q:=by
 apply hE.f101;simp only [F.f101,aJ];obtain ⟨R,hR⟩:∃ R,R=siftDown cA hi first lo d:=⟨_,rfl⟩
 rw [<- hR] at hQ;refine aO.ind (fun m l H'=>∃ (r:Nat) (d':Array (BitVec 16)),l=[slc b 0 n c,vi hi,vi first,vi r]/\bP H b u16 tail f d' H'/\d'.size=n/\R=siftDown cA hi first r d'/\r<=n/\m=hi - r) ?_ (hi - lo) ⟨lo,d,rfl,.refl hg,hn,hR,hlo,rfl⟩
 rintro m _ H1 X hX ⟨r,d1,rfl,s1,n1,r1,hr,rfl⟩;have a1:=aDf r (by omega)
 have a2:=bD (2*r) (by omega)
 have a3:=bD (2*r+1) (by omega)
 have step:∀ ch:Nat,r<ch->ch<hi->R=(if !cA d1[first+r]! d1[first+ch]! then d1 else siftDown cA hi first ch (swp d1 (first+r) (first+ch)))->F.f101_j1 E Q X (slc b 0 n c) (vi hi) (vi first) (vi r) (vi ch) H1:=by
  intro ch h1 h2 hR';have b1:=cG first r (by omega)
  have b2:=cG first ch (by omega)
  have f1:=bF (b:=b) (c:=c) (n:=n) (i:=first+r) (by omega)
  have f2:=bF (b:=b) (c:=c) (n:=n) (i:=first+ch) (by omega)
  have g1:=aL s1.get (i:=first+r) (by omega)
  have g2:=aL s1.get (i:=first+ch) (by omega)
  obtain ⟨w1,w2⟩:=cU bI s1.get (i:=first+r) (j:=first+ch) (by omega) (by omega)
  generalize hp:first+r=p at *
  generalize hq:first+ch=q at *
  simp [-aF,-aD,F.f101_j1,b1,b2,f1,f2,g1,g2];refine S.f2 hE _ _ ?_
  by_cases hl:cA d1[p]! d1[q]! = true
  ·simp only [hl,Bool.not_true,Bool.false_eq_true,if_false] at hR'
   simp [-aF,-aD,hl,b1,b2,f1,f2,g1,g2,w1,w2];exact hX (hi - ch) (by omega) _ _ ⟨ch,_,rfl,s1.put _,by rw [size_swp]; exact n1,hR',by omega,rfl⟩
  ·have hl:cA d1[p]! d1[q]! = false:=by simpa using hl
   simp only [hl,Bool.not_false,if_true] at hR';subst hR';simp [-aF,-aD,hl];exact hQ _ s1
 rw [siftDown] at r1
 by_cases c1:2*r+1>=hi
 ·rw [dif_pos c1] at r1
  subst r1;have c1':(hi:Int)<=((2*r+1:Nat):Int):=by omega
  generalize 2*r+1=ch at *;generalize 2*r=rr at *;simp [F.f101_l1,a1,a2,c1'];exact hQ _ s1
 rw [dif_neg c1] at r1;have c1':¬ (hi:Int)<=((2*r+1:Nat):Int):=by omega
 have b1:=cG first (2*r+1) (by omega)
 have b2:=bD (first+(2*r+1)) (by omega)
 by_cases c2:2*r+1+1<hi
 ·have c2':((2*r+1+1:Nat):Int)<hi:=by omega
  have f1:=bF (b:=b) (c:=c) (n:=n) (i:=first+(2*r+1)) (by omega)
  have f2:=bF (b:=b) (c:=c) (n:=n) (i:=first+(2*r+1)+1) (by omega)
  have g1:=aL s1.get (i:=first+(2*r+1)) (by omega)
  have g2:=aL s1.get (i:=first+(2*r+1)+1) (by omega)
  have st1:=step (2*r+1) (by omega) (by omega)
  have st2:=step (2*r+1+1) (by omega) c2
  rw [dif_pos (by omega:2*r+2<hi)] at r1
  simp only [c2,decide_true,Bool.true_and] at r1;rw [show 2*r+2=2*r+1+1 by omega] at r1
  generalize hq2:first+(2*r+1)+1=q2 at *
  generalize hq:first+(2*r+1)=q at *
  generalize hc2:2*r+1+1=ch2 at *;generalize hc1:2*r+1=ch at *;generalize 2*r=rr at *;simp [-aF,-aD,F.f101_l1,a1,a2,a3,c1',c2',b1,b2,f1,f2,g1,g2];refine S.f2 hE _ _ ?_
  by_cases hl:cA d1[q]! d1[q2]! = true
  ·simp only [hl,if_true] at r1
   simp [hl,a3];exact st2 r1
  ·simp only [hl,if_false] at r1
   simp [hl];exact st1 r1
 ·have c2':¬ ((2*r+1+1:Nat):Int)<hi:=by omega
  have st1:=step (2*r+1) (by omega) (by omega)
  simp only [c2,decide_false,Bool.false_and,Bool.false_eq_true,if_false] at r1;generalize hc2:2*r+1+1=ch2 at *;generalize hc1:2*r+1=ch at *;generalize 2*r=rr at *;simp [-aF,-aD,F.f101_l1,a1,a2,a3,c1',c2'];exact st1 r1
theorem iE (hi first r:Nat) (d:Array (BitVec 16)):(siftDown cA hi first r d).size=d.size:=by
 obtain ⟨m,hm⟩:∃ m,hi - r<=m:=⟨_,Nat.le_refl _⟩
 induction m generalizing r d with
 | zero =>
  rw [siftDown,dif_pos (by omega)]
 | succ m ih =>
  rw [siftDown]
  split
  ·rfl
  ·split
   ·split
    ·rfl
    ·split
     ·rw [ih _ _ (by omega),size_swp]
     ·rfl
   ·split
    ·rfl
    ·rw [ih _ _ (by omega),size_swp]
theorem S.f80 (hE:bJ E) (hg:H.get b=eY u16 d tail f) (hn:d.size=n) (hsz:n<2 ^ 60) (a e:Nat) (hae:a<e) (he:e<=n)
  (hQ:∀ H',bP H b u16 tail f (heapSort cA d a e) H'->Q (.tuple #[]) H'):E.call (E.fid i.f80) [slc b 0 n c,vi a,vi e] H Q:=by
 apply hE.f80;have a1:=cC e a (by omega) (by omega)
 have a2:=cO (e - a) (by omega) (by omega)
 have a3:=gH (e - a - 1) 2 (by decide) (by omega)
 unfold heapSort at hQ;have a1':aA .sub (vi e) (vi a)=some (vi ((e - a:Nat):Int)):=a1;generalize hw:e - a=w at *;have a3':aA .quo (vi ((w - 1:Nat):Int)) (.int .i64 2)=some (vi (((w - 1) / 2:Nat):Int)):=a3;generalize hw1:w - 1=w1 at *;generalize hh:w1 / 2=h2 at *;have hh2:h2<=w1:=by rw [<- hh]; exact Nat.div_le_self _ _
 simp only [F.f80,a1',a2,a3',aJ,aE];obtain ⟨R,hR⟩:∃ R,R=heapPop cA a w (heapBuild cA w a (h2+1) d):=⟨_,rfl⟩;rw [<- hR] at hQ;refine aO.ind (fun m l H'=>∃ (k:Nat) (d':Array (BitVec 16)),l=[slc b 0 n c,vi a,vi 0,vi w,vi ((k:Int) - 1)]/\bP H b u16 tail f d' H'/\d'.size=n/\R=heapPop cA a w (heapBuild cA w a k d')/\k<=w/\m=k) ?_ (h2+1) ⟨h2+1,d,by simp,.refl hg,hn,hR,by omega,rfl⟩
 rintro m _ H1 X hX ⟨k,d1,rfl,s1,n1,r1,hk,rfl⟩;cases m with
 | succ k =>
  have e1:((k+1:Nat):Int) - 1=(k:Int):=by omega
  have hd:aA .sub (vi k) (.int .i64 1)=some (vi ((k:Int) - 1)):=gY (by omega) (by omega)
  rw [e1];simp [F.f80_l1];refine S.f101 hE s1.get n1 hsz k w a (by omega) (by omega) fun H2 s2 =>?_
  simp only [hd,aJ,aE];exact hX k (by omega) _ _ ⟨k,_,rfl,s1.trans s2,by rw [iE]; exact n1,by rw [r1]; rfl,by omega,rfl⟩
 | zero =>
  have hd:aA .sub (vi w) (.int .i64 1)=some (vi ((w:Int) - 1)):=gY (by omega) (by omega)
  simp [F.f80_l1,hd];clear hX;refine aO.ind (fun m l H'=>∃ (k:Nat) (d':Array (BitVec 16)),l=[slc b 0 n c,vi a,vi 0,vi ((k:Int) - 1)]/\bP H b u16 tail f d' H'/\d'.size=n/\R=heapPop cA a k d'/\k<=w/\m=k) ?_ w ⟨w,d1,rfl,s1,n1,r1,Nat.le_refl _,rfl⟩;rintro m _ H2 X hX ⟨k,d2,rfl,s2,n2,r2,hk,rfl⟩;cases m with
  | succ k =>
   have e1:((k+1:Nat):Int) - 1=(k:Int):=by omega
   have hd:aA .sub (vi k) (.int .i64 1)=some (vi ((k:Int) - 1)):=gY (by omega) (by omega)
   have b1:=cG a k (by omega)
   have f1:=bF (b:=b) (c:=c) (n:=n) (i:=a) (by omega)
   have f2:=bF (b:=b) (c:=c) (n:=n) (i:=a+k) (by omega)
   have g1:=aL s2.get (i:=a) (by omega)
   have g2:=aL s2.get (i:=a+k) (by omega)
   obtain ⟨w1,w2⟩:=cU bI s2.get (i:=a) (j:=a+k) (by omega) (by omega)
   rw [e1];rw [heapPop] at r2;generalize hq:a+k=q at *;simp [-aF,-aD,F.f80_l2,b1,f1,f2,g1,g2,w1,w2];have s3:=s2.put (swp d2 a q);refine S.f101 hE s3.get (by rw [size_swp]; exact n2) hsz 0 k a (by omega) (by omega) fun H3 s4 =>?_
   simp only [hd,aJ,aE];exact hX k (by omega) _ _ ⟨k,_,rfl,s3.trans s4,by rw [iE,size_swp]; exact n2,r2,by omega,rfl⟩
  | zero =>
   simp [F.f80_l2];rw [heapPop] at r2;subst r2;exact hQ _ s2
theorem S.f99 (hE:bJ E) (hg:H.get b=eY u16 d tail f) (hn:d.size=n) (hsz:n<2 ^ 60) (a e:Nat) (hae:a<e) (he:e<=n)
  (hQ:∀ H',bP H b u16 tail f (reverseRange d a e) H'->Q (.tuple #[]) H'):E.call (E.fid i.f99) [slc b 0 n c,vi a,vi e] H Q:=by
 apply hE.f99;have a1:=cO e (by omega) (by omega)
 unfold reverseRange at hQ;simp only [F.f99,a1,aJ,aE];obtain ⟨R,hR⟩:∃ R,R=reverseLoop a (e - 1) d:=⟨_,rfl⟩;rw [<- hR] at hQ;refine aO.ind (fun m l H'=>∃ (p q:Nat) (d':Array (BitVec 16)),l=[slc b 0 n c,vi p,vi q]/\bP H b u16 tail f d' H'/\d'.size=n/\R=reverseLoop p q d'/\p<=n/\q<n/\m=q - p) ?_ (e - 1 - a) ⟨a,e - 1,d,rfl,.refl hg,hn,hR,by omega,by omega,rfl⟩
 rintro m _ H1 X hX ⟨p,q,d1,rfl,s1,n1,r1,hp,hq,rfl⟩;rw [reverseLoop] at r1
 by_cases h:p<q
 ·rw [if_pos h] at r1
  have h':(p:Int)<q:=by omega
  have f1:=bF (b:=b) (c:=c) (n:=n) (i:=p) (by omega)
  have f2:=bF (b:=b) (c:=c) (n:=n) (i:=q) (by omega)
  have g1:=aL s1.get (i:=p) (by omega)
  have g2:=aL s1.get (i:=q) (by omega)
  obtain ⟨w1,w2⟩:=cU bI s1.get (i:=p) (j:=q) (by omega) (by omega)
  have b1:=bD p (by omega)
  have b2:=cO q (by omega) (by omega)
  simp [-aF,-aD,F.f99_l1,h',f1,f2,g1,g2,w1,w2,b1,b2];exact hX (q - 1 - (p+1)) (by omega) _ _ ⟨p+1,q - 1,_,rfl,s1.put _,by rw [size_swp]; exact n1,r1,by omega,by omega,rfl⟩
 ·rw [if_neg h] at r1
  subst r1;have h':¬ (p:Int)<q:=by omega
  simp [F.f99_l1,h'];exact hQ _ s1
theorem S.f95 (hE:bJ E) (hg:H.get b=eY u16 d tail f) (hn:d.size=n) (hsz:n<2 ^ 60) (a e pivot:Nat) (h1:a<=pivot) (h2:pivot<e) (he:e<=n)
  (hQ:∀ H',bP H b u16 tail f (partition cA d a e pivot).2.2 H'->Q (.tuple #[vi (partition cA d a e pivot).1,vb (partition cA d a e pivot).2.1]) H'):E.call (E.fid i.f95) [slc b 0 n c,vi a,vi e,vi pivot] H Q:=by
 apply hE.f95;have f1:=bF (b:=b) (c:=c) (n:=n) (i:=a) (by omega)
 have f2:=bF (b:=b) (c:=c) (n:=n) (i:=pivot) (by omega)
 have g1:=aL hg (i:=a) (by omega)
 have g2:=aL hg (i:=pivot) (by omega)
 obtain ⟨w1,w2⟩:=cU bI hg (i:=a) (j:=pivot) (by omega) (by omega)
 have b1:=bD a (by omega)
 have b2:=cO e (by omega) (by omega)
 simp only [F.f95,f1,f2,g1,g2,w1,w2,b1,b2,aJ,aE];have s0:=(bP.refl hg).put (swp d a pivot);have n0:(swp d a pivot).size=n:=by rw [size_swp]; exact hn
 unfold partition at hQ;generalize hd0:swp d a pivot=d0 at *;generalize hH0:H.put b (eY u16 d0 tail f)=H0 at *;simp only at hQ;obtain ⟨I,hI⟩:∃ I,I=scanUp (fun x=>cA x d0[a]!) d0 (e - 1) (a+1):=⟨_,rfl⟩;rw [<- hI] at hQ;obtain ⟨J,hJ⟩:∃ J,J=scanDown (fun x => !cA x d0[a]!) d0 I (e - 1):=⟨_,rfl⟩;rw [<- hJ] at hQ;have hIl:=rR (fun x=>cA x d0[a]!) d0 (e - 1) _ (a+1) (Nat.le_refl _);rw [<- hI] at hIl;have hJl:=fZ (fun x => !cA x d0[a]!) d0 I (e - 1);rw [<- hJ] at hJl;refine aO.ind (fun m l H'=>H0=H'/\∃ p:Nat,l=[slc b 0 n c,vi a,vi p,vi ((e - 1:Nat):Int)]/\I=scanUp (fun x=>cA x d0[a]!) d0 (e - 1) p/\a+1<=p/\p<=e/\m=e - p) ?_ (e - (a+1)) ⟨rfl,a+1,rfl,hI,Nat.le_refl _,by omega,rfl⟩
 rintro m _ _ X hX ⟨rfl,p,rfl,r1,hp1,hp2,rfl⟩;rw [scanUp] at r1
 have exit1:I=p->aO (fun l H X0=>F.f95_l2 E Q (nth l 0) (nth l 1) (nth l 2) (nth l 3) H X0) [slc b 0 n c,vi a,vi p,vi ((e - 1:Nat):Int)] H0:=by
  rintro rfl;clear hX r1;refine aO.ind (fun m l H'=>H0=H'/\∃ q:Nat,l=[slc b 0 n c,vi a,vi I,vi q]/\J=scanDown (fun x => !cA x d0[a]!) d0 I q/\q<=e - 1/\I<=q+1/\m=q) ?_ (e - 1) ⟨rfl,e - 1,rfl,hJ,Nat.le_refl _,by omega,rfl⟩
  rintro m _ _ X hX ⟨rfl,q,rfl,r1,hq1,hq2,rfl⟩
  have exit2:J=m->F.f95_l2 E Q (slc b 0 n c) (vi a) (vi I) (vi m) H0 X:=by
   rintro rfl;clear hX;have f1:=bF (b:=b) (c:=c) (n:=n) (i:=a) (by omega)
   have f2:=bF (b:=b) (c:=c) (n:=n) (i:=J) (by omega)
   have g1:=aL s0.get (i:=a) (by omega)
   have g2:=aL s0.get (i:=J) (by omega)
   obtain ⟨w1,w2⟩:=cU bI s0.get (i:=J) (j:=a) (by omega) (by omega)
   by_cases hij:I<=J
   ·have hij':(I:Int)<=J:=by omega
    have hij'':¬ (J:Int)<I:=by omega
    have hnl:cA d0[J]! d0[a]! = true:=by
     cases J with
     | zero=>omega
     | succ q =>
      rw [scanDown] at r1
      split at r1
      ·have:=fZ (fun x => !cA x d0[a]!) d0 I q
       omega
      ·rename_i hc
       simp at hc;exact hc (by omega)
    have f3:=bF (b:=b) (c:=c) (n:=n) (i:=I) (by omega)
    have g3:=aL s0.get (i:=I) (by omega)
    obtain ⟨w3,w4⟩:=cU bI s0.get (i:=I) (j:=J) (by omega) (by omega)
    have b3:=bD I (by omega)
    have b4:=cO J (by omega) (by omega)
    simp [-aF,-aD,F.f95_l2,hij',f1,f2,g1,g2];refine S.f2 hE _ _ ?_;simp [-aF,-aD,hnl,hij'',f1,f2,f3,g1,g2,g3,w3,w4,b3,b4];rw [if_neg (by omega)] at hQ
    have s1:=s0.put (swp d0 I J);have n1:(swp d0 I J).size=n:=by rw [size_swp]; exact n0
    generalize hd1:swp d0 I J=d1 at *;simp only at hQ;obtain ⟨R,hR⟩:∃ R,R=partLoop cA a (I+1) (J - 1) d1:=⟨_,rfl⟩;rw [<- hR] at hQ;refine aO.ind (fun m l H'=>∃ (p q:Nat) (d2:Array (BitVec 16)),l=[slc b 0 n c,vi a,vi p,vi q]/\bP H b u16 tail f d2 H'/\d2.size=n/\R=partLoop cA a p q d2/\a+1<=p/\p<=q+1+1/\p<=e/\q<=e - 1/\a<=q/\m=q+1 - p) ?_ (J - 1+1 - (I+1)) ⟨I+1,J - 1,d1,rfl,s1,n1,hR,by omega,by omega,by omega,by omega,by omega,rfl⟩
    clear hR s1 n1 hd1 w1 w2 w3 w4;rintro m _ H2 X3 hX3 ⟨p,q,d2,rfl,s2,n2,r2,hp1,hp2,hpe,hq1,hqa,rfl⟩;rw [partLoop] at r2;simp only [F.f95_l3,dM,dT,dW,fC];obtain ⟨I2,hI2⟩:∃ I,I=scanUp (fun x=>cA x d2[a]!) d2 q p:=⟨_,rfl⟩;obtain ⟨J2,hJ2⟩:∃ J,J=scanDown (fun x => !cA x d2[a]!) d2 I2 q:=⟨_,rfl⟩;rw [<- hI2] at r2
    try simp only at r2
    rw [<- hJ2] at r2;have hIl2:=rR (fun x=>cA x d2[a]!) d2 q _ p (Nat.le_refl _);rw [<- hI2] at hIl2;have hJl2:=fZ (fun x => !cA x d2[a]!) d2 I2 q;rw [<- hJ2] at hJl2
    have hI2e:I2<=q+1\/(I2=p/\q+1<p):=by
     by_cases h:p<=q+1
     ·exact .inl (hIl2.2 h)
     ·refine .inr ⟨?_,by omega⟩
      rw [hI2,scanUp,if_neg (by simp; omega)]
    have hJ2e:I2<=q+1\/J2=q:=by
     rcases hI2e with h | ⟨h,h'⟩
     ·exact .inl h
     ·right
      rw [hJ2];cases q with
      | zero=>rfl
      | succ q=>rw [scanDown,if_neg (by simp; omega)]
    refine aO.ind (fun m l H'=>H2=H'/\∃ p':Nat,l=[slc b 0 n c,vi a,vi p',vi q]/\I2=scanUp (fun x=>cA x d2[a]!) d2 q p'/\p<=p'/\p'<=e/\m=q+1 - p') ?_ (q+1 - p) ⟨rfl,p,rfl,hI2,Nat.le_refl _,by omega,rfl⟩
    rintro m _ _ X4 hX4 ⟨rfl,p',rfl,r4,hp3,hp4,rfl⟩;rw [scanUp] at r4
    have exit4:I2=p'->aO (fun l H X1=>F.f95_l5 E Q X3 (nth l 0) (nth l 1) (nth l 2) (nth l 3) H X1) [slc b 0 n c,vi a,vi p',vi q] H2:=by
     rintro rfl;clear hX4 r4;refine aO.ind (fun m l H'=>H2=H'/\∃ q':Nat,l=[slc b 0 n c,vi a,vi I2,vi q']/\J2=scanDown (fun x => !cA x d2[a]!) d2 I2 q'/\q'<=q/\m=q') ?_ q ⟨rfl,q,rfl,hJ2,Nat.le_refl _,rfl⟩;rintro m _ _ X5 hX5 ⟨rfl,q',rfl,r5,hq3,rfl⟩
     have exit5:J2=m->F.f95_l5 E Q X3 (slc b 0 n c) (vi a) (vi I2) (vi m) H2 X5:=by
      rintro rfl;clear hX5;have f2:=bF (b:=b) (c:=c) (n:=n) (i:=J2) (by omega)
      have g1:=aL s2.get (i:=a) (by omega)
      have g2:=aL s2.get (i:=J2) (by omega)
      by_cases hij:I2<=J2
      ·have hij':(I2:Int)<=J2:=by omega
       have hij'':¬ (J2:Int)<I2:=by omega
       have hnl:cA d2[J2]! d2[a]! = true:=by
        cases J2 with
        | zero=>omega
        | succ q' =>
         rw [scanDown] at r5
         split at r5
         ·have:=fZ (fun x => !cA x d2[a]!) d2 I2 q'
          omega
         ·rename_i hc
          simp at hc;exact hc (by omega)
       have f3:=bF (b:=b) (c:=c) (n:=n) (i:=I2) (by omega)
       have g3:=aL s2.get (i:=I2) (by omega)
       obtain ⟨w3,w4⟩:=cU bI s2.get (i:=I2) (j:=J2) (by omega) (by omega)
       have b3:=bD I2 (by omega)
       have b4:=cO J2 (by omega) (by omega)
       simp [-aF,-aD,F.f95_l5,hij',f1,f2,g1,g2];refine S.f2 hE _ _ ?_;simp [-aF,-aD,hnl,hij'',f1,f2,f3,g1,g2,g3,w3,w4,b3,b4];rw [if_neg (by omega),dif_pos (by omega)] at r2
       exact hX3 (J2 - 1+1 - (I2+1)) (by omega) _ _ ⟨I2+1,J2 - 1,_,rfl,s2.put _,by rw [size_swp]; exact n2,r2,by omega,by omega,by omega,by omega,by omega,rfl⟩
      ·have hij':¬ (I2:Int)<=J2:=by omega
       have hij'':(J2:Int)<I2:=by omega
       rw [if_pos (by omega)] at r2
       subst r2;obtain ⟨w1,w2⟩:=cU bI s2.get (i:=J2) (j:=a) (by omega) (by omega)
       simp [-aF,-aD,F.f95_l5,hij',hij'',f1,f2,g1,g2,w1,w2];exact hQ _ (s2.put _)
     cases m with
     | zero=>exact exit5 r5
     | succ q' =>
      by_cases hc:I2<=q'+1/\cA d2[q'+1]! d2[a]! = false
      ·rw [scanDown,if_pos (by simp [hc.1,hc.2])] at r5
       have hc':(I2:Int)<=((q'+1:Nat):Int):=by omega
       have f2:=bF (b:=b) (c:=c) (n:=n) (i:=q'+1) (by omega)
       have g1:=aL s2.get (i:=a) (by omega)
       have g2:=aL s2.get (i:=q'+1) (by omega)
       have b4:aA .sub (vi ((q'+1:Nat):Int)) (.int .i64 1)=some (vi (q':Int)):=cO (q'+1) (by omega) (by omega)
       have hlt:=hc.2;generalize hqq:q'+1=qq at *;simp [-aF,-aD,F.f95_l5,hc',f1,f2,g1,g2];refine S.f2 hE _ _ ?_;simp [-aF,-aD,hlt,b4];exact hX5 q' (by omega) _ _ ⟨rfl,q',rfl,r5,by omega,rfl⟩
      ·rw [scanDown,if_neg (by simpa using hc)] at r5
       exact exit5 r5
    by_cases hc:p'<=q/\cA d2[p']! d2[a]! = true
    ·rw [if_pos (by simp [hc.1,hc.2])] at r4
     have hc':(p':Int)<=q:=by omega
     have f2:=bF (b:=b) (c:=c) (n:=n) (i:=p') (by omega)
     have g1:=aL s2.get (i:=a) (by omega)
     have g2:=aL s2.get (i:=p') (by omega)
     have b3:=bD p' (by omega)
     simp [-aF,-aD,F.f95_l4,hc',f1,f2,g1,g2];refine S.f2 hE _ _ ?_;simp [-aF,-aD,hc.2,b3];exact hX4 (q+1 - (p'+1)) (by omega) _ _ ⟨rfl,p'+1,rfl,r4,by omega,by omega,rfl⟩
    ·rw [if_neg (by simpa using hc)] at r4
     by_cases hpq:p'<=q
     ·have hc':(p':Int)<=q:=by omega
      have hlt:cA d2[p']! d2[a]! = false:=by simpa using fun h=>hc ⟨hpq,h⟩
      have f2:=bF (b:=b) (c:=c) (n:=n) (i:=p') (by omega)
      have g1:=aL s2.get (i:=a) (by omega)
      have g2:=aL s2.get (i:=p') (by omega)
      simp [-aF,-aD,F.f95_l4,hc',f1,f2,g1,g2];refine S.f2 hE _ _ ?_;simp [-aF,-aD,hlt];exact exit4 r4
     ·have hc':¬ (p':Int)<=q:=by omega
      simp [-aF,-aD,F.f95_l4,hc'];exact exit4 r4
   ·have hij':¬ (I:Int)<=J:=by omega
    have hij'':(J:Int)<I:=by omega
    simp [-aF,-aD,F.f95_l2,hij',hij'',f1,f2,g1,g2,w1,w2];rw [if_pos (by omega)] at hQ
    exact hQ _ (s0.put _)
  cases m with
  | zero=>exact exit2 r1
  | succ q =>
   by_cases hc:I<=q+1/\cA d0[q+1]! d0[a]! = false
   ·rw [scanDown,if_pos (by simp [hc.1,hc.2])] at r1
    have hc':(I:Int)<=((q+1:Nat):Int):=by omega
    have f2:=bF (b:=b) (c:=c) (n:=n) (i:=q+1) (by omega)
    have g1:=aL s0.get (i:=a) (by omega)
    have g2:=aL s0.get (i:=q+1) (by omega)
    have b4:aA .sub (vi ((q+1:Nat):Int)) (.int .i64 1)=some (vi (q:Int)):=cO (q+1) (by omega) (by omega)
    have hlt:=hc.2;generalize hqq:q+1=qq at *;simp [-aF,-aD,F.f95_l2,hc',f1,f2,g1,g2];refine S.f2 hE _ _ ?_;simp [-aF,-aD,hlt,b4];exact hX q (by omega) _ _ ⟨rfl,q,rfl,r1,by omega,by omega,rfl⟩
   ·rw [scanDown,if_neg (by simpa using hc)] at r1
    exact exit2 r1
 by_cases hc:p<=e - 1/\cA d0[p]! d0[a]! = true
 ·rw [if_pos (by simp [hc.1,hc.2])] at r1
  have hc':(p:Int)<=((e - 1:Nat):Int):=by omega
  have f2:=bF (b:=b) (c:=c) (n:=n) (i:=p) (by omega)
  have g1:=aL s0.get (i:=a) (by omega)
  have g2:=aL s0.get (i:=p) (by omega)
  have b3:=bD p (by omega)
  generalize he1:e - 1=e1 at *;simp [-aF,-aD,F.f95_l1,hc',f1,f2,g1,g2];refine S.f2 hE _ _ ?_;simp [-aF,-aD,hc.2,b3];exact hX (e - (p+1)) (by omega) _ _ ⟨rfl,p+1,rfl,r1,by omega,by omega,rfl⟩
 ·rw [if_neg (by simpa using hc)] at r1
  have exit1:=exit1 r1
  by_cases hpq:p<=e - 1
  ·have hc':(p:Int)<=((e - 1:Nat):Int):=by omega
   have hlt:cA d0[p]! d0[a]! = false:=by simpa using fun h=>hc ⟨hpq,h⟩
   have f2:=bF (b:=b) (c:=c) (n:=n) (i:=p) (by omega)
   have g1:=aL s0.get (i:=a) (by omega)
   have g2:=aL s0.get (i:=p) (by omega)
   generalize he1:e - 1=e1 at *;simp [-aF,-aD,F.f95_l1,hc',f1,f2,g1,g2];refine S.f2 hE _ _ ?_;simp [-aF,-aD,hlt];exact exit1
  ·have hc':¬ (p:Int)<=((e - 1:Nat):Int):=by omega
   generalize he1:e - 1=e1 at *;simp [-aF,-aD,F.f95_l1,hc'];exact exit1
theorem S.f93 (hE:bJ E) (hg:H.get b=eY u16 d tail f) (hn:d.size=n) (hsz:n<2 ^ 60) (a e pivot:Nat) (h1:a<=pivot) (h2:pivot<e) (he:e<=n)
  (hQ:∀ H',bP H b u16 tail f (partitionEqual cA d a e pivot).2 H'->Q (vi (partitionEqual cA d a e pivot).1) H'):E.call (E.fid i.f93) [slc b 0 n c,vi a,vi e,vi pivot] H Q:=by
 apply hE.f93;have f1:=bF (b:=b) (c:=c) (n:=n) (i:=a) (by omega)
 have f2:=bF (b:=b) (c:=c) (n:=n) (i:=pivot) (by omega)
 have g1:=aL hg (i:=a) (by omega)
 have g2:=aL hg (i:=pivot) (by omega)
 obtain ⟨w1,w2⟩:=cU bI hg (i:=a) (j:=pivot) (by omega) (by omega)
 have b1:=bD a (by omega)
 have b2:=cO e (by omega) (by omega)
 simp only [F.f93,f1,f2,g1,g2,w1,w2,b1,b2,aJ,aE];have s0:=(bP.refl hg).put (swp d a pivot);have n0:(swp d a pivot).size=n:=by rw [size_swp]; exact hn
 unfold partitionEqual at hQ;generalize hd0:swp d a pivot=d0 at *;generalize hH0:H.put b (eY u16 d0 tail f)=H0 at *;clear w1 w2 f2 g1 g2;obtain ⟨R,hR⟩:∃ R,R=partEqLoop cA a (a+1) (e - 1) d0:=⟨_,rfl⟩;rw [<- hR] at hQ;refine aO.ind (fun m l H'=>∃ (p q:Nat) (d2:Array (BitVec 16)),l=[slc b 0 n c,vi a,vi p,vi q]/\bP H b u16 tail f d2 H'/\d2.size=n/\R=partEqLoop cA a p q d2/\a+1<=p/\p<=q+1+1/\p<=e/\q<=e - 1/\a<=q/\m=q+1 - p) ?_ (e - 1+1 - (a+1)) ⟨a+1,e - 1,d0,rfl,s0,n0,hR,by omega,by omega,by omega,by omega,by omega,rfl⟩
 clear hR s0 n0 hd0;rintro m _ H2 X3 hX3 ⟨p,q,d2,rfl,s2,n2,r2,hp1,hp2,hpe,hq1,hqa,rfl⟩;rw [partEqLoop] at r2;simp only [F.f93_l1,dM,dT,dW,fC];obtain ⟨I2,hI2⟩:∃ I,I=scanUp (fun x => !cA d2[a]! x) d2 q p:=⟨_,rfl⟩;obtain ⟨J2,hJ2⟩:∃ J,J=scanDown (fun x=>cA d2[a]! x) d2 I2 q:=⟨_,rfl⟩;rw [<- hI2] at r2
 try simp only at r2
 rw [<- hJ2] at r2;have hIl2:=rR (fun x => !cA d2[a]! x) d2 q _ p (Nat.le_refl _);rw [<- hI2] at hIl2;have hJl2:=fZ (fun x=>cA d2[a]! x) d2 I2 q;rw [<- hJ2] at hJl2
 have hI2e:I2<=q+1\/(I2=p/\q+1<p):=by
  by_cases h:p<=q+1
  ·exact .inl (hIl2.2 h)
  ·refine .inr ⟨?_,by omega⟩
   rw [hI2,scanUp,if_neg (by simp; omega)]
 have hJ2e:I2<=q+1\/J2=q:=by
  rcases hI2e with h | ⟨h,h'⟩
  ·exact .inl h
  ·right
   rw [hJ2];cases q with
   | zero=>rfl
   | succ q=>rw [scanDown,if_neg (by simp; omega)]
 refine aO.ind (fun m l H'=>H2=H'/\∃ p':Nat,l=[slc b 0 n c,vi a,vi p',vi q]/\I2=scanUp (fun x => !cA d2[a]! x) d2 q p'/\p<=p'/\p'<=e/\m=q+1 - p') ?_ (q+1 - p) ⟨rfl,p,rfl,hI2,Nat.le_refl _,by omega,rfl⟩
 rintro m _ _ X4 hX4 ⟨rfl,p',rfl,r4,hp3,hp4,rfl⟩;rw [scanUp] at r4
 have exit4:I2=p'->aO (fun l H X1=>F.f93_l3 E Q X3 (nth l 0) (nth l 1) (nth l 2) (nth l 3) H X1) [slc b 0 n c,vi a,vi p',vi q] H2:=by
  rintro rfl;clear hX4 r4;refine aO.ind (fun m l H'=>H2=H'/\∃ q':Nat,l=[slc b 0 n c,vi a,vi I2,vi q']/\J2=scanDown (fun x=>cA d2[a]! x) d2 I2 q'/\q'<=q/\m=q') ?_ q ⟨rfl,q,rfl,hJ2,Nat.le_refl _,rfl⟩;rintro m _ _ X5 hX5 ⟨rfl,q',rfl,r5,hq3,rfl⟩
  have exit5:J2=m->F.f93_l3 E Q X3 (slc b 0 n c) (vi a) (vi I2) (vi m) H2 X5:=by
   rintro rfl;clear hX5;have f2:=bF (b:=b) (c:=c) (n:=n) (i:=J2) (by omega)
   have g1:=aL s2.get (i:=a) (by omega)
   have g2:=aL s2.get (i:=J2) (by omega)
   by_cases hij:I2<=J2
   ·have hij':(I2:Int)<=J2:=by omega
    have hij'':¬ (J2:Int)<I2:=by omega
    have hnl:cA d2[a]! d2[J2]! = false:=by
     cases J2 with
     | zero=>omega
     | succ q' =>
      rw [scanDown] at r5
      split at r5
      ·have:=fZ (fun x=>cA d2[a]! x) d2 I2 q'
       omega
      ·rename_i hc
       simp at hc;exact hc (by omega)
    have f3:=bF (b:=b) (c:=c) (n:=n) (i:=I2) (by omega)
    have g3:=aL s2.get (i:=I2) (by omega)
    obtain ⟨w3,w4⟩:=cU bI s2.get (i:=I2) (j:=J2) (by omega) (by omega)
    have b3:=bD I2 (by omega)
    have b4:=cO J2 (by omega) (by omega)
    simp [-aF,-aD,F.f93_l3,hij',f1,f2,g1,g2];refine S.f2 hE _ _ ?_;simp [-aF,-aD,hnl,hij'',f1,f2,f3,g1,g2,g3,w3,w4,b3,b4];rw [if_neg (by omega),dif_pos (by omega)] at r2
    exact hX3 (J2 - 1+1 - (I2+1)) (by omega) _ _ ⟨I2+1,J2 - 1,_,rfl,s2.put _,by rw [size_swp]; exact n2,r2,by omega,by omega,by omega,by omega,by omega,rfl⟩
   ·have hij':¬ (I2:Int)<=J2:=by omega
    have hij'':(J2:Int)<I2:=by omega
    rw [if_pos (by omega)] at r2
    subst r2;simp [-aF,-aD,F.f93_l3,hij',hij''];exact hQ _ s2
  cases m with
  | zero=>exact exit5 r5
  | succ q' =>
   by_cases hc:I2<=q'+1/\cA d2[a]! d2[q'+1]! = true
   ·rw [scanDown,if_pos (by simp [hc.1,hc.2])] at r5
    have hc':(I2:Int)<=((q'+1:Nat):Int):=by omega
    have f2:=bF (b:=b) (c:=c) (n:=n) (i:=q'+1) (by omega)
    have g1:=aL s2.get (i:=a) (by omega)
    have g2:=aL s2.get (i:=q'+1) (by omega)
    have b4:aA .sub (vi ((q'+1:Nat):Int)) (.int .i64 1)=some (vi (q':Int)):=cO (q'+1) (by omega) (by omega)
    have hlt:=hc.2;generalize hqq:q'+1=qq at *;simp [-aF,-aD,F.f93_l3,hc',f1,f2,g1,g2];refine S.f2 hE _ _ ?_;simp [-aF,-aD,hlt,b4];exact hX5 q' (by omega) _ _ ⟨rfl,q',rfl,r5,by omega,rfl⟩
   ·rw [scanDown,if_neg (by simpa using hc)] at r5
    exact exit5 r5
 by_cases hc:p'<=q/\cA d2[a]! d2[p']! = false
 ·rw [if_pos (by simp [hc.1,hc.2])] at r4
  have hc':(p':Int)<=q:=by omega
  have f2:=bF (b:=b) (c:=c) (n:=n) (i:=p') (by omega)
  have g1:=aL s2.get (i:=a) (by omega)
  have g2:=aL s2.get (i:=p') (by omega)
  have b3:=bD p' (by omega)
  simp [-aF,-aD,F.f93_l2,hc',f1,f2,g1,g2];refine S.f2 hE _ _ ?_;simp [-aF,-aD,hc.2,b3];exact hX4 (q+1 - (p'+1)) (by omega) _ _ ⟨rfl,p'+1,rfl,r4,by omega,by omega,rfl⟩
 ·rw [if_neg (by simpa using hc)] at r4
  by_cases hpq:p'<=q
  ·have hc':(p':Int)<=q:=by omega
   have hlt:cA d2[a]! d2[p']! = true:=by simpa using fun h=>hc ⟨hpq,h⟩
   have f2:=bF (b:=b) (c:=c) (n:=n) (i:=p') (by omega)
   have g1:=aL s2.get (i:=a) (by omega)
   have g2:=aL s2.get (i:=p') (by omega)
   simp [-aF,-aD,F.f93_l2,hc',f1,f2,g1,g2];refine S.f2 hE _ _ ?_;simp [-aF,-aD,hlt];exact exit4 r4
  ·have hc':¬ (p':Int)<=q:=by omega
   simp [-aF,-aD,F.f93_l2,hc'];exact exit4 r4
theorem S.f91 (hE:bJ E) (hg:H.get b=eY u16 d tail f) (hn:d.size=n) (hsz:n<2 ^ 60) (a e:Nat) (hae:a<e) (he:e<=n)
    (hQ:∀ H',bP H b u16 tail f (partialInsertionSort cA d a e).1 H'->Q (vb (partialInsertionSort cA d a e).2) H'):E.call (E.fid i.f91) [slc b 0 n c,vi a,vi e] H Q:=by
  apply hE.f91;have b1:=bD a (by omega)
  simp only [F.f91,b1,aJ,aE];unfold partialInsertionSort at hQ;obtain ⟨R,hR⟩:∃ R,R=partialIns cA a e 5 (a+1) d:=⟨_,rfl⟩;rw [<- hR] at hQ;refine aO.ind (fun m l H'=>∃ (i:Nat) (d1:Array (BitVec 16)),l=[slc b 0 n c,vi a,vi e,vi i,vi ((5 - m:Nat):Int)]/\bP H b u16 tail f d1 H'/\d1.size=n/\R=partialIns cA a e m i d1/\a+1<=i/\i<=e/\m<=5) ?_ 5 ⟨a+1,d,rfl,.refl hg,hn,hR,Nat.le_refl _,by omega,Nat.le_refl _⟩
  rintro m _ H1 X hX ⟨i0,d1,rfl,s1,n1,r1,hi1,hi2,hm⟩;cases m with
  | zero =>
    simp [F.f91_l1];rw [partialIns] at r1;subst r1;exact hQ _ s1
  | succ m =>
    have hms:((5 - (m+1):Nat):Int)<5:=by omega
    have hmi:aA .add (vi ((5 - (m+1):Nat):Int)) (.int .i64 1)=some (vi ((5 - m:Nat):Int)):=by
      rw [bD _ (by omega)]; congr 3; omega
    have hX:∀ (i:Nat) (d2:Array (BitVec 16)) H2,bP H b u16 tail f d2 H2->d2.size=n->R=partialIns cA a e m i d2->a+1<=i->i<=e->X [slc b 0 n c,vi a,vi e,vi i,vi ((5 - m:Nat):Int)] H2:=fun i d2 H2 q1 q2 q3 q4 q5=>hX m (by omega) _ _ ⟨i,d2,rfl,q1,q2,q3,q4,q5,by omega⟩
    generalize hk:5 - (m+1)=k at *;generalize hk':5 - m=k' at *;simp [F.f91_l1,hms];rw [partialIns_succ] at r1;obtain ⟨I,hI⟩:∃ I,I=scanSorted cA d1 e i0:=⟨_,rfl⟩;rw [<- hI] at r1;refine aO.ind (fun m l H'=>H1=H'/\∃ i':Nat,l=[slc b 0 n c,vi a,vi e,vi i',vi k]/\I=scanSorted cA d1 e i'/\a+1<=i'/\i'<=e/\m=e - i') ?_ (e - i0) ⟨rfl,i0,rfl,hI,hi1,hi2,rfl⟩;rintro mm _ _ X1 hX1 ⟨rfl,i',rfl,r2,hi3,hi4,rfl⟩;rw [scanSorted] at r2;have b2:=cC e a (by omega) (by omega)
    have b2':aA .sub (vi e) (vi a)=some (vi ((e - a:Nat):Int)):=b2
    have exit:I=i' ->
        (opt (aA .eql (vi i') (vi e)) fun v15 =>
         ifB v15 (Q (.bool true) H1) (
         opt (aA .sub (vi e) (vi a)) fun v16 =>
         opt (aA .lss v16 (.int .i64 50)) fun v17 =>
         ifB v17 (Q (.bool false) H1) (
         opt (aA .sub (vi i') (.int .i64 1)) fun v18 =>
         opt (aA .sub (vi i') (.int .i64 1)) fun v19 =>
         opt (aG 1 (slc b 0 n c) v19) fun v20 =>
         opt (aB v20 H1) fun v21 =>
         opt (aG 1 (slc b 0 n c) (vi i')) fun v22 =>
         opt (aB v22 H1) fun v23 =>
         opt (aG 1 (slc b 0 n c) (vi i')) fun v24 =>
         opt (aN v24 v21 H1) fun H12 =>
         opt (aG 1 (slc b 0 n c) v18) fun v25 =>
         opt (aN v25 v23 H12) fun H13 =>
         opt (aA .sub (vi i') (vi a)) fun v26 =>
         opt (aA .geq v26 (.int .i64 2)) fun v27 =>
         ifB v27 (
         opt (aA .sub (vi i') (.int .i64 1)) fun v28 =>
         aO (fun l H X1=>F.f91_l4 E Q X (nth l 0) (nth l 1) (nth l 2) (nth l 3) (nth l 4) (nth l 5) H X1) [slc b 0 n c,vi a,vi e,vi i',vi k,v28] H13) (
         F.f91_j1 E Q X (slc b 0 n c) (vi a) (vi e) (vi i') (vi k) H13)))):=by
      rintro rfl;clear hX1
      by_cases c1:I=e
      · rw [if_pos c1] at r1
        subst r1;simp [c1];exact hQ _ s1
      rw [if_neg c1] at r1;have c1':¬ (I:Int)=e:=by omega
      by_cases c2:e - a<50
      · rw [if_pos c2] at r1
        subst r1;have c2':((e - a:Nat):Int)<50:=by omega
        generalize e - a=w at *;simp [c1',b2',c2'];exact hQ _ s1
      rw [if_neg c2] at r1;have c2':¬ ((e - a:Nat):Int)<50:=by omega
      have b3:=cO I (by omega) (by omega)
      have b4:=cC I a (by omega) (by omega)
      have b4':aA .sub (vi I) (vi a)=some (vi ((I - a:Nat):Int)):=b4;have f1:=bF (b:=b) (c:=c) (n:=n) (i:=I) (by omega)
      have f2:=bF (b:=b) (c:=c) (n:=n) (i:=I - 1) (by omega)
      have g1:=aL s1.get (i:=I) (by omega)
      have g2:=aL s1.get (i:=I - 1) (by omega)
      obtain ⟨w1,w2⟩:=cU bI s1.get (i:=I) (j:=I - 1) (by omega) (by omega)
      have s2:=s1.put (swp d1 I (I - 1));have n2:(swp d1 I (I - 1)).size=n:=by rw [size_swp]; exact n1
      have hkk:aA .add (vi k) (.int .i64 1)=some (vi k'):=hmi
      have j1:∀ (d3:Array (BitVec 16)) H3,bP H b u16 tail f d3 H3->d3.size=n->R=partialIns cA a e m I (fixUp cA e I d3)->F.f91_j1 E Q X (slc b 0 n c) (vi a) (vi e) (vi I) (vi k) H3:=by
        intro d3 H3 s3 n3 r3;unfold fixUp at r3;have b5:=cC e I (by omega) (by omega)
        have b5':aA .sub (vi e) (vi I)=some (vi ((e - I:Nat):Int)):=b5
        by_cases c3:e - I>=2
        · rw [if_pos c3] at r3
          have c3':(2:Int)<=((e - I:Nat):Int):=by omega
          have b6:=bD I (by omega)
          generalize hw:e - I=w at *;simp [F.f91_j1,b5',c3',b6];obtain ⟨D,hD⟩:∃ D,D=shiftUp cA e (I+1) d3:=⟨_,rfl⟩;rw [<- hD] at r3;refine aO.ind (fun mm l H'=>∃ (q:Nat) (d4:Array (BitVec 16)),l=[slc b 0 n c,vi a,vi e,vi I,vi k,vi q]/\bP H b u16 tail f d4 H'/\d4.size=n/\D=shiftUp cA e q d4/\1<=q/\q<=e/\mm=e - q) ?_ (e - (I+1)) ⟨I+1,d3,by simp,s3,n3,hD,by omega,by omega,rfl⟩
          rintro mm _ H4 X5 hX5 ⟨q,d4,rfl,s4,n4,r4,hq1,hq2,rfl⟩;rw [shiftUp] at r4
          have done:D=d4->X [slc b 0 n c,vi a,vi e,vi I,vi k'] H4:=by
            rintro rfl;exact hX I D H4 s4 n4 r3 hi3 (by omega)
          by_cases c4:q<e
          · have c4':(q:Int)<e:=by omega
            rw [if_pos c4] at r4;have b7:=cO q (by omega) (by omega)
            have b8:=bD q (by omega)
            have f1:=bF (b:=b) (c:=c) (n:=n) (i:=q) (by omega)
            have f2:=bF (b:=b) (c:=c) (n:=n) (i:=q - 1) (by omega)
            have g1:=aL s4.get (i:=q) (by omega)
            have g2:=aL s4.get (i:=q - 1) (by omega)
            obtain ⟨w1,w2⟩:=cU bI s4.get (i:=q) (j:=q - 1) (by omega) (by omega)
            have hY:=fun (d5:Array (BitVec 16)) H5 q1 q2 q3=>hX5 (e - (q+1)) (by omega) [slc b 0 n c,vi a,vi e,vi I,vi k,vi ((q+1:Nat):Int)] H5 ⟨q+1,d5,rfl,q1,q2,q3,by omega,by omega,rfl⟩
            generalize hq':q - 1=q' at *;generalize hq'':q+1=q'' at *;simp [-aF,-aD,F.f91_l3,c4',b7,f1,f2,g1,g2];refine S.f2 hE _ _ ?_
            by_cases hl:cA d4[q]! d4[q']! = true
            · simp only [hl,Bool.not_true,Bool.false_eq_true,if_false] at r4
              simp [-aF,-aD,hl,b7,b8,f1,f2,g1,g2,w1,w2];exact hY _ _ (s4.put _) (by rw [size_swp]; exact n4) r4
            · have hl:cA d4[q]! d4[q']! = false:=by simpa using hl
              simp only [hl,Bool.not_false,if_true] at r4;simp [hl,hkk];exact done r4
          · have c4':¬ (q:Int)<e:=by omega
            rw [if_neg c4] at r4;simp [F.f91_l3,c4',hkk];exact done r4
        · rw [if_neg c3] at r3
          have c3':¬ (2:Int)<=((e - I:Nat):Int):=by omega
          generalize hw:e - I=w at *;simp [F.f91_j1,b5',c3',hkk];exact hX I d3 H3 s3 n3 r3 hi3 hi4
      unfold fixDown at r1
      by_cases c3:I - a>=2
      · rw [if_pos c3] at r1
        have c3':(2:Int)<=((I - a:Nat):Int):=by omega
        obtain ⟨D,hD⟩:∃ D,D=shiftDown cA (I - 1) (swp d1 I (I - 1)):=⟨_,rfl⟩;rw [<- hD] at r1
        have goal4:aO (fun l H X1=>F.f91_l4 E Q X (nth l 0) (nth l 1) (nth l 2) (nth l 3) (nth l 4) (nth l 5) H X1) [slc b 0 n c,vi a,vi e,vi I,vi k,vi ((I - 1:Nat):Int)] (H1.put b (eY u16 (swp d1 I (I - 1)) tail f)):=by
          refine aO.ind (fun mm l H'=>∃ (q:Nat) (d4:Array (BitVec 16)),l=[slc b 0 n c,vi a,vi e,vi I,vi k,vi q]/\bP H b u16 tail f d4 H'/\d4.size=n/\D=shiftDown cA q d4/\q<n/\mm=q) ?_ (I - 1) ⟨I - 1,_,rfl,s2,n2,hD,by omega,rfl⟩
          rintro mm _ H4 X5 hX5 ⟨q,d4,rfl,s4,n4,r4,hq1,rfl⟩;cases mm with
          | zero =>
            simp [F.f91_l4];rw [shiftDown] at r4;subst r4;exact j1 _ _ s4 n4 r1
          | succ q =>
            have c4':(1:Int)<=((q+1:Nat):Int):=by omega
            rw [shiftDown] at r4;have b7:aA .sub (vi ((q+1:Nat):Int)) (.int .i64 1)=some (vi (q:Int)):=cO (q+1) (by omega) (by omega)
            have f1:=bF (b:=b) (c:=c) (n:=n) (i:=q+1) (by omega)
            have f2:=bF (b:=b) (c:=c) (n:=n) (i:=q) (by omega)
            have g1:=aL s4.get (i:=q+1) (by omega)
            have g2:=aL s4.get (i:=q) (by omega)
            obtain ⟨w1,w2⟩:=cU bI s4.get (i:=q+1) (j:=q) (by omega) (by omega)
            have hY:=fun (d5:Array (BitVec 16)) H5 q1 q2 q3=>hX5 q (by omega) [slc b 0 n c,vi a,vi e,vi I,vi k,vi (q:Int)] H5 ⟨q,d5,rfl,q1,q2,q3,by omega,rfl⟩
            generalize hq':q+1=q' at *;simp [-aF,-aD,F.f91_l4,c4',b7,f1,f2,g1,g2];refine S.f2 hE _ _ ?_
            by_cases hl:cA d4[q']! d4[q]! = true
            · simp only [hl,Bool.not_true,Bool.false_eq_true,if_false] at r4
              simp [-aF,-aD,hl,b7,f1,f2,g1,g2,w1,w2];exact hY _ _ (s4.put _) (by rw [size_swp]; exact n4) r4
            · have hl:cA d4[q']! d4[q]! = false:=by simpa using hl
              simp only [hl,Bool.not_false,if_true] at r4;simp [hl];subst r4;exact j1 _ _ s4 n4 r1
        generalize hI':I - 1=I' at *;generalize hw:e - a=w at *;generalize hw2:I - a=w2' at *;simp [-aF,-aD,c1',b2',c2',b3,b4',f1,f2,g1,g2,w1,w2,c3'];exact goal4
      · rw [if_neg c3] at r1
        have c3':¬ (2:Int)<=((I - a:Nat):Int):=by omega
        have:=j1 _ _ s2 n2 r1;generalize hI':I - 1=I' at *;generalize hw:e - a=w at *;generalize hw2:I - a=w2' at *;simp [-aF,-aD,c1',b2',c2',b3,b4',f1,f2,g1,g2,w1,w2,c3'];exact this
    have b7:=bD i' (by omega)
    by_cases c4:i'<e
    · have c4':(i':Int)<e:=by omega
      have b6:=cO i' (by omega) (by omega)
      have f1:=bF (b:=b) (c:=c) (n:=n) (i:=i') (by omega)
      have f2:=bF (b:=b) (c:=c) (n:=n) (i:=i' - 1) (by omega)
      have g1:=aL s1.get (i:=i') (by omega)
      have g2:=aL s1.get (i:=i' - 1) (by omega)
      by_cases hl:cA d1[i']! d1[i' - 1]! = true
      · rw [if_neg (by simp [hl])] at r2
        have:=exit r2;clear exit hX1;generalize hI':i' - 1=I' at *;simp [-aF,-aD,F.f91_l2,c4',b6,f1,f2,g1,g2];refine S.f2 hE _ _ ?_;simp only [hl];simp only [eC,Bool.not_true,aJ,aE,dX,aQ,aI];exact this
      · have hl:cA d1[i']! d1[i' - 1]! = false:=by simpa using hl
        rw [if_pos (by simp [hl,c4])] at r2
        clear exit;have hX1:=hX1 (e - (i'+1)) (by omega) [slc b 0 n c,vi a,vi e,vi ((i'+1:Nat):Int),vi k] H1 ⟨rfl,i'+1,rfl,r2,by omega,by omega,rfl⟩
        generalize hI':i' - 1=I' at *;generalize hI'':i'+1=I'' at *;simp [-aF,-aD,F.f91_l2,c4',b6,f1,f2,g1,g2];refine S.f2 hE _ _ ?_;simp [hl,b7];exact hX1
    · have c4':¬ (i':Int)<e:=by omega
      rw [if_neg (by simp [c4])] at r2
      have:=exit r2;clear exit hX1;simp only [F.f91_l2,dM,dT,dW,fC,jG,bG,c4',decide_false,aJ,aE,fY,aW,aI];exact this
theorem S.f89 (hE:bJ E) (hg:H.get b=eY u16 d tail f) (hn:d.size=n) (p q:Nat) (hp:p<n) (hq:q<n) (s k:Nat) (hs:H.get s = .cells [vi k] none) (hk:k<1000) (hsb:s≠b)
  (hQ:∀ r1 r2 k' H',((r1=p/\r2=q)\/(r1=q/\r2=p))->dN [s] H H'->H'.get s = .cells [vi (k':Nat)] none->k'<=k+1->Q (.tuple #[vi (r1:Nat),vi (r2:Nat)]) H') :
  E.call (E.fid i.f89) [slc b 0 n c,vi p,vi q,ptr s 0] H Q:=by
 apply hE.f89;have f1:=bF (b:=b) (c:=c) (n:=n) (i:=p) hp;have f2:=bF (b:=b) (c:=c) (n:=n) (i:=q) hq;have g1:=aL hg (i:=p) (by omega)
 have g2:=aL hg (i:=q) (by omega)
 have hlt:=AH.lt_cells hs;have b1:=bD k (by omega)
 simp [-aD,F.f89,f1,f2,g1,g2];refine S.f2 hE _ _ ?_
 by_cases hl:cA d[q]! d[p]! = true
 ·simp only [hl,aP,bA,aD,hs,bE,List.getElem?_cons_zero,aJ,aE,b1,aF,xF,if_true,List.length_cons,List.length_nil,List.set_cons_zero]
  rw [if_pos (by omega),aE]
  exact hQ q p (k+1) _ (.inr ⟨rfl,rfl⟩) ((dN.refl _ _).put (.inl (by simp)) _) (AH.get_put_self _ _ hlt) (Nat.le_refl _)
 ·simp [hl]
  exact hQ p q k _ (.inl ⟨rfl,rfl⟩) (dN.refl _ _) hs (by omega)
theorem S.f86 (hE:bJ E) (hg:H.get b=eY u16 d tail f) (hn:d.size=n) (p q r:Nat) (hp:p<n) (hq:q<n) (hr:r<n) (s k:Nat) (hs:H.get s = .cells [vi k] none) (hk:k<900) (hsb:s≠b)
  (hQ:∀ m k' H',(m=p\/m=q\/m=r)->dN [s] H H'->H'.get s = .cells [vi (k':Nat)] none->k'<=k+3->Q (vi (m:Nat)) H') :
  E.call (E.fid i.f86) [slc b 0 n c,vi p,vi q,vi r,ptr s 0] H Q:=by
 apply hE.f86;have keep:∀ {H'},dN [s] H H'->H'.get b=eY u16 d tail f:=fun o=>by rw [o.get (lP hg) (by simpa using Ne.symm hsb)]; exact hg
 simp only [F.f86];refine S.f89 hE hg hn p q hp hq s k hs (by omega) hsb fun a1 a2 k1 H1 e1 o1 s1 l1 =>?_
 simp;refine S.f89 hE (keep o1) hn a2 r (by omega) hr s k1 s1 (by omega) hsb fun a3 a4 k2 H2 e2 o2 s2 l2 =>?_
 have o12:=o1.trans' o2;simp;refine S.f89 hE (keep o12) hn a1 a3 (by omega) (by omega) s k2 s2 (by omega) hsb fun a5 a6 k3 H3 e3 o3 s3 l3 =>?_
 simp;exact hQ a6 k3 H3 (by omega) (o12.trans' o3) s3 (by omega)
theorem S.f84 (hE:bJ E) (hg:H.get b=eY u16 d tail f) (hn:d.size=n) (hsz:n<2 ^ 60) (p:Nat) (hp0:1<=p) (hp:p+1<n) (s k:Nat) (hs:H.get s = .cells [vi k] none) (hk:k<900) (hsb:s≠b)
  (hQ:∀ m k' H',(p - 1<=m/\m<=p+1)->dN [s] H H'->H'.get s = .cells [vi (k':Nat)] none->k'<=k+3->Q (vi (m:Nat)) H') :
  E.call (E.fid i.f84) [slc b 0 n c,vi p,ptr s 0] H Q:=by
 apply hE.f84;have b1:=cO p hp0 (by omega)
 have b2:=bD p (by omega)
 simp only [F.f84,b1,b2,aJ,aE];refine S.f86 hE hg hn (p - 1) p (p+1) (by omega) (by omega) hp s k hs hk hsb fun m k' H' e1 o1 s1 l1=>hQ m k' H' (by omega) o1 s1 l1
theorem S.f78 (hE:bJ E) (hg:H.get b=eY u16 d tail f) (hn:d.size=n) (hsz:n<2 ^ 60) (a e:Nat) (hae:a+8<=e) (he:e<=n)
  (hQ:∀ (m:Nat) (h:Int) H',a<=m->m<e->Ext H H'->Q (.tuple #[vi m,vi h]) H'):E.call (E.fid i.f78) [slc b 0 n c,vi a,vi e] H Q:=by
 apply hE.f78;have a1:aA .sub (vi e) (vi a)=some (vi ((e - a:Nat):Int)):=cC e a (by omega) (by omega)
 have hbl:=lP hg;generalize hw:e - a=w at *;have a2:aA .quo (vi (w:Int)) (.int .i64 4)=some (vi ((w / 4:Nat):Int)):=gH w 4 (by decide) (by omega)
 have hq4:w / 4*4<=w:=Nat.div_mul_le_self _ _;have hq4':1<=w / 4:=by omega
 have hq50:50<=w->12<=w / 4:=fun h=>by omega
 generalize hq:w / 4=q at *;have m1:aA .mul (vi (q:Int)) (.int .i64 1)=some (vi ((q*1:Nat):Int)):=by rw [lA (by omega) (by omega)]; congr 2
 have m2:aA .mul (vi (q:Int)) (.int .i64 2)=some (vi ((q*2:Nat):Int)):=by rw [lA (by omega) (by omega)]; congr 2
 have m3:aA .mul (vi (q:Int)) (.int .i64 3)=some (vi ((q*3:Nat):Int)):=by rw [lA (by omega) (by omega)]; congr 2
 have p1:=cG a (q*1) (by omega)
 have p2:=cG a (q*2) (by omega)
 have p3:=cG a (q*3) (by omega)
 have c8:(8:Int)<=w:=by omega
 have hg1:(H.new (.cells [vi 0] none)).get b=eY u16 d tail f:=by rw [AH.get_new_lt _ _ hbl]; exact hg
 have hs1:(H.new (.cells [vi 0] none)).get H.next = .cells [vi ((0:Nat):Int)] none:=AH.get_new_self _ _;have hsb:H.next≠b:=by omega
 have x1:Ext H (H.new (.cells [vi 0] none)):=(Ext.refl H).new _;have ext_of:∀ {H'},dN [H.next] (H.new (.cells [vi 0] none)) H'->Ext H H':=fun o=>o.ext x1 (by simp)
 have keep:∀ {H'},dN [H.next] (H.new (.cells [vi 0] none)) H'->H'.get b=eY u16 d tail f:=fun o=>by rw [o.get (lP hg1) (by simpa using Ne.symm hsb)]; exact hg1
 have last:∀ (m k:Nat) H',a<=m->m<e->Ext H H'->H'.get H.next = .cells [vi (k:Nat)] none->F.f78_j1 E Q (ptr H.next 0) (vi m) H':=by
  intro m k H' h1 h2 e1 s1
  by_cases k0:(k:Int)=0
  ·simp [F.f78_j1,s1,k0]
   exact hQ m _ H' h1 h2 e1
  ·by_cases k12:(k:Int)=12
   ·simp [F.f78_j1,s1,k12]
    exact hQ m _ H' h1 h2 e1
   ·have k0':¬ k=0:=by omega
    simp [F.f78_j1,s1,k0',k12];exact hQ m _ H' h1 h2 e1
 have last2:∀ (x y z k:Nat) H',a<=x->x<e->a<=y->y<e->a<=z->z<e->dN [H.next] (H.new (.cells [vi 0] none)) H'->H'.get H.next = .cells [vi (k:Nat)] none->k<900->F.f78_j2 E Q (slc b 0 n c) (ptr H.next 0) (vi x) (vi y) (vi z) H':=by
  intro x y z k H' h1 h2 h3 h4 h5 h6 o1 s1 hk;simp only [F.f78_j2];refine S.f86 hE (keep o1) hn x y z (by omega) (by omega) (by omega) H.next k s1 hk hsb fun m k' H2 hm o2 s2 _ =>?_
  exact last m k' H2 (by omega) (by omega) (ext_of (o1.trans' o2)) s2
 by_cases c50:50<=w
 ·have c50':(50:Int)<=w:=by omega
  have hq50:=hq50 c50;have g1:a+1<=a+q*1/\a+q*1+1<e:=by omega
  have g2:a+1<=a+q*2/\a+q*2+1<e:=by omega
  have g3:a+1<=a+q*3/\a+q*3+1<e:=by omega
  generalize hx:a+q*1=x at *;generalize hy:a+q*2=y at *;generalize hz:a+q*3=z at *;generalize q*1=q1 at *;generalize q*2=q2 at *;generalize q*3=q3 at *;simp [F.f78,a1,a2,m1,m2,m3,p1,p2,p3,c8,c50'];refine S.f84 hE hg1 hn hsz x (by omega) (by omega) H.next 0 hs1 (by omega) hsb fun r1 k1 H1 e1 o1 s1 l1 =>?_
  refine S.f84 hE (keep o1) hn hsz y (by omega) (by omega) H.next k1 s1 (by omega) hsb fun r2 k2 H2 e2 o2 s2 l2 =>?_
  refine S.f84 hE (keep (o1.trans' o2)) hn hsz z (by omega) (by omega) H.next k2 s2 (by omega) hsb fun r3 k3 H3 e3 o3 s3 l3 =>?_
  exact last2 r1 r2 r3 k3 H3 (by omega) (by omega) (by omega) (by omega) (by omega) (by omega) ((o1.trans' o2).trans' o3) s3 (by omega)
 ·have c50':¬ (50:Int)<=w:=by omega
  have g1:a+q*1<e:=by omega
  have g2:a+q*2<e:=by omega
  have g3:a+q*3<e:=by omega
  have g0:a<=a+q*1/\a<=a+q*2/\a<=a+q*3:=by omega
  generalize hx:a+q*1=x at *;generalize hy:a+q*2=y at *;generalize hz:a+q*3=z at *;generalize q*1=q1 at *;generalize q*2=q2 at *;generalize q*3=q3 at *;simp [F.f78,a1,a2,m1,m2,m3,p1,p2,p3,c8,c50'];exact last2 x y z 0 _ g0.1 g1 g0.2.1 g2 g0.2.2 g3 (dN.refl _ _) hs1 (by omega)
theorem S.f76 (hE:bJ E) (hg:H.get b=eY u16 d tail f) (hn:d.size=n) (hsz:n<2 ^ 31) (a e:Nat) (hae:a+8<=e) (he:e<=n)
  (hQ:∀ d' H',PermIn a e d d'->bP H b u16 tail f d' H'->Q (.tuple #[]) H'):E.call (E.fid i.f76) [slc b 0 n c,vi a,vi e] H Q:=by
 apply hE.f76;have a1:aA .sub (vi e) (vi a)=some (vi ((e - a:Nat):Int)):=cC e a (by omega) (by omega)
 have hbl:=lP hg;generalize hw:e - a=w at *;have a2:aA .quo (vi (w:Int)) (.int .i64 4)=some (vi ((w / 4:Nat):Int)):=gH w 4 (by decide) (by omega)
 have hq4:w / 4*4<=w:=Nat.div_mul_le_self _ _;have hq4':2<=w / 4:=by omega
 generalize hq:w / 4=q at *;have m2:aA .mul (vi (q:Int)) (.int .i64 2)=some (vi ((q*2:Nat):Int)):=by rw [lA (by omega) (by omega)]; congr 2
 have p2:=cG a (q*2) (by omega)
 have p3:=cO (a+q*2) (by omega) (by omega)
 have p4:=bD (a+q*2) (by omega)
 have c8:(8:Int)<=w:=by omega
 have hc:bC .u64 (vi (w:Int))=some (u64 (BitVec.ofNat 64 w)):=by rw [jD,BitVec.ofInt_natCast]
 have hm2:2 ^ bitsLen w<=2*w:=two_pow_bitsLen_le (by omega)
 have hm1:=Nat.two_pow_pos (bitsLen w);generalize hM:2 ^ bitsLen w=M at *;have gx:a+1<=a+q*2/\a+q*2+1<e:=by omega
 generalize hx:a+q*2=x at *;generalize q*2=q2 at *;have x1:Ext H (H.new (.cells [u64 (BitVec.ofNat 64 w)] none)):=(Ext.refl H).new _;simp [F.f76,a1,a2,m2,p2,p3,c8,hc];refine S.f88 hE w (by omega) ?_
 rw [hM];simp [a2,m2,p2,p3]
 refine aO.ind (fun m l H'=>∃ (j:Nat) (d1:Array (BitVec 16)) (y:BitVec 64),l=[slc b 0 n c,vi a,vi w,ptr H.next 0,u64 (BitVec.ofNat 64 M),vi j]/\bP H b u16 tail f d1 H'/\d1.size=n/\PermIn a e d d1/\H'.get H.next = .cells [u64 y] none/\a<=j/\j<=x+2/\m=x+2 - j) ?_ (x+2 - (x - 1))
  ⟨x - 1,d,_,by simp,⟨x1.only,by rw [AH.get_new_lt _ _ hbl]; exact hg⟩,hn,permIn_refl _ _ _,AH.get_new_self _ _,by omega,by omega,rfl⟩
 rintro m _ H1 X hX ⟨j,d1,y,rfl,s1,n1,pp,hb1,hj1,hj2,rfl⟩
 by_cases cj:j<=x+1
 ·have cj':(j:Int)<=((x+1:Nat):Int):=by omega
  have pj:=bD j (by omega)
  have fin:∀ (o:Nat) (y':BitVec 64),o<w->F.f76_j1 E Q X (slc b 0 n c) (vi a) (vi w) (ptr H.next 0) (u64 (BitVec.ofNat 64 M)) (vi j) (vi o) (H1.put H.next (.cells [u64 y'] none)):=by
   intro o y' ho;have hnb:b≠H.next:=by omega
   have s2:bP H b u16 tail f d1 (H1.put H.next (.cells [u64 y'] none)):=⟨s1.only.put (.inr (Nat.le_refl _)) _,by rw [AH.get_put_ne _ _ hnb]; exact s1.get⟩
   have pa:=cG a o (by omega)
   have f1:=bF (b:=b) (c:=c) (n:=n) (i:=j) (by omega)
   have f2:=bF (b:=b) (c:=c) (n:=n) (i:=a+o) (by omega)
   have g1:=aL s2.get (i:=j) (by omega)
   have g2:=aL s2.get (i:=a+o) (by omega)
   obtain ⟨w1,w2⟩:=cU bI s2.get (i:=j) (j:=a+o) (by omega) (by omega)
   have hpp:=swp_permIn d1 a e j (a+o) hj1 (by omega) (by omega) (by omega) (by omega)
   have hX:=hX (x+2 - (j+1)) (by omega) [slc b 0 n c,vi a,vi w,ptr H.next 0,u64 (BitVec.ofNat 64 M),vi ((j+1:Nat):Int)] _ ⟨j+1,_,y',rfl,s2.put (swp d1 j (a+o)),by rw [size_swp]; exact n1,permIn_trans _ _ _ _ _ pp hpp,by rw [AH.get_put_ne _ _ (Ne.symm hnb),AH.get_put_self _ _ (AH.lt_cells hb1)],by omega,by omega,rfl⟩
   generalize a+o=ao at *;generalize hj'':j+1=j' at *;simp [-aF,-aD,F.f76_j1,pa,f1,f2,g1,g2,w1,w2,pj];exact hX
  generalize hx1:x+1=x' at *;simp [F.f76_l1,a2,m2,p2,p4,cj'];refine S.f103 hE H.next y hb1 fun y' =>?_;have l1:(.int .u64 1:Value)=u64 1#64:=rfl
  have hsub:BitVec.ofNat 64 M - 1#64=BitVec.ofNat 64 (M - 1):=by
   apply BitVec.eq_of_toNat_eq;rw [BitVec.toNat_sub,BitVec.toNat_ofNat,BitVec.toNat_ofNat,BitVec.toNat_ofNat];omega
  have hand:(y'&&&BitVec.ofNat 64 (M - 1)).toNat<=M - 1:=by
   rw [BitVec.toNat_and];refine Nat.le_trans Nat.and_le_right ?_;rw [BitVec.toNat_ofNat];exact Nat.mod_le _ _
  have hcv:∀ z:BitVec 64,z.toNat<2 ^ 62->bC .i64 (u64 z)=some (vi (z.toNat:Int)):=by
   intro z hz;rw [fN,fU,jL (by omega) (by omega)]
  have hcv':=hcv _ (by omega:(y'&&&BitVec.ofNat 64 (M - 1)).toNat<2 ^ 62)
  simp only [l1,aDq,hsub,aC5,hcv',aJ,aE,eB,dM,dT,dW,fC,jG,kY];generalize (y'&&&BitVec.ofNat 64 (M - 1)).toNat=o at *
  by_cases co:w<=o
  ·have co':(w:Int)<=o:=by omega
   have hs:aA .sub (vi (o:Int)) (vi (w:Int))=some (vi ((o - w:Nat):Int)):=cC o w co (by omega)
   simp only [co',decide_true,aP,hs,aJ,aE,dM,dT,dW,fC,jG,kY];exact fin (o - w) y' (by omega)
  ·have co':¬ (w:Int)<=o:=by omega
   simp only [co',decide_false,aI,dM,dT,dW,fC,jG,kY];exact fin o y' (by omega)
 ·have cj':¬ (j:Int)<=((x+1:Nat):Int):=by omega
  generalize hx1:x+1=x' at *;simp [F.f76_l1,a2,m2,p2,p4,cj'];exact hQ d1 H1 pp s1
theorem S.f97 (hE:bJ E) (hS:SWO cA):∀ (w:Nat) {H:AH} {Q:Value->AH->Prop} {d:Array (BitVec 16)} (_:H.get b=eY u16 d tail f) (_:d.size=n) (_:n<2 ^ 31) (a e:Nat) (_:a<=e) (_:e<=n) (limit:Nat) (_:limit<2 ^ 60) (_:Go.Sort.Below cA a e d) (_:e - a<=w)
    (_:∀ d' H',PermIn a e d d'->SortedIn cA a e d'->bP H b u16 tail f d' H'->Q (.tuple #[]) H'),E.call (E.fid i.f97) [slc b 0 n c,vi a,vi e,vi limit] H Q:=by
  intro w
  induction w using Nat.strongRecOn with
  | _ w ih =>
  intro H Q d hg hn hsz a0 e0 hae0 he0 limit0 hlim0 hB0 hw hQ;apply hE.f97;simp only [F.f97]
  refine aO.ind (fun m l H'=>∃ (a e limit:Nat) (wb wp:Bool) (d1:Array (BitVec 16)),l=[slc b 0 n c,vi a,vi e,vi limit,vb wb,vb wp]/\bP H b u16 tail f d1 H'/\d1.size=n/\a<=e/\e<=n/\limit<2 ^ 60/\e - a<=w/\Go.Sort.Below cA a e d1 /\
      (∀ R,PermIn a e d1 R->SortedIn cA a e R->PermIn a0 e0 d R/\SortedIn cA a0 e0 R)/\m=e - a) ?_ (e0 - a0) ⟨a0,e0,limit0,true,true,d,rfl,.refl hg,hn,hae0,he0,hlim0,hw,hB0,fun R h1 h2=>⟨h1,h2⟩,rfl⟩
  rintro m _ H1 X hX ⟨a,e,limit,wb,wp,d1,rfl,s1,n1,hae,hen,hlim,hwe,hB,fin,rfl⟩;have a1:aA .sub (vi e) (vi a)=some (vi ((e - a:Nat):Int)):=cC e a (by omega) (by omega)
  by_cases c12:e - a<=12
  · have c12':((e - a:Nat):Int)<=12:=by omega
    generalize hW:e - a=W at *;simp [F.f97_l1,a1,c12'];refine S.f82 hE s1.get n1 (by omega) a e hae hen fun H2 s2 =>?_
    obtain ⟨h1,h2⟩:=insertionSort_holds hS d1 a e hae (by omega)
    obtain ⟨h3,h4⟩:=fin _ h1 h2;exact hQ _ _ h3 h4 (s1.trans s2)
  have c12':¬ ((e - a:Nat):Int)<=12:=by omega
  by_cases c0:limit=0
  · subst c0
    generalize hW:e - a=W at *;simp [F.f97_l1,a1,c12'];refine S.f80 hE s1.get n1 (by omega) a e (by omega) hen fun H2 s2 =>?_
    obtain ⟨h1,h2⟩:=heapSort_holds hS d1 a e hae (by omega)
    obtain ⟨h3,h4⟩:=fin _ h1 h2;exact hQ _ _ h3 h4 (s1.trans s2)
  have c0':¬ (limit:Int)=0:=by omega
  have w8:aA .quo (vi ((e - a:Nat):Int)) (.int .i64 8)=some (vi (((e - a) / 8:Nat):Int)):=gH (e - a) 8 (by decide) (by omega)
  have j3:∀ (d3:Array (BitVec 16)) H3 (lim:Nat) (wb wp:Bool) (pv:Nat),bP H b u16 tail f d3 H3->d3.size=n->PermIn a e d1 d3->lim<2 ^ 60->a<=pv->pv<e->F.f97_j3 E Q X (slc b 0 n c) (vi a) (vi e) (vi lim) (vb wb) (vb wp) (vi ((e - a:Nat):Int)) (vi pv) H3:=by
    intro d3 H3 lim wb wp pv s3 n3 p3 hlim hp1 hp2;have B3:Go.Sort.Below cA a e d3:=hB.permA permIn_all (by omega) p3
    have fin3:∀ R,PermIn a e d3 R->SortedIn cA a e R->PermIn a0 e0 d R/\SortedIn cA a0 e0 R:=fun R h1 h2=>fin R (permIn_trans _ _ _ _ _ p3 h1) h2
    have part:∀ (K:Value->AH->Prop),(K=fun v15 H13 =>
         opt (ext v15 0) fun v16 =>
         opt (ext v15 1) fun v17 =>
         opt (aA .sub v16 (vi a)) fun v18 =>
         opt (aA .sub (vi e) v16) fun v19 =>
         opt (aA .quo (vi ((e - a:Nat):Int)) (.int .i64 8)) fun v20 =>
         opt (aA .lss v18 v19) fun v21 =>
         ifB v21 (
         opt (aA .geq v18 v20) fun v22 =>
         E.call (E.fid i.f97) [slc b 0 n c,vi a,v16,vi lim] H13 fun v23 H14 =>
         opt (aA .add v16 (.int .i64 1)) fun v24 =>
         X [slc b 0 n c,v24,vi e,vi lim,v22,v17] H14) (
         opt (aA .geq v19 v20) fun v25 =>
         opt (aA .add v16 (.int .i64 1)) fun v26 =>
         E.call (E.fid i.f97) [slc b 0 n c,v26,vi e,vi lim] H13 fun v27 H15 =>
         X [slc b 0 n c,vi a,v16,vi lim,v25,v17] H15))->E.call (E.fid i.f95) [slc b 0 n c,vi a,vi e,vi pv] H3 K:=by
      rintro K rfl;refine S.f95 hE s3.get n3 (by omega) a e pv hp1 hp2 hen fun H4 s4 =>?_
      rcases hx:partition cA d3 a e pv with ⟨mid,ap,d4⟩
      rw [hx] at s4;obtain ⟨g1,g2,hs4,hBa,hBr,hl,hr⟩:=round_part hS (partition_holds cA) hp1 hp2 (by omega) B3 hx
      have n4:d4.size=n:=by omega
      have s4':=s3.trans s4;have b1:aA .sub (vi mid) (vi a)=some (vi ((mid - a:Nat):Int)):=cC mid a g1 (by omega)
      have b2:aA .sub (vi e) (vi mid)=some (vi ((e - mid:Nat):Int)):=cC e mid (by omega) (by omega)
      have b3:=bD mid (by omega)
      simp only [aJ,cV,List.getElem?_cons_zero,List.getElem?_cons_succ,aE,b1,b2,b3,w8,bG,eB]
      by_cases cl:mid - a<e - mid
      · have cl':((mid - a:Nat):Int)<((e - mid:Nat):Int):=by omega
        simp only [cl',decide_true,aJ,aP,eB,aE];refine ih (mid - a) (by omega) s4'.get n4 hsz a mid g1 (by omega) lim hlim hBa (Nat.le_refl _) fun d5 H5 p5 q5 s5 =>?_
        obtain ⟨hBL,hfin⟩:=hl d5 p5 q5;have n5:d5.size=n:=by rw [p5.1]; exact n4
        simp only [b3,aJ,aE]
        exact hX (e - (mid+1)) (by omega) _ _ ⟨mid+1,e,lim,_,ap,d5,rfl,s4'.trans s5,n5,by omega,hen,hlim,by omega,hBL,fun R h1 h2=>by
          obtain ⟨h3,h4⟩:=hfin R h1 h2;exact fin3 R h3 h4,rfl⟩
      · have cl':¬ ((mid - a:Nat):Int)<((e - mid:Nat):Int):=by omega
        simp only [cl',decide_false,aJ,aI,eB,aE,b3];refine ih (e - (mid+1)) (by omega) s4'.get n4 hsz (mid+1) e (by omega) hen lim hlim hBr (Nat.le_refl _) fun d5 H5 p5 q5 s5 =>?_
        obtain ⟨hBL,hfin⟩:=hr d5 p5 q5;have n5:d5.size=n:=by rw [p5.1]; exact n4
        exact hX (mid - a) (by omega) _ _ ⟨a,mid,lim,_,ap,d5,rfl,s4'.trans s5,n5,g1,by omega,hlim,by omega,hBL,fun R h1 h2=>by
          obtain ⟨h3,h4⟩:=hfin R h1 h2;exact fin3 R h3 h4,rfl⟩
    by_cases ca:0<a
    · have ca':(0:Int)<a:=by omega
      have b1:=cO a (by omega) (by omega)
      have f1:=bF (b:=b) (c:=c) (n:=n) (i:=a - 1) (by omega)
      have f2:=bF (b:=b) (c:=c) (n:=n) (i:=pv) (by omega)
      have g1:=aL s3.get (i:=a - 1) (by omega)
      have g2:=aL s3.get (i:=pv) (by omega)
      have part:=part _ rfl
      by_cases hl:cA d3[a - 1]! d3[pv]! = true
      · generalize hW:e - a=W at *
        generalize hA:a - 1=a1 at *;simp [-aF,-aD,F.f97_j3,ca',ca,b1,f1,f2,g1,g2];refine S.f2 hE _ _ ?_;simp only [hl];simp only [eC,Bool.not_true,aJ,aE,dX,aQ,aI];exact part
      · have hl:cA d3[a - 1]! d3[pv]! = false:=by simpa using hl
        clear part;rcases hx:partitionEqual cA d3 a e pv with ⟨mid,d4⟩
        obtain ⟨g3,g4,hs4,hB4,hfin⟩:=round_eq hS (partitionEqual_holds cA) ca hp1 hp2 (by omega) B3 hl hx
        have hY:=fun H4 s4=>hX (e - mid) (by omega) [slc b 0 n c,vi mid,vi e,vi lim,vb wb,vb wp] H4 ⟨mid,e,lim,wb,wp,d4,rfl,s4,by omega,g4,hen,hlim,by omega,hB4,fun R h1 h2=>by
            obtain ⟨h3,h4⟩:=hfin R h1 h2;exact fin3 R h3 h4,rfl⟩
        generalize hW:e - a=W at *;generalize hA:a - 1=a1 at *;simp [-aF,-aD,F.f97_j3,ca',ca,b1,f1,f2,g1,g2];refine S.f2 hE _ _ ?_;simp [hl];refine S.f93 hE s3.get n3 (by omega) a e pv hp1 hp2 hen fun H4 s4 =>?_
        rw [hx] at s4 ⊢;exact hY H4 (s3.trans s4)
    · have ca':¬ (0:Int)<a:=by omega
      have part:=part _ rfl;generalize hW:e - a=W at *;simp only [F.f97_j3,dC,ca',decide_false,aJ,aE,fY,aW,aI];exact part
  have j2:∀ (d3:Array (BitVec 16)) H3 (lim:Nat) (wb wp:Bool) (pv:Nat) (hint:Int),bP H b u16 tail f d3 H3->d3.size=n->PermIn a e d1 d3->lim<2 ^ 60->a<=pv->pv<e->F.f97_j2 E Q X (slc b 0 n c) (vi a) (vi e) (vi lim) (vb wb) (vb wp) (vi ((e - a:Nat):Int)) (vi pv) (vi hint) H3:=by
    intro d3 H3 lim wb wp pv hint s3 n3 p3 hlim hp1 hp2;have B3:Go.Sort.Below cA a e d3:=hB.permA permIn_all (by omega) p3
    have h3:=j3 d3 H3 lim wb wp pv s3 n3 p3 hlim hp1 hp2
    have try_:E.call (E.fid i.f91) [slc b 0 n c,vi a,vi e] H3 fun v6 H4=>ifB v6 (Q (.tuple #[]) H4) (F.f97_j3 E Q X (slc b 0 n c) (vi a) (vi e) (vi lim) (vb wb) (vb wp) (vi ((e - a:Nat):Int)) (vi pv) H4):=by
      refine S.f91 hE s3.get n3 (by omega) a e (by omega) hen fun H4 s4 =>?_
      obtain ⟨q1,q2⟩:=partialInsertionSort_holds hS d3 a e (by omega) (by omega) B3
      cases hb:(partialInsertionSort cA d3 a e).2 with
      | true =>
        obtain ⟨h5,h6⟩:=fin _ (permIn_trans _ _ _ _ _ p3 q1) (q2 hb);simp only [aP];exact hQ _ _ h5 h6 (s3.trans s4)
      | false =>
        simp only [aI];exact j3 _ H4 lim wb wp pv (s3.trans s4) (by rw [q1.1]; exact n3) (permIn_trans _ _ _ _ _ p3 q1) hlim hp1 hp2
    cases wb with
    | false =>
      simp only [F.f97_j2,fY,aW,aJ,aE,aI];exact h3
    | true =>
      cases wp with
      | false =>
        simp only [F.f97_j2,dX,fY,aQ,aW,aJ,aE,aI];exact h3
      | true =>
        by_cases ch:hint=1
        · simp only [F.f97_j2,dX,aQ,aJ,aE,aT,ch,decide_true,aP]
          exact try_
        · simp only [F.f97_j2,dX,aQ,aJ,aE,aT,ch,decide_false,aI]
          exact h3
  have j1:∀ (d3:Array (BitVec 16)) H3 (lim:Nat) (wb wp:Bool),bP H b u16 tail f d3 H3->d3.size=n->PermIn a e d1 d3->lim<2 ^ 60->F.f97_j1 E Q X (slc b 0 n c) (vi a) (vi e) (vi lim) (vb wb) (vb wp) (vi ((e - a:Nat):Int)) H3:=by
    intro d3 H3 lim wb wp s3 n3 p3 hlim;simp only [F.f97_j1];refine S.f78 hE s3.get n3 (by omega) a e (by omega) hen fun pv hint H4 hp1 hp2 e4 =>?_
    have s4:=s3.ext e4;simp only [aJ,cV,List.getElem?_cons_zero,List.getElem?_cons_succ,aE,aT]
    by_cases ch:hint=2
    · simp only [ch,decide_true,aP]
      refine S.f99 hE s4.get n3 (by omega) a e (by omega) hen fun H5 s5 =>?_
      have q1:=reverseRange_holds d3 a e hae (by omega)
      have b1:=cO e (by omega) (by omega)
      have b2:aA .sub (vi pv) (vi a)=some (vi ((pv - a:Nat):Int)):=cC pv a hp1 (by omega)
      have b3:aA .sub (vi ((e - 1:Nat):Int)) (vi ((pv - a:Nat):Int))=some (vi ((e - 1 - (pv - a):Nat):Int)):=cC (e - 1) (pv - a) (by omega) (by omega)
      simp only [b1,b2,b3,aJ,aE];exact j2 _ H5 lim wb wp _ 1 (s4.trans s5) (by rw [q1.1]; exact n3) (permIn_trans _ _ _ _ _ p3 q1) hlim (by omega) (by omega)
    · simp only [ch,decide_false,aI]
      exact j2 d3 H4 lim wb wp pv hint s4 n3 p3 hlim hp1 hp2
  cases wb with
  | true =>
    have:=j1 d1 H1 limit true wp s1 n1 (permIn_refl _ _ _) hlim;generalize hW:e - a=W at *;simp only [F.f97_l1,dM,dT,dW,fC,jG,kY,a1,c12',c0',uW,aT,decide_false,eC,Bool.not_true,aJ,aE,aI];exact this
  | false =>
    have b1:=cO limit (by omega) (by omega)
    have go:=fun d' H' p' s'=>j1 d' H' (limit - 1) false wp s' (by rw [(p':PermIn a e d1 d').1]; exact n1) p' (by omega)
    generalize hW:e - a=W at *;simp only [F.f97_l1,dM,dT,dW,fC,jG,kY,a1,c12',c0',uW,aT,decide_false,eC,Bool.not_false,aJ,aE,aI,aP];refine S.f76 hE s1.get n1 hsz a e (by omega) hen fun d' H' p' s' =>?_
    simp only [b1,aJ,aE];exact go d' H' p' (s1.trans s')
theorem S.f74 (hE:bJ E) (hS:SWO cA) (hg:H.get b=eY u16 d tail f) (hn:d.size=n) (hsz:n<2 ^ 31)
  (hQ:∀ d' H',PermIn 0 n d d'->SortedIn cA 0 n d'->bP H b u16 tail f d' H'->Q (.tuple #[]) H'):E.call (E.fid i.f74) [slc b 0 n c] H Q:=by
 apply hE.f74;have e1:(BitVec.ofNat 64 n).toNat=n:=by rw [BitVec.toNat_ofNat,Nat.mod_eq_of_lt (by omega)]
 have hc:bC .u64 (vi (n:Int))=some (u64 (BitVec.ofNat 64 n)):=by rw [jD,BitVec.ofInt_natCast]
 simp only [F.f74,rX,hc,aJ,aE];refine S.f27 hE _ (by rw [e1]; omega) ?_
 rw [e1];have hl:bitsLen n<=31:=by rw [bitsLen_le_iff]; exact hsz
 exact S.f97 hE hS n hg hn hsz 0 n (Nat.zero_le _) (Nat.le_refl _) _ (by omega) (.inl rfl) (by omega) hQ
theorem S.slices_Sort_inode_Number_nil (hE:bJ E) (a:Option Addr) (hQ:Q (.tuple #[]) H):E.call (E.fid i.f74) [.slice a 0 0] H Q:=by
 apply hE.f74;have hc:bC .u64 (vi 0)=some (u64 0#64):=by rw [jD]; rfl
 have hd:aA .sub (vi 0) (vi 0)=some (vi 0):=gY (by decide) (by decide)
 simp [F.f74,hc];refine S.f27 hE _ (by decide) ?_
 apply hE.f97;simp only [F.f97];refine aO.step fun X _ =>?_;simp [F.f97_l1,hd];apply hE.f82;have ha:aA .add (vi 0) (vi 1)=some (vi 1):=eX (by decide) (by decide)
 simp [F.f82,ha];refine aO.step fun X _ =>?_;simp [F.f82_l1];exact hQ
end
end Go.AM
end
section
namespace Go.AM
open Go.Sort
section
variable {E:Sy} {H H':AH} {Q:Value->AH->Prop} {b c n:Nat} {d:Array (List UInt8)} {tail:List Value} {f:Option Nat}
theorem cH:∀ x:List UInt8,plain1 (str x)=true:=fun _=>rfl
theorem S.f3 (hE:bJ E) (x y:List UInt8) (hQ:Q (vb (Op.bytesLess x y)) H):E.call (E.fid i.f3) [str x,str y] H Q:=by
 apply hE.f3;simp only [F.f3];apply hE.f5;simp [F.f5];exact hQ
theorem S.f83 (hE:bJ E) (hg:H.get b=eY str d tail f) (hn:d.size=n) (hsz:n<2 ^ 60) (a e:Nat) (hae:a<=e) (he:e<=n)
  (hQ:∀ H',bP H b str tail f (insertionSort Op.bytesLess d a e) H'->Q (.tuple #[]) H'):E.call (E.fid i.f83) [slc b 0 n c,vi a,vi e] H Q:=by
 apply hE.f83;simp only [F.f83,aJ];rw [bD a (by omega),aE]
 unfold insertionSort at hQ;obtain ⟨R,hR⟩:∃ R,R=insOuter Op.bytesLess a e (a+1) d:=⟨_,rfl⟩;rw [<- hR] at hQ;refine aO.ind (fun m l H'=>∃ (j:Nat) (d':Array (List UInt8)),l=[slc b 0 n c,vi a,vi e,vi j]/\bP H b str tail f d' H'/\d'.size=n/\R=insOuter Op.bytesLess a e j d'/\a<j/\m=e - j) ?_ (e - (a+1)) ⟨a+1,d,rfl,.refl hg,hn,hR,by omega,rfl⟩
 rintro m _ H1 X hX ⟨j,d1,rfl,s1,n1,r1,haj,rfl⟩;unfold insOuter at r1
 by_cases hj:j<e
 ·rw [if_pos hj] at r1
  have hj':(j:Int)<e:=by omega
  simp [F.f83_l1,hj'];refine aO.ind (fun m l H2=>∃ (k:Nat) (d2:Array (List UInt8)),l=[slc b 0 n c,vi a,vi e,vi j,vi k]/\bP H b str tail f d2 H2/\d2.size=n/\insInner Op.bytesLess a j d1=insInner Op.bytesLess a k d2/\k<=j/\m=k) ?_ j ⟨j,d1,rfl,s1,n1,rfl,Nat.le_refl _,rfl⟩;rintro m _ H2 X1 hX1 ⟨k,d2,rfl,s2,n2,r2,hkj,rfl⟩
  have done:insInner Op.bytesLess a m d2=d2->∀ l,l=[slc b 0 n c,vi a,vi e,vi ((j+1:Nat):Int)]->X l H2:=by
   rintro e2 l rfl;rw [e2] at r2;rw [r2] at r1;exact hX (e - (j+1)) (by omega) _ _ ⟨j+1,d2,rfl,s2,n2,r1,by omega,rfl⟩
  by_cases hka:a<m
  ·obtain ⟨k,rfl⟩:∃ k,m=k+1:=⟨m - 1,by omega⟩
   have hka':(a:Int)<((k+1:Nat):Int):=by omega
   have f1:=bF (b:=b) (c:=c) (n:=n) (i:=k+1) (by omega)
   have f2:=bF (b:=b) (c:=c) (n:=n) (i:=k) (by omega)
   have g1:=aL s2.get (i:=k+1) (by omega)
   have g2:=aL s2.get (i:=k) (by omega)
   have hd:aA .sub (vi ((k+1:Nat):Int)) (.int .i64 1)=some (vi (k:Int)):=cO (k+1) (by omega) (by omega)
   obtain ⟨w1,w2⟩:=cU cH s2.get (i:=k+1) (j:=k) (by omega) (by omega)
   have hjj:=bD j (by omega)
   simp only [insInner,hka,decide_true,Bool.true_and] at r2 done;generalize hk1:k+1=k1 at *;simp [-aF,-aD,F.f83_l2,hka',f1,f2,g1,g2,hd];refine S.f3 hE _ _ ?_
   by_cases hl:Op.bytesLess d2[k1]! d2[k]! = true
   ·simp only [hl,if_true] at r2
    simp [-aF,-aD,hl,f1,f2,g1,g2,hd,w1,w2];exact hX1 k (by omega) _ _ ⟨k,_,rfl,s2.put _,by rw [size_swp]; exact n2,r2,by omega,rfl⟩
   ·simp only [hl,if_false] at done
    simp [-aF,-aD,hl,hjj];exact done rfl _ rfl
  ·have hka':¬ (a:Int)<(m:Int):=by omega
   have hjj:=bD j (by omega)
   simp [-aF,-aD,F.f83_l2,hka',hjj];refine done ?_ _ rfl;cases m with
   | zero=>rfl
   | succ k=>simp [insInner,hka]
 ·rw [if_neg hj] at r1
  subst r1;have hj':¬ (j:Int)<e:=by omega
  simp [F.f83_l1,hj'];exact hQ _ s1
theorem S.f102 (hE:bJ E) (hg:H.get b=eY str d tail f) (hn:d.size=n) (hsz:n<2 ^ 60) (lo hi first:Nat) (hlo:lo<=n) (hf:first+hi<=n)
  (hQ:∀ H',bP H b str tail f (siftDown Op.bytesLess hi first lo d) H'->Q (.tuple #[]) H'):E.call (E.fid i.f102) [slc b 0 n c,vi lo,vi hi,vi first] H Q:=by
 apply hE.f102;simp only [F.f102,aJ];obtain ⟨R,hR⟩:∃ R,R=siftDown Op.bytesLess hi first lo d:=⟨_,rfl⟩
 rw [<- hR] at hQ;refine aO.ind (fun m l H'=>∃ (r:Nat) (d':Array (List UInt8)),l=[slc b 0 n c,vi hi,vi first,vi r]/\bP H b str tail f d' H'/\d'.size=n/\R=siftDown Op.bytesLess hi first r d'/\r<=n/\m=hi - r) ?_ (hi - lo) ⟨lo,d,rfl,.refl hg,hn,hR,hlo,rfl⟩
 rintro m _ H1 X hX ⟨r,d1,rfl,s1,n1,r1,hr,rfl⟩;have a1:=aDf r (by omega)
 have a2:=bD (2*r) (by omega)
 have a3:=bD (2*r+1) (by omega)
 have step:∀ ch:Nat,r<ch->ch<hi->R=(if !Op.bytesLess d1[first+r]! d1[first+ch]! then d1 else siftDown Op.bytesLess hi first ch (swp d1 (first+r) (first+ch)))->F.f102_j1 E Q X (slc b 0 n c) (vi hi) (vi first) (vi r) (vi ch) H1:=by
  intro ch h1 h2 hR';have b1:=cG first r (by omega)
  have b2:=cG first ch (by omega)
  have f1:=bF (b:=b) (c:=c) (n:=n) (i:=first+r) (by omega)
  have f2:=bF (b:=b) (c:=c) (n:=n) (i:=first+ch) (by omega)
  have g1:=aL s1.get (i:=first+r) (by omega)
  have g2:=aL s1.get (i:=first+ch) (by omega)
  obtain ⟨w1,w2⟩:=cU cH s1.get (i:=first+r) (j:=first+ch) (by omega) (by omega)
  generalize hp:first+r=p at *
  generalize hq:first+ch=q at *
  simp [-aF,-aD,F.f102_j1,b1,b2,f1,f2,g1,g2];refine S.f3 hE _ _ ?_
  by_cases hl:Op.bytesLess d1[p]! d1[q]! = true
  ·simp only [hl,Bool.not_true,Bool.false_eq_true,if_false] at hR'
   simp [-aF,-aD,hl,b1,b2,f1,f2,g1,g2,w1,w2];exact hX (hi - ch) (by omega) _ _ ⟨ch,_,rfl,s1.put _,by rw [size_swp]; exact n1,hR',by omega,rfl⟩
  ·have hl:Op.bytesLess d1[p]! d1[q]! = false:=by simpa using hl
   simp only [hl,Bool.not_false,if_true] at hR';subst hR';simp [-aF,-aD,hl];exact hQ _ s1
 rw [siftDown] at r1
 by_cases c1:2*r+1>=hi
 ·rw [dif_pos c1] at r1
  subst r1;have c1':(hi:Int)<=((2*r+1:Nat):Int):=by omega
  generalize 2*r+1=ch at *;generalize 2*r=rr at *;simp [F.f102_l1,a1,a2,c1'];exact hQ _ s1
 rw [dif_neg c1] at r1;have c1':¬ (hi:Int)<=((2*r+1:Nat):Int):=by omega
 have b1:=cG first (2*r+1) (by omega)
 have b2:=bD (first+(2*r+1)) (by omega)
 by_cases c2:2*r+1+1<hi
 ·have c2':((2*r+1+1:Nat):Int)<hi:=by omega
  have f1:=bF (b:=b) (c:=c) (n:=n) (i:=first+(2*r+1)) (by omega)
  have f2:=bF (b:=b) (c:=c) (n:=n) (i:=first+(2*r+1)+1) (by omega)
  have g1:=aL s1.get (i:=first+(2*r+1)) (by omega)
  have g2:=aL s1.get (i:=first+(2*r+1)+1) (by omega)
  have st1:=step (2*r+1) (by omega) (by omega)
  have st2:=step (2*r+1+1) (by omega) c2
  rw [dif_pos (by omega:2*r+2<hi)] at r1
  simp only [c2,decide_true,Bool.true_and] at r1;rw [show 2*r+2=2*r+1+1 by omega] at r1
  generalize hq2:first+(2*r+1)+1=q2 at *
  generalize hq:first+(2*r+1)=q at *
  generalize hc2:2*r+1+1=ch2 at *;generalize hc1:2*r+1=ch at *;generalize 2*r=rr at *;simp [-aF,-aD,F.f102_l1,a1,a2,a3,c1',c2',b1,b2,f1,f2,g1,g2];refine S.f3 hE _ _ ?_
  by_cases hl:Op.bytesLess d1[q]! d1[q2]! = true
  ·simp only [hl,if_true] at r1
   simp [hl,a3];exact st2 r1
  ·simp only [hl,if_false] at r1
   simp [hl];exact st1 r1
 ·have c2':¬ ((2*r+1+1:Nat):Int)<hi:=by omega
  have st1:=step (2*r+1) (by omega) (by omega)
  simp only [c2,decide_false,Bool.false_and,Bool.false_eq_true,if_false] at r1;generalize hc2:2*r+1+1=ch2 at *;generalize hc1:2*r+1=ch at *;generalize 2*r=rr at *;simp [-aF,-aD,F.f102_l1,a1,a2,a3,c1',c2'];exact st1 r1
theorem kN (hi first r:Nat) (d:Array (List UInt8)):(siftDown Op.bytesLess hi first r d).size=d.size:=by
 obtain ⟨m,hm⟩:∃ m,hi - r<=m:=⟨_,Nat.le_refl _⟩
 induction m generalizing r d with
 | zero =>
  rw [siftDown,dif_pos (by omega)]
 | succ m ih =>
  rw [siftDown]
  split
  ·rfl
  ·split
   ·split
    ·rfl
    ·split
     ·rw [ih _ _ (by omega),size_swp]
     ·rfl
   ·split
    ·rfl
    ·rw [ih _ _ (by omega),size_swp]
theorem S.f81 (hE:bJ E) (hg:H.get b=eY str d tail f) (hn:d.size=n) (hsz:n<2 ^ 60) (a e:Nat) (hae:a<e) (he:e<=n)
  (hQ:∀ H',bP H b str tail f (heapSort Op.bytesLess d a e) H'->Q (.tuple #[]) H'):E.call (E.fid i.f81) [slc b 0 n c,vi a,vi e] H Q:=by
 apply hE.f81;have a1:=cC e a (by omega) (by omega)
 have a2:=cO (e - a) (by omega) (by omega)
 have a3:=gH (e - a - 1) 2 (by decide) (by omega)
 unfold heapSort at hQ;have a1':aA .sub (vi e) (vi a)=some (vi ((e - a:Nat):Int)):=a1;generalize hw:e - a=w at *;have a3':aA .quo (vi ((w - 1:Nat):Int)) (.int .i64 2)=some (vi (((w - 1) / 2:Nat):Int)):=a3;generalize hw1:w - 1=w1 at *;generalize hh:w1 / 2=h2 at *;have hh2:h2<=w1:=by rw [<- hh]; exact Nat.div_le_self _ _
 simp only [F.f81,a1',a2,a3',aJ,aE];obtain ⟨R,hR⟩:∃ R,R=heapPop Op.bytesLess a w (heapBuild Op.bytesLess w a (h2+1) d):=⟨_,rfl⟩;rw [<- hR] at hQ;refine aO.ind (fun m l H'=>∃ (k:Nat) (d':Array (List UInt8)),l=[slc b 0 n c,vi a,vi 0,vi w,vi ((k:Int) - 1)]/\bP H b str tail f d' H'/\d'.size=n/\R=heapPop Op.bytesLess a w (heapBuild Op.bytesLess w a k d')/\k<=w/\m=k) ?_ (h2+1) ⟨h2+1,d,by simp,.refl hg,hn,hR,by omega,rfl⟩
 rintro m _ H1 X hX ⟨k,d1,rfl,s1,n1,r1,hk,rfl⟩;cases m with
 | succ k =>
  have e1:((k+1:Nat):Int) - 1=(k:Int):=by omega
  have hd:aA .sub (vi k) (.int .i64 1)=some (vi ((k:Int) - 1)):=gY (by omega) (by omega)
  rw [e1];simp [F.f81_l1];refine S.f102 hE s1.get n1 hsz k w a (by omega) (by omega) fun H2 s2 =>?_
  simp only [hd,aJ,aE];exact hX k (by omega) _ _ ⟨k,_,rfl,s1.trans s2,by rw [kN]; exact n1,by rw [r1]; rfl,by omega,rfl⟩
 | zero =>
  have hd:aA .sub (vi w) (.int .i64 1)=some (vi ((w:Int) - 1)):=gY (by omega) (by omega)
  simp [F.f81_l1,hd];clear hX;refine aO.ind (fun m l H'=>∃ (k:Nat) (d':Array (List UInt8)),l=[slc b 0 n c,vi a,vi 0,vi ((k:Int) - 1)]/\bP H b str tail f d' H'/\d'.size=n/\R=heapPop Op.bytesLess a k d'/\k<=w/\m=k) ?_ w ⟨w,d1,rfl,s1,n1,r1,Nat.le_refl _,rfl⟩;rintro m _ H2 X hX ⟨k,d2,rfl,s2,n2,r2,hk,rfl⟩;cases m with
  | succ k =>
   have e1:((k+1:Nat):Int) - 1=(k:Int):=by omega
   have hd:aA .sub (vi k) (.int .i64 1)=some (vi ((k:Int) - 1)):=gY (by omega) (by omega)
   have b1:=cG a k (by omega)
   have f1:=bF (b:=b) (c:=c) (n:=n) (i:=a) (by omega)
   have f2:=bF (b:=b) (c:=c) (n:=n) (i:=a+k) (by omega)
   have g1:=aL s2.get (i:=a) (by omega)
   have g2:=aL s2.get (i:=a+k) (by omega)
   obtain ⟨w1,w2⟩:=cU cH s2.get (i:=a) (j:=a+k) (by omega) (by omega)
   rw [e1];rw [heapPop] at r2;generalize hq:a+k=q at *;simp [-aF,-aD,F.f81_l2,b1,f1,f2,g1,g2,w1,w2];have s3:=s2.put (swp d2 a q);refine S.f102 hE s3.get (by rw [size_swp]; exact n2) hsz 0 k a (by omega) (by omega) fun H3 s4 =>?_
   simp only [hd,aJ,aE];exact hX k (by omega) _ _ ⟨k,_,rfl,s3.trans s4,by rw [kN,size_swp]; exact n2,r2,by omega,rfl⟩
  | zero =>
   simp [F.f81_l2];rw [heapPop] at r2;subst r2;exact hQ _ s2
theorem S.f100 (hE:bJ E) (hg:H.get b=eY str d tail f) (hn:d.size=n) (hsz:n<2 ^ 60) (a e:Nat) (hae:a<e) (he:e<=n)
  (hQ:∀ H',bP H b str tail f (reverseRange d a e) H'->Q (.tuple #[]) H'):E.call (E.fid i.f100) [slc b 0 n c,vi a,vi e] H Q:=by
 apply hE.f100;have a1:=cO e (by omega) (by omega)
 unfold reverseRange at hQ;simp only [F.f100,a1,aJ,aE];obtain ⟨R,hR⟩:∃ R,R=reverseLoop a (e - 1) d:=⟨_,rfl⟩;rw [<- hR] at hQ;refine aO.ind (fun m l H'=>∃ (p q:Nat) (d':Array (List UInt8)),l=[slc b 0 n c,vi p,vi q]/\bP H b str tail f d' H'/\d'.size=n/\R=reverseLoop p q d'/\p<=n/\q<n/\m=q - p) ?_ (e - 1 - a) ⟨a,e - 1,d,rfl,.refl hg,hn,hR,by omega,by omega,rfl⟩
 rintro m _ H1 X hX ⟨p,q,d1,rfl,s1,n1,r1,hp,hq,rfl⟩;rw [reverseLoop] at r1
 by_cases h:p<q
 ·rw [if_pos h] at r1
  have h':(p:Int)<q:=by omega
  have f1:=bF (b:=b) (c:=c) (n:=n) (i:=p) (by omega)
  have f2:=bF (b:=b) (c:=c) (n:=n) (i:=q) (by omega)
  have g1:=aL s1.get (i:=p) (by omega)
  have g2:=aL s1.get (i:=q) (by omega)
  obtain ⟨w1,w2⟩:=cU cH s1.get (i:=p) (j:=q) (by omega) (by omega)
  have b1:=bD p (by omega)
  have b2:=cO q (by omega) (by omega)
  simp [-aF,-aD,F.f100_l1,h',f1,f2,g1,g2,w1,w2,b1,b2];exact hX (q - 1 - (p+1)) (by omega) _ _ ⟨p+1,q - 1,_,rfl,s1.put _,by rw [size_swp]; exact n1,r1,by omega,by omega,rfl⟩
 ·rw [if_neg h] at r1
  subst r1;have h':¬ (p:Int)<q:=by omega
  simp [F.f100_l1,h'];exact hQ _ s1
theorem S.f96 (hE:bJ E) (hg:H.get b=eY str d tail f) (hn:d.size=n) (hsz:n<2 ^ 60) (a e pivot:Nat) (h1:a<=pivot) (h2:pivot<e) (he:e<=n)
  (hQ:∀ H',bP H b str tail f (partition Op.bytesLess d a e pivot).2.2 H'->Q (.tuple #[vi (partition Op.bytesLess d a e pivot).1,vb (partition Op.bytesLess d a e pivot).2.1]) H'):E.call (E.fid i.f96) [slc b 0 n c,vi a,vi e,vi pivot] H Q:=by
 apply hE.f96;have f1:=bF (b:=b) (c:=c) (n:=n) (i:=a) (by omega)
 have f2:=bF (b:=b) (c:=c) (n:=n) (i:=pivot) (by omega)
 have g1:=aL hg (i:=a) (by omega)
 have g2:=aL hg (i:=pivot) (by omega)
 obtain ⟨w1,w2⟩:=cU cH hg (i:=a) (j:=pivot) (by omega) (by omega)
 have b1:=bD a (by omega)
 have b2:=cO e (by omega) (by omega)
 simp only [F.f96,f1,f2,g1,g2,w1,w2,b1,b2,aJ,aE];have s0:=(bP.refl hg).put (swp d a pivot);have n0:(swp d a pivot).size=n:=by rw [size_swp]; exact hn
 unfold partition at hQ;generalize hd0:swp d a pivot=d0 at *;generalize hH0:H.put b (eY str d0 tail f)=H0 at *;simp only at hQ;obtain ⟨I,hI⟩:∃ I,I=scanUp (fun x=>Op.bytesLess x d0[a]!) d0 (e - 1) (a+1):=⟨_,rfl⟩;rw [<- hI] at hQ;obtain ⟨J,hJ⟩:∃ J,J=scanDown (fun x => !Op.bytesLess x d0[a]!) d0 I (e - 1):=⟨_,rfl⟩;rw [<- hJ] at hQ;have hIl:=rR (fun x=>Op.bytesLess x d0[a]!) d0 (e - 1) _ (a+1) (Nat.le_refl _);rw [<- hI] at hIl;have hJl:=fZ (fun x => !Op.bytesLess x d0[a]!) d0 I (e - 1);rw [<- hJ] at hJl;refine aO.ind (fun m l H'=>H0=H'/\∃ p:Nat,l=[slc b 0 n c,vi a,vi p,vi ((e - 1:Nat):Int)]/\I=scanUp (fun x=>Op.bytesLess x d0[a]!) d0 (e - 1) p/\a+1<=p/\p<=e/\m=e - p) ?_ (e - (a+1)) ⟨rfl,a+1,rfl,hI,Nat.le_refl _,by omega,rfl⟩
 rintro m _ _ X hX ⟨rfl,p,rfl,r1,hp1,hp2,rfl⟩;rw [scanUp] at r1
 have exit1:I=p->aO (fun l H X0=>F.f96_l2 E Q (nth l 0) (nth l 1) (nth l 2) (nth l 3) H X0) [slc b 0 n c,vi a,vi p,vi ((e - 1:Nat):Int)] H0:=by
  rintro rfl;clear hX r1;refine aO.ind (fun m l H'=>H0=H'/\∃ q:Nat,l=[slc b 0 n c,vi a,vi I,vi q]/\J=scanDown (fun x => !Op.bytesLess x d0[a]!) d0 I q/\q<=e - 1/\I<=q+1/\m=q) ?_ (e - 1) ⟨rfl,e - 1,rfl,hJ,Nat.le_refl _,by omega,rfl⟩
  rintro m _ _ X hX ⟨rfl,q,rfl,r1,hq1,hq2,rfl⟩
  have exit2:J=m->F.f96_l2 E Q (slc b 0 n c) (vi a) (vi I) (vi m) H0 X:=by
   rintro rfl;clear hX;have f1:=bF (b:=b) (c:=c) (n:=n) (i:=a) (by omega)
   have f2:=bF (b:=b) (c:=c) (n:=n) (i:=J) (by omega)
   have g1:=aL s0.get (i:=a) (by omega)
   have g2:=aL s0.get (i:=J) (by omega)
   obtain ⟨w1,w2⟩:=cU cH s0.get (i:=J) (j:=a) (by omega) (by omega)
   by_cases hij:I<=J
   ·have hij':(I:Int)<=J:=by omega
    have hij'':¬ (J:Int)<I:=by omega
    have hnl:Op.bytesLess d0[J]! d0[a]! = true:=by
     cases J with
     | zero=>omega
     | succ q =>
      rw [scanDown] at r1
      split at r1
      ·have:=fZ (fun x => !Op.bytesLess x d0[a]!) d0 I q
       omega
      ·rename_i hc
       simp at hc;exact hc (by omega)
    have f3:=bF (b:=b) (c:=c) (n:=n) (i:=I) (by omega)
    have g3:=aL s0.get (i:=I) (by omega)
    obtain ⟨w3,w4⟩:=cU cH s0.get (i:=I) (j:=J) (by omega) (by omega)
    have b3:=bD I (by omega)
    have b4:=cO J (by omega) (by omega)
    simp [-aF,-aD,F.f96_l2,hij',f1,f2,g1,g2];refine S.f3 hE _ _ ?_;simp [-aF,-aD,hnl,hij'',f1,f2,f3,g1,g2,g3,w3,w4,b3,b4];rw [if_neg (by omega)] at hQ
    have s1:=s0.put (swp d0 I J);have n1:(swp d0 I J).size=n:=by rw [size_swp]; exact n0
    generalize hd1:swp d0 I J=d1 at *;simp only at hQ;obtain ⟨R,hR⟩:∃ R,R=partLoop Op.bytesLess a (I+1) (J - 1) d1:=⟨_,rfl⟩;rw [<- hR] at hQ;refine aO.ind (fun m l H'=>∃ (p q:Nat) (d2:Array (List UInt8)),l=[slc b 0 n c,vi a,vi p,vi q]/\bP H b str tail f d2 H'/\d2.size=n/\R=partLoop Op.bytesLess a p q d2/\a+1<=p/\p<=q+1+1/\p<=e/\q<=e - 1/\a<=q/\m=q+1 - p) ?_ (J - 1+1 - (I+1)) ⟨I+1,J - 1,d1,rfl,s1,n1,hR,by omega,by omega,by omega,by omega,by omega,rfl⟩
    clear hR s1 n1 hd1 w1 w2 w3 w4;rintro m _ H2 X3 hX3 ⟨p,q,d2,rfl,s2,n2,r2,hp1,hp2,hpe,hq1,hqa,rfl⟩;rw [partLoop] at r2;simp only [F.f96_l3,dM,dT,dW,fC];obtain ⟨I2,hI2⟩:∃ I,I=scanUp (fun x=>Op.bytesLess x d2[a]!) d2 q p:=⟨_,rfl⟩;obtain ⟨J2,hJ2⟩:∃ J,J=scanDown (fun x => !Op.bytesLess x d2[a]!) d2 I2 q:=⟨_,rfl⟩;rw [<- hI2] at r2
    try simp only at r2
    rw [<- hJ2] at r2;have hIl2:=rR (fun x=>Op.bytesLess x d2[a]!) d2 q _ p (Nat.le_refl _);rw [<- hI2] at hIl2;have hJl2:=fZ (fun x => !Op.bytesLess x d2[a]!) d2 I2 q;rw [<- hJ2] at hJl2
    have hI2e:I2<=q+1\/(I2=p/\q+1<p):=by
     by_cases h:p<=q+1
     ·exact .inl (hIl2.2 h)
     ·refine .inr ⟨?_,by omega⟩
      rw [hI2,scanUp,if_neg (by simp; omega)]
    have hJ2e:I2<=q+1\/J2=q:=by
     rcases hI2e with h | ⟨h,h'⟩
     ·exact .inl h
     ·right
      rw [hJ2];cases q with
      | zero=>rfl
      | succ q=>rw [scanDown,if_neg (by simp; omega)]
    refine aO.ind (fun m l H'=>H2=H'/\∃ p':Nat,l=[slc b 0 n c,vi a,vi p',vi q]/\I2=scanUp (fun x=>Op.bytesLess x d2[a]!) d2 q p'/\p<=p'/\p'<=e/\m=q+1 - p') ?_ (q+1 - p) ⟨rfl,p,rfl,hI2,Nat.le_refl _,by omega,rfl⟩
    rintro m _ _ X4 hX4 ⟨rfl,p',rfl,r4,hp3,hp4,rfl⟩;rw [scanUp] at r4
    have exit4:I2=p'->aO (fun l H X1=>F.f96_l5 E Q X3 (nth l 0) (nth l 1) (nth l 2) (nth l 3) H X1) [slc b 0 n c,vi a,vi p',vi q] H2:=by
     rintro rfl;clear hX4 r4;refine aO.ind (fun m l H'=>H2=H'/\∃ q':Nat,l=[slc b 0 n c,vi a,vi I2,vi q']/\J2=scanDown (fun x => !Op.bytesLess x d2[a]!) d2 I2 q'/\q'<=q/\m=q') ?_ q ⟨rfl,q,rfl,hJ2,Nat.le_refl _,rfl⟩;rintro m _ _ X5 hX5 ⟨rfl,q',rfl,r5,hq3,rfl⟩
     have exit5:J2=m->F.f96_l5 E Q X3 (slc b 0 n c) (vi a) (vi I2) (vi m) H2 X5:=by
      rintro rfl;clear hX5;have f2:=bF (b:=b) (c:=c) (n:=n) (i:=J2) (by omega)
      have g1:=aL s2.get (i:=a) (by omega)
      have g2:=aL s2.get (i:=J2) (by omega)
      by_cases hij:I2<=J2
      ·have hij':(I2:Int)<=J2:=by omega
       have hij'':¬ (J2:Int)<I2:=by omega
       have hnl:Op.bytesLess d2[J2]! d2[a]! = true:=by
        cases J2 with
        | zero=>omega
        | succ q' =>
         rw [scanDown] at r5
         split at r5
         ·have:=fZ (fun x => !Op.bytesLess x d2[a]!) d2 I2 q'
          omega
         ·rename_i hc
          simp at hc;exact hc (by omega)
       have f3:=bF (b:=b) (c:=c) (n:=n) (i:=I2) (by omega)
       have g3:=aL s2.get (i:=I2) (by omega)
       obtain ⟨w3,w4⟩:=cU cH s2.get (i:=I2) (j:=J2) (by omega) (by omega)
       have b3:=bD I2 (by omega)
       have b4:=cO J2 (by omega) (by omega)
       simp [-aF,-aD,F.f96_l5,hij',f1,f2,g1,g2];refine S.f3 hE _ _ ?_;simp [-aF,-aD,hnl,hij'',f1,f2,f3,g1,g2,g3,w3,w4,b3,b4];rw [if_neg (by omega),dif_pos (by omega)] at r2
       exact hX3 (J2 - 1+1 - (I2+1)) (by omega) _ _ ⟨I2+1,J2 - 1,_,rfl,s2.put _,by rw [size_swp]; exact n2,r2,by omega,by omega,by omega,by omega,by omega,rfl⟩
      ·have hij':¬ (I2:Int)<=J2:=by omega
       have hij'':(J2:Int)<I2:=by omega
       rw [if_pos (by omega)] at r2
       subst r2;obtain ⟨w1,w2⟩:=cU cH s2.get (i:=J2) (j:=a) (by omega) (by omega)
       simp [-aF,-aD,F.f96_l5,hij',hij'',f1,f2,g1,g2,w1,w2];exact hQ _ (s2.put _)
     cases m with
     | zero=>exact exit5 r5
     | succ q' =>
      by_cases hc:I2<=q'+1/\Op.bytesLess d2[q'+1]! d2[a]! = false
      ·rw [scanDown,if_pos (by simp [hc.1,hc.2])] at r5
       have hc':(I2:Int)<=((q'+1:Nat):Int):=by omega
       have f2:=bF (b:=b) (c:=c) (n:=n) (i:=q'+1) (by omega)
       have g1:=aL s2.get (i:=a) (by omega)
       have g2:=aL s2.get (i:=q'+1) (by omega)
       have b4:aA .sub (vi ((q'+1:Nat):Int)) (.int .i64 1)=some (vi (q':Int)):=cO (q'+1) (by omega) (by omega)
       have hlt:=hc.2;generalize hqq:q'+1=qq at *;simp [-aF,-aD,F.f96_l5,hc',f1,f2,g1,g2];refine S.f3 hE _ _ ?_;simp [-aF,-aD,hlt,b4];exact hX5 q' (by omega) _ _ ⟨rfl,q',rfl,r5,by omega,rfl⟩
      ·rw [scanDown,if_neg (by simpa using hc)] at r5
       exact exit5 r5
    by_cases hc:p'<=q/\Op.bytesLess d2[p']! d2[a]! = true
    ·rw [if_pos (by simp [hc.1,hc.2])] at r4
     have hc':(p':Int)<=q:=by omega
     have f2:=bF (b:=b) (c:=c) (n:=n) (i:=p') (by omega)
     have g1:=aL s2.get (i:=a) (by omega)
     have g2:=aL s2.get (i:=p') (by omega)
     have b3:=bD p' (by omega)
     simp [-aF,-aD,F.f96_l4,hc',f1,f2,g1,g2];refine S.f3 hE _ _ ?_;simp [-aF,-aD,hc.2,b3];exact hX4 (q+1 - (p'+1)) (by omega) _ _ ⟨rfl,p'+1,rfl,r4,by omega,by omega,rfl⟩
    ·rw [if_neg (by simpa using hc)] at r4
     by_cases hpq:p'<=q
     ·have hc':(p':Int)<=q:=by omega
      have hlt:Op.bytesLess d2[p']! d2[a]! = false:=by simpa using fun h=>hc ⟨hpq,h⟩
      have f2:=bF (b:=b) (c:=c) (n:=n) (i:=p') (by omega)
      have g1:=aL s2.get (i:=a) (by omega)
      have g2:=aL s2.get (i:=p') (by omega)
      simp [-aF,-aD,F.f96_l4,hc',f1,f2,g1,g2];refine S.f3 hE _ _ ?_;simp [-aF,-aD,hlt];exact exit4 r4
     ·have hc':¬ (p':Int)<=q:=by omega
      simp [-aF,-aD,F.f96_l4,hc'];exact exit4 r4
   ·have hij':¬ (I:Int)<=J:=by omega
    have hij'':(J:Int)<I:=by omega
    simp [-aF,-aD,F.f96_l2,hij',hij'',f1,f2,g1,g2,w1,w2];rw [if_pos (by omega)] at hQ
    exact hQ _ (s0.put _)
  cases m with
  | zero=>exact exit2 r1
  | succ q =>
   by_cases hc:I<=q+1/\Op.bytesLess d0[q+1]! d0[a]! = false
   ·rw [scanDown,if_pos (by simp [hc.1,hc.2])] at r1
    have hc':(I:Int)<=((q+1:Nat):Int):=by omega
    have f2:=bF (b:=b) (c:=c) (n:=n) (i:=q+1) (by omega)
    have g1:=aL s0.get (i:=a) (by omega)
    have g2:=aL s0.get (i:=q+1) (by omega)
    have b4:aA .sub (vi ((q+1:Nat):Int)) (.int .i64 1)=some (vi (q:Int)):=cO (q+1) (by omega) (by omega)
    have hlt:=hc.2;generalize hqq:q+1=qq at *;simp [-aF,-aD,F.f96_l2,hc',f1,f2,g1,g2];refine S.f3 hE _ _ ?_;simp [-aF,-aD,hlt,b4];exact hX q (by omega) _ _ ⟨rfl,q,rfl,r1,by omega,by omega,rfl⟩
   ·rw [scanDown,if_neg (by simpa using hc)] at r1
    exact exit2 r1
 by_cases hc:p<=e - 1/\Op.bytesLess d0[p]! d0[a]! = true
 ·rw [if_pos (by simp [hc.1,hc.2])] at r1
  have hc':(p:Int)<=((e - 1:Nat):Int):=by omega
  have f2:=bF (b:=b) (c:=c) (n:=n) (i:=p) (by omega)
  have g1:=aL s0.get (i:=a) (by omega)
  have g2:=aL s0.get (i:=p) (by omega)
  have b3:=bD p (by omega)
  generalize he1:e - 1=e1 at *;simp [-aF,-aD,F.f96_l1,hc',f1,f2,g1,g2];refine S.f3 hE _ _ ?_;simp [-aF,-aD,hc.2,b3];exact hX (e - (p+1)) (by omega) _ _ ⟨rfl,p+1,rfl,r1,by omega,by omega,rfl⟩
 ·rw [if_neg (by simpa using hc)] at r1
  have exit1:=exit1 r1
  by_cases hpq:p<=e - 1
  ·have hc':(p:Int)<=((e - 1:Nat):Int):=by omega
   have hlt:Op.bytesLess d0[p]! d0[a]! = false:=by simpa using fun h=>hc ⟨hpq,h⟩
   have f2:=bF (b:=b) (c:=c) (n:=n) (i:=p) (by omega)
   have g1:=aL s0.get (i:=a) (by omega)
   have g2:=aL s0.get (i:=p) (by omega)
   generalize he1:e - 1=e1 at *;simp [-aF,-aD,F.f96_l1,hc',f1,f2,g1,g2];refine S.f3 hE _ _ ?_;simp [-aF,-aD,hlt];exact exit1
  ·have hc':¬ (p:Int)<=((e - 1:Nat):Int):=by omega
   generalize he1:e - 1=e1 at *;simp [-aF,-aD,F.f96_l1,hc'];exact exit1
theorem S.f94 (hE:bJ E) (hg:H.get b=eY str d tail f) (hn:d.size=n) (hsz:n<2 ^ 60) (a e pivot:Nat) (h1:a<=pivot) (h2:pivot<e) (he:e<=n)
  (hQ:∀ H',bP H b str tail f (partitionEqual Op.bytesLess d a e pivot).2 H'->Q (vi (partitionEqual Op.bytesLess d a e pivot).1) H'):E.call (E.fid i.f94) [slc b 0 n c,vi a,vi e,vi pivot] H Q:=by
 apply hE.f94;have f1:=bF (b:=b) (c:=c) (n:=n) (i:=a) (by omega)
 have f2:=bF (b:=b) (c:=c) (n:=n) (i:=pivot) (by omega)
 have g1:=aL hg (i:=a) (by omega)
 have g2:=aL hg (i:=pivot) (by omega)
 obtain ⟨w1,w2⟩:=cU cH hg (i:=a) (j:=pivot) (by omega) (by omega)
 have b1:=bD a (by omega)
 have b2:=cO e (by omega) (by omega)
 simp only [F.f94,f1,f2,g1,g2,w1,w2,b1,b2,aJ,aE];have s0:=(bP.refl hg).put (swp d a pivot);have n0:(swp d a pivot).size=n:=by rw [size_swp]; exact hn
 unfold partitionEqual at hQ;generalize hd0:swp d a pivot=d0 at *;generalize hH0:H.put b (eY str d0 tail f)=H0 at *;clear w1 w2 f2 g1 g2;obtain ⟨R,hR⟩:∃ R,R=partEqLoop Op.bytesLess a (a+1) (e - 1) d0:=⟨_,rfl⟩;rw [<- hR] at hQ;refine aO.ind (fun m l H'=>∃ (p q:Nat) (d2:Array (List UInt8)),l=[slc b 0 n c,vi a,vi p,vi q]/\bP H b str tail f d2 H'/\d2.size=n/\R=partEqLoop Op.bytesLess a p q d2/\a+1<=p/\p<=q+1+1/\p<=e/\q<=e - 1/\a<=q/\m=q+1 - p) ?_ (e - 1+1 - (a+1)) ⟨a+1,e - 1,d0,rfl,s0,n0,hR,by omega,by omega,by omega,by omega,by omega,rfl⟩
 clear hR s0 n0 hd0;rintro m _ H2 X3 hX3 ⟨p,q,d2,rfl,s2,n2,r2,hp1,hp2,hpe,hq1,hqa,rfl⟩;rw [partEqLoop] at r2;simp only [F.f94_l1,dM,dT,dW,fC];obtain ⟨I2,hI2⟩:∃ I,I=scanUp (fun x => !Op.bytesLess d2[a]! x) d2 q p:=⟨_,rfl⟩;obtain ⟨J2,hJ2⟩:∃ J,J=scanDown (fun x=>Op.bytesLess d2[a]! x) d2 I2 q:=⟨_,rfl⟩;rw [<- hI2] at r2
 try simp only at r2
 rw [<- hJ2] at r2;have hIl2:=rR (fun x => !Op.bytesLess d2[a]! x) d2 q _ p (Nat.le_refl _);rw [<- hI2] at hIl2;have hJl2:=fZ (fun x=>Op.bytesLess d2[a]! x) d2 I2 q;rw [<- hJ2] at hJl2
 have hI2e:I2<=q+1\/(I2=p/\q+1<p):=by
  by_cases h:p<=q+1
  ·exact .inl (hIl2.2 h)
  ·refine .inr ⟨?_,by omega⟩
   rw [hI2,scanUp,if_neg (by simp; omega)]
 have hJ2e:I2<=q+1\/J2=q:=by
  rcases hI2e with h | ⟨h,h'⟩
  ·exact .inl h
  ·right
   rw [hJ2];cases q with
   | zero=>rfl
   | succ q=>rw [scanDown,if_neg (by simp; omega)]
 refine aO.ind (fun m l H'=>H2=H'/\∃ p':Nat,l=[slc b 0 n c,vi a,vi p',vi q]/\I2=scanUp (fun x => !Op.bytesLess d2[a]! x) d2 q p'/\p<=p'/\p'<=e/\m=q+1 - p') ?_ (q+1 - p) ⟨rfl,p,rfl,hI2,Nat.le_refl _,by omega,rfl⟩
 rintro m _ _ X4 hX4 ⟨rfl,p',rfl,r4,hp3,hp4,rfl⟩;rw [scanUp] at r4
 have exit4:I2=p'->aO (fun l H X1=>F.f94_l3 E Q X3 (nth l 0) (nth l 1) (nth l 2) (nth l 3) H X1) [slc b 0 n c,vi a,vi p',vi q] H2:=by
  rintro rfl;clear hX4 r4;refine aO.ind (fun m l H'=>H2=H'/\∃ q':Nat,l=[slc b 0 n c,vi a,vi I2,vi q']/\J2=scanDown (fun x=>Op.bytesLess d2[a]! x) d2 I2 q'/\q'<=q/\m=q') ?_ q ⟨rfl,q,rfl,hJ2,Nat.le_refl _,rfl⟩;rintro m _ _ X5 hX5 ⟨rfl,q',rfl,r5,hq3,rfl⟩
  have exit5:J2=m->F.f94_l3 E Q X3 (slc b 0 n c) (vi a) (vi I2) (vi m) H2 X5:=by
   rintro rfl;clear hX5;have f2:=bF (b:=b) (c:=c) (n:=n) (i:=J2) (by omega)
   have g1:=aL s2.get (i:=a) (by omega)
   have g2:=aL s2.get (i:=J2) (by omega)
   by_cases hij:I2<=J2
   ·have hij':(I2:Int)<=J2:=by omega
    have hij'':¬ (J2:Int)<I2:=by omega
    have hnl:Op.bytesLess d2[a]! d2[J2]! = false:=by
     cases J2 with
     | zero=>omega
     | succ q' =>
      rw [scanDown] at r5
      split at r5
      ·have:=fZ (fun x=>Op.bytesLess d2[a]! x) d2 I2 q'
       omega
      ·rename_i hc
       simp at hc;exact hc (by omega)
    have f3:=bF (b:=b) (c:=c) (n:=n) (i:=I2) (by omega)
    have g3:=aL s2.get (i:=I2) (by omega)
    obtain ⟨w3,w4⟩:=cU cH s2.get (i:=I2) (j:=J2) (by omega) (by omega)
    have b3:=bD I2 (by omega)
    have b4:=cO J2 (by omega) (by omega)
    simp [-aF,-aD,F.f94_l3,hij',f1,f2,g1,g2];refine S.f3 hE _ _ ?_;simp [-aF,-aD,hnl,hij'',f1,f2,f3,g1,g2,g3,w3,w4,b3,b4];rw [if_neg (by omega),dif_pos (by omega)] at r2
    exact hX3 (J2 - 1+1 - (I2+1)) (by omega) _ _ ⟨I2+1,J2 - 1,_,rfl,s2.put _,by rw [size_swp]; exact n2,r2,by omega,by omega,by omega,by omega,by omega,rfl⟩
   ·have hij':¬ (I2:Int)<=J2:=by omega
    have hij'':(J2:Int)<I2:=by omega
    rw [if_pos (by omega)] at r2
    subst r2;simp [-aF,-aD,F.f94_l3,hij',hij''];exact hQ _ s2
  cases m with
  | zero=>exact exit5 r5
  | succ q' =>
   by_cases hc:I2<=q'+1/\Op.bytesLess d2[a]! d2[q'+1]! = true
   ·rw [scanDown,if_pos (by simp [hc.1,hc.2])] at r5
    have hc':(I2:Int)<=((q'+1:Nat):Int):=by omega
    have f2:=bF (b:=b) (c:=c) (n:=n) (i:=q'+1) (by omega)
    have g1:=aL s2.get (i:=a) (by omega)
    have g2:=aL s2.get (i:=q'+1) (by omega)
    have b4:aA .sub (vi ((q'+1:Nat):Int)) (.int .i64 1)=some (vi (q':Int)):=cO (q'+1) (by omega) (by omega)
    have hlt:=hc.2;generalize hqq:q'+1=qq at *;simp [-aF,-aD,F.f94_l3,hc',f1,f2,g1,g2];refine S.f3 hE _ _ ?_;simp [-aF,-aD,hlt,b4];exact hX5 q' (by omega) _ _ ⟨rfl,q',rfl,r5,by omega,rfl⟩
   ·rw [scanDown,if_neg (by simpa using hc)] at r5
    exact exit5 r5
 by_cases hc:p'<=q/\Op.bytesLess d2[a]! d2[p']! = false
 ·rw [if_pos (by simp [hc.1,hc.2])] at r4
  have hc':(p':Int)<=q:=by omega
  have f2:=bF (b:=b) (c:=c) (n:=n) (i:=p') (by omega)
  have g1:=aL s2.get (i:=a) (by omega)
  have g2:=aL s2.get (i:=p') (by omega)
  have b3:=bD p' (by omega)
  simp [-aF,-aD,F.f94_l2,hc',f1,f2,g1,g2];refine S.f3 hE _ _ ?_;simp [-aF,-aD,hc.2,b3];exact hX4 (q+1 - (p'+1)) (by omega) _ _ ⟨rfl,p'+1,rfl,r4,by omega,by omega,rfl⟩
 ·rw [if_neg (by simpa using hc)] at r4
  by_cases hpq:p'<=q
  ·have hc':(p':Int)<=q:=by omega
   have hlt:Op.bytesLess d2[a]! d2[p']! = true:=by simpa using fun h=>hc ⟨hpq,h⟩
   have f2:=bF (b:=b) (c:=c) (n:=n) (i:=p') (by omega)
   have g1:=aL s2.get (i:=a) (by omega)
   have g2:=aL s2.get (i:=p') (by omega)
   simp [-aF,-aD,F.f94_l2,hc',f1,f2,g1,g2];refine S.f3 hE _ _ ?_;simp [-aF,-aD,hlt];exact exit4 r4
  ·have hc':¬ (p':Int)<=q:=by omega
   simp [-aF,-aD,F.f94_l2,hc'];exact exit4 r4
theorem S.f92 (hE:bJ E) (hg:H.get b=eY str d tail f) (hn:d.size=n) (hsz:n<2 ^ 60) (a e:Nat) (hae:a<e) (he:e<=n)
    (hQ:∀ H',bP H b str tail f (partialInsertionSort Op.bytesLess d a e).1 H'->Q (vb (partialInsertionSort Op.bytesLess d a e).2) H'):E.call (E.fid i.f92) [slc b 0 n c,vi a,vi e] H Q:=by
  apply hE.f92;have b1:=bD a (by omega)
  simp only [F.f92,b1,aJ,aE];unfold partialInsertionSort at hQ;obtain ⟨R,hR⟩:∃ R,R=partialIns Op.bytesLess a e 5 (a+1) d:=⟨_,rfl⟩;rw [<- hR] at hQ;refine aO.ind (fun m l H'=>∃ (i:Nat) (d1:Array (List UInt8)),l=[slc b 0 n c,vi a,vi e,vi i,vi ((5 - m:Nat):Int)]/\bP H b str tail f d1 H'/\d1.size=n/\R=partialIns Op.bytesLess a e m i d1/\a+1<=i/\i<=e/\m<=5) ?_ 5 ⟨a+1,d,rfl,.refl hg,hn,hR,Nat.le_refl _,by omega,Nat.le_refl _⟩
  rintro m _ H1 X hX ⟨i0,d1,rfl,s1,n1,r1,hi1,hi2,hm⟩;cases m with
  | zero =>
    simp [F.f92_l1];rw [partialIns] at r1;subst r1;exact hQ _ s1
  | succ m =>
    have hms:((5 - (m+1):Nat):Int)<5:=by omega
    have hmi:aA .add (vi ((5 - (m+1):Nat):Int)) (.int .i64 1)=some (vi ((5 - m:Nat):Int)):=by
      rw [bD _ (by omega)]; congr 3; omega
    have hX:∀ (i:Nat) (d2:Array (List UInt8)) H2,bP H b str tail f d2 H2->d2.size=n->R=partialIns Op.bytesLess a e m i d2->a+1<=i->i<=e->X [slc b 0 n c,vi a,vi e,vi i,vi ((5 - m:Nat):Int)] H2:=fun i d2 H2 q1 q2 q3 q4 q5=>hX m (by omega) _ _ ⟨i,d2,rfl,q1,q2,q3,q4,q5,by omega⟩
    generalize hk:5 - (m+1)=k at *;generalize hk':5 - m=k' at *;simp [F.f92_l1,hms];rw [partialIns_succ] at r1;obtain ⟨I,hI⟩:∃ I,I=scanSorted Op.bytesLess d1 e i0:=⟨_,rfl⟩;rw [<- hI] at r1;refine aO.ind (fun m l H'=>H1=H'/\∃ i':Nat,l=[slc b 0 n c,vi a,vi e,vi i',vi k]/\I=scanSorted Op.bytesLess d1 e i'/\a+1<=i'/\i'<=e/\m=e - i') ?_ (e - i0) ⟨rfl,i0,rfl,hI,hi1,hi2,rfl⟩;rintro mm _ _ X1 hX1 ⟨rfl,i',rfl,r2,hi3,hi4,rfl⟩;rw [scanSorted] at r2;have b2:=cC e a (by omega) (by omega)
    have b2':aA .sub (vi e) (vi a)=some (vi ((e - a:Nat):Int)):=b2
    have exit:I=i' ->
        (opt (aA .eql (vi i') (vi e)) fun v15 =>
         ifB v15 (Q (.bool true) H1) (
         opt (aA .sub (vi e) (vi a)) fun v16 =>
         opt (aA .lss v16 (.int .i64 50)) fun v17 =>
         ifB v17 (Q (.bool false) H1) (
         opt (aA .sub (vi i') (.int .i64 1)) fun v18 =>
         opt (aA .sub (vi i') (.int .i64 1)) fun v19 =>
         opt (aG 1 (slc b 0 n c) v19) fun v20 =>
         opt (aB v20 H1) fun v21 =>
         opt (aG 1 (slc b 0 n c) (vi i')) fun v22 =>
         opt (aB v22 H1) fun v23 =>
         opt (aG 1 (slc b 0 n c) (vi i')) fun v24 =>
         opt (aN v24 v21 H1) fun H12 =>
         opt (aG 1 (slc b 0 n c) v18) fun v25 =>
         opt (aN v25 v23 H12) fun H13 =>
         opt (aA .sub (vi i') (vi a)) fun v26 =>
         opt (aA .geq v26 (.int .i64 2)) fun v27 =>
         ifB v27 (
         opt (aA .sub (vi i') (.int .i64 1)) fun v28 =>
         aO (fun l H X1=>F.f92_l4 E Q X (nth l 0) (nth l 1) (nth l 2) (nth l 3) (nth l 4) (nth l 5) H X1) [slc b 0 n c,vi a,vi e,vi i',vi k,v28] H13) (
         F.f92_j1 E Q X (slc b 0 n c) (vi a) (vi e) (vi i') (vi k) H13)))):=by
      rintro rfl;clear hX1
      by_cases c1:I=e
      · rw [if_pos c1] at r1
        subst r1;simp [c1];exact hQ _ s1
      rw [if_neg c1] at r1;have c1':¬ (I:Int)=e:=by omega
      by_cases c2:e - a<50
      · rw [if_pos c2] at r1
        subst r1;have c2':((e - a:Nat):Int)<50:=by omega
        generalize e - a=w at *;simp [c1',b2',c2'];exact hQ _ s1
      rw [if_neg c2] at r1;have c2':¬ ((e - a:Nat):Int)<50:=by omega
      have b3:=cO I (by omega) (by omega)
      have b4:=cC I a (by omega) (by omega)
      have b4':aA .sub (vi I) (vi a)=some (vi ((I - a:Nat):Int)):=b4;have f1:=bF (b:=b) (c:=c) (n:=n) (i:=I) (by omega)
      have f2:=bF (b:=b) (c:=c) (n:=n) (i:=I - 1) (by omega)
      have g1:=aL s1.get (i:=I) (by omega)
      have g2:=aL s1.get (i:=I - 1) (by omega)
      obtain ⟨w1,w2⟩:=cU cH s1.get (i:=I) (j:=I - 1) (by omega) (by omega)
      have s2:=s1.put (swp d1 I (I - 1));have n2:(swp d1 I (I - 1)).size=n:=by rw [size_swp]; exact n1
      have hkk:aA .add (vi k) (.int .i64 1)=some (vi k'):=hmi
      have j1:∀ (d3:Array (List UInt8)) H3,bP H b str tail f d3 H3->d3.size=n->R=partialIns Op.bytesLess a e m I (fixUp Op.bytesLess e I d3)->F.f92_j1 E Q X (slc b 0 n c) (vi a) (vi e) (vi I) (vi k) H3:=by
        intro d3 H3 s3 n3 r3;unfold fixUp at r3;have b5:=cC e I (by omega) (by omega)
        have b5':aA .sub (vi e) (vi I)=some (vi ((e - I:Nat):Int)):=b5
        by_cases c3:e - I>=2
        · rw [if_pos c3] at r3
          have c3':(2:Int)<=((e - I:Nat):Int):=by omega
          have b6:=bD I (by omega)
          generalize hw:e - I=w at *;simp [F.f92_j1,b5',c3',b6];obtain ⟨D,hD⟩:∃ D,D=shiftUp Op.bytesLess e (I+1) d3:=⟨_,rfl⟩;rw [<- hD] at r3;refine aO.ind (fun mm l H'=>∃ (q:Nat) (d4:Array (List UInt8)),l=[slc b 0 n c,vi a,vi e,vi I,vi k,vi q]/\bP H b str tail f d4 H'/\d4.size=n/\D=shiftUp Op.bytesLess e q d4/\1<=q/\q<=e/\mm=e - q) ?_ (e - (I+1)) ⟨I+1,d3,by simp,s3,n3,hD,by omega,by omega,rfl⟩
          rintro mm _ H4 X5 hX5 ⟨q,d4,rfl,s4,n4,r4,hq1,hq2,rfl⟩;rw [shiftUp] at r4
          have done:D=d4->X [slc b 0 n c,vi a,vi e,vi I,vi k'] H4:=by
            rintro rfl;exact hX I D H4 s4 n4 r3 hi3 (by omega)
          by_cases c4:q<e
          · have c4':(q:Int)<e:=by omega
            rw [if_pos c4] at r4;have b7:=cO q (by omega) (by omega)
            have b8:=bD q (by omega)
            have f1:=bF (b:=b) (c:=c) (n:=n) (i:=q) (by omega)
            have f2:=bF (b:=b) (c:=c) (n:=n) (i:=q - 1) (by omega)
            have g1:=aL s4.get (i:=q) (by omega)
            have g2:=aL s4.get (i:=q - 1) (by omega)
            obtain ⟨w1,w2⟩:=cU cH s4.get (i:=q) (j:=q - 1) (by omega) (by omega)
            have hY:=fun (d5:Array (List UInt8)) H5 q1 q2 q3=>hX5 (e - (q+1)) (by omega) [slc b 0 n c,vi a,vi e,vi I,vi k,vi ((q+1:Nat):Int)] H5 ⟨q+1,d5,rfl,q1,q2,q3,by omega,by omega,rfl⟩
            generalize hq':q - 1=q' at *;generalize hq'':q+1=q'' at *;simp [-aF,-aD,F.f92_l3,c4',b7,f1,f2,g1,g2];refine S.f3 hE _ _ ?_
            by_cases hl:Op.bytesLess d4[q]! d4[q']! = true
            · simp only [hl,Bool.not_true,Bool.false_eq_true,if_false] at r4
              simp [-aF,-aD,hl,b7,b8,f1,f2,g1,g2,w1,w2];exact hY _ _ (s4.put _) (by rw [size_swp]; exact n4) r4
            · have hl:Op.bytesLess d4[q]! d4[q']! = false:=by simpa using hl
              simp only [hl,Bool.not_false,if_true] at r4;simp [hl,hkk];exact done r4
          · have c4':¬ (q:Int)<e:=by omega
            rw [if_neg c4] at r4;simp [F.f92_l3,c4',hkk];exact done r4
        · rw [if_neg c3] at r3
          have c3':¬ (2:Int)<=((e - I:Nat):Int):=by omega
          generalize hw:e - I=w at *;simp [F.f92_j1,b5',c3',hkk];exact hX I d3 H3 s3 n3 r3 hi3 hi4
      unfold fixDown at r1
      by_cases c3:I - a>=2
      · rw [if_pos c3] at r1
        have c3':(2:Int)<=((I - a:Nat):Int):=by omega
        obtain ⟨D,hD⟩:∃ D,D=shiftDown Op.bytesLess (I - 1) (swp d1 I (I - 1)):=⟨_,rfl⟩;rw [<- hD] at r1
        have goal4:aO (fun l H X1=>F.f92_l4 E Q X (nth l 0) (nth l 1) (nth l 2) (nth l 3) (nth l 4) (nth l 5) H X1) [slc b 0 n c,vi a,vi e,vi I,vi k,vi ((I - 1:Nat):Int)] (H1.put b (eY str (swp d1 I (I - 1)) tail f)):=by
          refine aO.ind (fun mm l H'=>∃ (q:Nat) (d4:Array (List UInt8)),l=[slc b 0 n c,vi a,vi e,vi I,vi k,vi q]/\bP H b str tail f d4 H'/\d4.size=n/\D=shiftDown Op.bytesLess q d4/\q<n/\mm=q) ?_ (I - 1) ⟨I - 1,_,rfl,s2,n2,hD,by omega,rfl⟩
          rintro mm _ H4 X5 hX5 ⟨q,d4,rfl,s4,n4,r4,hq1,rfl⟩;cases mm with
          | zero =>
            simp [F.f92_l4];rw [shiftDown] at r4;subst r4;exact j1 _ _ s4 n4 r1
          | succ q =>
            have c4':(1:Int)<=((q+1:Nat):Int):=by omega
            rw [shiftDown] at r4;have b7:aA .sub (vi ((q+1:Nat):Int)) (.int .i64 1)=some (vi (q:Int)):=cO (q+1) (by omega) (by omega)
            have f1:=bF (b:=b) (c:=c) (n:=n) (i:=q+1) (by omega)
            have f2:=bF (b:=b) (c:=c) (n:=n) (i:=q) (by omega)
            have g1:=aL s4.get (i:=q+1) (by omega)
            have g2:=aL s4.get (i:=q) (by omega)
            obtain ⟨w1,w2⟩:=cU cH s4.get (i:=q+1) (j:=q) (by omega) (by omega)
            have hY:=fun (d5:Array (List UInt8)) H5 q1 q2 q3=>hX5 q (by omega) [slc b 0 n c,vi a,vi e,vi I,vi k,vi (q:Int)] H5 ⟨q,d5,rfl,q1,q2,q3,by omega,rfl⟩
            generalize hq':q+1=q' at *;simp [-aF,-aD,F.f92_l4,c4',b7,f1,f2,g1,g2];refine S.f3 hE _ _ ?_
            by_cases hl:Op.bytesLess d4[q']! d4[q]! = true
            · simp only [hl,Bool.not_true,Bool.false_eq_true,if_false] at r4
              simp [-aF,-aD,hl,b7,f1,f2,g1,g2,w1,w2];exact hY _ _ (s4.put _) (by rw [size_swp]; exact n4) r4
            · have hl:Op.bytesLess d4[q']! d4[q]! = false:=by simpa using hl
              simp only [hl,Bool.not_false,if_true] at r4;simp [hl];subst r4;exact j1 _ _ s4 n4 r1
        generalize hI':I - 1=I' at *;generalize hw:e - a=w at *;generalize hw2:I - a=w2' at *;simp [-aF,-aD,c1',b2',c2',b3,b4',f1,f2,g1,g2,w1,w2,c3'];exact goal4
      · rw [if_neg c3] at r1
        have c3':¬ (2:Int)<=((I - a:Nat):Int):=by omega
        have:=j1 _ _ s2 n2 r1;generalize hI':I - 1=I' at *;generalize hw:e - a=w at *;generalize hw2:I - a=w2' at *;simp [-aF,-aD,c1',b2',c2',b3,b4',f1,f2,g1,g2,w1,w2,c3'];exact this
    have b7:=bD i' (by omega)
    by_cases c4:i'<e
    · have c4':(i':Int)<e:=by omega
      have b6:=cO i' (by omega) (by omega)
      have f1:=bF (b:=b) (c:=c) (n:=n) (i:=i') (by omega)
      have f2:=bF (b:=b) (c:=c) (n:=n) (i:=i' - 1) (by omega)
      have g1:=aL s1.get (i:=i') (by omega)
      have g2:=aL s1.get (i:=i' - 1) (by omega)
      by_cases hl:Op.bytesLess d1[i']! d1[i' - 1]! = true
      · rw [if_neg (by simp [hl])] at r2
        have:=exit r2;clear exit hX1;generalize hI':i' - 1=I' at *;simp [-aF,-aD,F.f92_l2,c4',b6,f1,f2,g1,g2];refine S.f3 hE _ _ ?_;simp only [hl];simp only [eC,Bool.not_true,aJ,aE,dX,aQ,aI];exact this
      · have hl:Op.bytesLess d1[i']! d1[i' - 1]! = false:=by simpa using hl
        rw [if_pos (by simp [hl,c4])] at r2
        clear exit;have hX1:=hX1 (e - (i'+1)) (by omega) [slc b 0 n c,vi a,vi e,vi ((i'+1:Nat):Int),vi k] H1 ⟨rfl,i'+1,rfl,r2,by omega,by omega,rfl⟩
        generalize hI':i' - 1=I' at *;generalize hI'':i'+1=I'' at *;simp [-aF,-aD,F.f92_l2,c4',b6,f1,f2,g1,g2];refine S.f3 hE _ _ ?_;simp [hl,b7];exact hX1
    · have c4':¬ (i':Int)<e:=by omega
      rw [if_neg (by simp [c4])] at r2
      have:=exit r2;clear exit hX1;simp only [F.f92_l2,dM,dT,dW,fC,jG,bG,c4',decide_false,aJ,aE,fY,aW,aI];exact this
theorem S.f90 (hE:bJ E) (hg:H.get b=eY str d tail f) (hn:d.size=n) (p q:Nat) (hp:p<n) (hq:q<n) (s k:Nat) (hs:H.get s = .cells [vi k] none) (hk:k<1000) (hsb:s≠b)
  (hQ:∀ r1 r2 k' H',((r1=p/\r2=q)\/(r1=q/\r2=p))->dN [s] H H'->H'.get s = .cells [vi (k':Nat)] none->k'<=k+1->Q (.tuple #[vi (r1:Nat),vi (r2:Nat)]) H') :
  E.call (E.fid i.f90) [slc b 0 n c,vi p,vi q,ptr s 0] H Q:=by
 apply hE.f90;have f1:=bF (b:=b) (c:=c) (n:=n) (i:=p) hp;have f2:=bF (b:=b) (c:=c) (n:=n) (i:=q) hq;have g1:=aL hg (i:=p) (by omega)
 have g2:=aL hg (i:=q) (by omega)
 have hlt:=AH.lt_cells hs;have b1:=bD k (by omega)
 simp [-aD,F.f90,f1,f2,g1,g2];refine S.f3 hE _ _ ?_
 by_cases hl:Op.bytesLess d[q]! d[p]! = true
 ·simp only [hl,aP,bA,aD,hs,bE,List.getElem?_cons_zero,aJ,aE,b1,aF,xF,if_true,List.length_cons,List.length_nil,List.set_cons_zero]
  rw [if_pos (by omega),aE]
  exact hQ q p (k+1) _ (.inr ⟨rfl,rfl⟩) ((dN.refl _ _).put (.inl (by simp)) _) (AH.get_put_self _ _ hlt) (Nat.le_refl _)
 ·simp [hl]
  exact hQ p q k _ (.inl ⟨rfl,rfl⟩) (dN.refl _ _) hs (by omega)
theorem S.f87 (hE:bJ E) (hg:H.get b=eY str d tail f) (hn:d.size=n) (p q r:Nat) (hp:p<n) (hq:q<n) (hr:r<n) (s k:Nat) (hs:H.get s = .cells [vi k] none) (hk:k<900) (hsb:s≠b)
  (hQ:∀ m k' H',(m=p\/m=q\/m=r)->dN [s] H H'->H'.get s = .cells [vi (k':Nat)] none->k'<=k+3->Q (vi (m:Nat)) H') :
  E.call (E.fid i.f87) [slc b 0 n c,vi p,vi q,vi r,ptr s 0] H Q:=by
 apply hE.f87;have keep:∀ {H'},dN [s] H H'->H'.get b=eY str d tail f:=fun o=>by rw [o.get (lP hg) (by simpa using Ne.symm hsb)]; exact hg
 simp only [F.f87];refine S.f90 hE hg hn p q hp hq s k hs (by omega) hsb fun a1 a2 k1 H1 e1 o1 s1 l1 =>?_
 simp;refine S.f90 hE (keep o1) hn a2 r (by omega) hr s k1 s1 (by omega) hsb fun a3 a4 k2 H2 e2 o2 s2 l2 =>?_
 have o12:=o1.trans' o2;simp;refine S.f90 hE (keep o12) hn a1 a3 (by omega) (by omega) s k2 s2 (by omega) hsb fun a5 a6 k3 H3 e3 o3 s3 l3 =>?_
 simp;exact hQ a6 k3 H3 (by omega) (o12.trans' o3) s3 (by omega)
theorem S.f85 (hE:bJ E) (hg:H.get b=eY str d tail f) (hn:d.size=n) (hsz:n<2 ^ 60) (p:Nat) (hp0:1<=p) (hp:p+1<n) (s k:Nat) (hs:H.get s = .cells [vi k] none) (hk:k<900) (hsb:s≠b)
  (hQ:∀ m k' H',(p - 1<=m/\m<=p+1)->dN [s] H H'->H'.get s = .cells [vi (k':Nat)] none->k'<=k+3->Q (vi (m:Nat)) H') :
  E.call (E.fid i.f85) [slc b 0 n c,vi p,ptr s 0] H Q:=by
 apply hE.f85;have b1:=cO p hp0 (by omega)
 have b2:=bD p (by omega)
 simp only [F.f85,b1,b2,aJ,aE];refine S.f87 hE hg hn (p - 1) p (p+1) (by omega) (by omega) hp s k hs hk hsb fun m k' H' e1 o1 s1 l1=>hQ m k' H' (by omega) o1 s1 l1
theorem S.f79 (hE:bJ E) (hg:H.get b=eY str d tail f) (hn:d.size=n) (hsz:n<2 ^ 60) (a e:Nat) (hae:a+8<=e) (he:e<=n)
  (hQ:∀ (m:Nat) (h:Int) H',a<=m->m<e->Ext H H'->Q (.tuple #[vi m,vi h]) H'):E.call (E.fid i.f79) [slc b 0 n c,vi a,vi e] H Q:=by
 apply hE.f79;have a1:aA .sub (vi e) (vi a)=some (vi ((e - a:Nat):Int)):=cC e a (by omega) (by omega)
 have hbl:=lP hg;generalize hw:e - a=w at *;have a2:aA .quo (vi (w:Int)) (.int .i64 4)=some (vi ((w / 4:Nat):Int)):=gH w 4 (by decide) (by omega)
 have hq4:w / 4*4<=w:=Nat.div_mul_le_self _ _;have hq4':1<=w / 4:=by omega
 have hq50:50<=w->12<=w / 4:=fun h=>by omega
 generalize hq:w / 4=q at *;have m1:aA .mul (vi (q:Int)) (.int .i64 1)=some (vi ((q*1:Nat):Int)):=by rw [lA (by omega) (by omega)]; congr 2
 have m2:aA .mul (vi (q:Int)) (.int .i64 2)=some (vi ((q*2:Nat):Int)):=by rw [lA (by omega) (by omega)]; congr 2
 have m3:aA .mul (vi (q:Int)) (.int .i64 3)=some (vi ((q*3:Nat):Int)):=by rw [lA (by omega) (by omega)]; congr 2
 have p1:=cG a (q*1) (by omega)
 have p2:=cG a (q*2) (by omega)
 have p3:=cG a (q*3) (by omega)
 have c8:(8:Int)<=w:=by omega
 have hg1:(H.new (.cells [vi 0] none)).get b=eY str d tail f:=by rw [AH.get_new_lt _ _ hbl]; exact hg
 have hs1:(H.new (.cells [vi 0] none)).get H.next = .cells [vi ((0:Nat):Int)] none:=AH.get_new_self _ _;have hsb:H.next≠b:=by omega
 have x1:Ext H (H.new (.cells [vi 0] none)):=(Ext.refl H).new _;have ext_of:∀ {H'},dN [H.next] (H.new (.cells [vi 0] none)) H'->Ext H H':=fun o=>o.ext x1 (by simp)
 have keep:∀ {H'},dN [H.next] (H.new (.cells [vi 0] none)) H'->H'.get b=eY str d tail f:=fun o=>by rw [o.get (lP hg1) (by simpa using Ne.symm hsb)]; exact hg1
 have last:∀ (m k:Nat) H',a<=m->m<e->Ext H H'->H'.get H.next = .cells [vi (k:Nat)] none->F.f79_j1 E Q (ptr H.next 0) (vi m) H':=by
  intro m k H' h1 h2 e1 s1
  by_cases k0:(k:Int)=0
  ·simp [F.f79_j1,s1,k0]
   exact hQ m _ H' h1 h2 e1
  ·by_cases k12:(k:Int)=12
   ·simp [F.f79_j1,s1,k12]
    exact hQ m _ H' h1 h2 e1
   ·have k0':¬ k=0:=by omega
    simp [F.f79_j1,s1,k0',k12];exact hQ m _ H' h1 h2 e1
 have last2:∀ (x y z k:Nat) H',a<=x->x<e->a<=y->y<e->a<=z->z<e->dN [H.next] (H.new (.cells [vi 0] none)) H'->H'.get H.next = .cells [vi (k:Nat)] none->k<900->F.f79_j2 E Q (slc b 0 n c) (ptr H.next 0) (vi x) (vi y) (vi z) H':=by
  intro x y z k H' h1 h2 h3 h4 h5 h6 o1 s1 hk;simp only [F.f79_j2];refine S.f87 hE (keep o1) hn x y z (by omega) (by omega) (by omega) H.next k s1 hk hsb fun m k' H2 hm o2 s2 _ =>?_
  exact last m k' H2 (by omega) (by omega) (ext_of (o1.trans' o2)) s2
 by_cases c50:50<=w
 ·have c50':(50:Int)<=w:=by omega
  have hq50:=hq50 c50;have g1:a+1<=a+q*1/\a+q*1+1<e:=by omega
  have g2:a+1<=a+q*2/\a+q*2+1<e:=by omega
  have g3:a+1<=a+q*3/\a+q*3+1<e:=by omega
  generalize hx:a+q*1=x at *;generalize hy:a+q*2=y at *;generalize hz:a+q*3=z at *;generalize q*1=q1 at *;generalize q*2=q2 at *;generalize q*3=q3 at *;simp [F.f79,a1,a2,m1,m2,m3,p1,p2,p3,c8,c50'];refine S.f85 hE hg1 hn hsz x (by omega) (by omega) H.next 0 hs1 (by omega) hsb fun r1 k1 H1 e1 o1 s1 l1 =>?_
  refine S.f85 hE (keep o1) hn hsz y (by omega) (by omega) H.next k1 s1 (by omega) hsb fun r2 k2 H2 e2 o2 s2 l2 =>?_
  refine S.f85 hE (keep (o1.trans' o2)) hn hsz z (by omega) (by omega) H.next k2 s2 (by omega) hsb fun r3 k3 H3 e3 o3 s3 l3 =>?_
  exact last2 r1 r2 r3 k3 H3 (by omega) (by omega) (by omega) (by omega) (by omega) (by omega) ((o1.trans' o2).trans' o3) s3 (by omega)
 ·have c50':¬ (50:Int)<=w:=by omega
  have g1:a+q*1<e:=by omega
  have g2:a+q*2<e:=by omega
  have g3:a+q*3<e:=by omega
  have g0:a<=a+q*1/\a<=a+q*2/\a<=a+q*3:=by omega
  generalize hx:a+q*1=x at *;generalize hy:a+q*2=y at *;generalize hz:a+q*3=z at *;generalize q*1=q1 at *;generalize q*2=q2 at *;generalize q*3=q3 at *;simp [F.f79,a1,a2,m1,m2,m3,p1,p2,p3,c8,c50'];exact last2 x y z 0 _ g0.1 g1 g0.2.1 g2 g0.2.2 g3 (dN.refl _ _) hs1 (by omega)
theorem S.f77 (hE:bJ E) (hg:H.get b=eY str d tail f) (hn:d.size=n) (hsz:n<2 ^ 31) (a e:Nat) (hae:a+8<=e) (he:e<=n)
  (hQ:∀ d' H',PermIn a e d d'->bP H b str tail f d' H'->Q (.tuple #[]) H'):E.call (E.fid i.f77) [slc b 0 n c,vi a,vi e] H Q:=by
 apply hE.f77;have a1:aA .sub (vi e) (vi a)=some (vi ((e - a:Nat):Int)):=cC e a (by omega) (by omega)
 have hbl:=lP hg;generalize hw:e - a=w at *;have a2:aA .quo (vi (w:Int)) (.int .i64 4)=some (vi ((w / 4:Nat):Int)):=gH w 4 (by decide) (by omega)
 have hq4:w / 4*4<=w:=Nat.div_mul_le_self _ _;have hq4':2<=w / 4:=by omega
 generalize hq:w / 4=q at *;have m2:aA .mul (vi (q:Int)) (.int .i64 2)=some (vi ((q*2:Nat):Int)):=by rw [lA (by omega) (by omega)]; congr 2
 have p2:=cG a (q*2) (by omega)
 have p3:=cO (a+q*2) (by omega) (by omega)
 have p4:=bD (a+q*2) (by omega)
 have c8:(8:Int)<=w:=by omega
 have hc:bC .u64 (vi (w:Int))=some (u64 (BitVec.ofNat 64 w)):=by rw [jD,BitVec.ofInt_natCast]
 have hm2:2 ^ bitsLen w<=2*w:=two_pow_bitsLen_le (by omega)
 have hm1:=Nat.two_pow_pos (bitsLen w);generalize hM:2 ^ bitsLen w=M at *;have gx:a+1<=a+q*2/\a+q*2+1<e:=by omega
 generalize hx:a+q*2=x at *;generalize q*2=q2 at *;have x1:Ext H (H.new (.cells [u64 (BitVec.ofNat 64 w)] none)):=(Ext.refl H).new _;simp [F.f77,a1,a2,m2,p2,p3,c8,hc];refine S.f88 hE w (by omega) ?_
 rw [hM];simp [a2,m2,p2,p3]
 refine aO.ind (fun m l H'=>∃ (j:Nat) (d1:Array (List UInt8)) (y:BitVec 64),l=[slc b 0 n c,vi a,vi w,ptr H.next 0,u64 (BitVec.ofNat 64 M),vi j]/\bP H b str tail f d1 H'/\d1.size=n/\PermIn a e d d1/\H'.get H.next = .cells [u64 y] none/\a<=j/\j<=x+2/\m=x+2 - j) ?_ (x+2 - (x - 1))
  ⟨x - 1,d,_,by simp,⟨x1.only,by rw [AH.get_new_lt _ _ hbl]; exact hg⟩,hn,permIn_refl _ _ _,AH.get_new_self _ _,by omega,by omega,rfl⟩
 rintro m _ H1 X hX ⟨j,d1,y,rfl,s1,n1,pp,hb1,hj1,hj2,rfl⟩
 by_cases cj:j<=x+1
 ·have cj':(j:Int)<=((x+1:Nat):Int):=by omega
  have pj:=bD j (by omega)
  have fin:∀ (o:Nat) (y':BitVec 64),o<w->F.f77_j1 E Q X (slc b 0 n c) (vi a) (vi w) (ptr H.next 0) (u64 (BitVec.ofNat 64 M)) (vi j) (vi o) (H1.put H.next (.cells [u64 y'] none)):=by
   intro o y' ho;have hnb:b≠H.next:=by omega
   have s2:bP H b str tail f d1 (H1.put H.next (.cells [u64 y'] none)):=⟨s1.only.put (.inr (Nat.le_refl _)) _,by rw [AH.get_put_ne _ _ hnb]; exact s1.get⟩
   have pa:=cG a o (by omega)
   have f1:=bF (b:=b) (c:=c) (n:=n) (i:=j) (by omega)
   have f2:=bF (b:=b) (c:=c) (n:=n) (i:=a+o) (by omega)
   have g1:=aL s2.get (i:=j) (by omega)
   have g2:=aL s2.get (i:=a+o) (by omega)
   obtain ⟨w1,w2⟩:=cU cH s2.get (i:=j) (j:=a+o) (by omega) (by omega)
   have hpp:=swp_permIn d1 a e j (a+o) hj1 (by omega) (by omega) (by omega) (by omega)
   have hX:=hX (x+2 - (j+1)) (by omega) [slc b 0 n c,vi a,vi w,ptr H.next 0,u64 (BitVec.ofNat 64 M),vi ((j+1:Nat):Int)] _ ⟨j+1,_,y',rfl,s2.put (swp d1 j (a+o)),by rw [size_swp]; exact n1,permIn_trans _ _ _ _ _ pp hpp,by rw [AH.get_put_ne _ _ (Ne.symm hnb),AH.get_put_self _ _ (AH.lt_cells hb1)],by omega,by omega,rfl⟩
   generalize a+o=ao at *;generalize hj'':j+1=j' at *;simp [-aF,-aD,F.f77_j1,pa,f1,f2,g1,g2,w1,w2,pj];exact hX
  generalize hx1:x+1=x' at *;simp [F.f77_l1,a2,m2,p2,p4,cj'];refine S.f103 hE H.next y hb1 fun y' =>?_;have l1:(.int .u64 1:Value)=u64 1#64:=rfl
  have hsub:BitVec.ofNat 64 M - 1#64=BitVec.ofNat 64 (M - 1):=by
   apply BitVec.eq_of_toNat_eq;rw [BitVec.toNat_sub,BitVec.toNat_ofNat,BitVec.toNat_ofNat,BitVec.toNat_ofNat];omega
  have hand:(y'&&&BitVec.ofNat 64 (M - 1)).toNat<=M - 1:=by
   rw [BitVec.toNat_and];refine Nat.le_trans Nat.and_le_right ?_;rw [BitVec.toNat_ofNat];exact Nat.mod_le _ _
  have hcv:∀ z:BitVec 64,z.toNat<2 ^ 62->bC .i64 (u64 z)=some (vi (z.toNat:Int)):=by
   intro z hz;rw [fN,fU,jL (by omega) (by omega)]
  have hcv':=hcv _ (by omega:(y'&&&BitVec.ofNat 64 (M - 1)).toNat<2 ^ 62)
  simp only [l1,aDq,hsub,aC5,hcv',aJ,aE,eB,dM,dT,dW,fC,jG,kY];generalize (y'&&&BitVec.ofNat 64 (M - 1)).toNat=o at *
  by_cases co:w<=o
  ·have co':(w:Int)<=o:=by omega
   have hs:aA .sub (vi (o:Int)) (vi (w:Int))=some (vi ((o - w:Nat):Int)):=cC o w co (by omega)
   simp only [co',decide_true,aP,hs,aJ,aE,dM,dT,dW,fC,jG,kY];exact fin (o - w) y' (by omega)
  ·have co':¬ (w:Int)<=o:=by omega
   simp only [co',decide_false,aI,dM,dT,dW,fC,jG,kY];exact fin o y' (by omega)
 ·have cj':¬ (j:Int)<=((x+1:Nat):Int):=by omega
  generalize hx1:x+1=x' at *;simp [F.f77_l1,a2,m2,p2,p4,cj'];exact hQ d1 H1 pp s1
theorem S.f98 (hE:bJ E) (hS:SWO Op.bytesLess):∀ (w:Nat) {H:AH} {Q:Value->AH->Prop} {d:Array (List UInt8)} (_:H.get b=eY str d tail f) (_:d.size=n) (_:n<2 ^ 31) (a e:Nat) (_:a<=e) (_:e<=n) (limit:Nat) (_:limit<2 ^ 60) (_:Go.Sort.Below Op.bytesLess a e d) (_:e - a<=w)
    (_:∀ d' H',PermIn a e d d'->SortedIn Op.bytesLess a e d'->bP H b str tail f d' H'->Q (.tuple #[]) H'),E.call (E.fid i.f98) [slc b 0 n c,vi a,vi e,vi limit] H Q:=by
  intro w
  induction w using Nat.strongRecOn with
  | _ w ih =>
  intro H Q d hg hn hsz a0 e0 hae0 he0 limit0 hlim0 hB0 hw hQ;apply hE.f98;simp only [F.f98]
  refine aO.ind (fun m l H'=>∃ (a e limit:Nat) (wb wp:Bool) (d1:Array (List UInt8)),l=[slc b 0 n c,vi a,vi e,vi limit,vb wb,vb wp]/\bP H b str tail f d1 H'/\d1.size=n/\a<=e/\e<=n/\limit<2 ^ 60/\e - a<=w/\Go.Sort.Below Op.bytesLess a e d1 /\
      (∀ R,PermIn a e d1 R->SortedIn Op.bytesLess a e R->PermIn a0 e0 d R/\SortedIn Op.bytesLess a0 e0 R)/\m=e - a) ?_ (e0 - a0) ⟨a0,e0,limit0,true,true,d,rfl,.refl hg,hn,hae0,he0,hlim0,hw,hB0,fun R h1 h2=>⟨h1,h2⟩,rfl⟩
  rintro m _ H1 X hX ⟨a,e,limit,wb,wp,d1,rfl,s1,n1,hae,hen,hlim,hwe,hB,fin,rfl⟩;have a1:aA .sub (vi e) (vi a)=some (vi ((e - a:Nat):Int)):=cC e a (by omega) (by omega)
  by_cases c12:e - a<=12
  · have c12':((e - a:Nat):Int)<=12:=by omega
    generalize hW:e - a=W at *;simp [F.f98_l1,a1,c12'];refine S.f83 hE s1.get n1 (by omega) a e hae hen fun H2 s2 =>?_
    obtain ⟨h1,h2⟩:=insertionSort_holds hS d1 a e hae (by omega)
    obtain ⟨h3,h4⟩:=fin _ h1 h2;exact hQ _ _ h3 h4 (s1.trans s2)
  have c12':¬ ((e - a:Nat):Int)<=12:=by omega
  by_cases c0:limit=0
  · subst c0
    generalize hW:e - a=W at *;simp [F.f98_l1,a1,c12'];refine S.f81 hE s1.get n1 (by omega) a e (by omega) hen fun H2 s2 =>?_
    obtain ⟨h1,h2⟩:=heapSort_holds hS d1 a e hae (by omega)
    obtain ⟨h3,h4⟩:=fin _ h1 h2;exact hQ _ _ h3 h4 (s1.trans s2)
  have c0':¬ (limit:Int)=0:=by omega
  have w8:aA .quo (vi ((e - a:Nat):Int)) (.int .i64 8)=some (vi (((e - a) / 8:Nat):Int)):=gH (e - a) 8 (by decide) (by omega)
  have j3:∀ (d3:Array (List UInt8)) H3 (lim:Nat) (wb wp:Bool) (pv:Nat),bP H b str tail f d3 H3->d3.size=n->PermIn a e d1 d3->lim<2 ^ 60->a<=pv->pv<e->F.f98_j3 E Q X (slc b 0 n c) (vi a) (vi e) (vi lim) (vb wb) (vb wp) (vi ((e - a:Nat):Int)) (vi pv) H3:=by
    intro d3 H3 lim wb wp pv s3 n3 p3 hlim hp1 hp2;have B3:Go.Sort.Below Op.bytesLess a e d3:=hB.permA permIn_all (by omega) p3
    have fin3:∀ R,PermIn a e d3 R->SortedIn Op.bytesLess a e R->PermIn a0 e0 d R/\SortedIn Op.bytesLess a0 e0 R:=fun R h1 h2=>fin R (permIn_trans _ _ _ _ _ p3 h1) h2
    have part:∀ (K:Value->AH->Prop),(K=fun v15 H13 =>
         opt (ext v15 0) fun v16 =>
         opt (ext v15 1) fun v17 =>
         opt (aA .sub v16 (vi a)) fun v18 =>
         opt (aA .sub (vi e) v16) fun v19 =>
         opt (aA .quo (vi ((e - a:Nat):Int)) (.int .i64 8)) fun v20 =>
         opt (aA .lss v18 v19) fun v21 =>
         ifB v21 (
         opt (aA .geq v18 v20) fun v22 =>
         E.call (E.fid i.f98) [slc b 0 n c,vi a,v16,vi lim] H13 fun v23 H14 =>
         opt (aA .add v16 (.int .i64 1)) fun v24 =>
         X [slc b 0 n c,v24,vi e,vi lim,v22,v17] H14) (
         opt (aA .geq v19 v20) fun v25 =>
         opt (aA .add v16 (.int .i64 1)) fun v26 =>
         E.call (E.fid i.f98) [slc b 0 n c,v26,vi e,vi lim] H13 fun v27 H15 =>
         X [slc b 0 n c,vi a,v16,vi lim,v25,v17] H15))->E.call (E.fid i.f96) [slc b 0 n c,vi a,vi e,vi pv] H3 K:=by
      rintro K rfl;refine S.f96 hE s3.get n3 (by omega) a e pv hp1 hp2 hen fun H4 s4 =>?_
      rcases hx:partition Op.bytesLess d3 a e pv with ⟨mid,ap,d4⟩
      rw [hx] at s4;obtain ⟨g1,g2,hs4,hBa,hBr,hl,hr⟩:=round_part hS (partition_holds Op.bytesLess) hp1 hp2 (by omega) B3 hx
      have n4:d4.size=n:=by omega
      have s4':=s3.trans s4;have b1:aA .sub (vi mid) (vi a)=some (vi ((mid - a:Nat):Int)):=cC mid a g1 (by omega)
      have b2:aA .sub (vi e) (vi mid)=some (vi ((e - mid:Nat):Int)):=cC e mid (by omega) (by omega)
      have b3:=bD mid (by omega)
      simp only [aJ,cV,List.getElem?_cons_zero,List.getElem?_cons_succ,aE,b1,b2,b3,w8,bG,eB]
      by_cases cl:mid - a<e - mid
      · have cl':((mid - a:Nat):Int)<((e - mid:Nat):Int):=by omega
        simp only [cl',decide_true,aJ,aP,eB,aE];refine ih (mid - a) (by omega) s4'.get n4 hsz a mid g1 (by omega) lim hlim hBa (Nat.le_refl _) fun d5 H5 p5 q5 s5 =>?_
        obtain ⟨hBL,hfin⟩:=hl d5 p5 q5;have n5:d5.size=n:=by rw [p5.1]; exact n4
        simp only [b3,aJ,aE]
        exact hX (e - (mid+1)) (by omega) _ _ ⟨mid+1,e,lim,_,ap,d5,rfl,s4'.trans s5,n5,by omega,hen,hlim,by omega,hBL,fun R h1 h2=>by
          obtain ⟨h3,h4⟩:=hfin R h1 h2;exact fin3 R h3 h4,rfl⟩
      · have cl':¬ ((mid - a:Nat):Int)<((e - mid:Nat):Int):=by omega
        simp only [cl',decide_false,aJ,aI,eB,aE,b3];refine ih (e - (mid+1)) (by omega) s4'.get n4 hsz (mid+1) e (by omega) hen lim hlim hBr (Nat.le_refl _) fun d5 H5 p5 q5 s5 =>?_
        obtain ⟨hBL,hfin⟩:=hr d5 p5 q5;have n5:d5.size=n:=by rw [p5.1]; exact n4
        exact hX (mid - a) (by omega) _ _ ⟨a,mid,lim,_,ap,d5,rfl,s4'.trans s5,n5,g1,by omega,hlim,by omega,hBL,fun R h1 h2=>by
          obtain ⟨h3,h4⟩:=hfin R h1 h2;exact fin3 R h3 h4,rfl⟩
    by_cases ca:0<a
    · have ca':(0:Int)<a:=by omega
      have b1:=cO a (by omega) (by omega)
      have f1:=bF (b:=b) (c:=c) (n:=n) (i:=a - 1) (by omega)
      have f2:=bF (b:=b) (c:=c) (n:=n) (i:=pv) (by omega)
      have g1:=aL s3.get (i:=a - 1) (by omega)
      have g2:=aL s3.get (i:=pv) (by omega)
      have part:=part _ rfl
      by_cases hl:Op.bytesLess d3[a - 1]! d3[pv]! = true
      · generalize hW:e - a=W at *
        generalize hA:a - 1=a1 at *;simp [-aF,-aD,F.f98_j3,ca',ca,b1,f1,f2,g1,g2];refine S.f3 hE _ _ ?_;simp only [hl];simp only [eC,Bool.not_true,aJ,aE,dX,aQ,aI];exact part
      · have hl:Op.bytesLess d3[a - 1]! d3[pv]! = false:=by simpa using hl
        clear part;rcases hx:partitionEqual Op.bytesLess d3 a e pv with ⟨mid,d4⟩
        obtain ⟨g3,g4,hs4,hB4,hfin⟩:=round_eq hS (partitionEqual_holds Op.bytesLess) ca hp1 hp2 (by omega) B3 hl hx
        have hY:=fun H4 s4=>hX (e - mid) (by omega) [slc b 0 n c,vi mid,vi e,vi lim,vb wb,vb wp] H4 ⟨mid,e,lim,wb,wp,d4,rfl,s4,by omega,g4,hen,hlim,by omega,hB4,fun R h1 h2=>by
            obtain ⟨h3,h4⟩:=hfin R h1 h2;exact fin3 R h3 h4,rfl⟩
        generalize hW:e - a=W at *;generalize hA:a - 1=a1 at *;simp [-aF,-aD,F.f98_j3,ca',ca,b1,f1,f2,g1,g2];refine S.f3 hE _ _ ?_;simp [hl];refine S.f94 hE s3.get n3 (by omega) a e pv hp1 hp2 hen fun H4 s4 =>?_
        rw [hx] at s4 ⊢;exact hY H4 (s3.trans s4)
    · have ca':¬ (0:Int)<a:=by omega
      have part:=part _ rfl;generalize hW:e - a=W at *;simp only [F.f98_j3,dC,ca',decide_false,aJ,aE,fY,aW,aI];exact part
  have j2:∀ (d3:Array (List UInt8)) H3 (lim:Nat) (wb wp:Bool) (pv:Nat) (hint:Int),bP H b str tail f d3 H3->d3.size=n->PermIn a e d1 d3->lim<2 ^ 60->a<=pv->pv<e->F.f98_j2 E Q X (slc b 0 n c) (vi a) (vi e) (vi lim) (vb wb) (vb wp) (vi ((e - a:Nat):Int)) (vi pv) (vi hint) H3:=by
    intro d3 H3 lim wb wp pv hint s3 n3 p3 hlim hp1 hp2;have B3:Go.Sort.Below Op.bytesLess a e d3:=hB.permA permIn_all (by omega) p3
    have h3:=j3 d3 H3 lim wb wp pv s3 n3 p3 hlim hp1 hp2
    have try_:E.call (E.fid i.f92) [slc b 0 n c,vi a,vi e] H3 fun v6 H4=>ifB v6 (Q (.tuple #[]) H4) (F.f98_j3 E Q X (slc b 0 n c) (vi a) (vi e) (vi lim) (vb wb) (vb wp) (vi ((e - a:Nat):Int)) (vi pv) H4):=by
      refine S.f92 hE s3.get n3 (by omega) a e (by omega) hen fun H4 s4 =>?_
      obtain ⟨q1,q2⟩:=partialInsertionSort_holds hS d3 a e (by omega) (by omega) B3
      cases hb:(partialInsertionSort Op.bytesLess d3 a e).2 with
      | true =>
        obtain ⟨h5,h6⟩:=fin _ (permIn_trans _ _ _ _ _ p3 q1) (q2 hb);simp only [aP];exact hQ _ _ h5 h6 (s3.trans s4)
      | false =>
        simp only [aI];exact j3 _ H4 lim wb wp pv (s3.trans s4) (by rw [q1.1]; exact n3) (permIn_trans _ _ _ _ _ p3 q1) hlim hp1 hp2
    cases wb with
    | false =>
      simp only [F.f98_j2,fY,aW,aJ,aE,aI];exact h3
    | true =>
      cases wp with
      | false =>
        simp only [F.f98_j2,dX,fY,aQ,aW,aJ,aE,aI];exact h3
      | true =>
        by_cases ch:hint=1
        · simp only [F.f98_j2,dX,aQ,aJ,aE,aT,ch,decide_true,aP]
          exact try_
        · simp only [F.f98_j2,dX,aQ,aJ,aE,aT,ch,decide_false,aI]
          exact h3
  have j1:∀ (d3:Array (List UInt8)) H3 (lim:Nat) (wb wp:Bool),bP H b str tail f d3 H3->d3.size=n->PermIn a e d1 d3->lim<2 ^ 60->F.f98_j1 E Q X (slc b 0 n c) (vi a) (vi e) (vi lim) (vb wb) (vb wp) (vi ((e - a:Nat):Int)) H3:=by
    intro d3 H3 lim wb wp s3 n3 p3 hlim;simp only [F.f98_j1];refine S.f79 hE s3.get n3 (by omega) a e (by omega) hen fun pv hint H4 hp1 hp2 e4 =>?_
    have s4:=s3.ext e4;simp only [aJ,cV,List.getElem?_cons_zero,List.getElem?_cons_succ,aE,aT]
    by_cases ch:hint=2
    · simp only [ch,decide_true,aP]
      refine S.f100 hE s4.get n3 (by omega) a e (by omega) hen fun H5 s5 =>?_
      have q1:=reverseRange_holds d3 a e hae (by omega)
      have b1:=cO e (by omega) (by omega)
      have b2:aA .sub (vi pv) (vi a)=some (vi ((pv - a:Nat):Int)):=cC pv a hp1 (by omega)
      have b3:aA .sub (vi ((e - 1:Nat):Int)) (vi ((pv - a:Nat):Int))=some (vi ((e - 1 - (pv - a):Nat):Int)):=cC (e - 1) (pv - a) (by omega) (by omega)
      simp only [b1,b2,b3,aJ,aE];exact j2 _ H5 lim wb wp _ 1 (s4.trans s5) (by rw [q1.1]; exact n3) (permIn_trans _ _ _ _ _ p3 q1) hlim (by omega) (by omega)
    · simp only [ch,decide_false,aI]
      exact j2 d3 H4 lim wb wp pv hint s4 n3 p3 hlim hp1 hp2
  cases wb with
  | true =>
    have:=j1 d1 H1 limit true wp s1 n1 (permIn_refl _ _ _) hlim;generalize hW:e - a=W at *;simp only [F.f98_l1,dM,dT,dW,fC,jG,kY,a1,c12',c0',uW,aT,decide_false,eC,Bool.not_true,aJ,aE,aI];exact this
  | false =>
    have b1:=cO limit (by omega) (by omega)
    have go:=fun d' H' p' s'=>j1 d' H' (limit - 1) false wp s' (by rw [(p':PermIn a e d1 d').1]; exact n1) p' (by omega)
    generalize hW:e - a=W at *;simp only [F.f98_l1,dM,dT,dW,fC,jG,kY,a1,c12',c0',uW,aT,decide_false,eC,Bool.not_false,aJ,aE,aI,aP];refine S.f77 hE s1.get n1 hsz a e (by omega) hen fun d' H' p' s' =>?_
    simp only [b1,aJ,aE];exact go d' H' p' (s1.trans s')
theorem S.f75 (hE:bJ E) (hS:SWO Op.bytesLess) (hg:H.get b=eY str d tail f) (hn:d.size=n) (hsz:n<2 ^ 31)
  (hQ:∀ d' H',PermIn 0 n d d'->SortedIn Op.bytesLess 0 n d'->bP H b str tail f d' H'->Q (.tuple #[]) H'):E.call (E.fid i.f75) [slc b 0 n c] H Q:=by
 apply hE.f75;have e1:(BitVec.ofNat 64 n).toNat=n:=by rw [BitVec.toNat_ofNat,Nat.mod_eq_of_lt (by omega)]
 have hc:bC .u64 (vi (n:Int))=some (u64 (BitVec.ofNat 64 n)):=by rw [jD,BitVec.ofInt_natCast]
 simp only [F.f75,rX,hc,aJ,aE];refine S.f27 hE _ (by rw [e1]; omega) ?_
 rw [e1];have hl:bitsLen n<=31:=by rw [bitsLen_le_iff]; exact hsz
 exact S.f98 hE hS n hg hn hsz 0 n (Nat.zero_le _) (Nat.le_refl _) _ (by omega) (.inl rfl) (by omega) hQ
theorem S.slices_Sort_string_nil (hE:bJ E) (a:Option Addr) (hQ:Q (.tuple #[]) H):E.call (E.fid i.f75) [.slice a 0 0] H Q:=by
 apply hE.f75;have hc:bC .u64 (vi 0)=some (u64 0#64):=by rw [jD]; rfl
 have hd:aA .sub (vi 0) (vi 0)=some (vi 0):=gY (by decide) (by decide)
 simp [F.f75,hc];refine S.f27 hE _ (by decide) ?_
 apply hE.f98;simp only [F.f98];refine aO.step fun X _ =>?_;simp [F.f98_l1,hd];apply hE.f83;have ha:aA .add (vi 0) (vi 1)=some (vi 1):=eX (by decide) (by decide)
 simp [F.f83,ha];refine aO.step fun X _ =>?_;simp [F.f83_l1];exact hQ
end
end Go.AM
end
section
namespace Go.AM
open Go.Sort (SWO PermIn SortedIn)
theorem tV {α:Type} [Inhabited α] {lt:α->α->Bool} (hS:SWO lt) (htri:∀ a b,lt a b=false->lt b a=false->a=b) {n:Nat} {d d':Array α} (hn:d.size=n) (hp:PermIn 0 n d d') (hs:SortedIn lt 0 n d') {L:List α} (hL:d.toList.Perm L)
  (hR:L.Pairwise fun a b=>lt a b=true):d'.toList=L:=by
 have hsz:d'.size=n:=hp.1.trans hn;have e1:(d'.extract 0 n).toList=d'.toList:=by rw [<- hsz]; simp
 have e2:(d.extract 0 n).toList=d.toList:=by rw [<- hn]; simp
 have hpp:=hp.2.2;rw [e1,e2] at hpp;refine List.Perm.eq_of_pairwise (le:=fun a b=>lt b a=false) (fun a b _ _ h1 h2=>htri a b h2 h1) ?_ ?_ (hpp.trans hL)
 ·rw [List.pairwise_iff_getElem]
  intro i j hi hj hij;have:=hs i j (Nat.zero_le _) hij (by rw [<- hsz]; simpa using hj)
  have hi':i<d'.size:=by simpa using hi
  have hj':j<d'.size:=by simpa using hj
  simpa [hi',hj'] using this
 ·refine hR.imp fun {a b} hab =>?_
  cases hba:lt b a with
  | false=>rfl
  | true =>
   have:=hS.trans a b a hab hba;rw [hS.irrefl] at this;simp at this
theorem cB.arr {α:Type} [Inhabited α] {enc:α->Value} (hp:∀ x,plain1 (enc x)=true) {H:AH} {v:Value} {xs:List α} (g:cB zH H 1 v (xs.map fun x=>[enc x])) (hne:xs≠[]) :
  ∃ b f c tail,v=slc b 0 xs.length c/\H.get b=eY enc xs.toArray tail f/\∀ (ys:List α) (H':AH),ys.length=xs.length->H'.get b=eY enc ys.toArray tail f->cB zH H' 1 v (ys.map fun x=>[enc x]):=by
 have fl:∀ l:List α,(l.map fun x=>[enc x]).flatten=l.map enc:=by
  intro l
  induction l with
  | nil=>rfl
  | cons a l ih=>simp [ih]
 rcases g.2 with ⟨h,_⟩ | ⟨b,f,c,cs,g1,rfl,g3,g4,g5,g6,g7⟩
 ·exact (hne (by simpa using h)).elim
 ·rw [fl,Nat.mul_one] at g6
  simp only [List.length_map] at g4 g6 ⊢;have hcs:cs=xs.map enc++cs.drop xs.length:=by rw [<- g6,List.take_append_drop]
  refine ⟨b,f,c,cs.drop xs.length,rfl,?_,fun ys H' hl hg =>?_⟩
  ·rw [g3,eY]; congr 1
  ·refine ⟨fun r hr =>?_,.inr ⟨b,f,c,ys.map enc++cs.drop xs.length,g1,by simp [hl],hg,by simpa [hl] using g4,?_,?_,g7⟩⟩
   ·obtain ⟨x,_,rfl⟩:=List.mem_map.1 hr
    exact ⟨rfl,by simp [hp]⟩
   ·have:cs.length=(xs.map enc++cs.drop xs.length).length:=congrArg List.length hcs
    simp at this;simp [hl]; omega
   ·rw [fl]
    simp [hl]
theorem qH (a b:aM) (h:Op.bytesLess a b=false) (h':Op.bytesLess b a=false):a=b:=by
 rw [dR] at h h';exact aAX (by simpa using h) (by simpa using h')
theorem aDC (a b:BitVec 16) (h:cA a b=false) (h':cA b a=false):a=b:=by
 simp only [cA,decide_eq_false_iff_not] at h h';exact BitVec.eq_of_toNat_eq (by omega)
def kR (l:List aM):List (List Value):=l.map fun s=>[str s]
def kS (l:List (BitVec 16)):List (List Value):=l.map fun s=>[u16 s]
theorem kJ (l:List aM):(kR l).length=l.length:=by simp [kR]
theorem fT (l:List (BitVec 16)):(kS l).length=l.length:=by simp [kS]
def Tr.entries (T:Tr) (n:BitVec 16):List aM:=if T.dir n=0 then (T.node n).ents.map Prod.fst else []
section
variable {E:Sy} {H H' H'':AH} {Q:Value->AH->Prop} {p m:Nat} {L L' L'':LyL} {T T' T'':Tr}
theorem S.f12 (hE:bJ E) (h:Ino H p m L T) (n:BitVec 16) (hr:jS (T.node n).ents) (hsz:(T.node n).ents.length<2 ^ 30)
  (hQ:∀ v H',Ext H H'->cB zH H' 1 v (kR (T.entries n))->fW H.next v->Q (.tuple #[v,vi (T.dir n)]) H'):E.call (E.fid i.f12) [ptr p 0,u16 n] H Q:=by
 apply hE.f12;simp only [F.f12];refine S.f22 hE h n ?_
 by_cases hd:T.dir n=0
 rotate_left
 ·simp only [cV,List.getElem?_cons_zero,List.getElem?_cons_succ,cX,hd,ne_eq,not_false_eq_true,decide_true,aJ,aE,aP]
  refine hQ aV H (Ext.refl H) ?_ fun b hb=>by simp [blk] at hb
  rw [Tr.entries,if_neg hd];exact cB.nil _ _ _
 rcases h.get n with ⟨q1,_⟩ | ⟨k,y,q1,q2,q3,q4,q5⟩
 ·have:=Tr.dir_zero.1 hd
  rw [q1] at this; simp at this
 obtain ⟨r,hnm⟩:=q5.dir (Tr.dir_zero.1 hd);have hm:=cR.names (h.node q2) hnm;obtain ⟨o,o1,o2⟩:=eL.start hm;have x1:Ext H (H.new o):=(Ext.refl H).new o;simp only [cV,List.getElem?_cons_zero,List.getElem?_cons_succ,cX,hd,ne_eq,not_true,decide_false,if_true,bV h.cov.nd q2,bA,aK,aD,q4,inC,bE,Nat.zero_add,hnm,o1,dH,mR,aJ,aE,aI];have hlen:y.ord.length=(T.node n).ents.length:=q5.perm.length_eq;refine aO.ind (fun j l H'=>Ext H H'/\∃ done v,l=[v,ptr H.next 0]/\eL str u16 H' H.next r y.ord done/\cB zH H' 1 v (kR (done.map Prod.fst))/\fW (H.next+1) v/\(done=[]->v=aV)/\j+done.length=y.ord.length) ?_ y.ord.length ⟨x1,[],aV,rfl,o2,cB.nil _ _ _,fun b hb=>by simp [blk] at hb,fun _=>rfl,by simp⟩
 rintro j _ H' X hX ⟨e1,done,v,rfl,it,g,fv,hnil,hj⟩;simp only [F.f12_l1,dM,dT];refine eL.next it (fun e ob he hnd it' hen =>?_) fun hp =>?_
 ·have hput:Ext H (H'.put H.next ob):=e1.put (Nat.le_refl _) ob
  have hd1:done.length+1<=y.ord.length:=by
   have:=mT (done++[e]) y.ord it'.nodup.1 it'.nodup.2
   simpa using this
  have g':cB zH (H'.put H.next ob) 1 v (kR (done.map Prod.fst)):=g.keep fun b hb _=>AH.get_put_ne _ _ (by have:=fv b hb; omega)
  have hb1:buildS 1 1 #[(.string ⟨#[]⟩)] [(0,str e.1)]=some (.cells [str e.1] none,eD 1 1):=eT 1 [str []] [str e.1] rfl rfl;obtain ⟨v',H2,a1,a2,a3⟩:=g'.app1 (Nat.zero_le _) (bytes:=16) [str e.1] rfl rfl (by decide) (by decide) (by rw [kJ,List.length_map]; omega)
  have hlt1:=it'.map.lt;have hlt2:=it'.lt
  have hrb:H2.get r=(H'.put H.next ob).get r:=a3.1.get hlt1 fun hb=>by
   have:=fv r (bW.1 hb);have:=hm.lt;omega
  have hib:H2.get H.next=(H'.put H.next ob).get H.next:=a3.1.get hlt2 fun hb=>by
   have:=fv H.next (bW.1 hb);omega
  simp only [cV,List.getElem?_cons_zero,List.getElem?_cons_succ,hen,hb1,dH,eU,a1,eV,aJ,aE,aP];refine hX (j - 1) (by omega) _ _ ⟨?_,done++[e],v',rfl,it'.keep hrb hib,?_,?_,fun h=>by simp at h,?_⟩
  ·refine a3.1.ext hput fun b hb =>?_
   have:=fv b (bW.1 hb);omega
  ·have:kR ((done++[e]).map Prod.fst)=kR (done.map Prod.fst)++[[str e.1]]:=by simp [kR]
   rw [this]; exact a2
  ·intro b hb
   have hp1:(H'.put H.next ob).next=H'.next:=rfl;rcases a3.2 b hb with h1 | h1
   ·exact fv b h1
   ·have:=it.lt
    omega
  ·simp; omega
 ·have hperm:(done.map Prod.fst).Perm ((T.node n).ents.map Prod.fst):=(hp.trans q5.perm).map _
  have hents:T.entries n=(T.node n).ents.map Prod.fst:=by rw [Tr.entries,if_pos hd]
  have hrise:((T.node n).ents.map Prod.fst).Pairwise fun a b=>Op.bytesLess a b=true:=by
   rw [List.pairwise_map];exact hr.imp fun {a b} hab=>by rw [dR]; simpa using hab
  simp only [cV,List.getElem?_cons_zero,aJ,aE,aI]
  by_cases hne:done.map Prod.fst=[]
  ·have hd0:done=[]:=by simpa using hne
   have he:(T.node n).ents=[]:=by
    have:=hperm.length_eq;rw [hd0] at this;exact List.eq_nil_of_length_eq_zero (by simpa using this.symm)
   rw [hnil hd0];refine S.slices_Sort_string_nil hE none ?_;rw [hd] at hQ;refine hQ aV H' e1 ?_ fun b hb=>by simp [blk] at hb
   rw [hents,he];exact cB.nil _ _ _
  ·obtain ⟨b,f,c,tail,rfl,ha,hb⟩:=cB.arr (fun x=>rfl) g hne
   refine S.f75 hE yW ha (by simp) (by have:=hperm.length_eq; simp at this ⊢; omega) fun d' H2 hp2 hs2 st =>?_
   have hu:=tV yW qH (n:=(done.map Prod.fst).length) (by simp) hp2 hs2 (L:=(T.node n).ents.map Prod.fst) hperm hrise
   rw [hd] at hQ;refine hQ _ H2 ?_ ?_ fun x hx=>Nat.le_of_succ_le (fv x hx)
   ·exact st.only.ext e1 fun x hx=>by
     simp at hx; subst hx;have:=fv x (by simp [blk])
     omega
   ·rw [hents,<- hu]
    refine hb d'.toList H2 ?_ st.get;have:=hp2.1
    simpa using this
def Tr.nums (T:Tr):List (BitVec 16):=((List.range T.N.length).map (BitVec.ofNat 16)).filter fun n=>decide ((T.node n).kind≠0#8)
theorem Tr.nums_mem (hl:T.N.length<=65536) (n:BitVec 16):n∈T.nums↔(T.node n).kind≠0#8:=by
 unfold Tr.nums;rw [List.mem_filter];simp only [decide_eq_true_eq,List.mem_map,List.mem_range];constructor
 ·exact fun h=>h.2
 ·intro h
  exact ⟨⟨n.toNat,Tr.node_lt h,by simp⟩,h⟩
theorem Tr.nums_rise (hl:T.N.length<=65536):T.nums.Pairwise fun a b=>cA a b=true:=by
 unfold Tr.nums;refine List.Pairwise.filter _ ?_;rw [List.pairwise_map];refine List.pairwise_lt_range.imp_of_mem fun {a b} ha hb hab =>?_;have h1:=List.mem_range.1 ha;have h2:=List.mem_range.1 hb;simp only [cA,decide_eq_true_eq,BitVec.toNat_ofNat];rw [Nat.mod_eq_of_lt (by omega),Nat.mod_eq_of_lt (by omega)]
 exact hab
theorem Tr.nums_nodup (hl:T.N.length<=65536):T.nums.Nodup :=
 (Tr.nums_rise hl).imp fun {a b} h e=>by subst e; simp [cA] at h
theorem Cov.perm (h:Cov L T) (hl:T.N.length<=65536):(L.map Prod.fst).Perm T.nums :=
 List.perm_of_nodup_nodup_toFinset_eq' h.nd (Tr.nums_nodup hl) (fun x hx=>(Tr.nums_mem hl x).2 ((h.mem x).1 hx)) fun x hx=>(h.mem x).2 ((Tr.nums_mem hl x).1 hx)
theorem S.f18 (hE:bJ E) (h:Ino H p m L T) (hl:T.N.length<=65536) (hQ:∀ v H',Ext H H'->Rows H' 1 v (kS T.nums)->fW H.next v->Q v H'):E.call (E.fid i.f18) [ptr p 0] H Q:=by
 apply hE.f18;have hh:=h.head;have hm:=h.map;obtain ⟨o,o1,o2⟩:=eL.start hm;have x1:Ext H (H.new o):=(Ext.refl H).new o;have hp:=h.cov.perm hl;have hlen:L.length=T.nums.length:=by simpa using hp.length_eq
 have hnl:T.nums.length<=65536:=by
  unfold Tr.nums;refine Nat.le_trans (List.length_filter_le _ _) ?_
  simpa using hl
 simp only [F.f18,aB9,bA,aK,aD,hh,bE,Nat.add_zero,List.getElem?_cons_zero,o1,dH,mR,aJ,aE,aI];generalize hl2:(L.map fun e=>(e.1,e.2.blk))=l2 at *;have hl2l:l2.length=L.length:=by rw [<- hl2]; simp
 have hl2f:l2.map Prod.fst=L.map Prod.fst:=by rw [<- hl2]; simp [Function.comp_def]
 refine aO.ind (fun j l H'=>Ext H H'/\∃ done v,l=[v,ptr H.next 0]/\eL u16 (fun b=>ptr b 0) H' H.next m l2 done/\cB zH H' 1 v (kS (done.map Prod.fst))/\fW (H.next+1) v/\(done=[]->v=aV)/\j+done.length=l2.length) ?_ l2.length ⟨x1,[],aV,rfl,o2,cB.nil _ _ _,fun b hb=>by simp [blk] at hb,fun _=>rfl,by simp⟩
 rintro j _ H' X hX ⟨e1,done,v,rfl,it,g,fv,hnil,hj⟩;simp only [F.f18_l1,dM,dT];refine eL.next it (fun e ob he hnd it' hen =>?_) fun hpd =>?_
 ·have hput:Ext H (H'.put H.next ob):=e1.put (Nat.le_refl _) ob
  have hd1:done.length+1<=l2.length:=by
   have:=mT (done++[e]) l2 it'.nodup.1 it'.nodup.2
   simpa using this
  have g':cB zH (H'.put H.next ob) 1 v (kS (done.map Prod.fst)):=g.keep fun b hb _=>AH.get_put_ne _ _ (by have:=fv b hb; omega)
  have hb1:buildS 1 1 #[(.int .u16 0)] [(0,u16 e.1)]=some (.cells [u16 e.1] none,eD 1 1):=eT 1 [u16 0#16] [u16 e.1] rfl rfl;obtain ⟨v',H2,a1,a2,a3⟩:=g'.app1 (Nat.zero_le _) (bytes:=2) [u16 e.1] rfl rfl (by decide) (by decide) (by rw [fT,List.length_map]; omega)
  have hlt1:=it'.map.lt;have hlt2:=it'.lt
  have hrb:H2.get m=(H'.put H.next ob).get m:=a3.1.get hlt1 fun hb=>by
   have:=fv m (bW.1 hb);have:=hm.lt;omega
  have hib:H2.get H.next=(H'.put H.next ob).get H.next:=a3.1.get hlt2 fun hb=>by
   have:=fv H.next (bW.1 hb);omega
  simp only [cV,List.getElem?_cons_zero,List.getElem?_cons_succ,hen,hb1,dH,eU,a1,eV,aJ,aE,aP];refine hX (j - 1) (by omega) _ _ ⟨?_,done++[e],v',rfl,it'.keep hrb hib,?_,?_,fun h=>by simp at h,?_⟩
  ·refine a3.1.ext hput fun b hb =>?_
   have:=fv b (bW.1 hb);omega
  ·have:kS ((done++[e]).map Prod.fst)=kS (done.map Prod.fst)++[[u16 e.1]]:=by simp [kS]
   rw [this]; exact a2
  ·intro b hb
   have hp1:(H'.put H.next ob).next=H'.next:=rfl;rcases a3.2 b hb with h1 | h1
   ·exact fv b h1
   ·have:=it.lt
    omega
  ·simp; omega
 ·have hperm:(done.map Prod.fst).Perm T.nums:=(hpd.map _).trans (by rw [hl2f]; exact hp)
  simp only [cV,List.getElem?_cons_zero,aJ,aE,aI]
  by_cases hne:done.map Prod.fst=[]
  ·have hd0:done=[]:=by simpa using hne
   have he:T.nums=[]:=by
    have:=hperm.length_eq;rw [hd0] at this;exact List.eq_nil_of_length_eq_zero (by simpa using this.symm)
   rw [hnil hd0];refine S.slices_Sort_inode_Number_nil hE none ?_;refine hQ aV H' e1 ?_ fun b hb=>by simp [blk] at hb
   rw [he];exact Rows.nil _ _ none
  ·obtain ⟨b,f,c,tail,rfl,ha,hb⟩:=cB.arr (fun x=>rfl) g hne
   refine S.f74 hE aBO ha (by simp) (by have:=hperm.length_eq; simp at this ⊢; omega) fun d' H2 hp2 hs2 st =>?_
   have hu:=tV aBO aDC (n:=(done.map Prod.fst).length) (by simp) hp2 hs2 (L:=T.nums) hperm (Tr.nums_rise hl)
   refine hQ _ H2 ?_ ?_ fun x hx=>by have:=fv x hx; omega
   ·exact st.only.ext e1 fun x hx=>by
     simp at hx; subst hx;have:=fv x (by simp [blk])
     omega
   ·rw [<- hu]
    refine (hb d'.toList H2 ?_ st.get).toRows;have:=hp2.1
    simpa using this
end
end Go.AM
end
section
namespace Go.AM
section
variable {E:Sy} {H:AH} {Q:Value->AH->Prop}
theorem aAP {v:Value} {l:List aM} (h:Rows H 1 v (kR l)) {i:Nat} (hi:i<l.length):∃ b o,aG 1 v (vi i)=some (ptr b o)/\(H.get b).cell o=some (str l[i])/\(H.get b).row o 1=some [str l[i]]:=by
 obtain ⟨b,o,h1,h2⟩:=h.ix (i:=i) (by rw [kJ]; exact hi)
 have hrow:(kR l)[i]'(by rw [kJ]; exact hi)=[str l[i]]:=by simp [kR]
 rw [hrow] at h2;exact ⟨b,o,h1,by have:=dL h2 (j:=0) (by omega); simpa using this,h2⟩
theorem oV {v:Value} {l:List aM} (h:Rows H 1 v (kR l)):AM.lenSlc v=some (vi l.length):=by
 have:=h.lenSlc
 rwa [kJ] at this
end
end Go.AM
end
section
namespace Go.AM
structure xT (H:AH) (t:Nat) (T:Tr) (M:List bU):Prop where
 at_:∃ p m L q nx,H.get t = .cells [ptr p 0,ptr q 0] none/\Ino H p m L T/\uG H q M nx
 older:oO M
theorem xT.mono {H H':AH} {t:Nat} {T:Tr} {M:List bU} (h:xT H t T M) (e:Ext H H'):xT H' t T M:=by
 obtain ⟨⟨p,m,L,q,nx,h1,h2,h3⟩,h4⟩:=h;exact ⟨⟨p,m,L,q,nx,e.cells h1,h2.mono e,h3.mono e⟩,h4⟩
section
variable {E:Sy} {H:AH} {Q:Value->AH->Prop} {t:Nat} {T:Tr} {M:List bU}
theorem aGJ (b o:Nat):cW fE .neq (ptr b o) (.pointer none)=some (.bool true):=rfl
theorem aGw (b o:Nat):cW fE .eql (ptr b o) (.pointer none)=some (.bool false):=rfl
theorem S.f117 (hE:bJ E) (h:xT H t T M) (hQ:Q (vb true) H):E.call (E.fid i.f117) [ptr t 0] H Q:=by
 apply hE.f117;obtain ⟨⟨p,m,L,q,nx,h1,h2,h3⟩,h4⟩:=h;simp [F.f117,aGJ,h1];exact hQ
theorem S.f116 (hE:bJ E) (h:xT H t T M) (c:bQ) (hQ:∀ H',Ext H H'->Q (vb (aEd T M c)) H'):E.call (E.fid i.f116) [ptr t 0,c.v] H Q:=by
 apply hE.f116;have x1:Ext H (H.new (.cells c.cells none)):=(Ext.refl H).new _;have hb:=AH.get_new_self H (.cells c.cells none);generalize hH1:H.new (.cells c.cells none)=H1 at *;simp [F.f116,hH1];refine S.f117 hE (h.mono x1) ?_;obtain ⟨⟨p,m,L,q,nx,h1,h2,h3⟩,h4⟩:=h.mono x1;simp [h1,hb,bQ.cells];refine S.f13 hE h2 c.i ?_;simp [h1,hb,bQ.cells];have x2:Ext H1 (H1.new (.cells [vi 0,vi 0,u16 0#16,u16 0#16,vi 0] none)):=(Ext.refl _).new _;have hb2:=AH.get_new_self H1 (.cells [vi 0,vi 0,u16 0#16,u16 0#16,vi 0] none);refine S.f32 hE q M nx c.m (h3.mono x2) fun H5 e5 =>?_;have hb5:=e5.cells hb2;refine ⟨by rw [hb5,hb2],?_⟩
 have hst:storeN 5 (ptr H1.next 0) (aCt (rP M c.m)).v H5=some (H5.put H1.next (.cells (aCt (rP M c.m)).cells none)):=by
  rw [dZ,hb5]; rfl
 have x3:Ext H (H5.put H1.next (.cells (aCt (rP M c.m)).cells none)):=(x1.trans (x2.trans e5)).put (b:=H1.next) x1.1 _;have hQ:=hQ _ x3
 have hg:∀ b cs,H1.get b = .cells cs none->(H5.put H1.next (.cells (aCt (rP M c.m)).cells none)).get b = .cells cs none:=fun b cs hh=>by
  rw [AH.get_put_ne _ _ (Nat.ne_of_lt (AH.lt_cells hh))]; exact (x2.trans e5).cells hh
 generalize H5.put H1.next (.cells (aCt (rP M c.m)).cells none)=H6 at *;unfold aEd at hQ;cases hs:(rP M c.m).isSome with
 | false =>
  rw [hs] at hQ;simp at hQ;simp [hst];exact hQ
 | true =>
  rw [hs] at hQ;rcases h2.get c.i with ⟨k0,_⟩ | ⟨kk,yy,k0,k1,k2,k3,k4⟩
  ·simp [k0] at hQ
   simp [hst,gK h2.cov k0];exact hQ
  ·have hk:=hg _ _ k3
   have he:aA .eql (u8 (T.node c.i).kind) (.int .u8 2)=some (vb (decide ((T.node c.i).kind=2#8))):=by simp
   simp at hQ;simp [hst,bV h2.cov.nd k1,aGJ,hk,inC,he];exact hQ
end
end Go.AM
end
section
namespace Go.AM
section
variable {E:Sy} {H H0 Z:AH} {Q:Value->AH->Prop} {t:Nat} {T:Tr} {M:List bU} {L:List Res}
theorem aEQ {α:Type} (L:List α) (r r':α):(L++[r]).set L.length r'=L++[r']:=by
 rw [List.set_append_right _ _ (Nat.le_refl _),Nat.sub_self]; rfl
end
end Go.AM
end
section
namespace Go.AM
section
variable {E:Sy} {H H' H0 Z:AH} {Q:Value->AH->Prop} {t:Nat} {T:Tr} {M:List bU} {L:List Res}
theorem Has.callee (h:Has H0 Z H L) (e:Ext H H'):∃ Z',Fz H.next Z Z'/\Has H0 Z' H' L/\∀ sz v rows,Rows H' sz v rows->fW H.next v->Rows Z' sz v rows:=by
 have hg:∀ b,(AH.mk H'.next fun b=>if b<H.next then Z.get b else H'.get b).get b=if b<H.next then Z.get b else H'.get b:=by
  intro b;simp only [AH.get]
  by_cases hb:b<H'.next
  ·rw [if_pos hb]
  ·have h1:¬ b<H.next:=fun hb'=>hb (Nat.lt_of_lt_of_le hb' e.1)
   have h2:¬ b<H'.next:=hb;simp [h1,h2]
 refine ⟨⟨H'.next,fun b=>if b<H.next then Z.get b else H'.get b⟩,⟨⟨Nat.le_trans h.sub.1 e.1,fun b hb =>?_⟩,fun b hb=>by rw [hg,if_pos hb]⟩,?_,?_⟩
 ·rw [hg]
  split
  ·rfl
  ·rename_i hn
   exact (hb (AH.get_ge _ (Nat.le_trans h.sub.1 (by omega)))).elim
 ·refine h.refreeze e ⟨⟨Nat.le_trans h.sub.1 e.1,fun b hb =>?_⟩,fun b hb=>by rw [hg,if_pos hb]⟩ ⟨Nat.le_refl _,fun b hb =>?_⟩
  ·rw [hg]
   split
   ·rfl
   ·rename_i hn
    exact (hb (AH.get_ge _ (Nat.le_trans h.sub.1 (by omega)))).elim
  ·rw [hg] at hb ⊢
   split
   ·rename_i hlt
    rw [if_pos hlt] at hb;rw [e.get hlt];exact h.sub.2 b hb
   ·rfl
 ·intro sz v rows hr hf
  refine ⟨hr.len,?_⟩;rcases hr.at_ with g | ⟨b,o,c,g1,g2,g3,g4⟩
  ·exact .inl g
  ·by_cases hrn:rows=[]
   ·have hz:¬ b<H.next:=by
     have:=hf b (by rw [g1]; rfl)
     omega
    exact .inr ⟨b,o,c,g1,g2,by rw [hg,if_neg hz]; exact g3,by rw [hg,if_neg hz]; exact g4⟩
   ·have hz:¬ b<H.next:=by
     have:=hf b (by rw [g1]; rfl)
     omega
    exact .inr ⟨b,o,c,g1,g2,by rw [hg,if_neg hz]; exact g3,by rw [hg,if_neg hz]; exact g4⟩
end
end Go.AM
end
section
namespace Go.AM
structure aKA (H0 H:AH) (p m:Nat) (L:LyL) (T:Tr):Prop where
 ext:Ext H0 H
 ino:Ino H p m L T
 own:∀ b∈(oT p m L T).fp,H0.next<=b
section
variable {E:Sy} {H0 H H' H'':AH} {Q:Value->AH->Prop} {p m:Nat} {L L' L'':LyL} {T T' T'':Tr}
theorem S.f8' (hE:bJ E) (limit:Int) (hQ:∀ p m L H',aKA H H' p m L (Tr.new limit)->Q (ptr p 0) H'):E.call (E.fid i.f8) [vi limit] H Q :=
 S.f8 hE limit fun p m L H' e h hf=>hQ p m L H' ⟨e,h,hf⟩
end
end Go.AM
end
section
namespace Go.AM
structure cI where
 mount:Int
 inode:Int
 deriving DecidableEq
def cI.cells (x:cI):List Value:=[vi x.mount,vi x.inode]
abbrev cI.v (x:cI):Value := .agg x.cells.toArray
def cI.zero:cI:=⟨0,0⟩
@[simp high] theorem cI.cells_length (x:cI):x.cells.length=2:=nrf rfl
@[simp high] theorem cI.splice (a0 a1:Value) (x:cI):AM.splice [a0,a1] 0 x.cells=x.cells:=nrf rfl
@[simp high] theorem cI.splice_cells (y x:cI):AM.splice y.cells 0 x.cells=x.cells:=nrf rfl
@[simp high] theorem cI.take (x:cI):x.cells.take 2=x.cells:=nrf rfl
@[simp high] theorem cI.plain (x:cI):x.cells.all plain1=true:=nrf rfl
@[simp high] theorem cI.at0 (x:cI):x.cells[0]? = some (vi x.mount):=nrf rfl
@[simp high] theorem cI.build (p0:Int) (p1:Int)  : bR [(0,1),(1,1)] [vi 0,vi 0].toArray [(0,vi p0),(1,vi p1)]=some (cI.v ⟨p0,p1⟩):=by
 simp [cI.cells,AM.splice]
theorem cI.ext_iff (x y:cI):x=y↔x.mount=y.mount/\x.inode=y.inode:=by
 cases x; cases y; simp
theorem cI.same (x y:cI):bK [0,0] x.cells y.cells=some (decide (x=y)):=by
 simp only [cI.ext_iff,Bool.decide_and,cI.cells,List.cons_append,List.nil_append,pU,qX,aFy,kH,aDS,aDj,kK,aFC,aGo,Option.bind_some,Option.map_some,Bool.and_true,Bool.and_assoc]
@[simp high] theorem cI.eql (x y:cI):iS [0,0] .eql (.agg x.cells.toArray) (.agg y.cells.toArray)=some (vb (decide (x=y))):=by rw [aCx,cI.same]; rfl
@[simp high] theorem cI.neq (x y:cI):iS [0,0] .neq (.agg x.cells.toArray) (.agg y.cells.toArray)=some (vb (decide (x≠y))):=by rw [vI,cI.same]; simp
structure dS where
 id:Int
 root:Int
 at_:cI
 held:Int
 deriving DecidableEq
def dS.cells (x:dS):List Value:=[vi x.id,vi x.root]++x.at_.cells++[vi x.held]
abbrev dS.v (x:dS):Value := .agg x.cells.toArray
def dS.zero:dS:=⟨0,0,cI.zero,0⟩
@[simp high] theorem dS.at0 (x:dS):x.cells[0]? = some (vi x.id):=nrf rfl
@[simp high] theorem dS.at1 (x:dS):x.cells[1]? = some (vi x.root):=nrf rfl
@[simp high] theorem dS.at2 (x:dS):x.cells[2]? = some (vi x.at_.mount):=nrf rfl
@[simp high] theorem dS.at3 (x:dS):x.cells[3]? = some (vi x.at_.inode):=nrf rfl
@[simp high] theorem dS.at4 (x:dS):x.cells[4]? = some (vi x.held):=nrf rfl
@[simp high] theorem dS.part2 (x:dS):(x.cells.drop 2).take 2=x.at_.cells:=nrf rfl
theorem dS.elem {H:AH} {v:Value} {l:List dS} (h:Rows H 5 v (l.map dS.cells)) {i:Nat} (hi:i<l.length):∃ b o,aG 5 v (vi i)=some (ptr b o)/\(H.get b).row o 5=some l[i].cells/\(H.get b).cell o=some (vi l[i].id)/\(H.get b).cell (o+1)=some (vi l[i].root)/\(H.get b).cell (o+2)=some (vi l[i].at_.mount)/\(H.get b).cell (o+3)=some (vi l[i].at_.inode)/\(H.get b).cell (o+4)=some (vi l[i].held)/\(H.get b).row (o+2) 2=some l[i].at_.cells:=by
 obtain ⟨b,o,f1,f2⟩:=h.ix (i:=i) (by simpa using hi)
 simp only [List.getElem_map] at f2;exact ⟨b,o,f1,f2,by have:=dL f2 (j:=0) (by omega); simpa using this,by have:=dL f2 (j:=1) (by omega); simpa using this,by have:=dL f2 (j:=2) (by omega); simpa using this,by have:=dL f2 (j:=3) (by omega); simpa using this,by have:=dL f2 (j:=4) (by omega); simpa using this,by have:=nA f2 (j:=2) (m:=2) (by omega); simpa using this⟩
@[simp high] theorem dS.build_0_1_2 (p0:Int) (p1:Int) (p2:cI)  : bR [(0,1),(1,1),(2,2),(4,1)] [vi 0,vi 0,vi 0,vi 0,vi 0].toArray [(0,vi p0),(1,vi p1),(2,.agg (p2).cells.toArray)]=some (dS.v ⟨p0,p1,p2,0⟩):=by
 simp [dS.cells,dS.zero,AM.splice,cI.cells,cI.zero]
@[simp high] theorem dS.build1 (x:dS):buildS 1 5 [vi 0,vi 0,vi 0,vi 0,vi 0].toArray [(0,.agg x.cells.toArray)]=some (.cells x.cells none,eD 1 1):=eT 5 [vi 0,vi 0,vi 0,vi 0,vi 0] x.cells rfl rfl
structure eJ where
 name_:List UInt8
 inode:Int
 deriving DecidableEq
def eJ.cells (x:eJ):List Value:=[str x.name_,vi x.inode]
abbrev eJ.v (x:eJ):Value := .agg x.cells.toArray
@[simp high] theorem eJ.at0 (x:eJ):x.cells[0]? = some (str x.name_):=nrf rfl
@[simp high] theorem eJ.build (p0:List UInt8) (p1:Int)  : bR [(0,1),(1,1)] [str [],vi 0].toArray [(0,str p0),(1,vi p1)]=some (eJ.v ⟨p0,p1⟩):=by
 simp [eJ.cells,AM.splice]
@[simp high] theorem eJ.build1 (x:eJ):buildS 1 2 [str [],vi 0].toArray [(0,.agg x.cells.toArray)]=some (.cells x.cells none,eD 1 1):=eT 2 [str [],vi 0] x.cells rfl rfl
structure bZ where
 kind:Int
 data_:Value
 l:Value
 parent:Int
 text:List UInt8
 links:Int
 held:Int
def bZ.cells (x:bZ):List Value:=[vi x.kind,x.data_,x.l,vi x.parent,str x.text,vi x.links,vi x.held]
abbrev bZ.v (x:bZ):Value := .agg x.cells.toArray
def bZ.zero:bZ:=⟨0,aV,aV,0,[],0,0⟩
@[simp high] theorem bZ.cells_length (x:bZ):x.cells.length=7:=nrf rfl
@[simp high] theorem bZ.splice_cells (y x:bZ):AM.splice y.cells 0 x.cells=x.cells:=nrf rfl
@[simp high] theorem bZ.at0 (x:bZ):x.cells[0]? = some (vi x.kind):=nrf rfl
@[simp high] theorem bZ.at1 (x:bZ):x.cells[1]? = some (x.data_):=nrf rfl
@[simp high] theorem bZ.at2 (x:bZ):x.cells[2]? = some (x.l):=nrf rfl
@[simp high] theorem bZ.at3 (x:bZ):x.cells[3]? = some (vi x.parent):=nrf rfl
@[simp high] theorem bZ.at4 (x:bZ):x.cells[4]? = some (str x.text):=nrf rfl
@[simp high] theorem bZ.at5 (x:bZ):x.cells[5]? = some (vi x.links):=nrf rfl
@[simp high] theorem bZ.at6 (x:bZ):x.cells[6]? = some (vi x.held):=nrf rfl
@[simp high] theorem bZ.set3 (x:bZ) (p:Int):x.cells.set 3 (vi p)=({ x with parent:=p }:bZ).cells:=nrf rfl
@[simp high] theorem bZ.set4 (x:bZ) (p:List UInt8):x.cells.set 4 (str p)=({ x with text:=p }:bZ).cells:=nrf rfl
@[simp high] theorem bZ.build0:bR [(0,1),(1,1),(2,1),(3,1),(4,1),(5,1),(6,1)] [vi 0,aV,aV,vi 0,str [],vi 0,vi 0].toArray []=some (bZ.v bZ.zero):=by
 simp [bZ.zero,bZ.cells]
@[simp high] theorem bZ.build1 (x:bZ):buildS 1 7 [vi 0,aV,aV,vi 0,str [],vi 0,vi 0].toArray [(0,.agg x.cells.toArray)]=some (.cells x.cells none,eD 1 1):=eT 7 [vi 0,aV,aV,vi 0,str [],vi 0,vi 0] x.cells rfl rfl
theorem bZ.buildS (xs:List bZ):AM.buildS xs.length 7 [vi 0,aV,aV,vi 0,str [],vi 0,vi 0].toArray ((List.range' 0 xs.length).zip (xs.map bZ.v))=some (.cells (xs.map bZ.cells).flatten none,eD xs.length xs.length):=by
 have:=jF xs.length 7 [vi 0,aV,aV,vi 0,str [],vi 0,vi 0] ((List.range' 0 xs.length).zip (xs.map bZ.v)) (xs.map bZ.v) rfl (by simp) (by simp) (by rw [List.all_eq_true]; intro v hv; obtain ⟨x,_,rfl⟩:=List.mem_map.1 hv; rfl) (by intro v hv; obtain ⟨x,_,rfl⟩:=List.mem_map.1 hv; rfl)
 rw [this,List.flatMap_map]; rfl
structure cF where
 n:Value
 limit:Int
 m:Value
 next:Int
 change:Int
def cF.cells (x:cF):List Value:=[x.n,vi x.limit,x.m,vi x.next,vi x.change]
abbrev cF.v (x:cF):Value := .agg x.cells.toArray
@[simp high] theorem cF.cells_length (x:cF):x.cells.length=5:=nrf rfl
@[simp high] theorem cF.at0 (x:cF):x.cells[0]? = some (x.n):=nrf rfl
@[simp high] theorem cF.at1 (x:cF):x.cells[1]? = some (vi x.limit):=nrf rfl
@[simp high] theorem cF.at2 (x:cF):x.cells[2]? = some (x.m):=nrf rfl
@[simp high] theorem cF.at3 (x:cF):x.cells[3]? = some (vi x.next):=nrf rfl
@[simp high] theorem cF.at4 (x:cF):x.cells[4]? = some (vi x.change):=nrf rfl
@[simp high] theorem cF.set0 (x:cF) (p:Value):x.cells.set 0 (p)=({ x with n:=p }:cF).cells:=nrf rfl
@[simp high] theorem cF.set2 (x:cF) (p:Value):x.cells.set 2 (p)=({ x with m:=p }:cF).cells:=nrf rfl
@[simp high] theorem cF.set3 (x:cF) (p:Int):x.cells.set 3 (vi p)=({ x with next:=p }:cF).cells:=nrf rfl
@[simp high] theorem cF.set4 (x:cF) (p:Int):x.cells.set 4 (vi p)=({ x with change:=p }:cF).cells:=nrf rfl
end Go.AM
end
section
namespace Go.AM
structure RLy where
 data:Value
 l:Value
def cQ (x:Nd) (y:RLy):bZ:=⟨(x.kind.toNat:Int),y.data,y.l,(x.parent.toNat:Int),x.text,x.links,x.held⟩
def eI (l:List (aM×BitVec 16)):List (List Value):=l.map fun e=>[str e.1,vi (e.2.toNat:Int)]
theorem aZ (l:List (aM×BitVec 16)):(eI l).length=l.length:=by simp [eI]
def cM (x:Nd) (y:RLy):Res:=dF [bH 1 y.data (bT x.data),bH 2 y.l (eI x.ents)]
def bY (T:Tr) (Y:List RLy):List (List Value):=(T.N.zip Y).map fun p=>(cQ p.1 p.2).cells
def eE (t:Nat) (nv mv:Value) (nx:Int) (mr:List (List Value)) (Y:List RLy) (T:Tr):List Res :=
 bO t (cF.cells ⟨nv,T.limit,mv,nx,T.change⟩) :: bH 7 nv (bY T Y) :: bH 5 mv mr :: (T.N.zip Y).map fun p=>cM p.1 p.2
def gD (t:Nat) (nv mv:Value) (nx:Int) (mr:List (List Value)) (Y:List RLy) (T:Tr):Res:=dF (eE t nv mv nx mr Y T)
structure eQ (H:AH) (t:Nat) (nv mv:Value) (nx:Int) (mr:List (List Value)) (Y:List RLy) (T:Tr):Prop where
 ow:Ow (gD t nv mv nx mr Y T) H
 len:Y.length=T.N.length
 fit:T.N.length<=60000
structure gS (t:Nat) (nv mv:Value) (nx:Int) (mr:List (List Value)) (Y:List RLy) (T:Tr) (nv':Value) (Y':List RLy) (T':Tr) (H H':AH):Prop where
 upd:Upd (gD t nv mv nx mr Y T) (gD t nv' mv nx mr Y' T') H H'
 len:Y'.length=T'.N.length
 fit:T'.N.length<=60000
def xM (H:AH) (b o:Nat) (x:Nd) (y:RLy):Prop:=(H.get b).row o 7=some (cQ x y).cells/\Rows H 1 y.data (bT x.data)/\Rows H 2 y.l (eI x.ents)
section
variable {E:Sy} {H H' H'':AH} {Q:Value->AH->Prop} {t:Nat} {nv nv' nv'' mv:Value} {nx:Int} {mr:List (List Value)} {Y Y' Y'':List RLy} {T T' T'':Tr}
theorem gS.ref (u:gS t nv mv nx mr Y T nv' Y' T' H H') (h:eQ H t nv mv nx mr Y T):eQ H' t nv' mv nx mr Y' T':=⟨h.ow.upd u.upd,u.len,u.fit⟩
theorem gS.trans (u:gS t nv mv nx mr Y T nv' Y' T' H H') (u':gS t nv' mv nx mr Y' T' nv'' Y'' T'' H' H''):gS t nv mv nx mr Y T nv'' Y'' T'' H H'':=⟨u.upd.trans u'.upd,u'.len,u'.fit⟩
theorem gS.after (e:Ext H H') (u:gS t nv mv nx mr Y T nv' Y' T' H' H''):gS t nv mv nx mr Y T nv' Y' T' H H'':=⟨u.upd.after e,u.len,u.fit⟩
theorem eQ.same (h:eQ H t nv mv nx mr Y T) (e:Ext H H'):gS t nv mv nx mr Y T nv Y T H H':=⟨h.ow.ext e,h.len,h.fit⟩
theorem eQ.mono (h:eQ H t nv mv nx mr Y T) (e:Ext H H'):eQ H' t nv mv nx mr Y T:=(h.same e).ref h
theorem eQ.head (h:eQ H t nv mv nx mr Y T):H.get t = .cells (cF.cells ⟨nv,T.limit,mv,nx,T.change⟩) none:=h.ow.holds (bO t (cF.cells ⟨nv,T.limit,mv,nx,T.change⟩)) (by simp [eE])
theorem eQ.rows (h:eQ H t nv mv nx mr Y T):cB zH H 7 nv (bY T Y):=h.ow.holds (bH 7 nv (bY T Y)) (by simp [eE])
theorem eQ.rows_len (h:eQ H t nv mv nx mr Y T):(bY T Y).length=T.N.length:=by simp [bY,h.len]
theorem eQ.lenSlc (h:eQ H t nv mv nx mr Y T):AM.lenSlc nv=some (vi T.N.length):=by
 have:=h.rows.toRows.lenSlc
 rwa [h.rows_len] at this
theorem eQ.part (h:eQ H t nv mv nx mr Y T) {k:Nat} {x:Nd} {y:RLy} (hx:T.N[k]? = some x) (hy:Y[k]? = some y):Ow (cM x y) H :=
 h.ow.part (rs:=eE t nv mv nx mr Y T) (k:=k+3) (by simp [eE,List.zip,List.getElem?_zipWith,hx,hy])
theorem cM.data {x:Nd} {y:RLy} (h:Ow (cM x y) H):cB zH H 1 y.data (bT x.data):=h.holds (bH 1 y.data (bT x.data)) (by simp)
theorem cM.l {x:Nd} {y:RLy} (h:Ow (cM x y) H):cB zH H 2 y.l (eI x.ents):=h.holds (bH 2 y.l (eI x.ents)) (by simp)
theorem Tr.node_get {n:BitVec 16} (h:n.toNat<T.N.length):T.N[n.toNat]? = some (T.node n):=by
 simp [Tr.node,List.getD_eq_getElem?_getD,h]
theorem Tr.node_ge {n:BitVec 16} (h:T.N.length<=n.toNat):T.node n=Nd.none:=by
 simp [Tr.node,List.getD_eq_getElem?_getD,h]
theorem eQ.at_ (h:eQ H t nv mv nx mr Y T) {n:BitVec 16} (hn:n.toNat<T.N.length):∃ y b o,Y[n.toNat]? = some y/\aG 7 nv (vi (n.toNat:Int))=some (ptr b o)/\xM H b o (T.node n) y:=by
 have hx:=Tr.node_get hn;have hy:Y[n.toNat]? = some (Y[n.toNat]'(by rw [h.len]; exact hn)):=List.getElem?_eq_getElem _
 have hp:=h.part hx hy;obtain ⟨b,o,f1,f2⟩:=h.rows.toRows.ix (i:=n.toNat) (by rw [h.rows_len]; exact hn)
 refine ⟨_,b,o,hy,f1,?_,(cM.data hp).toRows,(cM.l hp).toRows⟩;rw [f2]
 have:(bY T Y)[n.toNat]? = some (cQ (T.node n) (Y[n.toNat]'(by rw [h.len]; exact hn))).cells:=by
  simp only [bY,List.getElem?_map,List.zip,List.getElem?_zipWith,hx,hy]
  rfl
 rw [List.getElem?_eq_getElem] at this;exact this
theorem xM.mono {b o:Nat} {x:Nd} {y:RLy} (h:xM H b o x y) (e:Ext H H'):xM H' b o x y :=
 ⟨by rw [e.get (AH.lt_of_get (fS h.1))]; exact h.1,h.2.1.mono e,h.2.2.mono e⟩
theorem xM.cell {b o:Nat} {x:Nd} {y:RLy} (h:xM H b o x y):(H.get b).cell o=some (vi (x.kind.toNat:Int))/\(H.get b).cell (o+1)=some y.data/\(H.get b).cell (o+2)=some y.l/\(H.get b).cell (o+3)=some (vi (x.parent.toNat:Int)) /\
  (H.get b).cell (o+4)=some (str x.text)/\(H.get b).cell (o+5)=some (vi x.links)/\(H.get b).cell (o+6)=some (vi x.held):=by
 have f:=h.1;refine ⟨?_,?_,?_,?_,?_,?_,?_⟩
 ·have:=dL f (j:=0) (by omega); simpa [cQ] using this
 ·have:=dL f (j:=1) (by omega); simpa [cQ] using this
 ·have:=dL f (j:=2) (by omega); simpa [cQ] using this
 ·have:=dL f (j:=3) (by omega); simpa [cQ] using this
 ·have:=dL f (j:=4) (by omega); simpa [cQ] using this
 ·have:=dL f (j:=5) (by omega); simpa [cQ] using this
 ·have:=dL f (j:=6) (by omega); simpa [cQ] using this
theorem xM.lenL {b o:Nat} {x:Nd} {y:RLy} (h:xM H b o x y):AM.lenSlc y.l=some (vi x.ents.length):=by
 have:=h.2.2.lenSlc
 rwa [aZ] at this
theorem S.f60 (hE:bJ E) (h:eQ H t nv mv nx mr Y T) (n:BitVec 16)
  (hQ:∀ b o y H',Ext H H'->xM H' b o (T.node n) y->(n.toNat<T.N.length->H'=H/\Y[n.toNat]? = some y/\aG 7 nv (vi (n.toNat:Int))=some (ptr b o))->Q (ptr b o) H'):E.call (E.fid i.f60) [ptr t 0,vi (n.toNat:Int)] H Q:=by
 apply hE.f60;have hh:=h.head;have hl:=h.lenSlc;have h0:¬ ((n.toNat:Int)<0):=by omega
 by_cases hn:n.toNat<T.N.length
 ·obtain ⟨y,b,o,h1,h2,h3⟩:=h.at_ hn
  have hn':¬ (T.N.length:Int)<=n.toNat:=by omega
  simp [F.f60,h0,hh,hl,hn',h2];exact hQ b o y H (Ext.refl H) h3 fun _=>⟨rfl,h1,h2⟩
 ·have hn':(T.N.length:Int)<=n.toNat:=by omega
  simp [F.f60,h0,hh,hl,hn'];refine hQ H.next 0 ⟨aV,aV⟩ _ ((Ext.refl H).new _) ?_ fun h=>(hn h).elim;rw [Tr.node_ge (by omega)]
  refine ⟨?_,Rows.nil _ _ none,Rows.nil _ _ none⟩;rw [AH.get_new_self]
  rfl
theorem lJ (k:BitVec 8) (j:Nat) (hj:j<256):((k.toNat:Int)=(j:Int))↔k=BitVec.ofNat 8 j:=by
 constructor
 ·intro h
  apply BitVec.eq_of_toNat_eq;rw [BitVec.toNat_ofNat,Nat.mod_eq_of_lt hj];omega
 ·rintro rfl
  rw [BitVec.toNat_ofNat,Nat.mod_eq_of_lt hj]
theorem zO (k:BitVec 8):((k.toNat:Int)=0)=(k=0#8):=propext (lJ k 0 (by omega))
theorem aH2 (k:BitVec 8):((k.toNat:Int)=1)=(k=1#8):=propext (lJ k 1 (by omega))
theorem oM (k:BitVec 8):((k.toNat:Int)=2)=(k=2#8):=propext (lJ k 2 (by omega))
theorem aHU (k:BitVec 8):((k.toNat:Int)=3)=(k=3#8):=propext (lJ k 3 (by omega))
theorem tT (a b:BitVec 16):((a.toNat:Int)=(b.toNat:Int))=(a=b):=by
 rw [eq_iff_iff];constructor
 ·intro h; exact BitVec.eq_of_toNat_eq (by omega)
 ·rintro rfl; rfl
theorem aJQ (a:BitVec 16):((a.toNat:Int)=1)=(a=1#16):=tT a 1#16
theorem S.f65 (hE:bJ E) (h:eQ H t nv mv nx mr Y T) (n:BitVec 16) (hQ:∀ H',Ext H H'->Q (vi (T.dir n)) H'):E.call (E.fid i.f65) [ptr t 0,vi (n.toNat:Int)] H Q:=by
 apply hE.f65;simp only [F.f65];refine S.f60 hE h n fun b o y H' e hn _ =>?_;obtain ⟨c0,_⟩:=hn.cell;unfold Tr.dir at hQ
 by_cases h0:(T.node n).kind=0#8
 ·simp [h0] at hQ c0
  simp [c0];exact hQ _ e
 ·have h0':¬ (T.node n).kind.toNat=0:=fun k=>h0 (BitVec.eq_of_toNat_eq (by simpa using k))
  by_cases h2:(T.node n).kind=2#8
  ·simp [h2] at hQ c0
   simp [c0];exact hQ _ e
  ·have h2':¬ ((T.node n).kind.toNat:Int)=2:=by rw [oM]; exact h2
   simp [h0,h2] at hQ;simp [c0,h0',h2'];exact hQ _ e
def mL (s:aM) (l:List (aM×BitVec 16)):Int:=kV (fun e:aM×BitVec 16=>decide (e.1=s)) l
theorem pT (s:aM) (l:List (aM×BitVec 16)) (h:aU s l=none):mL s l = -1:=by
 have:l.findIdx? (fun e:aM×BitVec 16=>decide (e.1=s))=none:=by
  rw [List.findIdx?_eq_none_iff];intro x hx;have:=eW.1 h;simp only [decide_eq_false_iff_not];rintro rfl;exact this (List.mem_map.2 ⟨x,hx,rfl⟩)
 simp [mL,kV,this]
theorem jH (s:aM):∀ (l:List (aM×BitVec 16)) (k:BitVec 16),aU s l=some k->∃ (j:Nat) (hj:j<l.length),mL s l=j/\l[j]=(s,k)/\eS s l=l.eraseIdx j
 | [],k,h=>by simp [aU] at h
 | e :: l,k,h=>by
  rw [dI] at h
  by_cases he:e.1=s
  ·rw [if_pos he.symm] at h
   simp only [Option.some.injEq] at h;refine ⟨0,by simp,?_,?_,?_⟩
   ·simp [mL,kV,List.findIdx?_cons,he]
   ·rw [List.getElem_cons_zero,<- he,<- h]
   ·simp [eS,he]
  ·rw [if_neg fun k=>he k.symm] at h
   obtain ⟨j,hj,h1,h2,h3⟩:=jH s l k h;refine ⟨j+1,by simpa using hj,?_,by simpa using h2,by simp [eS,he,h3]⟩
   unfold mL kV at h1 ⊢;simp only [List.findIdx?_cons,he,decide_false,Bool.false_eq_true,if_false];cases hf:l.findIdx? (fun e:aM×BitVec 16=>decide (e.1=s)) with
   | none=>rw [hf] at h1; simp at h1
   | some i =>
    rw [hf] at h1;simp at h1 ⊢;exact h1
theorem S.f70 (hE:bJ E) {b o:Nat} {x:Nd} {y:RLy} (h:xM H b o x y) (s:aM) (hlen:x.ents.length<2 ^ 40) (hQ:Q (vi (mL s x.ents)) H):E.call (E.fid i.f70) [ptr b o,str s] H Q:=by
 apply hE.f70;obtain ⟨_,_,c2,_⟩:=h.cell;have hl:=h.lenL;simp [F.f70];refine aO.count x.ents.length (fun j l H'=>l=[ptr b o,str s,vi j]/\H=H'/\∀ i (hi:i<x.ents.length),i<j->¬ x.ents[i].1=s) ?_ ⟨rfl,rfl,fun i _ h=>by omega⟩
 rintro j _ _ X hj hX ⟨rfl,rfl,hn⟩
 by_cases hjl:j<x.ents.length
 ·have hjl':(j:Int)<x.ents.length:=by omega
  obtain ⟨b',o',f1,f2⟩:=h.2.2.ix (i:=j) (by rw [aZ]; exact hjl)
  have hrow:(eI x.ents)[j]'(by rw [aZ]; exact hjl)=[str x.ents[j].1,vi (x.ents[j].2.toNat:Int)]:=by simp [eI]
  rw [hrow] at f2;have f3:(H.get b').cell o'=some (str x.ents[j].1):=by have:=dL f2 (j:=0) (by omega); simpa using this
  by_cases hs:x.ents[j].1=s
  ·simp [F.f70_l1,c2,hl,hjl',f1,f3,hs]
   have:mL s x.ents=(j:Int):=by
    have:x.ents.findIdx? (fun e:aM×BitVec 16=>decide (e.1=s))=some j:=List.findIdx?_eq_some_iff_getElem.2 ⟨hjl,by simpa using hs,fun i hi=>by simpa using hn i (by omega) hi⟩
    simp [mL,kV,this]
   rw [<- this];exact hQ
  ·simp [F.f70_l1,c2,hl,hjl',f1,f3,hs]
   rw [dA (by omega),aE]
   refine hX hjl _ _ ⟨rfl,rfl,fun i hi hij =>?_⟩
   by_cases e:i=j
   ·subst e; exact hs
   ·exact hn i hi (by omega)
 ·have hjl':¬ (j:Int)<x.ents.length:=by omega
  simp [F.f70_l1,c2,hl,hjl']
  have:mL s x.ents = -1:=by
   have:x.ents.findIdx? (fun e:aM×BitVec 16=>decide (e.1=s))=none:=by
    rw [List.findIdx?_eq_none_iff];intro e he;obtain ⟨i,hi,rfl⟩:=List.getElem_of_mem he
    simpa using hn i hi (by omega)
   simp [mL,kV,this]
  rw [<- this];exact hQ
def Tr.small (T:Tr):Prop:=∀ n,(T.node n).ents.length<2 ^ 40
theorem S.f57 (hE:bJ E) (h:eQ H t nv mv nx mr Y T) (hs:T.small) (n:BitVec 16) (s:aM) (hQ:∀ H',Ext H H'->Q (.tuple #[vi ((T.look n s).1.toNat:Int),vi (T.look n s).2]) H'):E.call (E.fid i.f57) [ptr t 0,vi (n.toNat:Int),str s] H Q:=by
 apply hE.f57;simp only [F.f57];refine S.f65 hE h n fun H1 e1 =>?_;unfold Tr.look at hQ
 by_cases hd:T.dir n=0
 ·simp [hd]
  refine S.f60 hE (h.mono e1) n fun b o y H2 e2 hn _ =>?_;refine S.f70 hE hn s (hs n) ?_;cases hl:aU s (T.node n).ents with
  | none =>
   simp [hd,hl] at hQ;simp [pT s _ hl];exact hQ _ (e1.trans e2)
  | some k =>
   simp [hd,hl] at hQ;obtain ⟨j,hj,g1,g2,_⟩:=jH s _ k hl;obtain ⟨_,_,c2,_⟩:=hn.cell;obtain ⟨b',o',f1,f2⟩:=hn.2.2.ix (i:=j) (by rw [aZ]; exact hj)
   have hrow:(eI (T.node n).ents)[j]'(by rw [aZ]; exact hj)=[str s,vi (k.toNat:Int)]:=by simp [eI,g2]
   rw [hrow] at f2;have f3:(H2.get b').cell (o'+1)=some (vi (k.toNat:Int)):=by have:=dL f2 (j:=1) (by omega); simpa using this
   have hj0:¬ ((j:Int)<0):=by omega
   simp [g1,hj0,c2,f1,f3];exact hQ _ (e1.trans e2)
 ·simp [hd] at hQ
  simp [hd];exact hQ _ e1
end
end Go.AM
end
section
namespace Go.AM
section
variable {E:Sy} {H H' H'':AH} {Q:Value->AH->Prop} {t:Nat} {nv nv' nv'' mv:Value} {nx:Int} {mr:List (List Value)} {Y Y' Y'':List RLy} {T T' T'':Tr}
theorem aC9 (n:Nat) (c:UInt8) (hn:n<256):(c.toBitVec.toNat<n↔c<UInt8.ofNat n)/\(n<c.toBitVec.toNat↔UInt8.ofNat n<c)/\(c.toBitVec=BitVec.ofNat 8 n↔c=UInt8.ofNat n):=by
 refine ⟨?_,?_,?_⟩
 ·rw [UInt8.lt_iff_toNat_lt,UInt8.toNat_ofNat_of_lt' hn]; rfl
 ·rw [UInt8.lt_iff_toNat_lt,UInt8.toNat_ofNat_of_lt' hn]; rfl
 ·rw [<- UInt8.toBitVec_inj]; rfl
theorem S.f49 (hE:bJ E) (s:aM) (hs:s.length<2 ^ 63) (hQ:Q (vb (dY s)) H):E.call (E.fid i.f49) [str s] H Q:=by
 apply hE.f49;simp only [F.f49];refine aO.count s.length (fun j l H'=>l=[str s,vi j]/\H=H'/\∀ i (hi:i<s.length),i<j->mD s[i]=false) ?_ ⟨rfl,rfl,fun i _ h=>by omega⟩
 rintro j _ _ X hj hX ⟨rfl,rfl,hn⟩
 by_cases hjl:j<s.length
 ·have hjl':(j:Int)<s.length:=by omega
  have hix:=aDk s j hjl;obtain ⟨g1,_,_⟩:=aC9 33 s[j] (by omega)
  obtain ⟨_,g2,_⟩:=aC9 126 s[j] (by omega)
  obtain ⟨_,_,g3⟩:=aC9 47 s[j] (by omega)
  obtain ⟨_,_,g4⟩:=aC9 35 s[j] (by omega)
  have bad:mD s[j]=true->Q (vb false) H:=by
   intro hb
   have:dY s=false:=by
    have:(s.all fun c => !mD c)=false:=by
     rw [List.all_eq_false];exact ⟨s[j],List.getElem_mem hjl,by simp [hb]⟩
    simp [dY,this]
   rw [<- this]; exact hQ
  have good:mD s[j]=false->X [str s,vi ((j+1:Nat):Int)] H:=fun hb=>hX hjl _ _ ⟨rfl,rfl,fun i hi hij=>by
   by_cases e:i=j
   ·subst e; exact hb
   ·exact hn i hi (by omega)⟩
  have hjj:=dA (i:=j) (by omega)
  have b33:(.int .u8 33:Value)=u8 33#8:=rfl;have b126:(.int .u8 126:Value)=u8 126#8:=rfl;have b47:(.int .u8 47:Value)=u8 47#8:=rfl;have b35:(.int .u8 35:Value)=u8 35#8:=rfl;unfold mD at bad good;generalize s[j]=c at *;generalize hk:j+1=k at *
  by_cases c1:c.toBitVec.toNat<33
  ·have c1':=g1.1 c1
   have c1n:c.toNat<33:=c1;simp [F.f49_l1,hjl',hix,b33,c1,c1n];exact bad (by simp only [Bool.or_eq_true,decide_eq_true_eq]; exact .inl (.inl (.inl c1')))
  have c1n:¬ c.toNat<33:=c1
  by_cases c2:126<c.toBitVec.toNat
  ·have c2':=g2.1 c2
   have c2n:126<c.toNat:=c2;simp [F.f49_l1,hjl',hix,b33,b126,c1,c2,c1n,c2n];exact bad (by simp only [Bool.or_eq_true,decide_eq_true_eq]; exact .inl (.inl (.inr c2')))
  have c2n:¬ 126<c.toNat:=c2
  by_cases c3:c.toBitVec=47#8
  ·have c3':=g3.1 c3
   simp [F.f49_l1,hjl',hix,b33,b126,b47,c1,c2,c3,c1n,c2n];exact bad (by simp only [Bool.or_eq_true,decide_eq_true_eq]; exact .inl (.inr c3'))
  by_cases c4:c.toBitVec=35#8
  ·have c4':=g4.1 c4
   simp [F.f49_l1,hjl',hix,b33,b126,b47,b35,c1,c2,c3,c4,c1n,c2n];exact bad (by simp only [Bool.or_eq_true,decide_eq_true_eq]; exact .inr c4')
  ·simp [F.f49_l1,hjl',hix,b33,b126,b47,b35,c1,c2,c3,c4,hjj,c1n,c2n]
   refine good ?_;simp only [Bool.or_eq_false_iff,decide_eq_false_iff_not];exact ⟨⟨⟨fun h=>c1 (g1.2 h),fun h=>c2 (g2.2 h)⟩,fun h=>c3 (g3.2 h)⟩,fun h=>c4 (g4.2 h)⟩
 ·have hjl':¬ (j:Int)<s.length:=by omega
  have hall:(s.all fun c => !mD c)=true:=by
   rw [List.all_eq_true];intro c hc;obtain ⟨i,hi,rfl⟩:=List.getElem_of_mem hc
   simpa using hn i hi (by omega)
  have l1:(.string ⟨#[46]⟩:Value)=str [46]:=rfl;have l2:(.string ⟨#[46,46]⟩:Value)=str [46,46]:=rfl;unfold dY at hQ;rw [hall] at hQ
  by_cases c1:1<=s.length
  ·have c1':(1:Int)<=s.length:=by omega
   by_cases c2:s.length<=14
   ·have c2':(s.length:Int)<=14:=by omega
    by_cases c3:s=[46]
    ·subst c3
     have hj1:j=1:=by simp at hjl hj; omega
     subst hj1;simp [F.f49_l1,l1,l2]
     simpa using hQ
    ·by_cases c4:s=[46,46]
     ·subst c4
      have hj2:j=2:=by simp at hjl hj; omega
      subst hj2;simp [F.f49_l1,l1,l2]
      simpa using hQ
     ·simp only [c1,c2,c3,c4,ne_eq,not_false_eq_true,decide_true,Bool.and_self] at hQ
      simp [F.f49_l1,hjl',c1',c2',l1,l2,c3,c4];exact hQ
   ·have c2':¬ (s.length:Int)<=14:=by omega
    simp only [c1,c2,decide_true,decide_false,Bool.and_false,Bool.false_and] at hQ;simp [F.f49_l1,hjl',c1',c2'];exact hQ
  ·have c1':¬ (1:Int)<=s.length:=by omega
   simp only [c1,decide_false,Bool.and_false,Bool.false_and] at hQ;simp [F.f49_l1,hjl',c1'];exact hQ
theorem S.f67 (hE:bJ E) (h:eQ H t nv mv nx mr Y T) (hs:T.small) (n:BitVec 16) (s:aM) (hsl:s.length<2 ^ 63) (hQ:∀ H',Ext H H'->Q (vi (T.room n s)) H'):E.call (E.fid i.f67) [ptr t 0,vi (n.toNat:Int),str s] H Q:=by
 apply hE.f67;simp only [F.f67];refine S.f65 hE h n fun H1 e1 =>?_;unfold Tr.room at hQ
 by_cases hd:T.dir n=0
 ·simp [hd]
  refine S.f60 hE (h.mono e1) n fun b o y H2 e2 hn _ =>?_;refine S.f49 hE s hsl ?_;have e12:=e1.trans e2;obtain ⟨_,_,c2,_,_,c5,_⟩:=hn.cell;have hl:=hn.lenL
  by_cases c1:dY s=true
  ·simp only [hd,c1,ne_eq,not_true,if_false,Bool.true_eq_false] at hQ
   simp [c1];refine S.f70 hE hn s (hs n) ?_;cases hlk:aU s (T.node n).ents with
   | some k =>
    obtain ⟨j,hj,g1,_,_⟩:=jH s _ k hlk;have hj0:(0:Int)<=j:=by omega
    simp only [hlk,Option.isSome_some,if_true] at hQ;simp [g1,hj0];exact hQ _ e12
   | none =>
    simp only [hlk,Option.isSome_none,Bool.false_eq_true,if_false] at hQ;simp [pT s _ hlk,c5]
    by_cases c3:(T.node n).links=0
    ·simp only [c3,if_true] at hQ
     simp [c3];exact hQ _ e12
    ·simp only [c3,if_false] at hQ
     simp [c3,c2,hl]
     by_cases c4:32<=(T.node n).ents.length
     ·have c4':(32:Int)<=(T.node n).ents.length:=by omega
      simp only [c4,if_true] at hQ;simp [c4'];exact hQ _ e12
     ·have c4':¬ (32:Int)<=(T.node n).ents.length:=by omega
      simp only [c4,if_false] at hQ;simp [c4'];exact hQ _ e12
  ·have c1:dY s=false:=by simpa using c1
   simp [hd,c1] at hQ;simp [c1];exact hQ _ e12
 ·simp [hd] at hQ
  simp [hd];exact hQ _ e1
theorem S.f56 (hE:bJ E) (h:eQ H t nv mv nx mr Y T) (hQ:Q (vi T.len) H):E.call (E.fid i.f56) [ptr t 0] H Q:=by
 apply hE.f56;simp only [F.f56];have hh:=h.head;have hl:=h.lenSlc;have hf:=h.fit;refine aO.count T.N.length (fun j l H'=>l=[ptr t 0,vi (((T.N.take j).countP fun x=>decide (x.kind≠0#8):Nat):Int),vi j]/\H=H') ?_ ⟨rfl,rfl⟩;rintro j _ _ X hj hX ⟨rfl,rfl⟩;have hcl:(T.N.take j).countP (fun x=>decide (x.kind≠0#8))<=j:=Nat.le_trans List.countP_le_length (by simp; omega)
 by_cases hjl:j<T.N.length
 ·have hjl':(j:Int)<T.N.length:=by omega
  have hnj:(BitVec.ofNat 16 j).toNat=j:=by rw [BitVec.toNat_ofNat,Nat.mod_eq_of_lt (by omega)]
  obtain ⟨y,b,o,h1,h2,h3⟩:=h.at_ (n:=BitVec.ofNat 16 j) (by rw [hnj]; exact hjl)
  rw [hnj] at h2;obtain ⟨c0,_⟩:=h3.cell
  have hx:T.node (BitVec.ofNat 16 j)=T.N[j]:=by
   unfold Tr.node; rw [hnj]; simp [List.getD_eq_getElem?_getD,hjl]
  rw [hx] at c0
  have hstep:(T.N.take (j+1)).countP (fun x=>decide (x.kind≠0#8))=(T.N.take j).countP (fun x=>decide (x.kind≠0#8))+if T.N[j].kind=0#8 then 0 else 1:=by
   rw [List.take_succ_eq_append_getElem hjl,List.countP_append]
   by_cases hk:T.N[j].kind=0#8 <;> simp [hk]
  have hjj:=bD j (by omega)
  have hX:=hX hjl [ptr t 0,vi (((T.N.take (j+1)).countP fun x=>decide (x.kind≠0#8):Nat):Int),vi ((j+1:Nat):Int)] H ⟨rfl,rfl⟩;rw [hstep] at hX;generalize (T.N.take j).countP (fun x=>decide (x.kind≠0#8))=c at *;have hcc:=bD c (by omega)
  by_cases hk:T.N[j].kind=0#8
  ·rw [if_pos hk,Nat.add_zero] at hX
   have hk':¬ (0:Int)<(T.N[j].kind.toNat:Int):=by rw [hk]; simp
   generalize hj1:j+1=j1 at *;simp [F.f56_l1,hh,hl,hjl',h2,c0,hjj,hk];exact hX
  ·rw [if_neg hk] at hX
   have hk':0<T.N[j].kind.toNat:=by
    apply Nat.pos_of_ne_zero;intro e;exact hk (BitVec.eq_of_toNat_eq (by simpa using e))
   generalize hj1:j+1=j1 at *;generalize hc1:c+1=c1 at *;simp [F.f56_l1,hh,hl,hjl',h2,c0,hjj,hk',hcc];exact hX
 ·have hjl':¬ (j:Int)<T.N.length:=by omega
  have:j=T.N.length:=by omega
  subst this;have e:(T.N.take T.N.length).countP (fun x=>decide (x.kind≠0#8))=T.len:=by rw [List.take_length]; rfl
  rw [e];simp [F.f56_l1,hh,hl];exact hQ
theorem S.f64 (hE:bJ E) (h:eQ H t nv mv nx mr Y T) (n:BitVec 16) (hQ:∀ H',Ext H H'->Q (vi (T.deepF 20 n)) H'):E.call (E.fid i.f64) [ptr t 0,vi (n.toNat:Int)] H Q:=by
 apply hE.f64;simp only [F.f64];obtain ⟨D,hD⟩:∃ D,D=T.deepF 20 n:=⟨_,rfl⟩;rw [<- hD] at hQ;refine aO.count 20 (fun j l H'=>Ext H H'/\∃ k:BitVec 16,l=[ptr t 0,vi (k.toNat:Int),vi j]/\D=j+T.deepF (20 - j) k) ?_ ⟨Ext.refl H,n,rfl,by rw [hD]; exact (Nat.zero_add _).symm⟩
 clear hD;rintro j _ H1 X hj hX ⟨e1,k,rfl,h1⟩;have hk1:=aJQ k
 by_cases hj':j=20
 ·subst hj'
  have:D=20:=by rw [h1]; rfl
  rw [this] at hQ
  by_cases hk:k=1#16
  ·simp [F.f64_l1,hk]
   exact hQ _ e1
  ·rw [eq_false hk] at hk1
   simp [F.f64_l1,hk1];exact hQ _ e1
 ·obtain ⟨f,hf⟩:∃ f,20 - j=f+1:=⟨19 - j,by omega⟩
  have hf':20 - (j+1)=f:=by omega
  rw [hf] at h1;simp only [Tr.deepF] at h1;have hji:(j:Int)<20:=by omega
  by_cases hk:k=1#16
  ·rw [if_pos hk] at h1
   simp [F.f64_l1,hk];rw [h1] at hQ;exact hQ _ e1
  ·rw [if_neg hk] at h1
   rw [eq_false hk] at hk1;simp [F.f64_l1,hk1,hji];refine S.f60 hE (h.mono e1) k fun b o y H2 e2 hn _ =>?_;obtain ⟨_,_,_,c3,_⟩:=hn.cell;have hjj:=bD j (by omega)
   simp [c3,hjj];exact hX (by omega) _ _ ⟨e1.trans e2,_,rfl,by rw [hf']; omega⟩
theorem S.f62 (hE:bJ E) (h:eQ H t nv mv nx mr Y T) (n out:BitVec 16) (hQ:∀ H',Ext H H'->Q (vb (T.withinF out 20 n)) H'):E.call (E.fid i.f62) [ptr t 0,vi (n.toNat:Int),vi (out.toNat:Int)] H Q:=by
 apply hE.f62;simp only [F.f62];obtain ⟨D,hD⟩:∃ D,D=T.withinF out 20 n:=⟨_,rfl⟩;rw [<- hD] at hQ;refine aO.count 20 (fun j l H'=>Ext H H'/\∃ k:BitVec 16,l=[ptr t 0,vi (k.toNat:Int),vi (out.toNat:Int),vi j]/\D=T.withinF out (20 - j) k) ?_ ⟨Ext.refl H,n,rfl,hD⟩;clear hD;rintro j _ H1 X hj hX ⟨e1,k,rfl,h1⟩
 by_cases hj':j=20
 ·subst hj'
  rw [h1] at hQ;simp [F.f62_l1];exact hQ _ e1
 ·obtain ⟨f,hf⟩:∃ f,20 - j=f+1:=⟨19 - j,by omega⟩
  have hf':20 - (j+1)=f:=by omega
  rw [hf] at h1;simp only [Tr.withinF] at h1;have hji:(j:Int)<20:=by omega
  have hko:=tT k out;have hkp:=tT k (T.node k).parent;have hk2:=oM (T.node k).kind;simp [F.f62_l1,hji];refine S.f60 hE (h.mono e1) k fun b o y H2 e2 hn _ =>?_;obtain ⟨c0,_,_,c3,_⟩:=hn.cell
  by_cases g1:(T.node k).kind=2#8
  ·rw [if_neg (by simpa using g1)] at h1
   by_cases g2:k=out
   ·rw [if_pos g2] at h1
    rw [h1] at hQ;rw [eq_true g1] at hk2;rw [eq_true g2] at hko;simp only [bA,aJ,aE,aK,aD,c0,Nat.add_zero,cX,aT,hk2,hko,ne_eq,not_true,decide_true,decide_false,aP,aI,dM,dT,dW,fC];exact hQ _ (e1.trans e2)
   ·rw [if_neg g2] at h1
    rw [eq_false g2] at hko;rw [eq_true g1] at hk2;simp [c0,hk2,hko];refine S.f60 hE (h.mono (e1.trans e2)) k fun b' o' y' H3 e3 hn' _ =>?_;obtain ⟨c0',_,_,c3',_⟩:=hn'.cell;have e13:=(e1.trans e2).trans e3
    by_cases g3:k=(T.node k).parent
    ·rw [if_pos g3] at h1
     rw [h1] at hQ;rw [eq_true g3] at hkp;simp only [bA,aJ,aE,aK,aD,c3',aT,hkp,decide_true,aP,dM,dT,dW,fC];exact hQ _ e13
    ·rw [if_neg g3] at h1
     rw [eq_false g3] at hkp;simp only [bA,aJ,aE,aK,aD,c3',aT,hkp,decide_false,aI,dM,dT,dW,fC];refine S.f60 hE (h.mono e13) k fun b'' o'' y'' H4 e4 hn'' _ =>?_;obtain ⟨_,_,_,c3'',_⟩:=hn''.cell;have hjj:=bD j (by omega)
     simp only [bA,aJ,aE,aK,aD,c3'',hjj,dM,dT,dW,fC];exact hX (by omega) _ _ ⟨e13.trans e4,_,rfl,by rw [hf']; exact h1⟩
  ·rw [if_pos g1] at h1
   rw [h1] at hQ;rw [eq_false g1] at hk2;simp [c0,hk2];exact hQ _ (e1.trans e2)
end
end Go.AM
end
section
namespace Go.AM
theorem qR (x:aM×BitVec 16):∀ (l:List (aM×BitVec 16)) (p:Nat),p<=l.length->(∀ i (h:i<l.length),i<p->Op.bytesLess l[i].1 x.1=true)->(∀ h:p<l.length,Op.bytesLess l[p].1 x.1=false)->fP x l=l.take p++[x]++l.drop p
 | [],p,hp,_,_=>by simp [fP]
 | y :: l,0,hp,_,h2=>by
  have:=h2 (by simp)
  simp only [List.getElem_cons_zero] at this;simp [fP,this]
 | y :: l,p+1,hp,h1,h2=>by
  have h0:=h1 0 (by simp) (by omega)
  simp only [List.getElem_cons_zero] at h0;have ih:=qR x l p (by simpa using hp) (fun i h hi=>by have:=h1 (i+1) (by simpa using h) (by omega); rwa [List.getElem_cons_succ] at this) (fun h=>by have:=h2 (by simpa using h); rwa [List.getElem_cons_succ] at this)
  simp [fP,h0,ih]
theorem zG (l:List (aM×BitVec 16)) (k:Nat):(eI l).take k=eI (l.take k):=by simp [eI,List.map_take]
theorem yX (l:List (aM×BitVec 16)) (k:Nat):(eI l).drop k=eI (l.drop k):=by simp [eI,List.map_drop]
theorem pO (a b:List (aM×BitVec 16)):eI (a++b)=eI a++eI b:=by simp [eI]
theorem nI (l:List (aM×BitVec 16)):∀ r∈eI l,r.all plain1=true:=by
 intro r hr;obtain ⟨b,_,rfl⟩:=List.mem_map.1 hr
 rfl
section
variable {E:Sy} {H H' H'':AH} {Q:Value->AH->Prop} {t:Nat} {nv nv' nv'' mv:Value} {nx:Int} {mr:List (List Value)} {Y Y' Y'':List RLy} {T T' T'':Tr}
theorem qI (sz:Nat) (z:List Value) (hz:z.length=sz):buildS 0 sz z.toArray []=some (.cells [] none,eD 0 0):=by
 rw [gF _ _ _ _ hz]; simp; rfl
theorem S.f71 (hE:bJ E) (v:Value) (l:List (aM×BitVec 16)) (hv:Rows H 2 v (eI l)) (hl:l.length<2 ^ 36) (s:aM) (k:BitVec 16)
    (hQ:∀ v' H',Ext H H'->cB zH H' 2 v' (eI (fP (s,k) l))->fW H.next v'->Q v' H'):E.call (E.fid i.f71) [v,.agg (eJ.cells ⟨s,(k.toNat:Int)⟩).toArray] H Q:=by
  apply hE.f71;have x1:Ext H (H.new (.cells (eJ.cells ⟨s,(k.toNat:Int)⟩) none)):=(Ext.refl H).new _;have hx:=AH.get_new_self H (.cells (eJ.cells ⟨s,(k.toNat:Int)⟩) none);simp [F.f71];refine aO.count l.length (fun j ls H'=>ls=[v,ptr H.next 0,vi j]/\H.new (.cells (eJ.cells ⟨s,(k.toNat:Int)⟩) none)=H'/\∀ i (h:i<l.length),i<j->Op.bytesLess l[i].1 s=true) ?_ ⟨rfl,rfl,fun i _ h=>by omega⟩
  rintro j _ _ X hj hX ⟨rfl,rfl,hn⟩;generalize hH1:H.new (.cells (eJ.cells ⟨s,(k.toNat:Int)⟩) none)=H1 at *;have hv1:=hv.mono x1;have hlv:=hv1.lenSlc;rw [aZ] at hlv;have hjj:=bD j (by omega)
  have hj0:(eJ.cells ⟨s,(k.toNat:Int)⟩)[0]? = some (str s):=eJ.at0 _
  have fin:(∀ h:j<l.length,Op.bytesLess l[j].1 s=false) ->
     (AM.mk (buildS 0 2 #[(.string ⟨#[]⟩),(.int .i64 0)] []) H1 fun v13 H9 =>
       opt (eM 2 v none (some (vi j)) none H9) fun v14 =>
       opt (bM 2 (ptr H.next 0) H9) fun v15 =>
       AM.mk (buildS 1 2 #[(.string ⟨#[]⟩),(.int .i64 0)] [(0,v15)]) H9 fun v16 H10 =>
       opt (eM 2 v (some (vi j)) none none H10) fun v17 =>
       fR (app 2 24 v13 v14 H10) fun v18 H11 =>
       eM 2 v (some (vi j)) none none H11=eM 2 v (some (vi j)) none none H10 /\
       H11.get H9.next=H10.get H9.next /\
       bM 2 (ptr H.next 0) H11=bM 2 (ptr H.next 0) H9 /\
       fR (app 2 24 v18 v16 H11) fun v19 H12 =>
       eM 2 v (some (vi j)) none none H12=eM 2 v (some (vi j)) none none H10 /\
       fR (app 2 24 v19 v17 H12) fun v20 H13 =>
       Q v20 H13):=by
    intro hlast;have hb0:buildS 0 2 #[(.string ⟨#[]⟩),(.int .i64 0)] []=some (.cells [] none,eD 0 0):=qI 2 [str [],vi 0] rfl;have hb1:buildS 1 2 #[(.string ⟨#[]⟩),(.int .i64 0)] [(0,.agg (eJ.cells ⟨s,(k.toNat:Int)⟩).toArray)]=some (.cells (eJ.cells ⟨s,(k.toNat:Int)⟩) none,eD 1 1):=eJ.build1 ⟨s,(k.toNat:Int)⟩;have e9:Ext H1 (H1.new (.cells [] none)):=(Ext.refl H1).new _;have e10:Ext H1 ((H1.new (.cells [] none)).new (.cells (eJ.cells ⟨s,(k.toNat:Int)⟩) none)):=e9.new _;have g9:cB zH (H1.new (.cells [] none)) 2 (slc H1.next 0 0 0) []:=cB.room (kU _) (AH.get_new_self _ _) rfl;have g10:=g9.ext ((Ext.refl _).new (.cells (eJ.cells ⟨s,(k.toNat:Int)⟩) none))
    have lo:∀ {Hx},Ext H1 Hx->bM 2 (ptr H.next 0) Hx=some (.agg (eJ.cells ⟨s,(k.toNat:Int)⟩).toArray):=fun e=>by
      rw [cZ,e.cells hx,nE _ _ 2 rfl]; rfl
    have hlo:∀ {Hx},Ext H1 Hx->∃ v14,eM 2 v none (some (vi j)) none Hx=some v14/\Rows Hx 2 v14 (eI (l.take j)):=fun e=>by
      obtain ⟨w,w1,w2⟩:=(hv1.mono e).slice (lo:=none) (hi:=some (vi j)) (i:=0) (j:=j) (.inr ⟨rfl,rfl⟩) (.inl rfl) (Nat.zero_le _) (by rw [aZ]; exact hj)
      refine ⟨w,w1,?_⟩
      rwa [List.drop_zero,zG] at w2
    have hhi:∀ {Hx},Ext H1 Hx->eM 2 v (some (vi j)) none none Hx=some (iV 2 v j l.length)/\Rows Hx 2 (iV 2 v j l.length) (eI (l.drop j)):=fun {Hx} e=>by
      have w:=(hv1.mono e).slice' (lo:=some (vi j)) (hi:=none) (i:=j) (j:=l.length) (.inl rfl) (.inr ⟨rfl,by rw [aZ]⟩) hj (by rw [aZ]; exact Nat.le_refl _)
      refine ⟨w.1,?_⟩;have w2:=w.2
      rwa [<- aZ l,List.take_length,yX,aZ] at w2
    obtain ⟨v14,q1,q2⟩:=hlo e9;simp only [hb0,AM.dH,eU,aJ,q1,lo e9,aE,hb1,(hhi e10).1];obtain ⟨v18,H11,a1,a2,a3⟩:=g10.app (bytes:=24) (Nat.zero_le _) (q2.mono ((Ext.refl _).new (.cells (eJ.cells ⟨s,(k.toNat:Int)⟩) none))) (nI _) (by decide) (by decide) (by simp [aZ]; omega) (by simp [aZ]; omega)
    obtain ⟨e11,f11⟩:=kI a3 e10 (fun b hb=>by simp [blk] at hb; omega)
    have hk11:H11.get (H1.next+1) = .cells (eJ.cells ⟨s,(k.toNat:Int)⟩) none:=by
      rw [a3.1.get (by simp) (by simp [fB,blk])]
      exact AH.get_new_self _ _
    have hxr:Rows H11 2 (slc (H1.next+1) 0 1 1) [eJ.cells ⟨s,(k.toNat:Int)⟩]:=Rows.made (f:=none) (by rw [hk11]; simp) (.inl rfl) rfl (by intro r hr; simp at hr; subst hr; rfl)
    have a1':app 2 24 (slc H1.next 0 0 0) v14 ((H1.new (.cells [] none)).new (.cells (eJ.cells ⟨s,(k.toNat:Int)⟩) none))=some (v18,H11):=a1;simp only [a1',eV,aJ];refine ⟨by rw [(hhi e11).1],?_,by rw [lo e11],?_⟩
    · show H11.get (H1.next+1)=_
      rw [hk11];exact (AH.get_new_self _ _).symm
    obtain ⟨v19,H12,b1,b2,b3⟩:=a2.app (bytes:=24) (Nat.zero_le _) hxr (by intro r hr; simp at hr; subst hr; rfl) (by decide) (by decide) (by simp [aZ]; omega) (by simp [aZ]; omega)
    obtain ⟨e12,f12⟩:=kI b3 e11 f11;have b1':app 2 24 v18 (slc (H1.new (.cells [] none)).next 0 1 1) H11=some (v19,H12):=b1;simp only [b1',eV,aJ];refine ⟨by rw [(hhi e12).1],?_⟩
    obtain ⟨v20,H13,c1,c2,c3⟩:=b2.app (bytes:=24) (Nat.zero_le _) (hhi e12).2 (nI _) (by decide) (by decide) (by simp [aZ]; omega) (by simp [aZ]; omega)
    obtain ⟨e13,f13⟩:=kI c3 e12 f12;simp only [c1,eV,aJ];refine hQ v20 H13 (x1.trans e13) ?_ fun b hb=>Nat.le_trans x1.1 (f13 b hb);rw [qR (s,k) l j hj hn hlast,pO,pO];have he1:eI [(s,k)]=[eJ.cells ⟨s,(k.toNat:Int)⟩]:=rfl;rw [he1]
    simpa using c2
  by_cases hjl:j<l.length
  · have hjl':(j:Int)<l.length:=by omega
    obtain ⟨b',o',f1,f2⟩:=hv1.ix (i:=j) (by rw [aZ]; exact hjl)
    have hrow:(eI l)[j]'(by rw [aZ]; exact hjl)=[str l[j].1,vi (l[j].2.toNat:Int)]:=by simp [eI]
    rw [hrow] at f2;have f3:(H1.get b').cell o'=some (str l[j].1):=by have:=dL f2 (j:=0) (by omega); simpa using this
    by_cases hlt:Op.bytesLess l[j].1 s=true
    · have hX:=hX hjl [v,ptr H.next 0,vi ((j+1:Nat):Int)] H1 ⟨rfl,rfl,fun i hi hij=>by
        by_cases e:i=j
        · subst e; exact hlt
        · exact hn i hi (by omega)⟩
      generalize hj1:j+1=j1 at *;simp [F.f71_l1,hlv,hjl',f1,f3,hx,hj0,hlt,hjj];exact hX
    · have hlt:Op.bytesLess l[j].1 s=false:=by simpa using hlt
      simp only [F.f71_l1,dM,dT,dW,hlv,bG,hjl',decide_true,dX,f1,aK,aD,Nat.add_zero,f3,hx,bE,hj0,vR,hlt,aQ,aJ,aE,aI];exact fin fun _=>hlt
  · have hjl':¬ (j:Int)<l.length:=by omega
    simp only [F.f71_l1,dM,dT,dW,hlv,bG,hjl',decide_false,fY,aW,aJ,aE,aI];exact fin fun h=>(hjl h).elim
theorem S.f72 (hE:bJ E) (v:Value) (l:List (aM×BitVec 16)) (hv:Rows H 2 v (eI l)) (hl:l.length<2 ^ 36) (j:Nat) (hj:j<l.length)
  (hQ:∀ v' H',Ext H H'->cB zH H' 2 v' (eI (l.eraseIdx j))->fW H.next v'->Q v' H'):E.call (E.fid i.f72) [v,vi j] H Q:=by
 apply hE.f72;have hb0:buildS 0 2 #[(.string ⟨#[]⟩),(.int .i64 0)] []=some (.cells [] none,eD 0 0):=qI 2 [str [],vi 0] rfl;have e9:Ext H (H.new (.cells [] none)):=(Ext.refl H).new _;have g9:cB zH (H.new (.cells [] none)) 2 (slc H.next 0 0 0) []:=cB.room (kU _) (AH.get_new_self _ _) rfl;have hjj:=bD j (by omega)
 have hlo:∃ v14,eM 2 v none (some (vi j)) none (H.new (.cells [] none))=some v14/\Rows (H.new (.cells [] none)) 2 v14 (eI (l.take j)):=by
  obtain ⟨w,w1,w2⟩:=(hv.mono e9).slice (lo:=none) (hi:=some (vi j)) (i:=0) (j:=j) (.inr ⟨rfl,rfl⟩) (.inl rfl) (Nat.zero_le _) (by rw [aZ]; omega)
  refine ⟨w,w1,?_⟩
  rwa [List.drop_zero,zG] at w2
 have hhi:∀ {Hx},Ext H Hx->eM 2 v (some (vi ((j+1:Nat):Int))) none none Hx=some (iV 2 v (j+1) l.length)/\Rows Hx 2 (iV 2 v (j+1) l.length) (eI (l.drop (j+1))):=fun {Hx} e=>by
  have w:=(hv.mono e).slice' (lo:=some (vi ((j+1:Nat):Int))) (hi:=none) (i:=j+1) (j:=l.length) (.inl rfl) (.inr ⟨rfl,by rw [aZ]⟩) hj (by rw [aZ]; exact Nat.le_refl _)
  refine ⟨w.1,?_⟩;have w2:=w.2
  rwa [<- aZ l,List.take_length,yX,aZ] at w2
 obtain ⟨v14,q1,q2⟩:=hlo;simp only [F.f72,hb0,AM.dH,eU,aJ,q1,aE,hjj,(hhi e9).1];obtain ⟨v18,H11,a1,a2,a3⟩:=g9.app (bytes:=24) (Nat.zero_le _) q2 (nI _) (by decide) (by decide) (by simp [aZ]; omega) (by simp [aZ]; omega)
 obtain ⟨e11,f11⟩:=kI a3 e9 (fun b hb=>by simp [blk] at hb; omega)
 have a1':app 2 24 (slc H.next 0 0 0) v14 (H.new (.cells [] none))=some (v18,H11):=a1;simp only [a1',eV,aJ];refine ⟨by rw [(hhi e11).1],?_⟩
 obtain ⟨v20,H13,c1,c2,c3⟩:=a2.app (bytes:=24) (Nat.zero_le _) (hhi e11).2 (nI _) (by decide) (by decide) (by simp [aZ]; omega) (by simp [aZ]; omega)
 obtain ⟨e13,f13⟩:=kI c3 e11 f11;simp only [c1,eV,aJ];refine hQ v20 H13 e13 ?_ f13;rw [List.eraseIdx_eq_take_drop_succ,pO]
 simpa using c2
theorem S.f68 (hE:bJ E) (hs:T.small):∀ (f:Nat) {H:AH} {Q:Value->AH->Prop} (_:eQ H t nv mv nx mr Y T) (n:BitVec 16) (_:T.fitsF f n) (_:f<=20) (_:∀ H',Ext H H'->Q (vi (T.tall n)) H'),E.call (E.fid i.f68) [ptr t 0,vi (n.toNat:Int)] H Q
 | 0,_,_,_,_,hf,_,_=>hf.elim
 | f+1,H,Q,h,n,hf0,hle,hQ=>by
  apply hE.f68;obtain ⟨hd,hf⟩:=hf0;simp only [F.f68];refine S.f60 hE h n fun b o y H1 e1 hn _ =>?_;obtain ⟨_,_,c2,_⟩:=hn.cell;have hl:=hn.lenL;have hsn:=hs n
  let g:Nat->aM×BitVec 16->Nat:=fun b e=>if (T.node e.2).kind=2#8 then max b (T.tallF 20 e.2) else b
  have hg:∀ b e,b<=20->g b e<=20:=by
   intro b e hb;simp only [g]
   split
   ·have:=Tr.tallF_le T 20 e.2
    omega
   ·exact hb
  refine aO.count (T.node n).ents.length (fun j ls H'=>∃ w:Nat,ls=[ptr t 0,vi w,ptr b o,vi j]/\Ext H1 H'/\w=((T.node n).ents.take j).foldl g 0/\w<=20) ?_ ⟨0,rfl,Ext.refl _,rfl,by omega⟩
  rintro j _ H2 X hj hX ⟨w,rfl,e2,hw,hw20⟩;have hn2:=hn.mono e2;obtain ⟨_,_,c2',_⟩:=hn2.cell
  by_cases hjl:j<(T.node n).ents.length
  ·have hjl':(j:Int)<(T.node n).ents.length:=by omega
   obtain ⟨b',o',f1,f2⟩:=hn2.2.2.ix (i:=j) (by rw [aZ]; exact hjl)
   have hrow:(eI (T.node n).ents)[j]'(by rw [aZ]; exact hjl)=[str (T.node n).ents[j].1,vi ((T.node n).ents[j].2.toNat:Int)]:=by simp [eI]
   rw [hrow] at f2;have f3:(H2.get b').cell (o'+1)=some (vi ((T.node n).ents[j].2.toNat:Int)):=by have:=dL f2 (j:=1) (by omega); simpa using this
   have hfj:=hf (T.node n).ents[j] (List.getElem_mem hjl)
   have hstep:((T.node n).ents.take (j+1)).foldl g 0=g w (T.node n).ents[j]:=by
    rw [List.take_succ_eq_append_getElem hjl,List.foldl_append,<- hw]; rfl
   have hgw:=hg w (T.node n).ents[j] hw20;generalize (T.node n).ents[j]=en at *;have hjj:=bD j (by omega)
   simp only [F.f68_l1,dM,dT,dW,fC,bA,aK,aD,c2',hl,bG,hjl',decide_true,f1,f3,aJ,aE,aP];refine S.f60 hE (h.mono (e1.trans e2)) en.2 fun b2 o2 y2 H3 e3 hn3 _ =>?_;obtain ⟨c0,_⟩:=hn3.cell;have hk2:=oM (T.node en.2).kind;have e13:=e2.trans e3
   by_cases c:(T.node en.2).kind=2#8
   ·rw [eq_true c] at hk2
    simp only [bA,aK,aD,Nat.add_zero,c0,aT,hk2,decide_true,aJ,aE,aP];refine S.f68 hE hs f (h.mono (e1.trans e13)) en.2 (hfj.2 c) (by omega) fun H4 e4 =>?_
    unfold Tr.tall
    have hmx:(if (T.tallF 20 en.2:Int) > (w:Int) then (T.tallF 20 en.2:Int) else (w:Int))=((max w (T.tallF 20 en.2):Nat):Int):=by
     split <;> omega
    simp only [tE,hmx,dM,dT,dW,fC,hjj,aJ,aE];refine hX hjl _ _ ⟨_,rfl,e13.trans e4,?_,?_⟩
    ·rw [hstep]; simp [g,c]
    ·simpa [g,c] using hgw
   ·rw [eq_false c] at hk2
    simp only [bA,aK,aD,Nat.add_zero,c0,aT,hk2,decide_false,dM,dT,dW,fC,hjj,aJ,aE,aI];refine hX hjl _ _ ⟨w,rfl,e13,?_,hw20⟩;rw [hstep]; simp [g,c]
  ·have hjl':¬ (j:Int)<(T.node n).ents.length:=by omega
   have hje:j=(T.node n).ents.length:=by omega
   have:T.tall n=w+1:=by
    unfold Tr.tall;rw [Tr.tallF_eq T (f+1) n ⟨hd,hf⟩ 20 hle];simp only [Tr.tallF,Nat.add_right_cancel_iff];rw [hw,hje,List.take_length]
    have:∀ (l:List (aM×BitVec 16)) (b:Nat),(∀ e∈l,e∈(T.node n).ents)->l.foldl (fun b e=>if (T.node e.2).kind=2#8 then max b (T.tallF f e.2) else b) b=l.foldl g b:=by
     intro l
     induction l with
     | nil=>intro b _; rfl
     | cons e l ih =>
      intro b hbb;simp only [List.foldl_cons];rw [ih _ fun x hx=>hbb x (by simp [hx])]
      congr 1
      simp only [g]
      split
      ·rename_i hk
       rw [Tr.tallF_eq T f e.2 ((hf e (hbb e (by simp))).2 hk) 20 (by omega)]
      ·rfl
    exact this _ _ fun _ h=>h
   have hww:=bD w (by omega)
   rw [this] at hQ;simp only [F.f68_l1,dM,dT,dW,fC,bA,aK,aD,c2',hl,bG,hjl',decide_false,hww,aJ,aE,aI];exact hQ _ (e1.trans e2)
end
end Go.AM
end
section
namespace Go.AM
theorem nU (f:Nd->Nd):∀ {N:List Nd} {Y:List RLy} {k:Nat} {x:Nd} (y':RLy),N[k]? = some x->k<Y.length->(N.modify k f).zip (Y.set k y')=(N.zip Y).set k (f x,y')
 | [],_,k,_,_,h,_=>by simp at h
 | _ :: _,[],k,_,_,_,h=>by simp at h
 | x0 :: N,y0 :: Y,0,x,y',h,_=>by
  simp at h; subst h; simp
 | x0 :: N,y0 :: Y,k+1,x,y',h,hk=>by
  have:=nU f (N:=N) (Y:=Y) (k:=k) (x:=x) y' (by simpa using h) (by simpa using hk)
  simp [this]
section
variable {E:Sy} {H0 H H' H'' H1:AH} {Q:Value->AH->Prop} {t:Nat} {nv nv' nv'' mv:Value} {nx:Int} {mr:List (List Value)} {Y Y' Y'':List RLy} {T T' T'':Tr}
theorem Upd.fresh {sz:Nat} {v v':Value} {rows rows':List (List Value)} (e:Ext H H') (g:cB zH H' sz v' rows') (f:fW H.next v'):Upd (bH sz v rows) (bH sz v' rows') H H' :=
 cB.upd ⟨e.only,fun b hb => .inr (f b hb)⟩ g
theorem cM.setL {x x':Nd} {y:RLy} {v':Value} (h:Ow (cM x y) H) (hd:x'.data=x.data) (e:Ext H H') (g:cB zH H' 2 v' (eI x'.ents)) (f:fW H.next v'):Upd (cM x y) (cM x' { y with l:=v' }) H H':=by
 have u:=Ow.set (rs:=[bH 1 y.data (bT x.data),bH 2 y.l (eI x.ents)]) h (k:=1) rfl (Upd.fresh (rows:=eI x.ents) (v:=y.l) e g f);unfold cM;rw [hd];exact u
theorem cM.setD {x x':Nd} {y:RLy} {v':Value} (h:Ow (cM x y) H) (hd:x'.ents=x.ents) (e:Ext H H') (g:cB zH H' 1 v' (bT x'.data)) (f:fW H.next v'):Upd (cM x y) (cM x' { y with data:=v' }) H H':=by
 have u:=Ow.set (rs:=[bH 1 y.data (bT x.data),bH 2 y.l (eI x.ents)]) h (k:=0) rfl (Upd.fresh (rows:=bT x.data) (v:=y.data) e g f);unfold cM;rw [hd];exact u
theorem cM.same {x x':Nd} {y:RLy} (hd:x'.data=x.data) (he:x'.ents=x.ents):cM x' y=cM x y:=by
 unfold cM; rw [hd,he]
theorem eQ.node_y (h:eQ H t nv mv nx mr Y T) {n:BitVec 16} (hn:n.toNat<T.N.length) {y:RLy} (hy:Y[n.toNat]? = some y):Ow (cM (T.node n) y) H:=h.part (Tr.node_get hn) hy
theorem eQ.cell (h:eQ H t nv mv nx mr Y T) {n:BitVec 16} (hn:n.toNat<T.N.length) {y:RLy} (hy:Y[n.toNat]? = some y) {b o:Nat} (hp:aG 7 nv (vi (n.toNat:Int))=some (ptr b o)) (f:Nd->Nd) (y':RLy)
  (u:Upd (cM (T.node n) y) (cM (f (T.node n)) y') H H1) {k:Nat} (hk:k<7) {v:Value} (hv:plain1 v=true) (hc:(cQ (f (T.node n)) y').cells=(cQ (T.node n) y).cells.set k v) :
  ∃ H',aN (ptr b (o+k)) v H1=some H'/\gS t nv mv nx mr Y T nv (Y.set n.toNat y') (T.upd n f) H H':=by
 have hx:=Tr.node_get hn;have hylt:n.toNat<Y.length:=by rw [h.len]; exact hn
 have hz:(T.N.zip Y)[n.toNat]? = some (T.node n,y):=by simp [List.zip,List.getElem?_zipWith,hx,hy]
 have hk3:(eE t nv mv nx mr Y T)[n.toNat+3]? = some (cM (T.node n) y):=by simp [eE,hz]
 have u1:=h.ow.set (rs:=eE t nv mv nx mr Y T) hk3 u;have o1:=h.ow.upd u1;have g1:cB zH H1 7 nv (bY T Y):=o1.holds (bH 7 nv (bY T Y)) (by simp [eE])
 have hi:n.toNat<(bY T Y).length:=by rw [h.rows_len]; exact hn
 obtain ⟨b',o',H',q1,q2,q3,q4,q5⟩:=g1.store (i:=n.toNat) (k:=k) hi hk v hv;rw [hp] at q1;simp only [Option.some.injEq,Value.pointer.injEq,Addr.mk.injEq,and_true] at q1;obtain ⟨rfl,rfl⟩:=q1
 have hrow:(bY T Y)[n.toNat]=(cQ (T.node n) y).cells:=by
  have:(bY T Y)[n.toNat]? = some (cQ (T.node n) y).cells:=by simp only [bY,List.getElem?_map,hz]; rfl
  rw [List.getElem?_eq_getElem hi] at this;exact Option.some.inj this
 rw [hrow,<- hc] at q4;have u2:=o1.set (rs:=(eE t nv mv nx mr Y T).set (n.toNat+3) (cM (f (T.node n)) y')) (k:=1) (r:=bH 7 nv (bY T Y)) (by simp [eE]) (cB.upd (v:=nv) (rows:=bY T Y) ⟨q5,fun b hb => .inl hb⟩ q4)
 have hzz:=nU f y' hx hylt
 have he:((eE t nv mv nx mr Y T).set (n.toNat+3) (cM (f (T.node n)) y')).set 1 (bH 7 nv ((bY T Y).set n.toNat (cQ (f (T.node n)) y').cells))=eE t nv mv nx mr (Y.set n.toNat y') (T.upd n f):=by
  simp only [eE,bY,Tr.upd,hzz,List.map_set,List.set_cons_succ,List.set_cons_zero]
 refine ⟨H',q3,?_,by simp [Tr.upd,h.len],by simpa [Tr.upd] using h.fit⟩
 have:=u1.trans u2;rw [he] at this;exact this
theorem eQ.num (h:eQ H t nv mv nx mr Y T) {n:BitVec 16} (hn:n.toNat<T.N.length) {y:RLy} (hy:Y[n.toNat]? = some y) {b o:Nat} (hp:aG 7 nv (vi (n.toNat:Int))=some (ptr b o)) (f:Nd->Nd)
  (hf:∀ x:Nd,(f x).data=x.data/\(f x).ents=x.ents) {k:Nat} (hk:k<7) {v:Int} (hc:(cQ (f (T.node n)) y).cells=(cQ (T.node n) y).cells.set k (vi v)) :
  ∃ H',aN (ptr b (o+k)) (vi v) H=some H'/\gS t nv mv nx mr Y T nv Y (T.upd n f) H H':=by
 obtain ⟨H',q1,q2⟩:=h.cell hn hy hp f y (by rw [cM.same (hf _).1 (hf _).2]; exact (h.node_y hn hy).refl) hk (v:=vi v) rfl hc
 refine ⟨H',q1,?_⟩
 have:Y.set n.toNat y=Y:=by
  apply List.ext_getElem?;intro i
  by_cases e:n.toNat=i
  ·subst e
   rw [List.getElem?_set_self (by rw [h.len]; exact hn),hy]
  ·rw [List.getElem?_set_ne e]
 rwa [this] at q2
theorem eQ.tick (h:eQ H t nv mv nx mr Y T):∃ H',aN (ptr t 4) (vi (T.change+1)) H=some H'/\gS t nv mv nx mr Y T nv Y T.bump H H':=by
 have hh:=h.head;refine ⟨H.put t (.cells (cF.cells ⟨nv,T.limit,mv,nx,T.change+1⟩) none),?_,?_,h.len,h.fit⟩
 ·rw [aF]
  simp [hh,plain1]
 ·exact h.ow.set (rs:=eE t nv mv nx mr Y T) (k:=0) rfl (bO.put hh _)
theorem aH1:bR [(0,1),(1,1),(2,1),(3,1),(4,1),(5,1),(6,1)] #[(.int .i64 0),(.slice none 0 0),(.slice none 0 0),(.int .i64 0),(.string ⟨#[]⟩),(.int .i64 0),(.int .i64 0)] []=some (.agg (cQ Nd.none ⟨aV,aV⟩).cells.toArray):=rfl
theorem dD {n:BitVec 16} (h:(T.node n).kind≠0#8):n.toNat<T.N.length:=by
 by_cases hn:n.toNat<T.N.length
 ·exact hn
 ·exact (h (by rw [Tr.node_ge (by omega)]; rfl)).elim
theorem S.f69 (hE:bJ E) (h:eQ H t nv mv nx mr Y T) (n:BitVec 16) (hn:n.toNat<T.N.length) (hQ:∀ Y' H',gS t nv mv nx mr Y T nv Y' (T.tidy n) H H'->Q (.tuple #[]) H'):E.call (E.fid i.f69) [ptr t 0,vi (n.toNat:Int)] H Q:=by
 apply hE.f69;have hh:=h.head;obtain ⟨y,b,o,h1,h2,h3⟩:=h.at_ hn;obtain ⟨_,_,_,_,_,c5,c6⟩:=h3.cell;unfold Tr.tidy at hQ
 by_cases e1:(T.node n).links=0
 ·by_cases e2:(T.node n).held=0
  ·rw [if_pos ⟨e1,e2⟩] at hQ
   have hx:=Tr.node_get hn;have hylt:n.toNat<Y.length:=by rw [h.len]; exact hn
   have hz:(T.N.zip Y)[n.toNat]? = some (T.node n,y):=by simp [List.zip,List.getElem?_zipWith,hx,h1]
   have hi:n.toNat<(bY T Y).length:=by rw [h.rows_len]; exact hn
   obtain ⟨b',o',H',q1,q2,q3,q4⟩:=h.rows.storeN (i:=n.toNat) hi (cQ Nd.none ⟨aV,aV⟩).cells rfl rfl;rw [h2] at q1;simp only [Option.some.injEq,Value.pointer.injEq,Addr.mk.injEq,and_true] at q1;obtain ⟨rfl,rfl⟩:=q1;have u1:=h.ow.set (rs:=eE t nv mv nx mr Y T) (k:=1) (r:=bH 7 nv (bY T Y)) (by simp [eE]) (cB.upd (v:=nv) (rows:=bY T Y) ⟨q4,fun b hb => .inl hb⟩ q3)
   have o1:=h.ow.upd u1;have hk3:((eE t nv mv nx mr Y T).set 1 (bH 7 nv ((bY T Y).set n.toNat (cQ Nd.none ⟨aV,aV⟩).cells)))[n.toNat+3]? = some (cM (T.node n) y):=by simp [eE,hz]
   have ho:=o1.part hk3
   have ue:Upd (cM (T.node n) y) (cM Nd.none ⟨aV,aV⟩) H' H':=by
    refine ⟨dN.refl _ _,?_,?_,?_⟩
    ·intro r hr
     simp only [List.mem_cons,List.not_mem_nil,or_false] at hr;rcases hr with rfl | rfl
     ·exact cB.nil _ _ _
     ·exact cB.nil _ _ _
    ·intro b hb
     simp [cM,dF,bH,fB,blk] at hb
    ·simp [cM,dF,bH,fB,blk]
   have u2:=o1.set hk3 ue;have hzz:=nU (fun _=>Nd.none) (⟨aV,aV⟩:RLy) hx hylt
   have he:((eE t nv mv nx mr Y T).set 1 (bH 7 nv ((bY T Y).set n.toNat (cQ Nd.none ⟨aV,aV⟩).cells))).set (n.toNat+3) (cM Nd.none ⟨aV,aV⟩)=eE t nv mv nx mr (Y.set n.toNat ⟨aV,aV⟩) (T.upd n fun _=>Nd.none):=by
    simp only [eE,bY,Tr.upd,hzz,List.map_set,List.set_cons_succ,List.set_cons_zero]
   have u3:=u1.trans u2;rw [he] at u3;simp only [F.f69,bA,aK,aD,Nat.add_zero,Nat.zero_add,hh,bE,cF.at0,h2,c5,e1,aT,decide_true,dX,c6,e2,aQ,aH1,q2,aJ,aE,aP];exact hQ _ H' ⟨u3,by simp [Tr.upd,h.len],by simpa [Tr.upd] using h.fit⟩
  ·rw [if_neg fun k=>e2 k.2] at hQ
   simp only [F.f69,bA,aK,aD,Nat.add_zero,Nat.zero_add,hh,bE,cF.at0,h2,c5,e1,aT,decide_true,dX,c6,e2,decide_false,aQ,aJ,aE,aI];exact hQ Y H (h.same (Ext.refl _))
 ·rw [if_neg fun k=>e1 k.1] at hQ
  simp only [F.f69,bA,aK,aD,Nat.add_zero,Nat.zero_add,hh,bE,cF.at0,h2,c5,e1,aT,decide_false,fY,aW,aJ,aE,aI];exact hQ Y H (h.same (Ext.refl _))
theorem S.f55 (hE:bJ E) (h:eQ H t nv mv nx mr Y T) (n:BitVec 16) (more:Bool) (hb:0<=(T.node n).held/\(T.node n).held<9223372036854775807)
  (hQ:∀ Y' H',gS t nv mv nx mr Y T nv Y' (T.hold n more).1 H H'->Q (vi (T.hold n more).2) H'):E.call (E.fid i.f55) [ptr t 0,vi (n.toNat:Int),vb more] H Q:=by
 apply hE.f55;simp only [F.f55];refine S.f60 hE h n fun b o y H1 e1 hn hat =>?_;obtain ⟨c0,_,_,_,_,_,c6⟩:=hn.cell;unfold Tr.hold at hQ
 by_cases k0:(T.node n).kind=0#8
 ·simp [k0] at hQ
  have:((T.node n).kind.toNat:Int)=0:=by rw [k0]; rfl
  simp only [bA,aK,aD,Nat.add_zero,c0,this,aT,decide_true,aJ,aE,aP];exact hQ _ _ (h.same e1)
 ·have hk:¬ ((T.node n).kind.toNat:Int)=0:=by rw [zO]; exact k0
  have hlt:=dD k0;obtain ⟨rfl,hy,hp⟩:=hat hlt;simp only [bA,aK,aD,Nat.add_zero,c0,hk,aT,decide_false,aJ,aE,aI];cases more with
  | true =>
   simp [k0] at hQ;obtain ⟨H2,q1,q2⟩:=h.num hlt hy hp (Nd.addH 1) (fun _=>⟨rfl,rfl⟩) (k:=6) (by omega) (v:=(T.node n).held+1) rfl
   simp only [aP,bA,aK,aD,c6,eX (a:=(T.node n).held) (b:=1) (by omega) (by omega),q1,aJ,aE]
   exact hQ _ _ q2
  | false =>
   by_cases k1:(T.node n).held=0
   ·simp [k0,k1] at hQ
    simp only [aI,bA,aK,aD,aT,c6,k1,decide_true,aP,aJ,aE];exact hQ _ _ (h.same e1)
   ·simp [k0,k1] at hQ
    obtain ⟨H2,q1,q2⟩:=h.num hlt hy hp (Nd.addH (-1)) (fun _=>⟨rfl,rfl⟩) (k:=6) (by omega) (v:=(T.node n).held - 1) rfl
    simp only [aI,bA,aK,aD,aT,c6,k1,decide_false,gY (a:=(T.node n).held) (b:=1) (by omega) (by omega),q1,aJ,aE]
    refine S.f69 hE (q2.ref h) n (by simpa [Tr.upd] using hlt) fun Y' H3 u =>?_
    exact hQ _ _ (q2.trans u)
end
end Go.AM
end
section
namespace Go.AM
section
variable {E:Sy} {H0 H H' H'' H1:AH} {Q:Value->AH->Prop} {t:Nat} {nv nv' nv'' mv:Value} {nx:Int} {mr:List (List Value)} {Y Y' Y'':List RLy} {T T' T'':Tr}
theorem eQ.newL (h:eQ H t nv mv nx mr Y T) {n:BitVec 16} (hn:n.toNat<T.N.length) {y:RLy} (hy:Y[n.toNat]? = some y) {b o:Nat} (hp:aG 7 nv (vi (n.toNat:Int))=some (ptr b o)) (f:Nd->Nd)
  (hf:∀ x:Nd,(f x).data=x.data) {v':Value} (e:Ext H H1) (g:cB zH H1 2 v' (eI (f (T.node n)).ents)) (fr:fW H.next v') (hc:(cQ (f (T.node n)) { y with l:=v' }).cells=(cQ (T.node n) y).cells.set 2 v') :
  ∃ H',aN (ptr b (o+2)) v' H1=some H'/\gS t nv mv nx mr Y T nv (Y.set n.toNat { y with l:=v' }) (T.upd n f) H H' :=
 h.cell hn hy hp f _ (cM.setL (h.node_y hn hy) (hf _) e g fr) (by omega) g.plain hc
theorem aC0 (s:aM) (k:BitVec 16):bR [(0,1),(1,1)] #[(.string ⟨#[]⟩),(.int .i64 0)] [(0,str s),(1,vi (k.toNat:Int))]=some (.agg (eJ.cells ⟨s,(k.toNat:Int)⟩).toArray):=eJ.build s (k.toNat:Int)
theorem Tr.room_zero {n:BitVec 16} {s:aM} (h:T.room n s=0):(T.node n).kind=2#8/\aU s (T.node n).ents=none/\(T.node n).links≠0/\dY s=true/\(T.node n).ents.length<32:=by
 unfold Tr.room at h
 by_cases d1:T.dir n=0
 ·have hk:(T.node n).kind=2#8:=by
   unfold Tr.dir at d1
   split at d1
   ·simp at d1
   ·split at d1
    ·assumption
    ·simp at d1
  simp only [d1,ne_eq,not_true,if_false] at h
  by_cases ok:dY s=false
  ·simp [ok] at h
  ·simp only [ok,Bool.false_eq_true,if_false] at h
   cases hl:aU s (T.node n).ents with
   | some x=>rw [hl] at h; simp at h
   | none =>
    rw [hl] at h;simp only [Option.isSome_none,Bool.false_eq_true,if_false] at h
    split at h
    ·simp at h
    ·split at h
     ·simp at h
     ·exact ⟨hk,rfl,by assumption,by simpa using ok,by omega⟩
 ·simp [d1] at h
theorem S.f51 (hE:bJ E) (h:eQ H t nv mv nx mr Y T) (hs:T.small) (n:BitVec 16) (s:aM) (hsl:s.length<2 ^ 63) (v:BitVec 16) (hc : -9223372036854775808<=T.change/\T.change<9223372036854775807)
  (hl:0<=(T.node v).links) (hQ:∀ Y' H',gS t nv mv nx mr Y T nv Y' (T.add n s v).1 H H'->Q (vi (T.add n s v).2) H'):E.call (E.fid i.f51) [ptr t 0,vi (n.toNat:Int),str s,vi (v.toNat:Int)] H Q:=by
 apply hE.f51;simp only [F.f51];refine S.f60 hE h v fun b o y H1 e1 hn hat =>?_;obtain ⟨c0,_,_,_,_,c5,_⟩:=hn.cell;unfold Tr.add at hQ
 by_cases k0:(T.node v).kind=0#8
 ·simp [k0] at hQ
  have:((T.node v).kind.toNat:Int)=0:=by rw [k0]; rfl
  simp only [bA,aK,aD,Nat.add_zero,c0,this,aT,decide_true,aJ,aE,aP];exact hQ _ _ (h.same e1)
 have hk:¬ ((T.node v).kind.toNat:Int)=0:=by rw [zO]; exact k0
 have hlt:=dD k0;obtain ⟨rfl,hy,hp⟩:=hat hlt
 by_cases k2:(T.node v).kind=2#8
 ·simp [k0,k2] at hQ
  have:((T.node v).kind.toNat:Int)=2:=by rw [k2]; rfl
  simp only [bA,aK,aD,Nat.add_zero,c0,this,show decide ((2:Int)=0)=false from rfl,aT,decide_true,decide_false,aJ,aE,aP,aI];exact hQ _ _ (h.same e1)
 have hk2:¬ ((T.node v).kind.toNat:Int)=2:=by rw [oM]; exact k2
 simp only [bA,aK,aD,Nat.add_zero,c0,hk,hk2,aT,decide_false,aJ,aE,aI];refine S.f67 hE h hs n s hsl fun H2 e2 =>?_;have hn2:=hn.mono e2;obtain ⟨_,_,_,_,_,c5,_⟩:=hn2.cell
 by_cases r0:T.room n s=0
 ·by_cases l0:(T.node v).links=0
  ·simp [k0,k2,r0,l0] at hQ
   simp only [cX,r0,ne_eq,not_true,decide_false,decide_true,bA,aK,aD,c5,l0,aT,aJ,aE,aP,aI];exact hQ _ _ (h.same e2)
  by_cases l1:256<=(T.node v).links
  ·simp [k0,k2,r0,l0,l1] at hQ
   simp only [cX,r0,ne_eq,not_true,decide_false,decide_true,bA,aK,aD,c5,l0,l1,aT,eB,aJ,aE,aP,aI];exact hQ _ _ (h.same e2)
  simp [k0,k2,r0,l0,l1] at hQ;obtain ⟨hd,hno,_⟩:=Tr.room_zero r0;have hdlt:n.toNat<T.N.length:=dD (by rw [hd]; decide)
  have h2:=h.mono e2;obtain ⟨yn,bn,on,y1,p1,nd1⟩:=h2.at_ hdlt;obtain ⟨_,_,c2,_⟩:=nd1.cell;have hh:=h2.head;simp only [cX,r0,ne_eq,not_true,decide_false,bA,aK,aD,Nat.add_zero,Nat.zero_add,c5,l0,l1,aT,eB,hh,bE,cF.at0,p1,c2,aC0,aJ,aE,aI];refine S.f71 hE yn.l (T.node n).ents nd1.2.2 (by have:=(Tr.room_zero r0).2.2.2.2; omega) s v fun v' H3 e3 g3 f3 =>?_
  have hh3:=(h2.mono e3).head;obtain ⟨H4,s4,u4⟩:=h2.newL hdlt y1 p1 (Nd.addE s v) (fun _=>rfl) e3 g3 f3 rfl;have h4:=u4.ref h2;have hvn:v≠n:=by rintro rfl; exact k2 hd
  have hnode:(T.upd n (Nd.addE s v)).node v=T.node v:=by rw [Tr.node_upd (by rw [hd]; decide),if_neg hvn]
  have hlt4:v.toNat<(T.upd n (Nd.addE s v)).N.length:=by simpa [Tr.upd] using hlt
  obtain ⟨y4,b4,o4,q1,q2,q3⟩:=h4.at_ hlt4;rw [hp] at q2;simp only [Option.some.injEq,Value.pointer.injEq,Addr.mk.injEq,and_true] at q2;obtain ⟨rfl,rfl⟩:=q2;obtain ⟨_,_,_,_,_,d5,_⟩:=q3.cell;rw [hnode] at d5;obtain ⟨H5,s5,u5⟩:=h4.num hlt4 q1 hp (Nd.addL 1) (fun _=>⟨rfl,rfl⟩) (k:=5) (by omega) (v:=(T.node v).links+1) (by rw [hnode]; rfl)
  have h5:=u5.ref h4;obtain ⟨H6,s6,u6⟩:=h5.tick;have hh5:=h5.head;refine ⟨by simp only [aD,hh3,hh],?_⟩
  have hcc:((T.upd n (Nd.addE s v)).upd v (Nd.addL 1)).change=T.change:=rfl;rw [hcc] at s6 hh5;simp only [p1,aK,s4,bA,aD,d5,eX (a:=(T.node v).links) (b:=1) (by omega) (by omega),s5,hh5,bE,Nat.zero_add,cF.at4,eX (a:=T.change) (b:=1) (by omega) (by omega),s6,aJ,aE]
  exact hQ _ _ ((gS.after e2 u4).trans (u5.trans u6))
 ·simp [k0,k2,r0] at hQ
  simp only [cX,r0,ne_eq,not_false_iff,decide_true,aJ,aE,aP];exact hQ _ _ (h.same e2)
theorem S.f54 (hE:bJ E) (h:eQ H t nv mv nx mr Y T) (hs:T.small) (n:BitVec 16) (s:aM) (dir:Bool) (hc : -9223372036854775808<=T.change/\T.change<9223372036854775807)
    (hk:(T.look n s).2=0->(T.node (T.look n s).1).kind≠0#8 /\ -9223372036854775807<=(T.node (T.look n s).1).links/\(T.node (T.look n s).1).links<9223372036854775807) (hel:(T.node n).ents.length<2 ^ 36)
    (hQ:∀ Y' H',gS t nv mv nx mr Y T nv Y' (T.drop n s dir).1 H H'->Q (vi (T.drop n s dir).2) H'):E.call (E.fid i.f54) [ptr t 0,vi (n.toNat:Int),str s,vb dir] H Q:=by
  apply hE.f54;simp only [F.f54];refine S.f57 hE h hs n s fun H1 e1 =>?_;unfold Tr.drop at hQ
  by_cases l0:(T.look n s).2=0
  · obtain ⟨hd,hlk⟩:=Tr.look_ok l0
    obtain ⟨k0,k1,k2⟩:=hk l0;simp only [l0,ne_eq,not_true,if_false] at hQ;generalize hv:(T.look n s).1=v at *;simp only [aJ,cV,List.getElem?_cons_zero,List.getElem?_cons_succ,l0,cX,ne_eq,not_true,decide_false,aE,aI];refine S.f60 hE (h.mono e1) v fun b o y H2 e2 hn hat =>?_;obtain ⟨rfl,hy,hp⟩:=hat (dD k0);obtain ⟨c0,_,c2,_,_,c5,_⟩:=hn.cell;have hl:=hn.lenL;have hvlt:=dD k0;have hnlt:n.toNat<T.N.length:=dD (by rw [hd]; decide)
    have fin:¬ (dir=true/\(T.node v).kind≠2#8)->¬ (dir=false/\(T.node v).kind=2#8)->¬ (dir=true/\0<(T.node v).ents.length) ->
       (opt (aH (ptr t 0)) fun v26=>opt (aC v26 0) fun v27=>opt (aB v27 H2) fun v28=>opt (aH (ptr t 0)) fun v29=>opt (aC v29 0) fun v30=>opt (aB v30 H2) fun v31 =>
         opt (aG 7 v31 (vi (n.toNat:Int))) fun v32=>opt (aC v32 2) fun v33=>opt (aB v33 H2) fun v34 =>
         E.call (E.fid i.f60) [ptr t 0,vi (n.toNat:Int)] H2 fun v35 H19 =>
         aB v33 H19=aB v33 H2/\aB v30 H19=aB v30 H2/\aB v27 H19=aB v27 H2 /\
         E.call (E.fid i.f70) [v35,str s] H19 fun v36 H20 =>
         aB v33 H20=aB v33 H2/\aB v30 H20=aB v30 H2/\aB v27 H20=aB v27 H2 /\
         E.call (E.fid i.f72) [v34,v36] H20 fun v37 H21 =>
         aB v27 H21=aB v27 H2 /\
         opt (aG 7 v28 (vi (n.toNat:Int))) fun v38=>opt (aC v38 2) fun v39=>opt (aN v39 v37 H21) fun H22 =>
         opt (aH (ptr b o)) fun v40=>opt (aC v40 5) fun v41=>opt (aB v41 H22) fun v42=>opt (aA .sub v42 (.int .i64 1)) fun v43 =>
         opt (aH (ptr b o)) fun v44=>opt (aC v44 5) fun v45=>opt (aN v45 v43 H22) fun H23 =>
         opt (aH (ptr t 0)) fun v46=>opt (aC v46 4) fun v47=>opt (aB v47 H23) fun v48=>opt (aA .add v48 (.int .i64 1)) fun v49 =>
         opt (aH (ptr t 0)) fun v50=>opt (aC v50 4) fun v51=>opt (aN v51 v49 H23) fun H24 =>
         E.call (E.fid i.f69) [ptr t 0,vi (v.toNat:Int)] H24 fun v52 H25=>Q (.int .i64 0) H25):=by
      intro n1 n2 n3;rw [if_neg n1,if_neg n2,if_neg n3] at hQ;have h2:=h.mono e1;obtain ⟨yn,bn,on,y1,p1,nd1⟩:=h2.at_ hnlt;obtain ⟨_,_,c2n,_⟩:=nd1.cell;have hh:=h2.head;simp only [bA,aK,aD,Nat.add_zero,Nat.zero_add,hh,bE,cF.at0,p1,c2n,aJ,aE];refine S.f60 hE h2 n fun bz oz yz H3 e3 hnz hatz =>?_;obtain ⟨rfl,hyz,hpz⟩:=hatz hnlt;refine ⟨rfl,rfl,rfl,?_⟩;refine S.f70 hE hnz s (hs n) ?_;refine ⟨rfl,rfl,rfl,?_⟩;obtain ⟨j,hj,j1,j2,j3⟩:=jH s _ v hlk;rw [j1];refine S.f72 hE yn.l (T.node n).ents nd1.2.2 hel j hj fun v' H4 e4 g4 f4 =>?_;rw [<- j3] at g4;have hh4:=(h2.mono e4).head;obtain ⟨H5,s5,u5⟩:=h2.newL hnlt y1 p1 (Nd.delE s) (fun _=>rfl) e4 g4 f4 rfl;have h5:=u5.ref h2
      have hnode:((T.upd n (Nd.delE s)).node v).links=(T.node v).links:=by
        rw [Tr.node_upd (by rw [hd]; decide)]
        split
        · rename_i e; rw [e]; rfl
        · rfl
      have hlt5:v.toNat<(T.upd n (Nd.delE s)).N.length:=by simpa [Tr.upd] using hvlt
      obtain ⟨y5,b5,o5,q1,q2,q3⟩:=h5.at_ hlt5;rw [hp] at q2;simp only [Option.some.injEq,Value.pointer.injEq,Addr.mk.injEq,and_true] at q2;obtain ⟨rfl,rfl⟩:=q2;obtain ⟨_,_,_,_,_,d5,_⟩:=q3.cell;rw [hnode] at d5;obtain ⟨H6,s6,u6⟩:=h5.num hlt5 q1 hp (Nd.addL (-1)) (fun _=>⟨rfl,rfl⟩) (k:=5) (by omega) (v:=(T.node v).links - 1) (by rw [<- hnode]; rfl)
      have h6:=u6.ref h5;obtain ⟨H7,s7,u7⟩:=h6.tick;have hh6:=h6.head;have hcc:((T.upd n (Nd.delE s)).upd v (Nd.addL (-1))).change=T.change:=rfl;rw [hcc] at s7 hh6;refine ⟨by simp only [aD,hh4,hh],?_⟩
      simp only [p1,aK,s5,bA,aD,d5,gY (a:=(T.node v).links) (b:=1) (by omega) (by omega),s6,hh6,bE,Nat.zero_add,cF.at4,eX (a:=T.change) (b:=1) (by omega) (by omega),s7,aJ,aE]
      refine S.f69 hE (u7.ref h6) v (by simpa [Tr.upd,Tr.bump] using hvlt) fun Y' H8 u8 =>?_
      exact hQ _ _ ((gS.after e1 u5).trans ((u6.trans u7).trans u8))
    cases dir with
    | true =>
      by_cases k3:(T.node v).kind=2#8
      · have hk3:((T.node v).kind.toNat:Int)=2:=by rw [k3]; rfl
        by_cases z0:0<(T.node v).ents.length
        · have z0':(0:Int)<(T.node v).ents.length:=by omega
          simp [k3,z0] at hQ;simp only [dX,fY,eC,bA,aK,aD,Nat.add_zero,c0,hk3,cX,dC,gt_iff_lt,ne_eq,not_true,decide_false,decide_true,Bool.not_true,c2,hl,z0',aQ,aW,aJ,aE,aP,aI];exact hQ _ _ (h.same e1)
        · have z0':¬ (0:Int)<(T.node v).ents.length:=by omega
          simp only [dX,fY,eC,bA,aK,aD,Nat.add_zero,c0,hk3,cX,dC,gt_iff_lt,ne_eq,not_true,decide_false,decide_true,Bool.not_true,c2,hl,z0',aQ,aW,aJ,aE,aP,aI];exact fin (by simp [k3]) (by simp) (by simp [z0])
      · have hk3:¬ ((T.node v).kind.toNat:Int)=2:=by rw [oM]; exact k3
        simp [k3] at hQ;simp only [dX,fY,eC,bA,aK,aD,Nat.add_zero,c0,hk3,cX,ne_eq,not_false_iff,decide_true,aQ,aJ,aE,aP];exact hQ _ _ (h.same e1)
    | false =>
      by_cases k3:(T.node v).kind=2#8
      · have hk3:((T.node v).kind.toNat:Int)=2:=by rw [k3]; rfl
        simp [k3] at hQ;simp only [dX,fY,eC,bA,aK,aD,Nat.add_zero,c0,hk3,aT,decide_false,decide_true,Bool.not_false,aQ,aW,aJ,aE,aP,aI];exact hQ _ _ (h.same e1)
      · have hk3:¬ ((T.node v).kind.toNat:Int)=2:=by rw [oM]; exact k3
        simp only [dX,fY,eC,bA,aK,aD,Nat.add_zero,c0,hk3,aT,decide_false,decide_true,Bool.not_false,aQ,aW,aJ,aE,aP,aI];exact fin (by simp) (by simp [k3]) (by simp)
  · simp [l0] at hQ
    simp only [aJ,cV,List.getElem?_cons_zero,List.getElem?_cons_succ,l0,cX,ne_eq,not_false_iff,decide_true,aE,aP];exact hQ _ _ (h.same e1)
end
end Go.AM
end
section
namespace Go.AM
section
variable {E:Sy} {H0 H H' H'' H1:AH} {Q:Value->AH->Prop} {t:Nat} {nv nv' nv'' mv:Value} {nx:Int} {mr:List (List Value)} {Y Y' Y'':List RLy} {T T' T'':Tr}
theorem eQ.setRow (h:eQ H t nv mv nx mr Y T) {n:BitVec 16} (hn:n.toNat<T.N.length) (x':Nd) (hd:x'.data=[]) (he:x'.ents=[]) :
  ∃ b o H',aG 7 nv (vi (n.toNat:Int))=some (ptr b o)/\storeN 7 (ptr b o) (.agg (cQ x' ⟨aV,aV⟩).cells.toArray) H=some H'/\gS t nv mv nx mr Y T nv (Y.set n.toNat ⟨aV,aV⟩) (T.upd n fun _=>x') H H':=by
 obtain ⟨y,b,o,h1,h2,h3⟩:=h.at_ hn;have hx:=Tr.node_get hn;have hylt:n.toNat<Y.length:=by rw [h.len]; exact hn
 have hz:(T.N.zip Y)[n.toNat]? = some (T.node n,y):=by simp [List.zip,List.getElem?_zipWith,hx,h1]
 have hi:n.toNat<(bY T Y).length:=by rw [h.rows_len]; exact hn
 obtain ⟨b',o',H',q1,q2,q3,q4⟩:=h.rows.storeN (i:=n.toNat) hi (cQ x' ⟨aV,aV⟩).cells rfl rfl;have u1:=h.ow.set (rs:=eE t nv mv nx mr Y T) (k:=1) (r:=bH 7 nv (bY T Y)) (by simp [eE]) (cB.upd (v:=nv) (rows:=bY T Y) ⟨q4,fun b hb => .inl hb⟩ q3)
 have o1:=h.ow.upd u1;have hk3:((eE t nv mv nx mr Y T).set 1 (bH 7 nv ((bY T Y).set n.toNat (cQ x' ⟨aV,aV⟩).cells)))[n.toNat+3]? = some (cM (T.node n) y):=by simp [eE,hz]
 have ue:Upd (cM (T.node n) y) (cM x' ⟨aV,aV⟩) H' H':=by
  refine ⟨dN.refl _ _,?_,?_,?_⟩
  ·intro r hr
   simp only [List.mem_cons,List.not_mem_nil,or_false] at hr;rcases hr with rfl | rfl
   ·rw [hd]; exact cB.nil _ _ _
   ·rw [he]; exact cB.nil _ _ _
  ·intro b hb
   simp [cM,dF,bH,fB,blk] at hb
  ·simp [cM,dF,bH,fB,blk]
 have u2:=o1.set hk3 ue;have hzz:=nU (fun _=>x') (⟨aV,aV⟩:RLy) hx hylt
 have he:((eE t nv mv nx mr Y T).set 1 (bH 7 nv ((bY T Y).set n.toNat (cQ x' ⟨aV,aV⟩).cells))).set (n.toNat+3) (cM x' ⟨aV,aV⟩)=eE t nv mv nx mr (Y.set n.toNat ⟨aV,aV⟩) (T.upd n fun _=>x'):=by
  simp only [eE,bY,Tr.upd,hzz,List.map_set,List.set_cons_succ,List.set_cons_zero]
 have u3:=u1.trans u2;rw [he] at u3;exact ⟨b',o',H',q1,q2,u3,by simp [Tr.upd,h.len],by simpa [Tr.upd] using h.fit⟩
theorem eQ.push (h:eQ H t nv mv nx mr Y T) (hfit:T.N.length<60000) :
  ∃ v' H2 H3,AM.app 7 96 nv (slc H.next 0 1 1) (H.new (.cells (cQ Nd.none ⟨aV,aV⟩).cells none))=some (v',H2)/\aN (ptr t 0) v' H2=some H3/\gS t nv mv nx mr Y T v' (Y++[⟨aV,aV⟩]) { T with N:=T.N++[Nd.none] } H H3:=by
 obtain ⟨v',H2,a1,a2,a3⟩:=h.rows.app1 (Nat.zero_le _) (bytes:=96) (cQ Nd.none ⟨aV,aV⟩).cells rfl rfl (by decide) (by decide) (by rw [h.rows_len]; omega)
 have u1:=h.ow.set (rs:=eE t nv mv nx mr Y T) (k:=1) (r:=bH 7 nv (bY T Y)) (by simp [eE]) (cB.upd (v:=nv) (rows:=bY T Y) a3 a2)
 have o1:=h.ow.upd u1;have hh:H2.get t = .cells (cF.cells ⟨nv,T.limit,mv,nx,T.change⟩) none:=o1.holds (bO t (cF.cells ⟨nv,T.limit,mv,nx,T.change⟩)) (by simp [eE])
 have u2:=o1.set (rs:=(eE t nv mv nx mr Y T).set 1 (bH 7 v' (bY T Y++[(cQ Nd.none ⟨aV,aV⟩).cells]))) (k:=0) (by simp [eE]) (bO.put hh (cF.cells ⟨v',T.limit,mv,nx,T.change⟩))
 have o2:=o1.upd u2
 have u3:=o2.add (cM Nd.none ⟨aV,aV⟩) (Ext.refl _) (by
  intro r hr;simp only [List.mem_cons,List.not_mem_nil,or_false] at hr;rcases hr with rfl | rfl
  ·exact cB.nil _ _ _
  ·exact cB.nil _ _ _) (by intro b hb; simp [cM,dF,bH,fB,blk] at hb) (by simp [cM,dF,bH,fB,blk])
 have he:(((eE t nv mv nx mr Y T).set 1 (bH 7 v' (bY T Y++[(cQ Nd.none ⟨aV,aV⟩).cells]))).set 0 (bO t (cF.cells ⟨v',T.limit,mv,nx,T.change⟩)))++[cM Nd.none ⟨aV,aV⟩]=eE t v' mv nx mr (Y++[⟨aV,aV⟩]) { T with N:=T.N++[Nd.none] }:=by
  have hz:(T.N++[Nd.none]).zip (Y++[(⟨aV,aV⟩:RLy)])=T.N.zip Y++[(Nd.none,⟨aV,aV⟩)]:=by
   rw [List.zip_append h.len.symm]; rfl
  simp [eE,bY,hz]
 have u4:=u1.trans (u2.trans u3);rw [he] at u4;refine ⟨v',H2,_,a1,?_,u4,by simp [h.len],by simp; omega⟩
 rw [aF,if_pos a2.plain,hh];simp
theorem aJ6 (k:Int):bR [(0,1),(1,1),(2,1),(3,1),(4,1),(5,1),(6,1)] #[(.int .i64 0),(.slice none 0 0),(.slice none 0 0),(.int .i64 0),(.string ⟨#[]⟩),(.int .i64 0),(.int .i64 0)] [(0,vi k),(5,vi 1)]=some (.agg (bZ.cells ⟨k,aV,aV,0,[],1,0⟩).toArray):=rfl
theorem Tr.put_same {a:Nat} (x:Nd) (h:a<T.N.length) (hlt:a<65536):T.upd (BitVec.ofNat 16 a) (fun _=>x)=T.put a x:=by
 have e:(BitVec.ofNat 16 a).toNat=a:=by rw [BitVec.toNat_ofNat,Nat.mod_eq_of_lt (by omega)]
 unfold Tr.upd Tr.put;rw [if_pos h,e]
 congr 1
 apply List.ext_getElem?;intro i;rw [List.getElem?_modify,List.getElem?_set]
 by_cases hi:a=i
 ·subst hi
  simp [h]
 ·simp [hi]
theorem Tr.put_push (x:Nd) (hlt:T.N.length<65536):Tr.upd { T with N:=T.N++[Nd.none] } (BitVec.ofNat 16 T.N.length) (fun _=>x)=T.put T.N.length x:=by
 rw [Tr.put_same x (by simp) hlt]
 unfold Tr.put;simp
theorem aJ1:([(.int .i64 0),(.slice none 0 0),(.slice none 0 0),(.int .i64 0),(.string ⟨#[]⟩),(.int .i64 0),(.int .i64 0)]:List Value)=bZ.zero.cells:=rfl
theorem S.f58 (hE:bJ E) (h:eQ H t nv mv nx mr Y T) (hs:T.small) (n:BitVec 16) (s:aM) (hsl:s.length<2 ^ 63) (k:BitVec 8) (text:List UInt8) (hc : -9223372036854775808<=T.change/\T.change<9223372036854775807)
    (hN:1<=T.N.length/\T.N.length<60000) (hdp:k=2#8->T.room n s=0->T.deepF 20 n=T.deep n)
    (hQ:∀ nv' Y' H',gS t nv mv nx mr Y T nv' Y' (T.make n s k text).1 H H'->Q (.tuple #[vi ((T.make n s k text).2.1.toNat:Int),vi (T.make n s k text).2.2]) H'):E.call (E.fid i.f58) [ptr t 0,vi (n.toNat:Int),str s,vi (k.toNat:Int),str text] H Q:=by
  apply hE.f58;simp only [F.f58];refine S.f67 hE h hs n s hsl fun H1 e1 =>?_;unfold Tr.make at hQ
  by_cases r0:T.room n s=0
  rotate_left
  · simp [r0] at hQ
    simp only [cX,r0,ne_eq,not_false_iff,decide_true,aJ,aE,aP];exact hQ _ _ _ (h.same e1)
  have h1:=h.mono e1;obtain ⟨hd,hno,_,_,hel⟩:=Tr.room_zero r0;have hnlt:n.toNat<T.N.length:=dD (by rw [hd]; decide)
  simp only [r0,ne_eq,not_true,if_false] at hQ;simp only [cX,r0,ne_eq,not_true,decide_false,aJ,aE,aI];have hfree:=Tr.free_ok hN.1 (by omega:T.N.length<=60000)
  have hft:(BitVec.ofNat 16 T.free).toNat=T.free:=by rw [BitVec.toNat_ofNat,Nat.mod_eq_of_lt (by have:=hfree.lt; omega)]
  have last:(¬ (k=0#8\/3#8<k\/(k=3#8/\(text.length<1\/120<text.length))))->¬ (T.limit<=T.len\/(k=2#8/\16<=T.deep n))->∀ H2,Ext H1 H2 ->
      aO (fun l H X0=>F.f58_l1 E Q (nth l 0) (nth l 1) (nth l 2) (nth l 3) (nth l 4) (nth l 5) H X0) [ptr t 0,vi (n.toNat:Int),str s,vi (k.toNat:Int),str text,(.int .i64 1)] H2:=by
    intro g1 g2 H2 e2;rw [if_neg g1,if_neg g2] at hQ;have h2:=h1.mono e2;have hh2:=h2.head
    have fin:∀ nv2 Y2 T2 H3,gS t nv mv nx mr Y T nv2 Y2 T2 H2 H3->T.free<T2.N.length->(∀ x,T2.upd (BitVec.ofNat 16 T.free) (fun _=>x)=T.put T.free x)->F.f58_j1 E Q (ptr t 0) (vi (n.toNat:Int)) (str s) (vi (k.toNat:Int)) (str text) (vi ((BitVec.ofNat 16 T.free).toNat:Int)) H3:=by
      intro nv2 Y2 T2 H3 u3 hlt3 hput;have h3:=u3.ref h2
      have last2:∀ H4,H4=H3.new (.cells (cQ (Nd.made n k text) ⟨aV,aV⟩).cells none)->F.f58_j3 E Q (ptr t 0) (vi (n.toNat:Int)) (str s) (vi ((BitVec.ofNat 16 T.free).toNat:Int)) (ptr H3.next 0) H4:=by
        rintro H4 rfl;have h4:=h3.mono ((Ext.refl H3).new (.cells (cQ (Nd.made n k text) ⟨aV,aV⟩).cells none));have hh4:=h4.head
        have lo:bM 7 (ptr H3.next 0) (H3.new (.cells (cQ (Nd.made n k text) ⟨aV,aV⟩).cells none))=some (.agg (cQ (Nd.made n k text) ⟨aV,aV⟩).cells.toArray):=by
          rw [cZ,AH.get_new_self,nE _ _ 7 rfl]; rfl
        have hlt4:(BitVec.ofNat 16 T.free).toNat<T2.N.length:=by rw [hft]; exact hlt3
        obtain ⟨b,o,H5,q1,q2,u5⟩:=h4.setRow hlt4 (Nd.made n k text) rfl rfl;rw [hput] at u5;have h5:=u5.ref h4;have hh5:=h5.head;have hnf:n≠BitVec.ofNat 16 T.free:=by rintro e; have:=hfree.zero; rw [<- e,hd] at this; simp at this
        have hnode:(T.put T.free (Nd.made n k text)).node n=T.node n:=by rw [Tr.node_put hfree.le hfree.lt,if_neg hnf]
        have hnlt5:n.toNat<(T.put T.free (Nd.made n k text)).N.length:=dD (by rw [hnode,hd]; decide)
        obtain ⟨yn,bn,on,y1,p1,nd1⟩:=h5.at_ hnlt5;rw [hnode] at nd1;obtain ⟨_,_,c2,_⟩:=nd1.cell;have hen:=aC0 s (BitVec.ofNat 16 T.free);simp only [F.f58_j3,bA,aK,aD,Nat.add_zero,Nat.zero_add,hh4,bE,cF.at0,lo,q1,q2,hh5,p1,c2,hen,aJ,aE];refine S.f71 hE yn.l (T.node n).ents nd1.2.2 (by omega) s (BitVec.ofNat 16 T.free) fun v' H6 e6 g6 f6 =>?_
        have hh6:=(h5.mono e6).head;obtain ⟨H7,s7,u7⟩:=h5.newL hnlt5 y1 p1 (Nd.addE s (BitVec.ofNat 16 T.free)) (fun _=>rfl) e6 (by rw [hnode]; exact g6) f6 (by rw [hnode]; rfl)
        have h7:=u7.ref h5;obtain ⟨H8,s8,u8⟩:=h7.tick;have hh7:=h7.head;have hcc:((T.put T.free (Nd.made n k text)).upd n (Nd.addE s (BitVec.ofNat 16 T.free))).change=T.change:=rfl;rw [hcc] at s8 hh7;refine ⟨by simp only [aD,hh6,hh5],?_⟩
        simp only [p1,aK,s7,bA,aD,hh7,bE,Nat.zero_add,cF.at4,eX (a:=T.change) (b:=1) (by omega) (by omega),s8,aJ,aE]
        have hfin:=hQ _ _ _ (gS.after (e1.trans e2) (u3.trans (gS.after ((Ext.refl H3).new _) (u5.trans (u7.trans u8)))));exact hfin
      have k2:=oM k;have k3:=aHU k;simp only [F.f58_j1,aJ6 (k.toNat:Int),aJ,aE];simp only [dQ,aJ1,dZ,AH.get_new_self,bZ.cells_length,bZ.splice_cells,AH.new_put,List.size_toArray,Nat.zero_add,Nat.le_refl,show (bZ.cells ⟨(k.toNat:Int),aV,aV,0,[],1,0⟩).all plain1=true from rfl,and_self,if_true,aJ,aE,aT,k2,aK,aF,rU,F.f58_j2,k3]
      by_cases c2:k=2#8
      · have c3:¬ k=3#8:=by rw [c2]; decide
        simp only [aP,aI,F.f58_j2,aT,k3,eq_true c2,eq_false c3,decide_true,decide_false,aP,aI,aK,Nat.zero_add,aF,rU,if_true,AH.get_new_self,bZ.cells_length,show (3<7)=True from by simp,AH.new_put,bZ.set3,aJ,aE]
        refine last2 _ ?_
        congr 2
        subst c2
        rfl
      · by_cases c3:k=3#8
        · simp only [F.f58_j2,aT,k3,eq_false c2,eq_true c3,decide_true,decide_false,aP,aI,aK,Nat.zero_add,aF,aAI,if_true,AH.get_new_self,bZ.cells_length,show (4<7)=True from by simp,AH.new_put,bZ.set4,aJ,aE]
          refine last2 _ ?_
          congr 2
          subst c3
          rfl
        · simp only [F.f58_j2,aT,k3,eq_false c2,eq_false c3,decide_false,aI,aJ,aE]
          refine last2 _ ?_
          congr 2
          simp [cQ,Nd.made,c2,c3]
    refine aO.ind (fun i l H'=>H2=H'/\∃ a:Nat,l=[ptr t 0,vi (n.toNat:Int),str s,vi (k.toNat:Int),str text,vi a]/\1<=a/\i+a=T.free) ?_ (T.free - 1) ⟨rfl,1,rfl,by omega,by have:=hfree.pos; omega⟩
    rintro i _ _ X hX ⟨rfl,a,rfl,ha,hia⟩;have hls:=h2.lenSlc;have hflt:=hfree.lt;have hfle:=hfree.le;have hat:(BitVec.ofNat 16 a).toNat=a:=by rw [BitVec.toNat_ofNat,Nat.mod_eq_of_lt (by omega)]
    by_cases hlt:a<T.free
    · have hu:=hfree.used a ha hlt
      have hal:(a:Int)<T.N.length:=by omega
      obtain ⟨y,b,o,q1,q2,q3⟩:=h2.at_ (n:=BitVec.ofNat 16 a) (by rw [hat]; omega)
      rw [hat] at q2;obtain ⟨c0,_⟩:=q3.cell
      have hk:(0:Int)<((T.node (BitVec.ofNat 16 a)).kind.toNat:Int):=by
        have:¬ ((T.node (BitVec.ofNat 16 a)).kind.toNat:Int)=0:=by rw [zO]; exact hu
        omega
      simp only [F.f58_l1,dM,dT,dW,fC,jG,kY,bA,aK,aD,Nat.add_zero,Nat.zero_add,hh2,bE,cF.at0,hls,bG,hal,decide_true,dX,q2,c0,dC,gt_iff_lt,hk,aQ,bD a (by omega),aJ,aE,aP]
      exact hX (i - 1) (by omega) _ _ ⟨rfl,a+1,rfl,by omega,by omega⟩
    · have:a=T.free:=by omega
      subst this
      by_cases hlen:T.free<T.N.length
      · have hal:(T.free:Int)<T.N.length:=by omega
        have hne:¬ (T.free:Int)=T.N.length:=by omega
        obtain ⟨y,b,o,q1,q2,q3⟩:=h2.at_ (n:=BitVec.ofNat 16 T.free) (by rw [hat]; omega)
        rw [hat] at q2;obtain ⟨c0,_⟩:=q3.cell;have hk:¬ (0:Int)<((T.node (BitVec.ofNat 16 T.free)).kind.toNat:Int):=by rw [hfree.zero]; decide
        have hf:=fin _ _ _ _ (h2.same (Ext.refl _)) hlen fun x=>Tr.put_same x hlen hflt;rw [hft] at hf;simp only [F.f58_l1,dM,dT,dW,fC,jG,kY,bA,aK,aD,Nat.add_zero,Nat.zero_add,hh2,bE,cF.at0,hls,bG,hal,decide_true,dX,q2,c0,dC,gt_iff_lt,hk,decide_false,aQ,aT,hne,aJ,aE,aI];exact hf
      · have hal:¬ (T.free:Int)<T.N.length:=by omega
        have heq:T.free=T.N.length:=by omega
        have hne:(T.free:Int)=T.N.length:=by omega
        obtain ⟨v',H4,H5,a1,a2,u5⟩:=h2.push hN.2;have hf:=fin _ _ _ _ u5 (by simp; omega) fun x=>by rw [heq]; exact Tr.put_push x (by omega)
        rw [hft] at hf;have hb1:buildS 1 7 #[(.int .i64 0),(.slice none 0 0),(.slice none 0 0),(.int .i64 0),(.string ⟨#[]⟩),(.int .i64 0),(.int .i64 0)] [(0,.agg (cQ Nd.none ⟨aV,aV⟩).cells.toArray)]=some (.cells (cQ Nd.none ⟨aV,aV⟩).cells none,eD 1 1):=bZ.build1 _;simp only [F.f58_l1,dM,dT,dW,fC,jG,kY,bA,aK,aD,Nat.add_zero,Nat.zero_add,hh2,bE,cF.at0,hls,bG,hal,Int.lt_irrefl,decide_false,fY,aW,aT,hne,decide_true,aH1,hb1,AM.dH,eU,a1,eV,a2,aJ,aE,aI,aP];rw [hne] at hf;exact hf
  have hkn:∀ j:Nat,j<256->(((k.toNat:Int)=(j:Int))=(k=BitVec.ofNat 8 j)):=fun j hj=>propext (lJ k j hj)
  have hk0:((k.toNat:Int)<1)=(k=0#8):=by
    rw [<- zO,eq_iff_iff]; omega
  have hk3l:((3:Int)<k.toNat)=(3#8<k):=by
    rw [eq_iff_iff,BitVec.lt_def]
    show (3:Int)<k.toNat↔3<k.toNat
    omega
  have k3:=aHU k;have k2:=oM k
  have rest:(¬ (k=0#8\/3#8<k\/(k=3#8/\(text.length<1\/120<text.length)))) ->
      (opt (aH (ptr t 0)) fun v20=>opt (aC v20 1) fun v21=>opt (aB v21 H1) fun v22=>E.call (E.fid i.f56) [ptr t 0] H1 fun v23 H16=>aB v21 H16=aB v21 H1 /\
       opt (aA .geq v23 v22) fun v24 =>
       gd v24 false (fun k'=>k' (vi (k.toNat:Int)) H16) H16 fun v25 H17 =>
       gd v24 false (fun k=>opt (aA .eql v25 (.int .i64 2)) fun v=>k v H17) H17 fun v26 H18 =>
       gd v24 false (fun k=>k v26 H18) H18 fun v27 H19 =>
       gd v27 true (fun k=>k (ptr t 0) H19) H19 fun v28 H20 =>
       gd v27 true (fun k=>k (vi (n.toNat:Int)) H20) H20 fun v29 H21 =>
       gd v27 true (fun k=>E.call (E.fid i.f64) [v28,v29] H21 fun v h=>k v h) H21 fun v30 H22 =>
       gd v27 true (fun k=>opt (aA .geq v30 (.int .i64 16)) fun v=>k v H22) H22 fun v31 H23 =>
       gd v24 false (fun k=>opt (pick v27 v31 (.bool false)) fun v=>k v H23) H23 fun v32 H24 =>
       opt (pick v24 (.bool true) v32) fun v33 =>
       ifB v33 (Q (.tuple #[(.int .i64 0),(.int .i64 28)]) H24) (
       aO (fun l H X0=>F.f58_l1 E Q (nth l 0) (nth l 1) (nth l 2) (nth l 3) (nth l 4) (nth l 5) H X0) [ptr t 0,vi (n.toNat:Int),str s,vi (k.toNat:Int),str text,(.int .i64 1)] H24)):=by
    intro g1;have last:=last g1;simp only [g1,if_false] at hQ;have hh:=h1.head;simp only [bA,aK,aD,Nat.zero_add,hh,bE,cF.at1,aJ,aE];refine S.f56 hE h1 ?_;refine ⟨rfl,?_⟩
    by_cases t4:T.limit<=T.len
    · simp [t4] at hQ
      simp only [eB,ge_iff_le,t4,decide_true,qW,aQ,aJ,aE,aP];exact hQ _ _ _ (h.same e1)
    by_cases t5:k=2#8
    · simp only [eB,ge_iff_le,t4,decide_false,kM,aT,k2,eq_true t5,decide_true,dX,aJ,aE]
      refine S.f64 hE h1 n fun H2 e2 =>?_;rw [hdp t5 r0]
      by_cases t6:16<=T.deep n
      · have t6':(16:Int)<=T.deep n:=by omega
        simp [t4,t5,t6] at hQ;simp only [dX,kM,eB,ge_iff_le,t6',decide_true,aQ,aW,aJ,aE,aP];exact hQ _ _ _ (h.same (e1.trans e2))
      · have t6':¬ (16:Int)<=T.deep n:=by omega
        simp only [dX,kM,eB,ge_iff_le,t6',decide_false,aQ,aW,aJ,aE,aI];exact last (by simp only [t4,t6,and_false,or_self,not_false_eq_true]) _ e2
    · simp only [eB,ge_iff_le,t4,decide_false,kM,fY,aT,k2,eq_false t5,aQ,aW,aJ,aE,aI]
      exact last (by simp [t4,t5]) _ (Ext.refl _)
  by_cases t1:k=0#8
  · simp [t1] at hQ
    simp only [bG,hk0,eq_true t1,decide_true,qW,aQ,aJ,aE,aP];exact hQ _ _ _ (h.same e1)
  by_cases t2:3#8<k
  · simp [t2] at hQ
    simp only [bG,hk0,eq_false t1,decide_false,kM,dC,gt_iff_lt,hk3l,eq_true t2,decide_true,qW,aQ,aW,aJ,aE,aP];exact hQ _ _ _ (h.same e1)
  by_cases t3:k=3#8
  · by_cases t7:text.length<1
    · have:(text.length:Int)<1:=by omega
      simp [t3,t7] at hQ;simp only [bG,hk0,eq_false t1,decide_false,kM,dC,gt_iff_lt,hk3l,eq_false t2,aT,k3,eq_true t3,decide_true,dX,qW,lO,this,aQ,aW,aJ,aE,aP];exact hQ _ _ _ (h.same e1)
    have t7':¬ (text.length:Int)<1:=by omega
    by_cases t8:120<text.length
    · have:(120:Int)<text.length:=by omega
      simp [t3,t8] at hQ;simp only [bG,hk0,eq_false t1,decide_false,kM,dC,gt_iff_lt,hk3l,eq_false t2,aT,k3,eq_true t3,decide_true,dX,qW,lO,t7',this,aQ,aW,aJ,aE,aP];exact hQ _ _ _ (h.same e1)
    have t8':¬ (120:Int)<text.length:=by omega
    have:=rest (by simp [t1,t2,t7,t8])
    simp only [bG,hk0,eq_false t1,decide_false,kM,dC,gt_iff_lt,hk3l,eq_false t2,aT,k3,eq_true t3,decide_true,dX,qW,lO,t7',t8',aQ,aW,aJ,aE,aI];exact this
  · have:=rest (by simp [t1,t2,t3])
    simp only [bG,hk0,eq_false t1,decide_false,kM,fY,dC,gt_iff_lt,hk3l,eq_false t2,aT,k3,eq_false t3,aQ,aW,aJ,aE,aI];exact this
end
end Go.AM
end
