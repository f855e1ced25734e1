/- CONTRACTS ON THE PRINTED FUNCTIONS. -/
import Derived.Test.YtgeenpollgalkaaDoorVb6ddC0
set_option linter.all false
section
namespace Go.AM
open Go.Sort
section
variable {E:Sy} {H H':AH} {Q:Value->AH->Prop} {b c n:Nat} {d:Array (BitVec 16)} {tail:List Value} {f:Option Nat}
theorem enc_inode_Number_plain:∀ x:BitVec 16,plain1 (u16 x)=true:=fun _=>rfl
theorem S.f0 (hE:Fold E) (x y:BitVec 16) (hQ:Q (vb (lt16 x y)) H):E.call (E.fid i.f0) [u16 x,u16 y] H Q:=by
 apply hE.f0
 simp only [F.f0]
 apply hE.f1
 simp [F.f1]
 exact hQ
theorem S.f53 (hE:Fold E) (hg:H.get b=arrO u16 d tail f) (hn:d.size=n) (hsz:n<2 ^ 60) (a e:Nat) (hae:a<=e) (he:e<=n)
  (hQ:∀ H',SortTo H b u16 tail f (insertionSort lt16 d a e) H'->Q (.tuple #[]) H'):E.call (E.fid i.f53) [slc b 0 n c,vi a,vi e] H Q:=by
 apply hE.f53
 simp only [F.f53,tk_eq]
 rw [i64_succ a (by omega),opt_some]
 unfold insertionSort at hQ
 obtain ⟨R,hR⟩:∃ R,R=insOuter lt16 a e (a+1) d:=⟨_,rfl⟩
 rw [<- hR] at hQ
 refine LoopL.ind (fun m l H'=>∃ (j:Nat) (d':Array (BitVec 16)),l=[slc b 0 n c,vi a,vi e,vi j]/\SortTo H b u16 tail f d' H'/\d'.size=n/\R=insOuter lt16 a e j d'/\a<j/\m=e - j) ?_ (e - (a+1)) ⟨a+1,d,rfl,.refl hg,hn,hR,by omega,rfl⟩
 rintro m _ H1 X hX ⟨j,d1,rfl,s1,n1,r1,haj,rfl⟩
 unfold insOuter at r1
 by_cases hj:j<e
 ·rw [if_pos hj] at r1
  have hj':(j:Int)<e:=by omega
  simp [F.f53_l1,hj']
  refine LoopL.ind (fun m l H2=>∃ (k:Nat) (d2:Array (BitVec 16)),l=[slc b 0 n c,vi a,vi e,vi j,vi k]/\SortTo H b u16 tail f d2 H2/\d2.size=n/\insInner lt16 a j d1=insInner lt16 a k d2/\k<=j/\m=k) ?_ j ⟨j,d1,rfl,s1,n1,rfl,Nat.le_refl _,rfl⟩
  rintro m _ H2 X1 hX1 ⟨k,d2,rfl,s2,n2,r2,hkj,rfl⟩
  have done:insInner lt16 a m d2=d2->∀ l,l=[slc b 0 n c,vi a,vi e,vi ((j+1:Nat):Int)]->X l H2:=by
   rintro e2 l rfl
   rw [e2] at r2
   rw [r2] at r1
   exact hX (e - (j+1)) (by omega) _ _ ⟨j+1,d2,rfl,s2,n2,r1,by omega,rfl⟩
  by_cases hka:a<m
  ·obtain ⟨k,rfl⟩:∃ k,m=k+1:=⟨m - 1,by omega⟩
   have hka':(a:Int)<((k+1:Nat):Int):=by omega
   have f1:=arr_ix (b:=b) (c:=c) (n:=n) (i:=k+1) (by omega)
   have f2:=arr_ix (b:=b) (c:=c) (n:=n) (i:=k) (by omega)
   have g1:=arr_load s2.get (i:=k+1) (by omega)
   have g2:=arr_load s2.get (i:=k) (by omega)
   have hd:binInt .sub (vi ((k+1:Nat):Int)) (.int .i64 1)=some (vi (k:Int)):=i64_dec (k+1) (by omega) (by omega)
   obtain ⟨w1,w2⟩:=arr_swap enc_inode_Number_plain s2.get (i:=k+1) (j:=k) (by omega) (by omega)
   have hjj:=i64_succ j (by omega)
   simp only [insInner,hka,decide_true,Bool.true_and] at r2 done
   generalize hk1:k+1=k1 at *
   simp [-store1_ptr,-load1_ptr,F.f53_l2,hka',f1,f2,g1,g2,hd]
   refine S.f0 hE _ _ ?_
   by_cases hl:lt16 d2[k1]! d2[k]! = true
   ·simp only [hl,if_true] at r2
    simp [-store1_ptr,-load1_ptr,hl,f1,f2,g1,g2,hd,w1,w2]
    exact hX1 k (by omega) _ _ ⟨k,_,rfl,s2.put _,by rw [size_swp]; exact n2,r2,by omega,rfl⟩
   ·simp only [hl,if_false] at done
    simp [-store1_ptr,-load1_ptr,hl,hjj]
    exact done rfl _ rfl
  ·have hka':¬ (a:Int)<(m:Int):=by omega
   have hjj:=i64_succ j (by omega)
   simp [-store1_ptr,-load1_ptr,F.f53_l2,hka',hjj]
   refine done ?_ _ rfl
   cases m with
   | zero=>rfl
   | succ k=>simp [insInner,hka]
 ·rw [if_neg hj] at r1
  subst r1
  have hj':¬ (j:Int)<e:=by omega
  simp [F.f53_l1,hj']
  exact hQ _ s1
theorem S.f63 (hE:Fold E) (hg:H.get b=arrO u16 d tail f) (hn:d.size=n) (hsz:n<2 ^ 60) (lo hi first:Nat) (hlo:lo<=n) (hf:first+hi<=n)
  (hQ:∀ H',SortTo H b u16 tail f (siftDown lt16 hi first lo d) H'->Q (.tuple #[]) H'):E.call (E.fid i.f63) [slc b 0 n c,vi lo,vi hi,vi first] H Q:=by
 apply hE.f63
 simp only [F.f63,tk_eq]
 obtain ⟨R,hR⟩:∃ R,R=siftDown lt16 hi first lo d:=⟨_,rfl⟩
 rw [<- hR] at hQ
 refine LoopL.ind (fun m l H'=>∃ (r:Nat) (d':Array (BitVec 16)),l=[slc b 0 n c,vi hi,vi first,vi r]/\SortTo H b u16 tail f d' H'/\d'.size=n/\R=siftDown lt16 hi first r d'/\r<=n/\m=hi - r) ?_ (hi - lo) ⟨lo,d,rfl,.refl hg,hn,hR,hlo,rfl⟩
 rintro m _ H1 X hX ⟨r,d1,rfl,s1,n1,r1,hr,rfl⟩
 have a1:=i64_dbl r (by omega)
 have a2:=i64_succ (2*r) (by omega)
 have a3:=i64_succ (2*r+1) (by omega)
 have step:∀ ch:Nat,r<ch->ch<hi->R=(if !lt16 d1[first+r]! d1[first+ch]! then d1 else siftDown lt16 hi first ch (swp d1 (first+r) (first+ch)))->F.f63_j1 E Q X (slc b 0 n c) (vi hi) (vi first) (vi r) (vi ch) H1:=by
  intro ch h1 h2 hR'
  have b1:=i64_add_nat first r (by omega)
  have b2:=i64_add_nat first ch (by omega)
  have f1:=arr_ix (b:=b) (c:=c) (n:=n) (i:=first+r) (by omega)
  have f2:=arr_ix (b:=b) (c:=c) (n:=n) (i:=first+ch) (by omega)
  have g1:=arr_load s1.get (i:=first+r) (by omega)
  have g2:=arr_load s1.get (i:=first+ch) (by omega)
  obtain ⟨w1,w2⟩:=arr_swap enc_inode_Number_plain s1.get (i:=first+r) (j:=first+ch) (by omega) (by omega)
  generalize hp:first+r=p at *
  generalize hq:first+ch=q at *
  simp [-store1_ptr,-load1_ptr,F.f63_j1,b1,b2,f1,f2,g1,g2]
  refine S.f0 hE _ _ ?_
  by_cases hl:lt16 d1[p]! d1[q]! = true
  ·simp only [hl,Bool.not_true,Bool.false_eq_true,if_false] at hR'
   simp [-store1_ptr,-load1_ptr,hl,b1,b2,f1,f2,g1,g2,w1,w2]
   exact hX (hi - ch) (by omega) _ _ ⟨ch,_,rfl,s1.put _,by rw [size_swp]; exact n1,hR',by omega,rfl⟩
  ·have hl:lt16 d1[p]! d1[q]! = false:=by simpa using hl
   simp only [hl,Bool.not_false,if_true] at hR'
   subst hR'
   simp [-store1_ptr,-load1_ptr,hl]
   exact hQ _ s1
 rw [siftDown] at r1
 by_cases c1:2*r+1>=hi
 ·rw [dif_pos c1] at r1
  subst r1
  have c1':(hi:Int)<=((2*r+1:Nat):Int):=by omega
  generalize 2*r+1=ch at *
  generalize 2*r=rr at *
  simp [F.f63_l1,a1,a2,c1']
  exact hQ _ s1
 rw [dif_neg c1] at r1
 have c1':¬ (hi:Int)<=((2*r+1:Nat):Int):=by omega
 have b1:=i64_add_nat first (2*r+1) (by omega)
 have b2:=i64_succ (first+(2*r+1)) (by omega)
 by_cases c2:2*r+1+1<hi
 ·have c2':((2*r+1+1:Nat):Int)<hi:=by omega
  have f1:=arr_ix (b:=b) (c:=c) (n:=n) (i:=first+(2*r+1)) (by omega)
  have f2:=arr_ix (b:=b) (c:=c) (n:=n) (i:=first+(2*r+1)+1) (by omega)
  have g1:=arr_load s1.get (i:=first+(2*r+1)) (by omega)
  have g2:=arr_load s1.get (i:=first+(2*r+1)+1) (by omega)
  have st1:=step (2*r+1) (by omega) (by omega)
  have st2:=step (2*r+1+1) (by omega) c2
  rw [dif_pos (by omega:2*r+2<hi)] at r1
  simp only [c2,decide_true,Bool.true_and] at r1
  rw [show 2*r+2=2*r+1+1 by omega] at r1
  generalize hq2:first+(2*r+1)+1=q2 at *
  generalize hq:first+(2*r+1)=q at *
  generalize hc2:2*r+1+1=ch2 at *
  generalize hc1:2*r+1=ch at *
  generalize 2*r=rr at *
  simp [-store1_ptr,-load1_ptr,F.f63_l1,a1,a2,a3,c1',c2',b1,b2,f1,f2,g1,g2]
  refine S.f0 hE _ _ ?_
  by_cases hl:lt16 d1[q]! d1[q2]! = true
  ·simp only [hl,if_true] at r1
   simp [hl,a3]
   exact st2 r1
  ·simp only [hl,if_false] at r1
   simp [hl]
   exact st1 r1
 ·have c2':¬ ((2*r+1+1:Nat):Int)<hi:=by omega
  have st1:=step (2*r+1) (by omega) (by omega)
  simp only [c2,decide_false,Bool.false_and,Bool.false_eq_true,if_false] at r1
  generalize hc2:2*r+1+1=ch2 at *
  generalize hc1:2*r+1=ch at *
  generalize 2*r=rr at *
  simp [-store1_ptr,-load1_ptr,F.f63_l1,a1,a2,a3,c1',c2']
  exact st1 r1
theorem size_siftDown_inode_Number (hi first r:Nat) (d:Array (BitVec 16)):(siftDown lt16 hi first r d).size=d.size:=by
 obtain ⟨m,hm⟩:∃ m,hi - r<=m:=⟨_,Nat.le_refl _⟩
 induction m generalizing r d with
 | zero =>
  rw [siftDown,dif_pos (by omega)]
 | succ m ih =>
  rw [siftDown]
  split
  ·rfl
  ·split
   ·split
    ·rfl
    ·split
     ·rw [ih _ _ (by omega),size_swp]
     ·rfl
   ·split
    ·rfl
    ·rw [ih _ _ (by omega),size_swp]
theorem S.f52 (hE:Fold E) (hg:H.get b=arrO u16 d tail f) (hn:d.size=n) (hsz:n<2 ^ 60) (a e:Nat) (hae:a<e) (he:e<=n)
  (hQ:∀ H',SortTo H b u16 tail f (heapSort lt16 d a e) H'->Q (.tuple #[]) H'):E.call (E.fid i.f52) [slc b 0 n c,vi a,vi e] H Q:=by
 apply hE.f52
 have a1:=i64_sub_nat e a (by omega) (by omega)
 have a2:=i64_dec (e - a) (by omega) (by omega)
 have a3:=i64_quo_num (e - a - 1) 2 (by decide) (by omega)
 unfold heapSort at hQ
 have a1':binInt .sub (vi e) (vi a)=some (vi ((e - a:Nat):Int)):=a1
 generalize hw:e - a=w at *
 have a3':binInt .quo (vi ((w - 1:Nat):Int)) (.int .i64 2)=some (vi (((w - 1) / 2:Nat):Int)):=a3
 generalize hw1:w - 1=w1 at *
 generalize hh:w1 / 2=h2 at *
 have hh2:h2<=w1:=by rw [<- hh]; exact Nat.div_le_self _ _
 simp only [F.f52,a1',a2,a3',tk_eq,opt_some]
 obtain ⟨R,hR⟩:∃ R,R=heapPop lt16 a w (heapBuild lt16 w a (h2+1) d):=⟨_,rfl⟩
 rw [<- hR] at hQ
 refine LoopL.ind (fun m l H'=>∃ (k:Nat) (d':Array (BitVec 16)),l=[slc b 0 n c,vi a,vi 0,vi w,vi ((k:Int) - 1)]/\SortTo H b u16 tail f d' H'/\d'.size=n/\R=heapPop lt16 a w (heapBuild lt16 w a k d')/\k<=w/\m=k) ?_ (h2+1) ⟨h2+1,d,by simp,.refl hg,hn,hR,by omega,rfl⟩
 rintro m _ H1 X hX ⟨k,d1,rfl,s1,n1,r1,hk,rfl⟩
 cases m with
 | succ k =>
  have e1:((k+1:Nat):Int) - 1=(k:Int):=by omega
  have hd:binInt .sub (vi k) (.int .i64 1)=some (vi ((k:Int) - 1)):=i64_sub (by omega) (by omega)
  rw [e1]
  simp [F.f52_l1]
  refine S.f63 hE s1.get n1 hsz k w a (by omega) (by omega) fun H2 s2 =>?_
  simp only [hd,tk_eq,opt_some]
  exact hX k (by omega) _ _ ⟨k,_,rfl,s1.trans s2,by rw [size_siftDown_inode_Number]; exact n1,by rw [r1]; rfl,by omega,rfl⟩
 | zero =>
  have hd:binInt .sub (vi w) (.int .i64 1)=some (vi ((w:Int) - 1)):=i64_sub (by omega) (by omega)
  simp [F.f52_l1,hd]
  clear hX
  refine LoopL.ind (fun m l H'=>∃ (k:Nat) (d':Array (BitVec 16)),l=[slc b 0 n c,vi a,vi 0,vi ((k:Int) - 1)]/\SortTo H b u16 tail f d' H'/\d'.size=n/\R=heapPop lt16 a k d'/\k<=w/\m=k) ?_ w ⟨w,d1,rfl,s1,n1,r1,Nat.le_refl _,rfl⟩
  rintro m _ H2 X hX ⟨k,d2,rfl,s2,n2,r2,hk,rfl⟩
  cases m with
  | succ k =>
   have e1:((k+1:Nat):Int) - 1=(k:Int):=by omega
   have hd:binInt .sub (vi k) (.int .i64 1)=some (vi ((k:Int) - 1)):=i64_sub (by omega) (by omega)
   have b1:=i64_add_nat a k (by omega)
   have f1:=arr_ix (b:=b) (c:=c) (n:=n) (i:=a) (by omega)
   have f2:=arr_ix (b:=b) (c:=c) (n:=n) (i:=a+k) (by omega)
   have g1:=arr_load s2.get (i:=a) (by omega)
   have g2:=arr_load s2.get (i:=a+k) (by omega)
   obtain ⟨w1,w2⟩:=arr_swap enc_inode_Number_plain s2.get (i:=a) (j:=a+k) (by omega) (by omega)
   rw [e1]
   rw [heapPop] at r2
   generalize hq:a+k=q at *
   simp [-store1_ptr,-load1_ptr,F.f52_l2,b1,f1,f2,g1,g2,w1,w2]
   have s3:=s2.put (swp d2 a q)
   refine S.f63 hE s3.get (by rw [size_swp]; exact n2) hsz 0 k a (by omega) (by omega) fun H3 s4 =>?_
   simp only [hd,tk_eq,opt_some]
   exact hX k (by omega) _ _ ⟨k,_,rfl,s3.trans s4,by rw [size_siftDown_inode_Number,size_swp]; exact n2,r2,by omega,rfl⟩
  | zero =>
   simp [F.f52_l2]
   rw [heapPop] at r2
   subst r2
   exact hQ _ s2
theorem S.f62 (hE:Fold E) (hg:H.get b=arrO u16 d tail f) (hn:d.size=n) (hsz:n<2 ^ 60) (a e:Nat) (hae:a<e) (he:e<=n)
  (hQ:∀ H',SortTo H b u16 tail f (reverseRange d a e) H'->Q (.tuple #[]) H'):E.call (E.fid i.f62) [slc b 0 n c,vi a,vi e] H Q:=by
 apply hE.f62
 have a1:=i64_dec e (by omega) (by omega)
 unfold reverseRange at hQ
 simp only [F.f62,a1,tk_eq,opt_some]
 obtain ⟨R,hR⟩:∃ R,R=reverseLoop a (e - 1) d:=⟨_,rfl⟩
 rw [<- hR] at hQ
 refine LoopL.ind (fun m l H'=>∃ (p q:Nat) (d':Array (BitVec 16)),l=[slc b 0 n c,vi p,vi q]/\SortTo H b u16 tail f d' H'/\d'.size=n/\R=reverseLoop p q d'/\p<=n/\q<n/\m=q - p) ?_ (e - 1 - a) ⟨a,e - 1,d,rfl,.refl hg,hn,hR,by omega,by omega,rfl⟩
 rintro m _ H1 X hX ⟨p,q,d1,rfl,s1,n1,r1,hp,hq,rfl⟩
 rw [reverseLoop] at r1
 by_cases h:p<q
 ·rw [if_pos h] at r1
  have h':(p:Int)<q:=by omega
  have f1:=arr_ix (b:=b) (c:=c) (n:=n) (i:=p) (by omega)
  have f2:=arr_ix (b:=b) (c:=c) (n:=n) (i:=q) (by omega)
  have g1:=arr_load s1.get (i:=p) (by omega)
  have g2:=arr_load s1.get (i:=q) (by omega)
  obtain ⟨w1,w2⟩:=arr_swap enc_inode_Number_plain s1.get (i:=p) (j:=q) (by omega) (by omega)
  have b1:=i64_succ p (by omega)
  have b2:=i64_dec q (by omega) (by omega)
  simp [-store1_ptr,-load1_ptr,F.f62_l1,h',f1,f2,g1,g2,w1,w2,b1,b2]
  exact hX (q - 1 - (p+1)) (by omega) _ _ ⟨p+1,q - 1,_,rfl,s1.put _,by rw [size_swp]; exact n1,r1,by omega,by omega,rfl⟩
 ·rw [if_neg h] at r1
  subst r1
  have h':¬ (p:Int)<q:=by omega
  simp [F.f62_l1,h']
  exact hQ _ s1
theorem S.f60 (hE:Fold E) (hg:H.get b=arrO u16 d tail f) (hn:d.size=n) (hsz:n<2 ^ 60) (a e pivot:Nat) (h1:a<=pivot) (h2:pivot<e) (he:e<=n)
  (hQ:∀ H',SortTo H b u16 tail f (partition lt16 d a e pivot).2.2 H'->Q (.tuple #[vi (partition lt16 d a e pivot).1,vb (partition lt16 d a e pivot).2.1]) H'):E.call (E.fid i.f60) [slc b 0 n c,vi a,vi e,vi pivot] H Q:=by
 apply hE.f60
 have f1:=arr_ix (b:=b) (c:=c) (n:=n) (i:=a) (by omega)
 have f2:=arr_ix (b:=b) (c:=c) (n:=n) (i:=pivot) (by omega)
 have g1:=arr_load hg (i:=a) (by omega)
 have g2:=arr_load hg (i:=pivot) (by omega)
 obtain ⟨w1,w2⟩:=arr_swap enc_inode_Number_plain hg (i:=a) (j:=pivot) (by omega) (by omega)
 have b1:=i64_succ a (by omega)
 have b2:=i64_dec e (by omega) (by omega)
 simp only [F.f60,f1,f2,g1,g2,w1,w2,b1,b2,tk_eq,opt_some]
 have s0:=(SortTo.refl hg).put (swp d a pivot)
 have n0:(swp d a pivot).size=n:=by rw [size_swp]; exact hn
 unfold partition at hQ
 generalize hd0:swp d a pivot=d0 at *
 generalize hH0:H.put b (arrO u16 d0 tail f)=H0 at *
 simp only at hQ
 obtain ⟨I,hI⟩:∃ I,I=scanUp (fun x=>lt16 x d0[a]!) d0 (e - 1) (a+1):=⟨_,rfl⟩
 rw [<- hI] at hQ
 obtain ⟨J,hJ⟩:∃ J,J=scanDown (fun x => !lt16 x d0[a]!) d0 I (e - 1):=⟨_,rfl⟩
 rw [<- hJ] at hQ
 have hIl:=sUp_le (fun x=>lt16 x d0[a]!) d0 (e - 1) _ (a+1) (Nat.le_refl _)
 rw [<- hI] at hIl
 have hJl:=sDown_le (fun x => !lt16 x d0[a]!) d0 I (e - 1)
 rw [<- hJ] at hJl
 refine LoopL.ind (fun m l H'=>H0=H'/\∃ p:Nat,l=[slc b 0 n c,vi a,vi p,vi ((e - 1:Nat):Int)]/\I=scanUp (fun x=>lt16 x d0[a]!) d0 (e - 1) p/\a+1<=p/\p<=e/\m=e - p) ?_ (e - (a+1)) ⟨rfl,a+1,rfl,hI,Nat.le_refl _,by omega,rfl⟩
 rintro m _ _ X hX ⟨rfl,p,rfl,r1,hp1,hp2,rfl⟩
 rw [scanUp] at r1
 have exit1:I=p->LoopL (fun l H X0=>F.f60_l2 E Q (nth l 0) (nth l 1) (nth l 2) (nth l 3) H X0) [slc b 0 n c,vi a,vi p,vi ((e - 1:Nat):Int)] H0:=by
  rintro rfl
  clear hX r1
  refine LoopL.ind (fun m l H'=>H0=H'/\∃ q:Nat,l=[slc b 0 n c,vi a,vi I,vi q]/\J=scanDown (fun x => !lt16 x d0[a]!) d0 I q/\q<=e - 1/\I<=q+1/\m=q) ?_ (e - 1) ⟨rfl,e - 1,rfl,hJ,Nat.le_refl _,by omega,rfl⟩
  rintro m _ _ X hX ⟨rfl,q,rfl,r1,hq1,hq2,rfl⟩
  have exit2:J=m->F.f60_l2 E Q (slc b 0 n c) (vi a) (vi I) (vi m) H0 X:=by
   rintro rfl
   clear hX
   have f1:=arr_ix (b:=b) (c:=c) (n:=n) (i:=a) (by omega)
   have f2:=arr_ix (b:=b) (c:=c) (n:=n) (i:=J) (by omega)
   have g1:=arr_load s0.get (i:=a) (by omega)
   have g2:=arr_load s0.get (i:=J) (by omega)
   obtain ⟨w1,w2⟩:=arr_swap enc_inode_Number_plain s0.get (i:=J) (j:=a) (by omega) (by omega)
   by_cases hij:I<=J
   ·have hij':(I:Int)<=J:=by omega
    have hij'':¬ (J:Int)<I:=by omega
    have hnl:lt16 d0[J]! d0[a]! = true:=by
     cases J with
     | zero=>omega
     | succ q =>
      rw [scanDown] at r1
      split at r1
      ·have:=sDown_le (fun x => !lt16 x d0[a]!) d0 I q
       omega
      ·rename_i hc
       simp at hc
       exact hc (by omega)
    have f3:=arr_ix (b:=b) (c:=c) (n:=n) (i:=I) (by omega)
    have g3:=arr_load s0.get (i:=I) (by omega)
    obtain ⟨w3,w4⟩:=arr_swap enc_inode_Number_plain s0.get (i:=I) (j:=J) (by omega) (by omega)
    have b3:=i64_succ I (by omega)
    have b4:=i64_dec J (by omega) (by omega)
    simp [-store1_ptr,-load1_ptr,F.f60_l2,hij',f1,f2,g1,g2]
    refine S.f0 hE _ _ ?_
    simp [-store1_ptr,-load1_ptr,hnl,hij'',f1,f2,f3,g1,g2,g3,w3,w4,b3,b4]
    rw [if_neg (by omega)] at hQ
    have s1:=s0.put (swp d0 I J)
    have n1:(swp d0 I J).size=n:=by rw [size_swp]; exact n0
    generalize hd1:swp d0 I J=d1 at *
    simp only at hQ
    obtain ⟨R,hR⟩:∃ R,R=partLoop lt16 a (I+1) (J - 1) d1:=⟨_,rfl⟩
    rw [<- hR] at hQ
    refine LoopL.ind (fun m l H'=>∃ (p q:Nat) (d2:Array (BitVec 16)),l=[slc b 0 n c,vi a,vi p,vi q]/\SortTo H b u16 tail f d2 H'/\d2.size=n/\R=partLoop lt16 a p q d2/\a+1<=p/\p<=q+1+1/\p<=e/\q<=e - 1/\a<=q/\m=q+1 - p) ?_ (J - 1+1 - (I+1)) ⟨I+1,J - 1,d1,rfl,s1,n1,hR,by omega,by omega,by omega,by omega,by omega,rfl⟩
    clear hR s1 n1 hd1 w1 w2 w3 w4
    rintro m _ H2 X3 hX3 ⟨p,q,d2,rfl,s2,n2,r2,hp1,hp2,hpe,hq1,hqa,rfl⟩
    rw [partLoop] at r2
    simp only [F.f60_l3,nth_0,nth_1,nth_2,nth_3]
    obtain ⟨I2,hI2⟩:∃ I,I=scanUp (fun x=>lt16 x d2[a]!) d2 q p:=⟨_,rfl⟩
    obtain ⟨J2,hJ2⟩:∃ J,J=scanDown (fun x => !lt16 x d2[a]!) d2 I2 q:=⟨_,rfl⟩
    rw [<- hI2] at r2
    try simp only at r2
    rw [<- hJ2] at r2
    have hIl2:=sUp_le (fun x=>lt16 x d2[a]!) d2 q _ p (Nat.le_refl _)
    rw [<- hI2] at hIl2
    have hJl2:=sDown_le (fun x => !lt16 x d2[a]!) d2 I2 q
    rw [<- hJ2] at hJl2
    have hI2e:I2<=q+1\/(I2=p/\q+1<p):=by
     by_cases h:p<=q+1
     ·exact .inl (hIl2.2 h)
     ·refine .inr ⟨?_,by omega⟩
      rw [hI2,scanUp,if_neg (by simp; omega)]
    have hJ2e:I2<=q+1\/J2=q:=by
     rcases hI2e with h | ⟨h,h'⟩
     ·exact .inl h
     ·right
      rw [hJ2]
      cases q with
      | zero=>rfl
      | succ q=>rw [scanDown,if_neg (by simp; omega)]
    refine LoopL.ind (fun m l H'=>H2=H'/\∃ p':Nat,l=[slc b 0 n c,vi a,vi p',vi q]/\I2=scanUp (fun x=>lt16 x d2[a]!) d2 q p'/\p<=p'/\p'<=e/\m=q+1 - p') ?_ (q+1 - p) ⟨rfl,p,rfl,hI2,Nat.le_refl _,by omega,rfl⟩
    rintro m _ _ X4 hX4 ⟨rfl,p',rfl,r4,hp3,hp4,rfl⟩
    rw [scanUp] at r4
    have exit4:I2=p'->LoopL (fun l H X1=>F.f60_l5 E Q X3 (nth l 0) (nth l 1) (nth l 2) (nth l 3) H X1) [slc b 0 n c,vi a,vi p',vi q] H2:=by
     rintro rfl
     clear hX4 r4
     refine LoopL.ind (fun m l H'=>H2=H'/\∃ q':Nat,l=[slc b 0 n c,vi a,vi I2,vi q']/\J2=scanDown (fun x => !lt16 x d2[a]!) d2 I2 q'/\q'<=q/\m=q') ?_ q ⟨rfl,q,rfl,hJ2,Nat.le_refl _,rfl⟩
     rintro m _ _ X5 hX5 ⟨rfl,q',rfl,r5,hq3,rfl⟩
     have exit5:J2=m->F.f60_l5 E Q X3 (slc b 0 n c) (vi a) (vi I2) (vi m) H2 X5:=by
      rintro rfl
      clear hX5
      have f2:=arr_ix (b:=b) (c:=c) (n:=n) (i:=J2) (by omega)
      have g1:=arr_load s2.get (i:=a) (by omega)
      have g2:=arr_load s2.get (i:=J2) (by omega)
      by_cases hij:I2<=J2
      ·have hij':(I2:Int)<=J2:=by omega
       have hij'':¬ (J2:Int)<I2:=by omega
       have hnl:lt16 d2[J2]! d2[a]! = true:=by
        cases J2 with
        | zero=>omega
        | succ q' =>
         rw [scanDown] at r5
         split at r5
         ·have:=sDown_le (fun x => !lt16 x d2[a]!) d2 I2 q'
          omega
         ·rename_i hc
          simp at hc
          exact hc (by omega)
       have f3:=arr_ix (b:=b) (c:=c) (n:=n) (i:=I2) (by omega)
       have g3:=arr_load s2.get (i:=I2) (by omega)
       obtain ⟨w3,w4⟩:=arr_swap enc_inode_Number_plain s2.get (i:=I2) (j:=J2) (by omega) (by omega)
       have b3:=i64_succ I2 (by omega)
       have b4:=i64_dec J2 (by omega) (by omega)
       simp [-store1_ptr,-load1_ptr,F.f60_l5,hij',f1,f2,g1,g2]
       refine S.f0 hE _ _ ?_
       simp [-store1_ptr,-load1_ptr,hnl,hij'',f1,f2,f3,g1,g2,g3,w3,w4,b3,b4]
       rw [if_neg (by omega),dif_pos (by omega)] at r2
       exact hX3 (J2 - 1+1 - (I2+1)) (by omega) _ _ ⟨I2+1,J2 - 1,_,rfl,s2.put _,by rw [size_swp]; exact n2,r2,by omega,by omega,by omega,by omega,by omega,rfl⟩
      ·have hij':¬ (I2:Int)<=J2:=by omega
       have hij'':(J2:Int)<I2:=by omega
       rw [if_pos (by omega)] at r2
       subst r2
       obtain ⟨w1,w2⟩:=arr_swap enc_inode_Number_plain s2.get (i:=J2) (j:=a) (by omega) (by omega)
       simp [-store1_ptr,-load1_ptr,F.f60_l5,hij',hij'',f1,f2,g1,g2,w1,w2]
       exact hQ _ (s2.put _)
     cases m with
     | zero=>exact exit5 r5
     | succ q' =>
      by_cases hc:I2<=q'+1/\lt16 d2[q'+1]! d2[a]! = false
      ·rw [scanDown,if_pos (by simp [hc.1,hc.2])] at r5
       have hc':(I2:Int)<=((q'+1:Nat):Int):=by omega
       have f2:=arr_ix (b:=b) (c:=c) (n:=n) (i:=q'+1) (by omega)
       have g1:=arr_load s2.get (i:=a) (by omega)
       have g2:=arr_load s2.get (i:=q'+1) (by omega)
       have b4:binInt .sub (vi ((q'+1:Nat):Int)) (.int .i64 1)=some (vi (q':Int)):=i64_dec (q'+1) (by omega) (by omega)
       have hlt:=hc.2
       generalize hqq:q'+1=qq at *
       simp [-store1_ptr,-load1_ptr,F.f60_l5,hc',f1,f2,g1,g2]
       refine S.f0 hE _ _ ?_
       simp [-store1_ptr,-load1_ptr,hlt,b4]
       exact hX5 q' (by omega) _ _ ⟨rfl,q',rfl,r5,by omega,rfl⟩
      ·rw [scanDown,if_neg (by simpa using hc)] at r5
       exact exit5 r5
    by_cases hc:p'<=q/\lt16 d2[p']! d2[a]! = true
    ·rw [if_pos (by simp [hc.1,hc.2])] at r4
     have hc':(p':Int)<=q:=by omega
     have f2:=arr_ix (b:=b) (c:=c) (n:=n) (i:=p') (by omega)
     have g1:=arr_load s2.get (i:=a) (by omega)
     have g2:=arr_load s2.get (i:=p') (by omega)
     have b3:=i64_succ p' (by omega)
     simp [-store1_ptr,-load1_ptr,F.f60_l4,hc',f1,f2,g1,g2]
     refine S.f0 hE _ _ ?_
     simp [-store1_ptr,-load1_ptr,hc.2,b3]
     exact hX4 (q+1 - (p'+1)) (by omega) _ _ ⟨rfl,p'+1,rfl,r4,by omega,by omega,rfl⟩
    ·rw [if_neg (by simpa using hc)] at r4
     by_cases hpq:p'<=q
     ·have hc':(p':Int)<=q:=by omega
      have hlt:lt16 d2[p']! d2[a]! = false:=by simpa using fun h=>hc ⟨hpq,h⟩
      have f2:=arr_ix (b:=b) (c:=c) (n:=n) (i:=p') (by omega)
      have g1:=arr_load s2.get (i:=a) (by omega)
      have g2:=arr_load s2.get (i:=p') (by omega)
      simp [-store1_ptr,-load1_ptr,F.f60_l4,hc',f1,f2,g1,g2]
      refine S.f0 hE _ _ ?_
      simp [-store1_ptr,-load1_ptr,hlt]
      exact exit4 r4
     ·have hc':¬ (p':Int)<=q:=by omega
      simp [-store1_ptr,-load1_ptr,F.f60_l4,hc']
      exact exit4 r4
   ·have hij':¬ (I:Int)<=J:=by omega
    have hij'':(J:Int)<I:=by omega
    simp [-store1_ptr,-load1_ptr,F.f60_l2,hij',hij'',f1,f2,g1,g2,w1,w2]
    rw [if_pos (by omega)] at hQ
    exact hQ _ (s0.put _)
  cases m with
  | zero=>exact exit2 r1
  | succ q =>
   by_cases hc:I<=q+1/\lt16 d0[q+1]! d0[a]! = false
   ·rw [scanDown,if_pos (by simp [hc.1,hc.2])] at r1
    have hc':(I:Int)<=((q+1:Nat):Int):=by omega
    have f2:=arr_ix (b:=b) (c:=c) (n:=n) (i:=q+1) (by omega)
    have g1:=arr_load s0.get (i:=a) (by omega)
    have g2:=arr_load s0.get (i:=q+1) (by omega)
    have b4:binInt .sub (vi ((q+1:Nat):Int)) (.int .i64 1)=some (vi (q:Int)):=i64_dec (q+1) (by omega) (by omega)
    have hlt:=hc.2
    generalize hqq:q+1=qq at *
    simp [-store1_ptr,-load1_ptr,F.f60_l2,hc',f1,f2,g1,g2]
    refine S.f0 hE _ _ ?_
    simp [-store1_ptr,-load1_ptr,hlt,b4]
    exact hX q (by omega) _ _ ⟨rfl,q,rfl,r1,by omega,by omega,rfl⟩
   ·rw [scanDown,if_neg (by simpa using hc)] at r1
    exact exit2 r1
 by_cases hc:p<=e - 1/\lt16 d0[p]! d0[a]! = true
 ·rw [if_pos (by simp [hc.1,hc.2])] at r1
  have hc':(p:Int)<=((e - 1:Nat):Int):=by omega
  have f2:=arr_ix (b:=b) (c:=c) (n:=n) (i:=p) (by omega)
  have g1:=arr_load s0.get (i:=a) (by omega)
  have g2:=arr_load s0.get (i:=p) (by omega)
  have b3:=i64_succ p (by omega)
  generalize he1:e - 1=e1 at *
  simp [-store1_ptr,-load1_ptr,F.f60_l1,hc',f1,f2,g1,g2]
  refine S.f0 hE _ _ ?_
  simp [-store1_ptr,-load1_ptr,hc.2,b3]
  exact hX (e - (p+1)) (by omega) _ _ ⟨rfl,p+1,rfl,r1,by omega,by omega,rfl⟩
 ·rw [if_neg (by simpa using hc)] at r1
  have exit1:=exit1 r1
  by_cases hpq:p<=e - 1
  ·have hc':(p:Int)<=((e - 1:Nat):Int):=by omega
   have hlt:lt16 d0[p]! d0[a]! = false:=by simpa using fun h=>hc ⟨hpq,h⟩
   have f2:=arr_ix (b:=b) (c:=c) (n:=n) (i:=p) (by omega)
   have g1:=arr_load s0.get (i:=a) (by omega)
   have g2:=arr_load s0.get (i:=p) (by omega)
   generalize he1:e - 1=e1 at *
   simp [-store1_ptr,-load1_ptr,F.f60_l1,hc',f1,f2,g1,g2]
   refine S.f0 hE _ _ ?_
   simp [-store1_ptr,-load1_ptr,hlt]
   exact exit1
  ·have hc':¬ (p:Int)<=((e - 1:Nat):Int):=by omega
   generalize he1:e - 1=e1 at *
   simp [-store1_ptr,-load1_ptr,F.f60_l1,hc']
   exact exit1
theorem S.f59 (hE:Fold E) (hg:H.get b=arrO u16 d tail f) (hn:d.size=n) (hsz:n<2 ^ 60) (a e pivot:Nat) (h1:a<=pivot) (h2:pivot<e) (he:e<=n)
  (hQ:∀ H',SortTo H b u16 tail f (partitionEqual lt16 d a e pivot).2 H'->Q (vi (partitionEqual lt16 d a e pivot).1) H'):E.call (E.fid i.f59) [slc b 0 n c,vi a,vi e,vi pivot] H Q:=by
 apply hE.f59
 have f1:=arr_ix (b:=b) (c:=c) (n:=n) (i:=a) (by omega)
 have f2:=arr_ix (b:=b) (c:=c) (n:=n) (i:=pivot) (by omega)
 have g1:=arr_load hg (i:=a) (by omega)
 have g2:=arr_load hg (i:=pivot) (by omega)
 obtain ⟨w1,w2⟩:=arr_swap enc_inode_Number_plain hg (i:=a) (j:=pivot) (by omega) (by omega)
 have b1:=i64_succ a (by omega)
 have b2:=i64_dec e (by omega) (by omega)
 simp only [F.f59,f1,f2,g1,g2,w1,w2,b1,b2,tk_eq,opt_some]
 have s0:=(SortTo.refl hg).put (swp d a pivot)
 have n0:(swp d a pivot).size=n:=by rw [size_swp]; exact hn
 unfold partitionEqual at hQ
 generalize hd0:swp d a pivot=d0 at *
 generalize hH0:H.put b (arrO u16 d0 tail f)=H0 at *
 clear w1 w2 f2 g1 g2
 obtain ⟨R,hR⟩:∃ R,R=partEqLoop lt16 a (a+1) (e - 1) d0:=⟨_,rfl⟩
 rw [<- hR] at hQ
 refine LoopL.ind (fun m l H'=>∃ (p q:Nat) (d2:Array (BitVec 16)),l=[slc b 0 n c,vi a,vi p,vi q]/\SortTo H b u16 tail f d2 H'/\d2.size=n/\R=partEqLoop lt16 a p q d2/\a+1<=p/\p<=q+1+1/\p<=e/\q<=e - 1/\a<=q/\m=q+1 - p) ?_ (e - 1+1 - (a+1)) ⟨a+1,e - 1,d0,rfl,s0,n0,hR,by omega,by omega,by omega,by omega,by omega,rfl⟩
 clear hR s0 n0 hd0
 rintro m _ H2 X3 hX3 ⟨p,q,d2,rfl,s2,n2,r2,hp1,hp2,hpe,hq1,hqa,rfl⟩
 rw [partEqLoop] at r2
 simp only [F.f59_l1,nth_0,nth_1,nth_2,nth_3]
 obtain ⟨I2,hI2⟩:∃ I,I=scanUp (fun x => !lt16 d2[a]! x) d2 q p:=⟨_,rfl⟩
 obtain ⟨J2,hJ2⟩:∃ J,J=scanDown (fun x=>lt16 d2[a]! x) d2 I2 q:=⟨_,rfl⟩
 rw [<- hI2] at r2
 try simp only at r2
 rw [<- hJ2] at r2
 have hIl2:=sUp_le (fun x => !lt16 d2[a]! x) d2 q _ p (Nat.le_refl _)
 rw [<- hI2] at hIl2
 have hJl2:=sDown_le (fun x=>lt16 d2[a]! x) d2 I2 q
 rw [<- hJ2] at hJl2
 have hI2e:I2<=q+1\/(I2=p/\q+1<p):=by
  by_cases h:p<=q+1
  ·exact .inl (hIl2.2 h)
  ·refine .inr ⟨?_,by omega⟩
   rw [hI2,scanUp,if_neg (by simp; omega)]
 have hJ2e:I2<=q+1\/J2=q:=by
  rcases hI2e with h | ⟨h,h'⟩
  ·exact .inl h
  ·right
   rw [hJ2]
   cases q with
   | zero=>rfl
   | succ q=>rw [scanDown,if_neg (by simp; omega)]
 refine LoopL.ind (fun m l H'=>H2=H'/\∃ p':Nat,l=[slc b 0 n c,vi a,vi p',vi q]/\I2=scanUp (fun x => !lt16 d2[a]! x) d2 q p'/\p<=p'/\p'<=e/\m=q+1 - p') ?_ (q+1 - p) ⟨rfl,p,rfl,hI2,Nat.le_refl _,by omega,rfl⟩
 rintro m _ _ X4 hX4 ⟨rfl,p',rfl,r4,hp3,hp4,rfl⟩
 rw [scanUp] at r4
 have exit4:I2=p'->LoopL (fun l H X1=>F.f59_l3 E Q X3 (nth l 0) (nth l 1) (nth l 2) (nth l 3) H X1) [slc b 0 n c,vi a,vi p',vi q] H2:=by
  rintro rfl
  clear hX4 r4
  refine LoopL.ind (fun m l H'=>H2=H'/\∃ q':Nat,l=[slc b 0 n c,vi a,vi I2,vi q']/\J2=scanDown (fun x=>lt16 d2[a]! x) d2 I2 q'/\q'<=q/\m=q') ?_ q ⟨rfl,q,rfl,hJ2,Nat.le_refl _,rfl⟩
  rintro m _ _ X5 hX5 ⟨rfl,q',rfl,r5,hq3,rfl⟩
  have exit5:J2=m->F.f59_l3 E Q X3 (slc b 0 n c) (vi a) (vi I2) (vi m) H2 X5:=by
   rintro rfl
   clear hX5
   have f2:=arr_ix (b:=b) (c:=c) (n:=n) (i:=J2) (by omega)
   have g1:=arr_load s2.get (i:=a) (by omega)
   have g2:=arr_load s2.get (i:=J2) (by omega)
   by_cases hij:I2<=J2
   ·have hij':(I2:Int)<=J2:=by omega
    have hij'':¬ (J2:Int)<I2:=by omega
    have hnl:lt16 d2[a]! d2[J2]! = false:=by
     cases J2 with
     | zero=>omega
     | succ q' =>
      rw [scanDown] at r5
      split at r5
      ·have:=sDown_le (fun x=>lt16 d2[a]! x) d2 I2 q'
       omega
      ·rename_i hc
       simp at hc
       exact hc (by omega)
    have f3:=arr_ix (b:=b) (c:=c) (n:=n) (i:=I2) (by omega)
    have g3:=arr_load s2.get (i:=I2) (by omega)
    obtain ⟨w3,w4⟩:=arr_swap enc_inode_Number_plain s2.get (i:=I2) (j:=J2) (by omega) (by omega)
    have b3:=i64_succ I2 (by omega)
    have b4:=i64_dec J2 (by omega) (by omega)
    simp [-store1_ptr,-load1_ptr,F.f59_l3,hij',f1,f2,g1,g2]
    refine S.f0 hE _ _ ?_
    simp [-store1_ptr,-load1_ptr,hnl,hij'',f1,f2,f3,g1,g2,g3,w3,w4,b3,b4]
    rw [if_neg (by omega),dif_pos (by omega)] at r2
    exact hX3 (J2 - 1+1 - (I2+1)) (by omega) _ _ ⟨I2+1,J2 - 1,_,rfl,s2.put _,by rw [size_swp]; exact n2,r2,by omega,by omega,by omega,by omega,by omega,rfl⟩
   ·have hij':¬ (I2:Int)<=J2:=by omega
    have hij'':(J2:Int)<I2:=by omega
    rw [if_pos (by omega)] at r2
    subst r2
    simp [-store1_ptr,-load1_ptr,F.f59_l3,hij',hij'']
    exact hQ _ s2
  cases m with
  | zero=>exact exit5 r5
  | succ q' =>
   by_cases hc:I2<=q'+1/\lt16 d2[a]! d2[q'+1]! = true
   ·rw [scanDown,if_pos (by simp [hc.1,hc.2])] at r5
    have hc':(I2:Int)<=((q'+1:Nat):Int):=by omega
    have f2:=arr_ix (b:=b) (c:=c) (n:=n) (i:=q'+1) (by omega)
    have g1:=arr_load s2.get (i:=a) (by omega)
    have g2:=arr_load s2.get (i:=q'+1) (by omega)
    have b4:binInt .sub (vi ((q'+1:Nat):Int)) (.int .i64 1)=some (vi (q':Int)):=i64_dec (q'+1) (by omega) (by omega)
    have hlt:=hc.2
    generalize hqq:q'+1=qq at *
    simp [-store1_ptr,-load1_ptr,F.f59_l3,hc',f1,f2,g1,g2]
    refine S.f0 hE _ _ ?_
    simp [-store1_ptr,-load1_ptr,hlt,b4]
    exact hX5 q' (by omega) _ _ ⟨rfl,q',rfl,r5,by omega,rfl⟩
   ·rw [scanDown,if_neg (by simpa using hc)] at r5
    exact exit5 r5
 by_cases hc:p'<=q/\lt16 d2[a]! d2[p']! = false
 ·rw [if_pos (by simp [hc.1,hc.2])] at r4
  have hc':(p':Int)<=q:=by omega
  have f2:=arr_ix (b:=b) (c:=c) (n:=n) (i:=p') (by omega)
  have g1:=arr_load s2.get (i:=a) (by omega)
  have g2:=arr_load s2.get (i:=p') (by omega)
  have b3:=i64_succ p' (by omega)
  simp [-store1_ptr,-load1_ptr,F.f59_l2,hc',f1,f2,g1,g2]
  refine S.f0 hE _ _ ?_
  simp [-store1_ptr,-load1_ptr,hc.2,b3]
  exact hX4 (q+1 - (p'+1)) (by omega) _ _ ⟨rfl,p'+1,rfl,r4,by omega,by omega,rfl⟩
 ·rw [if_neg (by simpa using hc)] at r4
  by_cases hpq:p'<=q
  ·have hc':(p':Int)<=q:=by omega
   have hlt:lt16 d2[a]! d2[p']! = true:=by simpa using fun h=>hc ⟨hpq,h⟩
   have f2:=arr_ix (b:=b) (c:=c) (n:=n) (i:=p') (by omega)
   have g1:=arr_load s2.get (i:=a) (by omega)
   have g2:=arr_load s2.get (i:=p') (by omega)
   simp [-store1_ptr,-load1_ptr,F.f59_l2,hc',f1,f2,g1,g2]
   refine S.f0 hE _ _ ?_
   simp [-store1_ptr,-load1_ptr,hlt]
   exact exit4 r4
  ·have hc':¬ (p':Int)<=q:=by omega
   simp [-store1_ptr,-load1_ptr,F.f59_l2,hc']
   exact exit4 r4
theorem S.f58 (hE:Fold E) (hg:H.get b=arrO u16 d tail f) (hn:d.size=n) (hsz:n<2 ^ 60) (a e:Nat) (hae:a<e) (he:e<=n)
    (hQ:∀ H',SortTo H b u16 tail f (partialInsertionSort lt16 d a e).1 H'->Q (vb (partialInsertionSort lt16 d a e).2) H'):E.call (E.fid i.f58) [slc b 0 n c,vi a,vi e] H Q:=by
  apply hE.f58
  have b1:=i64_succ a (by omega)
  simp only [F.f58,b1,tk_eq,opt_some]
  unfold partialInsertionSort at hQ
  obtain ⟨R,hR⟩:∃ R,R=partialIns lt16 a e 5 (a+1) d:=⟨_,rfl⟩
  rw [<- hR] at hQ
  refine LoopL.ind (fun m l H'=>∃ (i:Nat) (d1:Array (BitVec 16)),l=[slc b 0 n c,vi a,vi e,vi i,vi ((5 - m:Nat):Int)]/\SortTo H b u16 tail f d1 H'/\d1.size=n/\R=partialIns lt16 a e m i d1/\a+1<=i/\i<=e/\m<=5) ?_ 5 ⟨a+1,d,rfl,.refl hg,hn,hR,Nat.le_refl _,by omega,Nat.le_refl _⟩
  rintro m _ H1 X hX ⟨i0,d1,rfl,s1,n1,r1,hi1,hi2,hm⟩
  cases m with
  | zero =>
    simp [F.f58_l1]
    rw [partialIns] at r1
    subst r1
    exact hQ _ s1
  | succ m =>
    have hms:((5 - (m+1):Nat):Int)<5:=by omega
    have hmi:binInt .add (vi ((5 - (m+1):Nat):Int)) (.int .i64 1)=some (vi ((5 - m:Nat):Int)):=by
      rw [i64_succ _ (by omega)]; congr 3; omega
    have hX:∀ (i:Nat) (d2:Array (BitVec 16)) H2,SortTo H b u16 tail f d2 H2->d2.size=n->R=partialIns lt16 a e m i d2->a+1<=i->i<=e->X [slc b 0 n c,vi a,vi e,vi i,vi ((5 - m:Nat):Int)] H2:=fun i d2 H2 q1 q2 q3 q4 q5=>hX m (by omega) _ _ ⟨i,d2,rfl,q1,q2,q3,q4,q5,by omega⟩
    generalize hk:5 - (m+1)=k at *
    generalize hk':5 - m=k' at *
    simp [F.f58_l1,hms]
    rw [partialIns_succ] at r1
    obtain ⟨I,hI⟩:∃ I,I=scanSorted lt16 d1 e i0:=⟨_,rfl⟩
    rw [<- hI] at r1
    refine LoopL.ind (fun m l H'=>H1=H'/\∃ i':Nat,l=[slc b 0 n c,vi a,vi e,vi i',vi k]/\I=scanSorted lt16 d1 e i'/\a+1<=i'/\i'<=e/\m=e - i') ?_ (e - i0) ⟨rfl,i0,rfl,hI,hi1,hi2,rfl⟩
    rintro mm _ _ X1 hX1 ⟨rfl,i',rfl,r2,hi3,hi4,rfl⟩
    rw [scanSorted] at r2
    have b2:=i64_sub_nat e a (by omega) (by omega)
    have b2':binInt .sub (vi e) (vi a)=some (vi ((e - a:Nat):Int)):=b2
    have exit:I=i' ->
        (opt (binInt .eql (vi i') (vi e)) fun v15 =>
         ifB v15 (Q (.bool true) H1) (
         opt (binInt .sub (vi e) (vi a)) fun v16 =>
         opt (binInt .lss v16 (.int .i64 50)) fun v17 =>
         ifB v17 (Q (.bool false) H1) (
         opt (binInt .sub (vi i') (.int .i64 1)) fun v18 =>
         opt (binInt .sub (vi i') (.int .i64 1)) fun v19 =>
         opt (ixSlc 1 (slc b 0 n c) v19) fun v20 =>
         opt (load1 v20 H1) fun v21 =>
         opt (ixSlc 1 (slc b 0 n c) (vi i')) fun v22 =>
         opt (load1 v22 H1) fun v23 =>
         opt (ixSlc 1 (slc b 0 n c) (vi i')) fun v24 =>
         opt (store1 v24 v21 H1) fun H12 =>
         opt (ixSlc 1 (slc b 0 n c) v18) fun v25 =>
         opt (store1 v25 v23 H12) fun H13 =>
         opt (binInt .sub (vi i') (vi a)) fun v26 =>
         opt (binInt .geq v26 (.int .i64 2)) fun v27 =>
         ifB v27 (
         opt (binInt .sub (vi i') (.int .i64 1)) fun v28 =>
         LoopL (fun l H X1=>F.f58_l4 E Q X (nth l 0) (nth l 1) (nth l 2) (nth l 3) (nth l 4) (nth l 5) H X1) [slc b 0 n c,vi a,vi e,vi i',vi k,v28] H13) (
         F.f58_j1 E Q X (slc b 0 n c) (vi a) (vi e) (vi i') (vi k) H13)))):=by
      rintro rfl
      clear hX1
      by_cases c1:I=e
      · rw [if_pos c1] at r1
        subst r1
        simp [c1]
        exact hQ _ s1
      rw [if_neg c1] at r1
      have c1':¬ (I:Int)=e:=by omega
      by_cases c2:e - a<50
      · rw [if_pos c2] at r1
        subst r1
        have c2':((e - a:Nat):Int)<50:=by omega
        generalize e - a=w at *
        simp [c1',b2',c2']
        exact hQ _ s1
      rw [if_neg c2] at r1
      have c2':¬ ((e - a:Nat):Int)<50:=by omega
      have b3:=i64_dec I (by omega) (by omega)
      have b4:=i64_sub_nat I a (by omega) (by omega)
      have b4':binInt .sub (vi I) (vi a)=some (vi ((I - a:Nat):Int)):=b4
      have f1:=arr_ix (b:=b) (c:=c) (n:=n) (i:=I) (by omega)
      have f2:=arr_ix (b:=b) (c:=c) (n:=n) (i:=I - 1) (by omega)
      have g1:=arr_load s1.get (i:=I) (by omega)
      have g2:=arr_load s1.get (i:=I - 1) (by omega)
      obtain ⟨w1,w2⟩:=arr_swap enc_inode_Number_plain s1.get (i:=I) (j:=I - 1) (by omega) (by omega)
      have s2:=s1.put (swp d1 I (I - 1))
      have n2:(swp d1 I (I - 1)).size=n:=by rw [size_swp]; exact n1
      have hkk:binInt .add (vi k) (.int .i64 1)=some (vi k'):=hmi
      have j1:∀ (d3:Array (BitVec 16)) H3,SortTo H b u16 tail f d3 H3->d3.size=n->R=partialIns lt16 a e m I (fixUp lt16 e I d3)->F.f58_j1 E Q X (slc b 0 n c) (vi a) (vi e) (vi I) (vi k) H3:=by
        intro d3 H3 s3 n3 r3
        unfold fixUp at r3
        have b5:=i64_sub_nat e I (by omega) (by omega)
        have b5':binInt .sub (vi e) (vi I)=some (vi ((e - I:Nat):Int)):=b5
        by_cases c3:e - I>=2
        · rw [if_pos c3] at r3
          have c3':(2:Int)<=((e - I:Nat):Int):=by omega
          have b6:=i64_succ I (by omega)
          generalize hw:e - I=w at *
          simp [F.f58_j1,b5',c3',b6]
          obtain ⟨D,hD⟩:∃ D,D=shiftUp lt16 e (I+1) d3:=⟨_,rfl⟩
          rw [<- hD] at r3
          refine LoopL.ind (fun mm l H'=>∃ (q:Nat) (d4:Array (BitVec 16)),l=[slc b 0 n c,vi a,vi e,vi I,vi k,vi q]/\SortTo H b u16 tail f d4 H'/\d4.size=n/\D=shiftUp lt16 e q d4/\1<=q/\q<=e/\mm=e - q) ?_ (e - (I+1)) ⟨I+1,d3,by simp,s3,n3,hD,by omega,by omega,rfl⟩
          rintro mm _ H4 X5 hX5 ⟨q,d4,rfl,s4,n4,r4,hq1,hq2,rfl⟩
          rw [shiftUp] at r4
          have done:D=d4->X [slc b 0 n c,vi a,vi e,vi I,vi k'] H4:=by
            rintro rfl
            exact hX I D H4 s4 n4 r3 hi3 (by omega)
          by_cases c4:q<e
          · have c4':(q:Int)<e:=by omega
            rw [if_pos c4] at r4
            have b7:=i64_dec q (by omega) (by omega)
            have b8:=i64_succ q (by omega)
            have f1:=arr_ix (b:=b) (c:=c) (n:=n) (i:=q) (by omega)
            have f2:=arr_ix (b:=b) (c:=c) (n:=n) (i:=q - 1) (by omega)
            have g1:=arr_load s4.get (i:=q) (by omega)
            have g2:=arr_load s4.get (i:=q - 1) (by omega)
            obtain ⟨w1,w2⟩:=arr_swap enc_inode_Number_plain s4.get (i:=q) (j:=q - 1) (by omega) (by omega)
            have hY:=fun (d5:Array (BitVec 16)) H5 q1 q2 q3=>hX5 (e - (q+1)) (by omega) [slc b 0 n c,vi a,vi e,vi I,vi k,vi ((q+1:Nat):Int)] H5 ⟨q+1,d5,rfl,q1,q2,q3,by omega,by omega,rfl⟩
            generalize hq':q - 1=q' at *
            generalize hq'':q+1=q'' at *
            simp [-store1_ptr,-load1_ptr,F.f58_l3,c4',b7,f1,f2,g1,g2]
            refine S.f0 hE _ _ ?_
            by_cases hl:lt16 d4[q]! d4[q']! = true
            · simp only [hl,Bool.not_true,Bool.false_eq_true,if_false] at r4
              simp [-store1_ptr,-load1_ptr,hl,b7,b8,f1,f2,g1,g2,w1,w2]
              exact hY _ _ (s4.put _) (by rw [size_swp]; exact n4) r4
            · have hl:lt16 d4[q]! d4[q']! = false:=by simpa using hl
              simp only [hl,Bool.not_false,if_true] at r4
              simp [hl,hkk]
              exact done r4
          · have c4':¬ (q:Int)<e:=by omega
            rw [if_neg c4] at r4
            simp [F.f58_l3,c4',hkk]
            exact done r4
        · rw [if_neg c3] at r3
          have c3':¬ (2:Int)<=((e - I:Nat):Int):=by omega
          generalize hw:e - I=w at *
          simp [F.f58_j1,b5',c3',hkk]
          exact hX I d3 H3 s3 n3 r3 hi3 hi4
      unfold fixDown at r1
      by_cases c3:I - a>=2
      · rw [if_pos c3] at r1
        have c3':(2:Int)<=((I - a:Nat):Int):=by omega
        obtain ⟨D,hD⟩:∃ D,D=shiftDown lt16 (I - 1) (swp d1 I (I - 1)):=⟨_,rfl⟩
        rw [<- hD] at r1
        have goal4:LoopL (fun l H X1=>F.f58_l4 E Q X (nth l 0) (nth l 1) (nth l 2) (nth l 3) (nth l 4) (nth l 5) H X1) [slc b 0 n c,vi a,vi e,vi I,vi k,vi ((I - 1:Nat):Int)] (H1.put b (arrO u16 (swp d1 I (I - 1)) tail f)):=by
          refine LoopL.ind (fun mm l H'=>∃ (q:Nat) (d4:Array (BitVec 16)),l=[slc b 0 n c,vi a,vi e,vi I,vi k,vi q]/\SortTo H b u16 tail f d4 H'/\d4.size=n/\D=shiftDown lt16 q d4/\q<n/\mm=q) ?_ (I - 1) ⟨I - 1,_,rfl,s2,n2,hD,by omega,rfl⟩
          rintro mm _ H4 X5 hX5 ⟨q,d4,rfl,s4,n4,r4,hq1,rfl⟩
          cases mm with
          | zero =>
            simp [F.f58_l4]
            rw [shiftDown] at r4
            subst r4
            exact j1 _ _ s4 n4 r1
          | succ q =>
            have c4':(1:Int)<=((q+1:Nat):Int):=by omega
            rw [shiftDown] at r4
            have b7:binInt .sub (vi ((q+1:Nat):Int)) (.int .i64 1)=some (vi (q:Int)):=i64_dec (q+1) (by omega) (by omega)
            have f1:=arr_ix (b:=b) (c:=c) (n:=n) (i:=q+1) (by omega)
            have f2:=arr_ix (b:=b) (c:=c) (n:=n) (i:=q) (by omega)
            have g1:=arr_load s4.get (i:=q+1) (by omega)
            have g2:=arr_load s4.get (i:=q) (by omega)
            obtain ⟨w1,w2⟩:=arr_swap enc_inode_Number_plain s4.get (i:=q+1) (j:=q) (by omega) (by omega)
            have hY:=fun (d5:Array (BitVec 16)) H5 q1 q2 q3=>hX5 q (by omega) [slc b 0 n c,vi a,vi e,vi I,vi k,vi (q:Int)] H5 ⟨q,d5,rfl,q1,q2,q3,by omega,rfl⟩
            generalize hq':q+1=q' at *
            simp [-store1_ptr,-load1_ptr,F.f58_l4,c4',b7,f1,f2,g1,g2]
            refine S.f0 hE _ _ ?_
            by_cases hl:lt16 d4[q']! d4[q]! = true
            · simp only [hl,Bool.not_true,Bool.false_eq_true,if_false] at r4
              simp [-store1_ptr,-load1_ptr,hl,b7,f1,f2,g1,g2,w1,w2]
              exact hY _ _ (s4.put _) (by rw [size_swp]; exact n4) r4
            · have hl:lt16 d4[q']! d4[q]! = false:=by simpa using hl
              simp only [hl,Bool.not_false,if_true] at r4
              simp [hl]
              subst r4
              exact j1 _ _ s4 n4 r1
        generalize hI':I - 1=I' at *
        generalize hw:e - a=w at *
        generalize hw2:I - a=w2' at *
        simp [-store1_ptr,-load1_ptr,c1',b2',c2',b3,b4',f1,f2,g1,g2,w1,w2,c3']
        exact goal4
      · rw [if_neg c3] at r1
        have c3':¬ (2:Int)<=((I - a:Nat):Int):=by omega
        have:=j1 _ _ s2 n2 r1
        generalize hI':I - 1=I' at *
        generalize hw:e - a=w at *
        generalize hw2:I - a=w2' at *
        simp [-store1_ptr,-load1_ptr,c1',b2',c2',b3,b4',f1,f2,g1,g2,w1,w2,c3']
        exact this
    have b7:=i64_succ i' (by omega)
    by_cases c4:i'<e
    · have c4':(i':Int)<e:=by omega
      have b6:=i64_dec i' (by omega) (by omega)
      have f1:=arr_ix (b:=b) (c:=c) (n:=n) (i:=i') (by omega)
      have f2:=arr_ix (b:=b) (c:=c) (n:=n) (i:=i' - 1) (by omega)
      have g1:=arr_load s1.get (i:=i') (by omega)
      have g2:=arr_load s1.get (i:=i' - 1) (by omega)
      by_cases hl:lt16 d1[i']! d1[i' - 1]! = true
      · rw [if_neg (by simp [hl])] at r2
        have:=exit r2
        clear exit hX1
        generalize hI':i' - 1=I' at *
        simp [-store1_ptr,-load1_ptr,F.f58_l2,c4',b6,f1,f2,g1,g2]
        refine S.f0 hE _ _ ?_
        simp only [hl]
        simp only [un_not_z,Bool.not_true,tk_eq,opt_some,gd_tt,pick_true_z,ifB_false]
        exact this
      · have hl:lt16 d1[i']! d1[i' - 1]! = false:=by simpa using hl
        rw [if_pos (by simp [hl,c4])] at r2
        clear exit
        have hX1:=hX1 (e - (i'+1)) (by omega) [slc b 0 n c,vi a,vi e,vi ((i'+1:Nat):Int),vi k] H1 ⟨rfl,i'+1,rfl,r2,by omega,by omega,rfl⟩
        generalize hI':i' - 1=I' at *
        generalize hI'':i'+1=I'' at *
        simp [-store1_ptr,-load1_ptr,F.f58_l2,c4',b6,f1,f2,g1,g2]
        refine S.f0 hE _ _ ?_
        simp [hl,b7]
        exact hX1
    · have c4':¬ (i':Int)<e:=by omega
      rw [if_neg (by simp [c4])] at r2
      have:=exit r2
      clear exit hX1
      simp only [F.f58_l2,nth_0,nth_1,nth_2,nth_3,nth_4,i64_lss,c4',decide_false,tk_eq,opt_some,gd_ft,pick_false_z,ifB_false]
      exact this
theorem S.f57 (hE:Fold E) (hg:H.get b=arrO u16 d tail f) (hn:d.size=n) (p q:Nat) (hp:p<n) (hq:q<n) (s k:Nat) (hs:H.get s = .cells [vi k] none) (hk:k<1000) (hsb:s≠b)
  (hQ:∀ r1 r2 k' H',((r1=p/\r2=q)\/(r1=q/\r2=p))->Only [s] H H'->H'.get s = .cells [vi (k':Nat)] none->k'<=k+1->Q (.tuple #[vi (r1:Nat),vi (r2:Nat)]) H') :
  E.call (E.fid i.f57) [slc b 0 n c,vi p,vi q,ptr s 0] H Q:=by
 apply hE.f57
 have f1:=arr_ix (b:=b) (c:=c) (n:=n) (i:=p) hp
 have f2:=arr_ix (b:=b) (c:=c) (n:=n) (i:=q) hq
 have g1:=arr_load hg (i:=p) (by omega)
 have g2:=arr_load hg (i:=q) (by omega)
 have hlt:=AH.lt_cells hs
 have b1:=i64_succ k (by omega)
 simp [-load1_ptr,F.f57,f1,f2,g1,g2]
 refine S.f0 hE _ _ ?_
 by_cases hl:lt16 d[q]! d[p]! = true
 ·simp only [hl,ifB_true,nilCk_p,load1_ptr,hs,cell_cells_z,List.getElem?_cons_zero,tk_eq,opt_some,b1,store1_ptr,plain1_int,if_true,List.length_cons,List.length_nil,List.set_cons_zero]
  rw [if_pos (by omega),opt_some]
  exact hQ q p (k+1) _ (.inr ⟨rfl,rfl⟩) ((Only.refl _ _).put (.inl (by simp)) _) (AH.get_put_self _ _ hlt) (Nat.le_refl _)
 ·simp [hl]
  exact hQ p q k _ (.inl ⟨rfl,rfl⟩) (Only.refl _ _) hs (by omega)
theorem S.f55 (hE:Fold E) (hg:H.get b=arrO u16 d tail f) (hn:d.size=n) (p q r:Nat) (hp:p<n) (hq:q<n) (hr:r<n) (s k:Nat) (hs:H.get s = .cells [vi k] none) (hk:k<900) (hsb:s≠b)
  (hQ:∀ m k' H',(m=p\/m=q\/m=r)->Only [s] H H'->H'.get s = .cells [vi (k':Nat)] none->k'<=k+3->Q (vi (m:Nat)) H') :
  E.call (E.fid i.f55) [slc b 0 n c,vi p,vi q,vi r,ptr s 0] H Q:=by
 apply hE.f55
 have keep:∀ {H'},Only [s] H H'->H'.get b=arrO u16 d tail f:=fun o=>by rw [o.get (arr_lt hg) (by simpa using Ne.symm hsb)]; exact hg
 simp only [F.f55]
 refine S.f57 hE hg hn p q hp hq s k hs (by omega) hsb fun a1 a2 k1 H1 e1 o1 s1 l1 =>?_
 simp
 refine S.f57 hE (keep o1) hn a2 r (by omega) hr s k1 s1 (by omega) hsb fun a3 a4 k2 H2 e2 o2 s2 l2 =>?_
 have o12:=o1.trans' o2
 simp
 refine S.f57 hE (keep o12) hn a1 a3 (by omega) (by omega) s k2 s2 (by omega) hsb fun a5 a6 k3 H3 e3 o3 s3 l3 =>?_
 simp
 exact hQ a6 k3 H3 (by omega) (o12.trans' o3) s3 (by omega)
theorem S.f54 (hE:Fold E) (hg:H.get b=arrO u16 d tail f) (hn:d.size=n) (hsz:n<2 ^ 60) (p:Nat) (hp0:1<=p) (hp:p+1<n) (s k:Nat) (hs:H.get s = .cells [vi k] none) (hk:k<900) (hsb:s≠b)
  (hQ:∀ m k' H',(p - 1<=m/\m<=p+1)->Only [s] H H'->H'.get s = .cells [vi (k':Nat)] none->k'<=k+3->Q (vi (m:Nat)) H') :
  E.call (E.fid i.f54) [slc b 0 n c,vi p,ptr s 0] H Q:=by
 apply hE.f54
 have b1:=i64_dec p hp0 (by omega)
 have b2:=i64_succ p (by omega)
 simp only [F.f54,b1,b2,tk_eq,opt_some]
 refine S.f55 hE hg hn (p - 1) p (p+1) (by omega) (by omega) hp s k hs hk hsb fun m k' H' e1 o1 s1 l1=>hQ m k' H' (by omega) o1 s1 l1
theorem S.f51 (hE:Fold E) (hg:H.get b=arrO u16 d tail f) (hn:d.size=n) (hsz:n<2 ^ 60) (a e:Nat) (hae:a+8<=e) (he:e<=n)
  (hQ:∀ (m:Nat) (h:Int) H',a<=m->m<e->Ext H H'->Q (.tuple #[vi m,vi h]) H'):E.call (E.fid i.f51) [slc b 0 n c,vi a,vi e] H Q:=by
 apply hE.f51
 have a1:binInt .sub (vi e) (vi a)=some (vi ((e - a:Nat):Int)):=i64_sub_nat e a (by omega) (by omega)
 have hbl:=arr_lt hg
 generalize hw:e - a=w at *
 have a2:binInt .quo (vi (w:Int)) (.int .i64 4)=some (vi ((w / 4:Nat):Int)):=i64_quo_num w 4 (by decide) (by omega)
 have hq4:w / 4*4<=w:=Nat.div_mul_le_self _ _
 have hq4':1<=w / 4:=by omega
 have hq50:50<=w->12<=w / 4:=fun h=>by omega
 generalize hq:w / 4=q at *
 have m1:binInt .mul (vi (q:Int)) (.int .i64 1)=some (vi ((q*1:Nat):Int)):=by rw [i64_mul (by omega) (by omega)]; congr 2
 have m2:binInt .mul (vi (q:Int)) (.int .i64 2)=some (vi ((q*2:Nat):Int)):=by rw [i64_mul (by omega) (by omega)]; congr 2
 have m3:binInt .mul (vi (q:Int)) (.int .i64 3)=some (vi ((q*3:Nat):Int)):=by rw [i64_mul (by omega) (by omega)]; congr 2
 have p1:=i64_add_nat a (q*1) (by omega)
 have p2:=i64_add_nat a (q*2) (by omega)
 have p3:=i64_add_nat a (q*3) (by omega)
 have c8:(8:Int)<=w:=by omega
 have hg1:(H.new (.cells [vi 0] none)).get b=arrO u16 d tail f:=by rw [AH.get_new_lt _ _ hbl]; exact hg
 have hs1:(H.new (.cells [vi 0] none)).get H.next = .cells [vi ((0:Nat):Int)] none:=AH.get_new_self _ _
 have hsb:H.next≠b:=by omega
 have x1:Ext H (H.new (.cells [vi 0] none)):=(Ext.refl H).new _
 have ext_of:∀ {H'},Only [H.next] (H.new (.cells [vi 0] none)) H'->Ext H H':=fun o=>o.ext x1 (by simp)
 have keep:∀ {H'},Only [H.next] (H.new (.cells [vi 0] none)) H'->H'.get b=arrO u16 d tail f:=fun o=>by rw [o.get (arr_lt hg1) (by simpa using Ne.symm hsb)]; exact hg1
 have last:∀ (m k:Nat) H',a<=m->m<e->Ext H H'->H'.get H.next = .cells [vi (k:Nat)] none->F.f51_j1 E Q (ptr H.next 0) (vi m) H':=by
  intro m k H' h1 h2 e1 s1
  by_cases k0:(k:Int)=0
  ·simp [F.f51_j1,s1,k0]
   exact hQ m _ H' h1 h2 e1
  ·by_cases k12:(k:Int)=12
   ·simp [F.f51_j1,s1,k12]
    exact hQ m _ H' h1 h2 e1
   ·have k0':¬ k=0:=by omega
    simp [F.f51_j1,s1,k0',k12]
    exact hQ m _ H' h1 h2 e1
 have last2:∀ (x y z k:Nat) H',a<=x->x<e->a<=y->y<e->a<=z->z<e->Only [H.next] (H.new (.cells [vi 0] none)) H'->H'.get H.next = .cells [vi (k:Nat)] none->k<900->F.f51_j2 E Q (slc b 0 n c) (ptr H.next 0) (vi x) (vi y) (vi z) H':=by
  intro x y z k H' h1 h2 h3 h4 h5 h6 o1 s1 hk
  simp only [F.f51_j2]
  refine S.f55 hE (keep o1) hn x y z (by omega) (by omega) (by omega) H.next k s1 hk hsb fun m k' H2 hm o2 s2 _ =>?_
  exact last m k' H2 (by omega) (by omega) (ext_of (o1.trans' o2)) s2
 by_cases c50:50<=w
 ·have c50':(50:Int)<=w:=by omega
  have hq50:=hq50 c50
  have g1:a+1<=a+q*1/\a+q*1+1<e:=by omega
  have g2:a+1<=a+q*2/\a+q*2+1<e:=by omega
  have g3:a+1<=a+q*3/\a+q*3+1<e:=by omega
  generalize hx:a+q*1=x at *
  generalize hy:a+q*2=y at *
  generalize hz:a+q*3=z at *
  generalize q*1=q1 at *
  generalize q*2=q2 at *
  generalize q*3=q3 at *
  simp [F.f51,a1,a2,m1,m2,m3,p1,p2,p3,c8,c50']
  refine S.f54 hE hg1 hn hsz x (by omega) (by omega) H.next 0 hs1 (by omega) hsb fun r1 k1 H1 e1 o1 s1 l1 =>?_
  refine S.f54 hE (keep o1) hn hsz y (by omega) (by omega) H.next k1 s1 (by omega) hsb fun r2 k2 H2 e2 o2 s2 l2 =>?_
  refine S.f54 hE (keep (o1.trans' o2)) hn hsz z (by omega) (by omega) H.next k2 s2 (by omega) hsb fun r3 k3 H3 e3 o3 s3 l3 =>?_
  exact last2 r1 r2 r3 k3 H3 (by omega) (by omega) (by omega) (by omega) (by omega) (by omega) ((o1.trans' o2).trans' o3) s3 (by omega)
 ·have c50':¬ (50:Int)<=w:=by omega
  have g1:a+q*1<e:=by omega
  have g2:a+q*2<e:=by omega
  have g3:a+q*3<e:=by omega
  have g0:a<=a+q*1/\a<=a+q*2/\a<=a+q*3:=by omega
  generalize hx:a+q*1=x at *
  generalize hy:a+q*2=y at *
  generalize hz:a+q*3=z at *
  generalize q*1=q1 at *
  generalize q*2=q2 at *
  generalize q*3=q3 at *
  simp [F.f51,a1,a2,m1,m2,m3,p1,p2,p3,c8,c50']
  exact last2 x y z 0 _ g0.1 g1 g0.2.1 g2 g0.2.2 g3 (Only.refl _ _) hs1 (by omega)
theorem S.f50 (hE:Fold E) (hg:H.get b=arrO u16 d tail f) (hn:d.size=n) (hsz:n<2 ^ 31) (a e:Nat) (hae:a+8<=e) (he:e<=n)
  (hQ:∀ d' H',PermIn a e d d'->SortTo H b u16 tail f d' H'->Q (.tuple #[]) H'):E.call (E.fid i.f50) [slc b 0 n c,vi a,vi e] H Q:=by
 apply hE.f50
 have a1:binInt .sub (vi e) (vi a)=some (vi ((e - a:Nat):Int)):=i64_sub_nat e a (by omega) (by omega)
 have hbl:=arr_lt hg
 generalize hw:e - a=w at *
 have a2:binInt .quo (vi (w:Int)) (.int .i64 4)=some (vi ((w / 4:Nat):Int)):=i64_quo_num w 4 (by decide) (by omega)
 have hq4:w / 4*4<=w:=Nat.div_mul_le_self _ _
 have hq4':2<=w / 4:=by omega
 generalize hq:w / 4=q at *
 have m2:binInt .mul (vi (q:Int)) (.int .i64 2)=some (vi ((q*2:Nat):Int)):=by rw [i64_mul (by omega) (by omega)]; congr 2
 have p2:=i64_add_nat a (q*2) (by omega)
 have p3:=i64_dec (a+q*2) (by omega) (by omega)
 have p4:=i64_succ (a+q*2) (by omega)
 have c8:(8:Int)<=w:=by omega
 have hc:convInt .u64 (vi (w:Int))=some (u64 (BitVec.ofNat 64 w)):=by rw [i64_to_u64,BitVec.ofInt_natCast]
 have hm2:2 ^ bitsLen w<=2*w:=two_pow_bitsLen_le (by omega)
 have hm1:=Nat.two_pow_pos (bitsLen w)
 generalize hM:2 ^ bitsLen w=M at *
 have gx:a+1<=a+q*2/\a+q*2+1<e:=by omega
 generalize hx:a+q*2=x at *
 generalize q*2=q2 at *
 have x1:Ext H (H.new (.cells [u64 (BitVec.ofNat 64 w)] none)):=(Ext.refl H).new _
 simp [F.f50,a1,a2,m2,p2,p3,c8,hc]
 refine S.f56 hE w (by omega) ?_
 rw [hM]
 simp [a2,m2,p2,p3]
 refine LoopL.ind (fun m l H'=>∃ (j:Nat) (d1:Array (BitVec 16)) (y:BitVec 64),l=[slc b 0 n c,vi a,vi w,ptr H.next 0,u64 (BitVec.ofNat 64 M),vi j]/\SortTo H b u16 tail f d1 H'/\d1.size=n/\PermIn a e d d1/\H'.get H.next = .cells [u64 y] none/\a<=j/\j<=x+2/\m=x+2 - j) ?_ (x+2 - (x - 1))
  ⟨x - 1,d,_,by simp,⟨x1.only,by rw [AH.get_new_lt _ _ hbl]; exact hg⟩,hn,permIn_refl _ _ _,AH.get_new_self _ _,by omega,by omega,rfl⟩
 rintro m _ H1 X hX ⟨j,d1,y,rfl,s1,n1,pp,hb1,hj1,hj2,rfl⟩
 by_cases cj:j<=x+1
 ·have cj':(j:Int)<=((x+1:Nat):Int):=by omega
  have pj:=i64_succ j (by omega)
  have fin:∀ (o:Nat) (y':BitVec 64),o<w->F.f50_j1 E Q X (slc b 0 n c) (vi a) (vi w) (ptr H.next 0) (u64 (BitVec.ofNat 64 M)) (vi j) (vi o) (H1.put H.next (.cells [u64 y'] none)):=by
   intro o y' ho
   have hnb:b≠H.next:=by omega
   have s2:SortTo H b u16 tail f d1 (H1.put H.next (.cells [u64 y'] none)):=⟨s1.only.put (.inr (Nat.le_refl _)) _,by rw [AH.get_put_ne _ _ hnb]; exact s1.get⟩
   have pa:=i64_add_nat a o (by omega)
   have f1:=arr_ix (b:=b) (c:=c) (n:=n) (i:=j) (by omega)
   have f2:=arr_ix (b:=b) (c:=c) (n:=n) (i:=a+o) (by omega)
   have g1:=arr_load s2.get (i:=j) (by omega)
   have g2:=arr_load s2.get (i:=a+o) (by omega)
   obtain ⟨w1,w2⟩:=arr_swap enc_inode_Number_plain s2.get (i:=j) (j:=a+o) (by omega) (by omega)
   have hpp:=swp_permIn d1 a e j (a+o) hj1 (by omega) (by omega) (by omega) (by omega)
   have hX:=hX (x+2 - (j+1)) (by omega) [slc b 0 n c,vi a,vi w,ptr H.next 0,u64 (BitVec.ofNat 64 M),vi ((j+1:Nat):Int)] _ ⟨j+1,_,y',rfl,s2.put (swp d1 j (a+o)),by rw [size_swp]; exact n1,permIn_trans _ _ _ _ _ pp hpp,by rw [AH.get_put_ne _ _ (Ne.symm hnb),AH.get_put_self _ _ (AH.lt_cells hb1)],by omega,by omega,rfl⟩
   generalize a+o=ao at *
   generalize hj'':j+1=j' at *
   simp [-store1_ptr,-load1_ptr,F.f50_j1,pa,f1,f2,g1,g2,w1,w2,pj]
   exact hX
  generalize hx1:x+1=x' at *
  simp [F.f50_l1,a2,m2,p2,p4,cj']
  refine S.f64 hE H.next y hb1 fun y' =>?_
  have l1:(.int .u64 1:Value)=u64 1#64:=rfl
  have hsub:BitVec.ofNat 64 M - 1#64=BitVec.ofNat 64 (M - 1):=by
   apply BitVec.eq_of_toNat_eq
   rw [BitVec.toNat_sub,BitVec.toNat_ofNat,BitVec.toNat_ofNat,BitVec.toNat_ofNat]
   omega
  have hand:(y'&&&BitVec.ofNat 64 (M - 1)).toNat<=M - 1:=by
   rw [BitVec.toNat_and]
   refine Nat.le_trans Nat.and_le_right ?_
   rw [BitVec.toNat_ofNat]
   exact Nat.mod_le _ _
  have hcv:∀ z:BitVec 64,z.toNat<2 ^ 62->convInt .i64 (u64 z)=some (vi (z.toNat:Int)):=by
   intro z hz
   rw [u64_def,convInt_int,wrap_i64 (by omega) (by omega)]
  have hcv':=hcv _ (by omega:(y'&&&BitVec.ofNat 64 (M - 1)).toNat<2 ^ 62)
  simp only [l1,u64_sub,hsub,u64_and,hcv',tk_eq,opt_some,i64_geq,nth_0,nth_1,nth_2,nth_3,nth_4,nth_5]
  generalize (y'&&&BitVec.ofNat 64 (M - 1)).toNat=o at *
  by_cases co:w<=o
  ·have co':(w:Int)<=o:=by omega
   have hs:binInt .sub (vi (o:Int)) (vi (w:Int))=some (vi ((o - w:Nat):Int)):=i64_sub_nat o w co (by omega)
   simp only [co',decide_true,ifB_true,hs,tk_eq,opt_some,nth_0,nth_1,nth_2,nth_3,nth_4,nth_5]
   exact fin (o - w) y' (by omega)
  ·have co':¬ (w:Int)<=o:=by omega
   simp only [co',decide_false,ifB_false,nth_0,nth_1,nth_2,nth_3,nth_4,nth_5]
   exact fin o y' (by omega)
 ·have cj':¬ (j:Int)<=((x+1:Nat):Int):=by omega
  generalize hx1:x+1=x' at *
  simp [F.f50_l1,a2,m2,p2,p4,cj']
  exact hQ d1 H1 pp s1
theorem S.f61 (hE:Fold E) (hS:SWO lt16):∀ (w:Nat) {H:AH} {Q:Value->AH->Prop} {d:Array (BitVec 16)} (_:H.get b=arrO u16 d tail f) (_:d.size=n) (_:n<2 ^ 31) (a e:Nat) (_:a<=e) (_:e<=n) (limit:Nat) (_:limit<2 ^ 60) (_:Go.Sort.Below lt16 a e d) (_:e - a<=w)
    (_:∀ d' H',PermIn a e d d'->SortedIn lt16 a e d'->SortTo H b u16 tail f d' H'->Q (.tuple #[]) H'),E.call (E.fid i.f61) [slc b 0 n c,vi a,vi e,vi limit] H Q:=by
  intro w
  induction w using Nat.strongRecOn with
  | _ w ih =>
  intro H Q d hg hn hsz a0 e0 hae0 he0 limit0 hlim0 hB0 hw hQ
  apply hE.f61
  simp only [F.f61]
  refine LoopL.ind (fun m l H'=>∃ (a e limit:Nat) (wb wp:Bool) (d1:Array (BitVec 16)),l=[slc b 0 n c,vi a,vi e,vi limit,vb wb,vb wp]/\SortTo H b u16 tail f d1 H'/\d1.size=n/\a<=e/\e<=n/\limit<2 ^ 60/\e - a<=w/\Go.Sort.Below lt16 a e d1 /\
      (∀ R,PermIn a e d1 R->SortedIn lt16 a e R->PermIn a0 e0 d R/\SortedIn lt16 a0 e0 R)/\m=e - a) ?_ (e0 - a0) ⟨a0,e0,limit0,true,true,d,rfl,.refl hg,hn,hae0,he0,hlim0,hw,hB0,fun R h1 h2=>⟨h1,h2⟩,rfl⟩
  rintro m _ H1 X hX ⟨a,e,limit,wb,wp,d1,rfl,s1,n1,hae,hen,hlim,hwe,hB,fin,rfl⟩
  have a1:binInt .sub (vi e) (vi a)=some (vi ((e - a:Nat):Int)):=i64_sub_nat e a (by omega) (by omega)
  by_cases c12:e - a<=12
  · have c12':((e - a:Nat):Int)<=12:=by omega
    generalize hW:e - a=W at *
    simp [F.f61_l1,a1,c12']
    refine S.f53 hE s1.get n1 (by omega) a e hae hen fun H2 s2 =>?_
    obtain ⟨h1,h2⟩:=insertionSort_holds hS d1 a e hae (by omega)
    obtain ⟨h3,h4⟩:=fin _ h1 h2
    exact hQ _ _ h3 h4 (s1.trans s2)
  have c12':¬ ((e - a:Nat):Int)<=12:=by omega
  by_cases c0:limit=0
  · subst c0
    generalize hW:e - a=W at *
    simp [F.f61_l1,a1,c12']
    refine S.f52 hE s1.get n1 (by omega) a e (by omega) hen fun H2 s2 =>?_
    obtain ⟨h1,h2⟩:=heapSort_holds hS d1 a e hae (by omega)
    obtain ⟨h3,h4⟩:=fin _ h1 h2
    exact hQ _ _ h3 h4 (s1.trans s2)
  have c0':¬ (limit:Int)=0:=by omega
  have w8:binInt .quo (vi ((e - a:Nat):Int)) (.int .i64 8)=some (vi (((e - a) / 8:Nat):Int)):=i64_quo_num (e - a) 8 (by decide) (by omega)
  have j3:∀ (d3:Array (BitVec 16)) H3 (lim:Nat) (wb wp:Bool) (pv:Nat),SortTo H b u16 tail f d3 H3->d3.size=n->PermIn a e d1 d3->lim<2 ^ 60->a<=pv->pv<e->F.f61_j3 E Q X (slc b 0 n c) (vi a) (vi e) (vi lim) (vb wb) (vb wp) (vi ((e - a:Nat):Int)) (vi pv) H3:=by
    intro d3 H3 lim wb wp pv s3 n3 p3 hlim hp1 hp2
    have B3:Go.Sort.Below lt16 a e d3:=hB.permA permIn_all (by omega) p3
    have fin3:∀ R,PermIn a e d3 R->SortedIn lt16 a e R->PermIn a0 e0 d R/\SortedIn lt16 a0 e0 R:=fun R h1 h2=>fin R (permIn_trans _ _ _ _ _ p3 h1) h2
    have part:∀ (K:Value->AH->Prop),(K=fun v15 H13 =>
         opt (ext v15 0) fun v16 =>
         opt (ext v15 1) fun v17 =>
         opt (binInt .sub v16 (vi a)) fun v18 =>
         opt (binInt .sub (vi e) v16) fun v19 =>
         opt (binInt .quo (vi ((e - a:Nat):Int)) (.int .i64 8)) fun v20 =>
         opt (binInt .lss v18 v19) fun v21 =>
         ifB v21 (
         opt (binInt .geq v18 v20) fun v22 =>
         E.call (E.fid i.f61) [slc b 0 n c,vi a,v16,vi lim] H13 fun v23 H14 =>
         opt (binInt .add v16 (.int .i64 1)) fun v24 =>
         X [slc b 0 n c,v24,vi e,vi lim,v22,v17] H14) (
         opt (binInt .geq v19 v20) fun v25 =>
         opt (binInt .add v16 (.int .i64 1)) fun v26 =>
         E.call (E.fid i.f61) [slc b 0 n c,v26,vi e,vi lim] H13 fun v27 H15 =>
         X [slc b 0 n c,vi a,v16,vi lim,v25,v17] H15))->E.call (E.fid i.f60) [slc b 0 n c,vi a,vi e,vi pv] H3 K:=by
      rintro K rfl
      refine S.f60 hE s3.get n3 (by omega) a e pv hp1 hp2 hen fun H4 s4 =>?_
      rcases hx:partition lt16 d3 a e pv with ⟨mid,ap,d4⟩
      rw [hx] at s4
      obtain ⟨g1,g2,hs4,hBa,hBr,hl,hr⟩:=round_part hS (partition_holds lt16) hp1 hp2 (by omega) B3 hx
      have n4:d4.size=n:=by omega
      have s4':=s3.trans s4
      have b1:binInt .sub (vi mid) (vi a)=some (vi ((mid - a:Nat):Int)):=i64_sub_nat mid a g1 (by omega)
      have b2:binInt .sub (vi e) (vi mid)=some (vi ((e - mid:Nat):Int)):=i64_sub_nat e mid (by omega) (by omega)
      have b3:=i64_succ mid (by omega)
      simp only [tk_eq,ext_tuple,List.getElem?_cons_zero,List.getElem?_cons_succ,opt_some,b1,b2,b3,w8,i64_lss,i64_geq]
      by_cases cl:mid - a<e - mid
      · have cl':((mid - a:Nat):Int)<((e - mid:Nat):Int):=by omega
        simp only [cl',decide_true,tk_eq,ifB_true,i64_geq,opt_some]
        refine ih (mid - a) (by omega) s4'.get n4 hsz a mid g1 (by omega) lim hlim hBa (Nat.le_refl _) fun d5 H5 p5 q5 s5 =>?_
        obtain ⟨hBL,hfin⟩:=hl d5 p5 q5
        have n5:d5.size=n:=by rw [p5.1]; exact n4
        simp only [b3,tk_eq,opt_some]
        exact hX (e - (mid+1)) (by omega) _ _ ⟨mid+1,e,lim,_,ap,d5,rfl,s4'.trans s5,n5,by omega,hen,hlim,by omega,hBL,fun R h1 h2=>by
          obtain ⟨h3,h4⟩:=hfin R h1 h2
          exact fin3 R h3 h4,rfl⟩
      · have cl':¬ ((mid - a:Nat):Int)<((e - mid:Nat):Int):=by omega
        simp only [cl',decide_false,tk_eq,ifB_false,i64_geq,opt_some,b3]
        refine ih (e - (mid+1)) (by omega) s4'.get n4 hsz (mid+1) e (by omega) hen lim hlim hBr (Nat.le_refl _) fun d5 H5 p5 q5 s5 =>?_
        obtain ⟨hBL,hfin⟩:=hr d5 p5 q5
        have n5:d5.size=n:=by rw [p5.1]; exact n4
        exact hX (mid - a) (by omega) _ _ ⟨a,mid,lim,_,ap,d5,rfl,s4'.trans s5,n5,g1,by omega,hlim,by omega,hBL,fun R h1 h2=>by
          obtain ⟨h3,h4⟩:=hfin R h1 h2
          exact fin3 R h3 h4,rfl⟩
    by_cases ca:0<a
    · have ca':(0:Int)<a:=by omega
      have b1:=i64_dec a (by omega) (by omega)
      have f1:=arr_ix (b:=b) (c:=c) (n:=n) (i:=a - 1) (by omega)
      have f2:=arr_ix (b:=b) (c:=c) (n:=n) (i:=pv) (by omega)
      have g1:=arr_load s3.get (i:=a - 1) (by omega)
      have g2:=arr_load s3.get (i:=pv) (by omega)
      have part:=part _ rfl
      by_cases hl:lt16 d3[a - 1]! d3[pv]! = true
      · generalize hW:e - a=W at *
        generalize hA:a - 1=a1 at *
        simp [-store1_ptr,-load1_ptr,F.f61_j3,ca',ca,b1,f1,f2,g1,g2]
        refine S.f0 hE _ _ ?_
        simp only [hl]
        simp only [un_not_z,Bool.not_true,tk_eq,opt_some,gd_tt,pick_true_z,ifB_false]
        exact part
      · have hl:lt16 d3[a - 1]! d3[pv]! = false:=by simpa using hl
        clear part
        rcases hx:partitionEqual lt16 d3 a e pv with ⟨mid,d4⟩
        obtain ⟨g3,g4,hs4,hB4,hfin⟩:=round_eq hS (partitionEqual_holds lt16) ca hp1 hp2 (by omega) B3 hl hx
        have hY:=fun H4 s4=>hX (e - mid) (by omega) [slc b 0 n c,vi mid,vi e,vi lim,vb wb,vb wp] H4 ⟨mid,e,lim,wb,wp,d4,rfl,s4,by omega,g4,hen,hlim,by omega,hB4,fun R h1 h2=>by
            obtain ⟨h3,h4⟩:=hfin R h1 h2
            exact fin3 R h3 h4,rfl⟩
        generalize hW:e - a=W at *
        generalize hA:a - 1=a1 at *
        simp [-store1_ptr,-load1_ptr,F.f61_j3,ca',ca,b1,f1,f2,g1,g2]
        refine S.f0 hE _ _ ?_
        simp [hl]
        refine S.f59 hE s3.get n3 (by omega) a e pv hp1 hp2 hen fun H4 s4 =>?_
        rw [hx] at s4 ⊢
        exact hY H4 (s3.trans s4)
    · have ca':¬ (0:Int)<a:=by omega
      have part:=part _ rfl
      generalize hW:e - a=W at *
      simp only [F.f61_j3,i64_gtr,ca',decide_false,tk_eq,opt_some,gd_ft,pick_false_z,ifB_false]
      exact part
  have j2:∀ (d3:Array (BitVec 16)) H3 (lim:Nat) (wb wp:Bool) (pv:Nat) (hint:Int),SortTo H b u16 tail f d3 H3->d3.size=n->PermIn a e d1 d3->lim<2 ^ 60->a<=pv->pv<e->F.f61_j2 E Q X (slc b 0 n c) (vi a) (vi e) (vi lim) (vb wb) (vb wp) (vi ((e - a:Nat):Int)) (vi pv) (vi hint) H3:=by
    intro d3 H3 lim wb wp pv hint s3 n3 p3 hlim hp1 hp2
    have B3:Go.Sort.Below lt16 a e d3:=hB.permA permIn_all (by omega) p3
    have h3:=j3 d3 H3 lim wb wp pv s3 n3 p3 hlim hp1 hp2
    have try_:E.call (E.fid i.f58) [slc b 0 n c,vi a,vi e] H3 fun v6 H4=>ifB v6 (Q (.tuple #[]) H4) (F.f61_j3 E Q X (slc b 0 n c) (vi a) (vi e) (vi lim) (vb wb) (vb wp) (vi ((e - a:Nat):Int)) (vi pv) H4):=by
      refine S.f58 hE s3.get n3 (by omega) a e (by omega) hen fun H4 s4 =>?_
      obtain ⟨q1,q2⟩:=partialInsertionSort_holds hS d3 a e (by omega) (by omega) B3
      cases hb:(partialInsertionSort lt16 d3 a e).2 with
      | true =>
        obtain ⟨h5,h6⟩:=fin _ (permIn_trans _ _ _ _ _ p3 q1) (q2 hb)
        simp only [ifB_true]
        exact hQ _ _ h5 h6 (s3.trans s4)
      | false =>
        simp only [ifB_false]
        exact j3 _ H4 lim wb wp pv (s3.trans s4) (by rw [q1.1]; exact n3) (permIn_trans _ _ _ _ _ p3 q1) hlim hp1 hp2
    cases wb with
    | false =>
      simp only [F.f61_j2,gd_ft,pick_false_z,tk_eq,opt_some,ifB_false]
      exact h3
    | true =>
      cases wp with
      | false =>
        simp only [F.f61_j2,gd_tt,gd_ft,pick_true_z,pick_false_z,tk_eq,opt_some,ifB_false]
        exact h3
      | true =>
        by_cases ch:hint=1
        · simp only [F.f61_j2,gd_tt,pick_true_z,tk_eq,opt_some,i64_eql,ch,decide_true,ifB_true]
          exact try_
        · simp only [F.f61_j2,gd_tt,pick_true_z,tk_eq,opt_some,i64_eql,ch,decide_false,ifB_false]
          exact h3
  have j1:∀ (d3:Array (BitVec 16)) H3 (lim:Nat) (wb wp:Bool),SortTo H b u16 tail f d3 H3->d3.size=n->PermIn a e d1 d3->lim<2 ^ 60->F.f61_j1 E Q X (slc b 0 n c) (vi a) (vi e) (vi lim) (vb wb) (vb wp) (vi ((e - a:Nat):Int)) H3:=by
    intro d3 H3 lim wb wp s3 n3 p3 hlim
    simp only [F.f61_j1]
    refine S.f51 hE s3.get n3 (by omega) a e (by omega) hen fun pv hint H4 hp1 hp2 e4 =>?_
    have s4:=s3.ext e4
    simp only [tk_eq,ext_tuple,List.getElem?_cons_zero,List.getElem?_cons_succ,opt_some,i64_eql]
    by_cases ch:hint=2
    · simp only [ch,decide_true,ifB_true]
      refine S.f62 hE s4.get n3 (by omega) a e (by omega) hen fun H5 s5 =>?_
      have q1:=reverseRange_holds d3 a e hae (by omega)
      have b1:=i64_dec e (by omega) (by omega)
      have b2:binInt .sub (vi pv) (vi a)=some (vi ((pv - a:Nat):Int)):=i64_sub_nat pv a hp1 (by omega)
      have b3:binInt .sub (vi ((e - 1:Nat):Int)) (vi ((pv - a:Nat):Int))=some (vi ((e - 1 - (pv - a):Nat):Int)):=i64_sub_nat (e - 1) (pv - a) (by omega) (by omega)
      simp only [b1,b2,b3,tk_eq,opt_some]
      exact j2 _ H5 lim wb wp _ 1 (s4.trans s5) (by rw [q1.1]; exact n3) (permIn_trans _ _ _ _ _ p3 q1) hlim (by omega) (by omega)
    · simp only [ch,decide_false,ifB_false]
      exact j2 d3 H4 lim wb wp pv hint s4 n3 p3 hlim hp1 hp2
  cases wb with
  | true =>
    have:=j1 d1 H1 limit true wp s1 n1 (permIn_refl _ _ _) hlim
    generalize hW:e - a=W at *
    simp only [F.f61_l1,nth_0,nth_1,nth_2,nth_3,nth_4,nth_5,a1,c12',c0',i64_leq,i64_eql,decide_false,un_not_z,Bool.not_true,tk_eq,opt_some,ifB_false]
    exact this
  | false =>
    have b1:=i64_dec limit (by omega) (by omega)
    have go:=fun d' H' p' s'=>j1 d' H' (limit - 1) false wp s' (by rw [(p':PermIn a e d1 d').1]; exact n1) p' (by omega)
    generalize hW:e - a=W at *
    simp only [F.f61_l1,nth_0,nth_1,nth_2,nth_3,nth_4,nth_5,a1,c12',c0',i64_leq,i64_eql,decide_false,un_not_z,Bool.not_false,tk_eq,opt_some,ifB_false,ifB_true]
    refine S.f50 hE s1.get n1 hsz a e (by omega) hen fun d' H' p' s' =>?_
    simp only [b1,tk_eq,opt_some]
    exact go d' H' p' (s1.trans s')
theorem S.f49 (hE:Fold E) (hS:SWO lt16) (hg:H.get b=arrO u16 d tail f) (hn:d.size=n) (hsz:n<2 ^ 31)
  (hQ:∀ d' H',PermIn 0 n d d'->SortedIn lt16 0 n d'->SortTo H b u16 tail f d' H'->Q (.tuple #[]) H'):E.call (E.fid i.f49) [slc b 0 n c] H Q:=by
 apply hE.f49
 have e1:(BitVec.ofNat 64 n).toNat=n:=by rw [BitVec.toNat_ofNat,Nat.mod_eq_of_lt (by omega)]
 have hc:convInt .u64 (vi (n:Int))=some (u64 (BitVec.ofNat 64 n)):=by rw [i64_to_u64,BitVec.ofInt_natCast]
 simp only [F.f49,lenSlc_slc_z,hc,tk_eq,opt_some]
 refine S.f28 hE _ (by rw [e1]; omega) ?_
 rw [e1]
 have hl:bitsLen n<=31:=by rw [bitsLen_le_iff]; exact hsz
 exact S.f61 hE hS n hg hn hsz 0 n (Nat.zero_le _) (Nat.le_refl _) _ (by omega) (.inl rfl) (by omega) hQ
theorem S.slices_Sort_inode_Number_nil (hE:Fold E) (a:Option Addr) (hQ:Q (.tuple #[]) H):E.call (E.fid i.f49) [.slice a 0 0] H Q:=by
 apply hE.f49
 have hc:convInt .u64 (vi 0)=some (u64 0#64):=by rw [i64_to_u64]; rfl
 have hd:binInt .sub (vi 0) (vi 0)=some (vi 0):=i64_sub (by decide) (by decide)
 simp [F.f49,hc]
 refine S.f28 hE _ (by decide) ?_
 apply hE.f61
 simp only [F.f61]
 refine LoopL.step fun X _ =>?_
 simp [F.f61_l1,hd]
 apply hE.f53
 have ha:binInt .add (vi 0) (vi 1)=some (vi 1):=i64_add (by decide) (by decide)
 simp [F.f53,ha]
 refine LoopL.step fun X _ =>?_
 simp [F.f53_l1]
 exact hQ
end
end Go.AM
end
section
namespace Go.AM
open Go.Sort (SWO PermIn SortedIn)
theorem sort_unique {α:Type} [Inhabited α] {lt:α->α->Bool} (hS:SWO lt) (htri:∀ a b,lt a b=false->lt b a=false->a=b) {n:Nat} {d d':Array α} (hn:d.size=n) (hp:PermIn 0 n d d') (hs:SortedIn lt 0 n d') {L:List α} (hL:d.toList.Perm L)
  (hR:L.Pairwise fun a b=>lt a b=true):d'.toList=L:=by
 have hsz:d'.size=n:=hp.1.trans hn
 have e1:(d'.extract 0 n).toList=d'.toList:=by rw [<- hsz]; simp
 have e2:(d.extract 0 n).toList=d.toList:=by rw [<- hn]; simp
 have hpp:=hp.2.2
 rw [e1,e2] at hpp
 refine List.Perm.eq_of_pairwise (le:=fun a b=>lt b a=false) (fun a b _ _ h1 h2=>htri a b h2 h1) ?_ ?_ (hpp.trans hL)
 ·rw [List.pairwise_iff_getElem]
  intro i j hi hj hij
  have:=hs i j (Nat.zero_le _) hij (by rw [<- hsz]; simpa using hj)
  have hi':i<d'.size:=by simpa using hi
  have hj':j<d'.size:=by simpa using hj
  simpa [hi',hj'] using this
 ·refine hR.imp fun {a b} hab =>?_
  cases hba:lt b a with
  | false=>rfl
  | true =>
   have:=hS.trans a b a hab hba
   rw [hS.irrefl] at this
   simp at this
theorem Grow.arr {α:Type} [Inhabited α] {enc:α->Value} (hp:∀ x,plain1 (enc x)=true) {H:AH} {v:Value} {xs:List α} (g:Grow zH H 1 v (xs.map fun x=>[enc x])) (hne:xs≠[]) :
  ∃ b f c tail,v=slc b 0 xs.length c/\H.get b=arrO enc xs.toArray tail f/\∀ (ys:List α) (H':AH),ys.length=xs.length->H'.get b=arrO enc ys.toArray tail f->Grow zH H' 1 v (ys.map fun x=>[enc x]):=by
 have fl:∀ l:List α,(l.map fun x=>[enc x]).flatten=l.map enc:=by
  intro l
  induction l with
  | nil=>rfl
  | cons a l ih=>simp [ih]
 rcases g.2 with ⟨h,_⟩ | ⟨b,f,c,cs,g1,rfl,g3,g4,g5,g6,g7⟩
 ·exact (hne (by simpa using h)).elim
 ·rw [fl,Nat.mul_one] at g6
  simp only [List.length_map] at g4 g6 ⊢
  have hcs:cs=xs.map enc++cs.drop xs.length:=by rw [<- g6,List.take_append_drop]
  refine ⟨b,f,c,cs.drop xs.length,rfl,?_,fun ys H' hl hg =>?_⟩
  ·rw [g3,arrO]; congr 1
  ·refine ⟨fun r hr =>?_,.inr ⟨b,f,c,ys.map enc++cs.drop xs.length,g1,by simp [hl],hg,by simpa [hl] using g4,?_,?_,g7⟩⟩
   ·obtain ⟨x,_,rfl⟩:=List.mem_map.1 hr
    exact ⟨rfl,by simp [hp]⟩
   ·have:cs.length=(xs.map enc++cs.drop xs.length).length:=congrArg List.length hcs
    simp at this
    simp [hl]; omega
   ·rw [fl]
    simp [hl]
theorem lt16_htri (a b:BitVec 16) (h:lt16 a b=false) (h':lt16 b a=false):a=b:=by
 simp only [lt16,decide_eq_false_iff_not] at h h'
 exact BitVec.eq_of_toNat_eq (by omega)
def strR (l:List NameL):List (List Value):=l.map fun s=>[str s]
def u16R (l:List (BitVec 16)):List (List Value):=l.map fun s=>[u16 s]
theorem strR_length (l:List NameL):(strR l).length=l.length:=by simp [strR]
theorem u16R_length (l:List (BitVec 16)):(u16R l).length=l.length:=by simp [u16R]
section
variable {E:Sy} {H H' H'':AH} {Q:Value->AH->Prop} {p m:Nat} {L L' L'':LyL} {T T' T'':Tr}
def Tr.nums (T:Tr):List (BitVec 16):=((List.range T.N.length).map (BitVec.ofNat 16)).filter fun n=>decide ((T.node n).kind≠0#8)
theorem Tr.nums_mem (hl:T.N.length<=65536) (n:BitVec 16):n∈T.nums↔(T.node n).kind≠0#8:=by
 unfold Tr.nums
 rw [List.mem_filter]
 simp only [decide_eq_true_eq,List.mem_map,List.mem_range]
 constructor
 ·exact fun h=>h.2
 ·intro h
  exact ⟨⟨n.toNat,Tr.node_lt h,by simp⟩,h⟩
theorem Tr.nums_rise (hl:T.N.length<=65536):T.nums.Pairwise fun a b=>lt16 a b=true:=by
 unfold Tr.nums
 refine List.Pairwise.filter _ ?_
 rw [List.pairwise_map]
 refine List.pairwise_lt_range.imp_of_mem fun {a b} ha hb hab =>?_
 have h1:=List.mem_range.1 ha
 have h2:=List.mem_range.1 hb
 simp only [lt16,decide_eq_true_eq,BitVec.toNat_ofNat]
 rw [Nat.mod_eq_of_lt (by omega),Nat.mod_eq_of_lt (by omega)]
 exact hab
theorem Tr.nums_nodup (hl:T.N.length<=65536):T.nums.Nodup :=
 (Tr.nums_rise hl).imp fun {a b} h e=>by subst e; simp [lt16] at h
theorem Cov.perm (h:Cov L T) (hl:T.N.length<=65536):(L.map Prod.fst).Perm T.nums :=
 List.perm_of_nodup_nodup_toFinset_eq' h.nd (Tr.nums_nodup hl) (fun x hx=>(Tr.nums_mem hl x).2 ((h.mem x).1 hx)) fun x hx=>(h.mem x).2 ((Tr.nums_mem hl x).1 hx)
theorem S.f11 (hE:Fold E) (h:Ino H p m L T) (hl:T.N.length<=65536) (hQ:∀ v H',Ext H H'->Rows H' 1 v (u16R T.nums)->FreshV H.next v->Q v H'):E.call (E.fid i.f11) [ptr p 0] H Q:=by
 apply hE.f11
 have hh:=h.head
 have hm:=h.map
 obtain ⟨o,o1,o2⟩:=IterAt.start hm
 have x1:Ext H (H.new o):=(Ext.refl H).new o
 have hp:=h.cov.perm hl
 have hlen:L.length=T.nums.length:=by simpa using hp.length_eq
 have hnl:T.nums.length<=65536:=by
  unfold Tr.nums
  refine Nat.le_trans (List.length_filter_le _ _) ?_
  simpa using hl
 simp only [F.f11,nilp_some_z,nilCk_p,addOff_ptr,load1_ptr,hh,cell_cells_z,Nat.add_zero,List.getElem?_cons_zero,o1,mk_some,mkPtr_eq,tk_eq,opt_some,ifB_false]
 generalize hl2:(L.map fun e=>(e.1,e.2.blk))=l2 at *
 have hl2l:l2.length=L.length:=by rw [<- hl2]; simp
 have hl2f:l2.map Prod.fst=L.map Prod.fst:=by rw [<- hl2]; simp [Function.comp_def]
 refine LoopL.ind (fun j l H'=>Ext H H'/\∃ done v,l=[v,ptr H.next 0]/\IterAt u16 (fun b=>ptr b 0) H' H.next m l2 done/\Grow zH H' 1 v (u16R (done.map Prod.fst))/\FreshV (H.next+1) v/\(done=[]->v=nilS)/\j+done.length=l2.length) ?_ l2.length ⟨x1,[],nilS,rfl,o2,Grow.nil _ _ _,fun b hb=>by simp [blk] at hb,fun _=>rfl,by simp⟩
 rintro j _ H' X hX ⟨e1,done,v,rfl,it,g,fv,hnil,hj⟩
 simp only [F.f11_l1,nth_0,nth_1]
 refine IterAt.next it (fun e ob he hnd it' hen =>?_) fun hpd =>?_
 ·have hput:Ext H (H'.put H.next ob):=e1.put (Nat.le_refl _) ob
  have hd1:done.length+1<=l2.length:=by
   have:=nodup_le (done++[e]) l2 it'.nodup.1 it'.nodup.2
   simpa using this
  have g':Grow zH (H'.put H.next ob) 1 v (u16R (done.map Prod.fst)):=g.keep fun b hb _=>AH.get_put_ne _ _ (by have:=fv b hb; omega)
  have hb1:buildS 1 1 #[(.int .u16 0)] [(0,u16 e.1)]=some (.cells [u16 e.1] none,mkSlc 1 1):=buildS_one 1 [u16 0#16] [u16 e.1] rfl rfl
  obtain ⟨v',H2,a1,a2,a3⟩:=g'.app1 (Nat.zero_le _) (bytes:=2) [u16 e.1] rfl rfl (by decide) (by decide) (by rw [u16R_length,List.length_map]; omega)
  have hlt1:=it'.map.lt
  have hlt2:=it'.lt
  have hrb:H2.get m=(H'.put H.next ob).get m:=a3.1.get hlt1 fun hb=>by
   have:=fv m (mem_blkL.1 hb)
   have:=hm.lt
   omega
  have hib:H2.get H.next=(H'.put H.next ob).get H.next:=a3.1.get hlt2 fun hb=>by
   have:=fv H.next (mem_blkL.1 hb)
   omega
  simp only [ext_tuple,List.getElem?_cons_zero,List.getElem?_cons_succ,hen,hb1,mk_some,mkSlc_eq,a1,opt2_some,tk_eq,opt_some,ifB_true]
  refine hX (j - 1) (by omega) _ _ ⟨?_,done++[e],v',rfl,it'.keep hrb hib,?_,?_,fun h=>by simp at h,?_⟩
  ·refine a3.1.ext hput fun b hb =>?_
   have:=fv b (mem_blkL.1 hb)
   omega
  ·have:u16R ((done++[e]).map Prod.fst)=u16R (done.map Prod.fst)++[[u16 e.1]]:=by simp [u16R]
   rw [this]; exact a2
  ·intro b hb
   have hp1:(H'.put H.next ob).next=H'.next:=rfl
   rcases a3.2 b hb with h1 | h1
   ·exact fv b h1
   ·have:=it.lt
    omega
  ·simp; omega
 ·have hperm:(done.map Prod.fst).Perm T.nums:=(hpd.map _).trans (by rw [hl2f]; exact hp)
  simp only [ext_tuple,List.getElem?_cons_zero,tk_eq,opt_some,ifB_false]
  by_cases hne:done.map Prod.fst=[]
  ·have hd0:done=[]:=by simpa using hne
   have he:T.nums=[]:=by
    have:=hperm.length_eq
    rw [hd0] at this
    exact List.eq_nil_of_length_eq_zero (by simpa using this.symm)
   rw [hnil hd0]
   refine S.slices_Sort_inode_Number_nil hE none ?_
   refine hQ nilS H' e1 ?_ fun b hb=>by simp [blk] at hb
   rw [he]
   exact Rows.nil _ _ none
  ·obtain ⟨b,f,c,tail,rfl,ha,hb⟩:=Grow.arr (fun x=>rfl) g hne
   refine S.f49 hE swo_lt16 ha (by simp) (by have:=hperm.length_eq; simp at this ⊢; omega) fun d' H2 hp2 hs2 st =>?_
   have hu:=sort_unique swo_lt16 lt16_htri (n:=(done.map Prod.fst).length) (by simp) hp2 hs2 (L:=T.nums) hperm (Tr.nums_rise hl)
   refine hQ _ H2 ?_ ?_ fun x hx=>by have:=fv x hx; omega
   ·exact st.only.ext e1 fun x hx=>by
     simp at hx; subst hx
     have:=fv x (by simp [blk])
     omega
   ·rw [<- hu]
    refine (hb d'.toList H2 ?_ st.get).toRows
    have:=hp2.1
    simpa using this
end
end Go.AM
end
section
namespace Go.AM
section
variable {E:Sy} {H:AH} {Q:Value->AH->Prop}
def cutSl:List UInt8->Option (List UInt8×List UInt8)
 | []=>none
 | c :: s=>if c=47 then some ([],s) else (cutSl s).map fun p=>(c :: p.1,p.2)
theorem splitF_cut:∀ (s cur:List UInt8),splitF cur s=match cutSl s with
  | none=>[cur++s]
  | some p=>(cur++p.1) :: splitF [] p.2
 | [],cur=>by simp [splitF,cutSl]
 | c :: s,cur=>by
  by_cases h:c=47
  ·simp [splitF,cutSl,h]
  ·simp only [splitF,cutSl,h,if_false]
   rw [splitF_cut s (cur++[c])]
   cases cutSl s <;> simp
theorem cutSl_index:∀ s:List UInt8,Lib.indexByte s 47=match cutSl s with | none => -1 | some p=>(p.1.length:Int)
 | []=>rfl
 | c :: s=>by
  have ih:=cutSl_index s
  by_cases h:c=47
  ·subst h; simp [Lib.indexByte,cutSl]
  ·have h':(c == 47)=false:=by simpa using h
   simp only [Lib.indexByte,h',cutSl,h,if_false,ih]
   cases hc:cutSl s with
   | none=>simp
   | some p=>simp
theorem cutSl_eq:∀ {s:List UInt8} {p:List UInt8×List UInt8},cutSl s=some p->s=p.1++47 :: p.2
 | [],p,h=>by simp [cutSl] at h
 | c :: s,p,h=>by
  by_cases k:c=47
  ·subst k; simp [cutSl] at h; subst h; rfl
  ·simp only [cutSl,k,if_false,Option.map_eq_some_iff] at h
   obtain ⟨q,h1,rfl⟩:=h
   simp [cutSl_eq h1]
theorem splitF_count:∀ (s cur:List UInt8),(splitF cur s).length=s.count 47+1
 | [],_=>rfl
 | c :: s,cur=>by
  by_cases h:c=47
  ·subst h; simp [splitF,splitF_count s []]
  ·simp [splitF,h,splitF_count s (cur++[c])]
theorem count_le (s:List UInt8):s.count 47<=s.length:=List.count_le_length
theorem S.f65 (hE:Fold E) (s:List UInt8) (hQ:Q (vi (s.count 47:Nat)) H):E.call (E.fid i.f65) [str s,str [47]] H Q:=by
 apply hE.f65
 have h1:ixStr (str [47]) (.int .i64 0)=some (.int .u8 47):=rfl
 simp [F.f65,h1]
 apply hE.f20
 exact hQ
theorem S.f67 (hE:Fold E) (s:List UInt8) (hQ:Q (vi (Lib.indexByte s 47)) H):E.call (E.fid i.f67) [str s,str [47]] H Q:=by
 apply hE.f67
 simp only [F.f67]
 apply hE.f26
 have h1:ixStr (str [47]) (.int .i64 0)=some (.int .u8 47):=rfl
 by_cases hs:[47]=s
 ·subst hs
  simp [F.f26]
  exact hQ
 ·simp [F.f26,h1,hs]
  apply hE.f27
  simp only [F.f27]
  apply hE.f22
  exact hQ
theorem str_extract (l:List UInt8) (a b:Nat):(⟨l.toArray⟩:ByteArray).extract a b=⟨((l.take b).drop a).toArray⟩:=by
 apply ByteArray.ext
 rw [ByteArray.data_extract]
 simp [List.extract_eq_take_drop,List.drop_take]
theorem slStr_take (l:List UInt8) (n:Nat) (h:n<=l.length):slStr (str l) none (some (vi n))=some (str (l.take n)):=by
 have h':n<=(⟨l.toArray⟩:ByteArray).size:=h
 simp only [str,slStr,bnd]
 rw [if_pos ⟨by omega,by exact_mod_cast h'⟩]
 simp [str_extract]
theorem slStr_drop (l:List UInt8) (n:Nat) (h:n<=l.length):slStr (str l) (some (vi n)) none=some (str (l.drop n)):=by
 have h':n<=(⟨l.toArray⟩:ByteArray).size:=h
 have hz:(⟨l.toArray⟩:ByteArray).size=l.length:=rfl
 simp only [str,slStr,bnd,Option.bind_some]
 rw [if_pos ⟨by omega,by rw [hz]; exact_mod_cast h⟩]
 simp [str_extract,hz]
def fillS (done:List NameL) (n:Nat):List (List Value):=strR done++List.replicate n [str []]
theorem fillS_set (done:List NameL) (n:Nat) (s:NameL):(fillS done (n+1)).set done.length [str s]=fillS (done++[s]) n:=by
 have h:(strR done).length=done.length:=strR_length done
 unfold fillS
 rw [<- h,List.set_append_right _ _ (Nat.le_refl _),Nat.sub_self,List.replicate_succ,List.set_cons_zero]
 simp [strR]
theorem fillS_length (done:List NameL) (n:Nat):(fillS done n).length=done.length+n:=by simp [fillS,strR]
theorem S.f69 (hE:Fold E) (s:List UInt8) (hs:s.length<2 ^ 40) (hQ:∀ v H',Ext H H'->Rows H' 1 v (strR (splitF [] s))->Q v H'):E.call (E.fid i.f69) [str s,str [47]] H Q:=by
 apply hE.f69
 simp only [F.f69]
 apply hE.f71
 have hc:=count_le s
 have hn1:binInt .add (vi (s.count 47:Nat)) (.int .i64 1)=some (vi ((s.count 47+1:Nat):Int)):=i64_inc (by omega)
 have hl1:binInt .add (vi (s.length:Nat)) (.int .i64 1)=some (vi ((s.length+1:Nat):Int)):=i64_inc (by omega)
 simp [F.f71]
 refine S.f65 hE s ?_
 have hcnt:=splitF_count s []
 generalize hN:s.count 47=c at *
 have hmin:fold2 min2 [vi ((c+1:Nat):Int),vi ((s.length+1:Nat):Int)]=some (vi ((c+1:Nat):Int)):=by
  rw [i64_min]
  rw [if_neg (by omega)]
 have hsub:binInt .sub (vi ((c+1:Nat):Int)) (.int .i64 1)=some (vi (c:Nat)):=by
  rw [i64_sub (by omega) (by omega)]; simp
 have hmk:=makeS_all 1 16 (c+1) [str []] rfl (by omega) (by omega)
 simp only [F.f71_j1,hn1,lenStr_s,hl1,hmin,tk_eq,opt_some]
 rw [show (#[(.string ⟨#[]⟩)]:Array Value)=[str []].toArray from rfl,hmk]
 simp only [AM.mk_some,hsub,tk_eq,opt_some]
 have g0:Grow zH (H.new (.cells (List.replicate (c+1) [str []]).flatten none)) 1 (slc H.next 0 (c+1) (c+1)) (fillS [] (c+1)) :=
  Grow.made (f:=none) (zH_get _) (by rw [AH.get_new_self]; simp [fillS,strR]) (.inl rfl) (by simp [fillS,strR]) (by
   intro r hr
   simp [fillS,strR] at hr
   subst hr
   exact ⟨rfl,rfl⟩)
 refine LoopL.count c (fun j ls H'=>∃ done rest,ls=[str rest,str [47],vi 0,vi c,slc H.next 0 (c+1) (c+1),vi j]/\done.length=j/\splitF [] s=done++splitF [] rest/\rest.length<=s.length/\Ext H H'/\Grow zH H' 1 (slc H.next 0 (c+1) (c+1)) (fillS done (c+1 - j))) ?_ ⟨[],s,rfl,rfl,rfl,Nat.le_refl _,(Ext.refl H).new _,g0⟩
 rintro j _ H1 X hj hX ⟨done,rest,rfl,hd,hsp,hrl,e1,g1⟩
 have hrc:rest.count 47+j=c:=by
  have h1:=congrArg List.length hsp
  rw [hcnt,List.length_append,splitF_count,hd] at h1
  omega
 by_cases hjc:j<c
 ·have hX:=hX hjc
  have hjc':(j:Int)<c:=by omega
  have hjj:=i64_inc (i:=j) (by omega)
  have hix:=cutSl_index rest
  have hcut:=splitF_cut rest []
  cases hcs:cutSl rest with
  | none =>
   rw [hcs] at hcut
   have h1:=splitF_count rest []
   rw [hcut] at h1
   simp at h1
   omega
  | some p =>
   rw [hcs] at hix hcut
   have hre:=cutSl_eq hcs
   have hpl:p.1.length+p.2.length+1=rest.length:=by rw [hre]; simp; omega
   have hge:¬ ((p.1.length:Int)<0):=by omega
   have hadd0:binInt .add (vi (p.1.length:Nat)) (vi 0)=some (vi (p.1.length:Nat)):=by rw [i64_add (by omega) (by omega)]; simp
   have hadd1:binInt .add (vi (p.1.length:Nat)) (vi 1)=some (vi ((p.1.length+1:Nat):Int)):=i64_inc (by omega)
   have hsl1:slStr (str rest) none (some (vi (p.1.length:Nat)))=some (str p.1):=by
    rw [slStr_take _ _ (by omega),hre,List.take_left' rfl]
   have hsl2:slStr (str rest) (some (vi ((p.1.length+1:Nat):Int))) none=some (str p.2):=by
    rw [slStr_drop _ _ (by omega),hre]
    congr 2
    rw [show p.1++47 :: p.2=(p.1++[47])++p.2 by simp,show p.1.length+1=(p.1++[47]).length by simp,List.drop_left' rfl]
   obtain ⟨b,o,H2,q1,q2,q3,q4,q5⟩:=g1.store (i:=j) (k:=0) (by rw [fillS_length]; omega) (by omega) (str p.1) rfl
   have hlast:(fillS done (c+1 - j)).set j (((fillS done (c+1 - j))[j]'(by rw [fillS_length]; omega)).set 0 (str p.1))=fillS (done++[p.1]) (c+1 - (j+1)):=by
    have e:c+1 - j=(c+1 - (j+1))+1:=by omega
    have h2:(fillS done (c+1 - j))[j]'(by rw [fillS_length]; omega)=[str []]:=by
     subst hd
     simp [fillS,strR]
    rw [h2]
    subst hd
    rw [e]
    exact fillS_set done _ p.1
   rw [hlast] at q4
   simp [F.f71_l1,hjc']
   refine S.f67 hE rest ?_
   rw [hix]
   have q3':store1 (ptr b o) (str p.1) H1=some H2:=by simpa using q3
   simp [-Int.natCast_add,hge,hadd0,hadd1,hsl1,hsl2,q1,q3',hjj]
   refine hX _ _ ⟨done++[p.1],p.2,rfl,by simp [hd],by rw [hsp,hcut]; simp,by omega,?_,q4⟩
   exact q5.ext e1 fun b hb=>by rw [mem_blkL] at hb; simp [blk] at hb; omega
 ·have hjc':¬ (j:Int)<c:=by omega
  have hje:j=c:=by omega
  have hrest:splitF [] rest=[rest]:=by
   have hcut:=splitF_cut rest []
   cases hcs:cutSl rest with
   | none=>rw [hcs] at hcut; simpa using hcut
   | some p =>
    have:=cutSl_eq hcs
    rw [this] at hrc
    simp at hrc
    omega
  have hjj:binInt .add (vi (j:Nat)) (vi 1)=some (vi ((j+1:Nat):Int)):=i64_inc (by omega)
  obtain ⟨b,o,H2,q1,q2,q3,q4,q5⟩:=g1.store (i:=j) (k:=0) (by rw [fillS_length]; omega) (by omega) (str rest) rfl
  have hlast:(fillS done (c+1 - j)).set j (((fillS done (c+1 - j))[j]'(by rw [fillS_length]; omega)).set 0 (str rest))=fillS (done++[rest]) (c+1 - (j+1)):=by
   have e:c+1 - j=(c+1 - (j+1))+1:=by omega
   have h2:(fillS done (c+1 - j))[j]'(by rw [fillS_length]; omega)=[str []]:=by
    subst hd
    simp [fillS,strR]
   rw [h2]
   subst hd
   rw [e]
   exact fillS_set done _ rest
  rw [hlast] at q4
  have q3':store1 (ptr b o) (str rest) H1=some H2:=by simpa using q3
  have e2:Ext H H2:=q5.ext e1 fun b hb=>by rw [mem_blkL] at hb; simp [blk] at hb; omega
  have hrows:Rows H2 1 (slc H.next 0 (c+1) (c+1)) (strR (splitF [] s)):=by
   have:=q4.toRows
   have h0:c+1 - (j+1)=0:=by omega
   rw [h0] at this
   rw [hsp,hrest]
   simpa [fillS] using this
  have hlen:(strR (splitF [] s)).length=j+1:=by rw [strR_length,hcnt]; omega
  obtain ⟨hsl,hrows2⟩:=hrows.slice' (lo:=none) (hi:=some (vi ((j+1:Nat):Int))) (i:=0) (j:=j+1) (.inr ⟨rfl,rfl⟩) (.inl rfl) (by omega) (by omega)
  rw [List.take_of_length_le (by omega),List.drop_zero] at hrows2
  simp [-Int.natCast_add,F.f71_l1,hjc',F.f71_j2,q1,q3',hjj,hsl]
  exact hQ _ _ e2 hrows2
theorem ix_strR {v:Value} {l:List NameL} (h:Rows H 1 v (strR l)) {i:Nat} (hi:i<l.length):∃ b o,ixSlc 1 v (vi i)=some (ptr b o)/\(H.get b).cell o=some (str l[i])/\(H.get b).row o 1=some [str l[i]]:=by
 obtain ⟨b,o,h1,h2⟩:=h.ix (i:=i) (by rw [strR_length]; exact hi)
 have hrow:(strR l)[i]'(by rw [strR_length]; exact hi)=[str l[i]]:=by simp [strR]
 rw [hrow] at h2
 exact ⟨b,o,h1,by have:=row_at h2 (j:=0) (by omega); simpa using this,h2⟩
theorem strR_lenSlc {v:Value} {l:List NameL} (h:Rows H 1 v (strR l)):AM.lenSlc v=some (vi l.length):=by
 have:=h.lenSlc
 rwa [strR_length] at this
theorem filter_take_succ {α:Type} (P:α->Bool) (l:List α) {j:Nat} (hj:j<l.length):(l.take (j+1)).filter P=(l.take j).filter P++if P l[j] then [l[j]] else []:=by
 rw [List.take_succ_eq_append_getElem hj,List.filter_append]
 congr 1
 by_cases h:P l[j] <;> simp [h]
theorem splitF_len (s:List UInt8):(splitF [] s).length<=s.length+1:=by
 rw [splitF_count]
 have:=count_le s
 omega
theorem partsL_le (s:List UInt8):(partsL s).length<=s.length+1:=Nat.le_trans (List.length_filter_le _ _) (splitF_len s)
theorem S.f91 (hE:Fold E) (s:List UInt8) (hs:s.length<2 ^ 40) (hQ:∀ v H',Ext H H'->Grow zH H' 1 v (strR (partsL s))->(∀ b,blk v=some b->H.next<=b)->Q v H'):E.call (E.fid i.f91) [str s] H Q:=by
 apply hE.f91
 simp only [F.f91]
 refine S.f69 hE s hs fun v H1 e1 r1 =>?_
 have hl:=strR_lenSlc r1
 have hlen:=splitF_len s
 simp only [hl,opt_some]
 unfold partsL at hQ
 generalize splitF [] s=l at *
 refine LoopL.count l.length (fun j ls H'=>∃ w,ls=[w,v,vi l.length,vi j]/\Ext H1 H'/\Grow zH H' 1 w (strR ((l.take j).filter okPart))/\FreshV H1.next w) ?_ ⟨nilS,rfl,Ext.refl _,by simpa [strR] using Grow.nil zH H1 1,by simp [blk,FreshV]⟩
 rintro j _ H2 X hj hX ⟨w,rfl,e2,g2,f2⟩
 by_cases hjl:j<l.length
 ·have hX:=hX hjl
  have hjl':(j:Int)<l.length:=by omega
  have hjj:=i64_inc (i:=j) (by omega)
  obtain ⟨b,o,q1,q2,_⟩:=ix_strR (r1.mono e2) hjl
  have hst:=filter_take_succ okPart l hjl
  have hle:((l.take j).filter okPart).length<=j:=Nat.le_trans (List.length_filter_le _ _) (by rw [List.length_take]; omega)
  generalize hx:l[j]=x at *
  by_cases h1:x=[]
  ·have h2:okPart x=false:=by simp [okPart,h1]
   rw [h2] at hst
   simp [-Int.natCast_add,F.f91_l1,hjl',q1,q2,h1,hjj]
   exact hX _ _ ⟨w,rfl,e2,by rw [hst]; simpa using g2,f2⟩
  ·by_cases h3:x=[46]
   ·have h2:okPart x=false:=by simp [okPart,h3]
    rw [h2] at hst
    simp [-Int.natCast_add,F.f91_l1,hjl',q1,q2,h3,hjj]
    exact hX _ _ ⟨w,rfl,e2,by rw [hst]; simpa using g2,f2⟩
   ·have h2:okPart x=true:=by simp [okPart,h1,h3]
    rw [h2] at hst
    obtain ⟨w',H3,a1,a2,a3⟩:=g2.app1 (Nat.zero_le _) (bytes:=16) [str x] rfl rfl (by decide) (by decide) (by rw [strR_length]; omega)
    have hb:=buildS_val (str []) (str x) rfl rfl
    simp [-Int.natCast_add,-buildS_eq,F.f91_l1,hjl',q1,q2,h1,h3,hb,a1,hjj]
    obtain ⟨k1,k2⟩:=grew_ext a3 e2 (H0:=H1) f2
    refine hX _ _ ⟨w',rfl,k1,by rw [hst]; simpa [strR] using a2,k2⟩
 ·have hjl':¬ (j:Int)<l.length:=by omega
  simp [F.f91_l1,hjl']
  refine hQ w H2 (e1.trans e2) (by rw [List.take_of_length_le (by omega)] at g2; exact g2) fun b hb=>Nat.le_trans e1.1 (f2 b hb)
end
end Go.AM
end
section
namespace Go.AM
structure WkAt (H:AH) (t:Nat) (T:Tr) (M:List MntD):Prop where
 at_:∃ p m L q nx,H.get t = .cells [ptr p 0,ptr q 0] none/\Ino H p m L T/\TabAt H q M nx
 older:Older M
theorem WkAt.mono {H H':AH} {t:Nat} {T:Tr} {M:List MntD} (h:WkAt H t T M) (e:Ext H H'):WkAt H' t T M:=by
 obtain ⟨⟨p,m,L,q,nx,h1,h2,h3⟩,h4⟩:=h
 exact ⟨⟨p,m,L,q,nx,e.cells h1,h2.mono e,h3.mono e⟩,h4⟩
section
variable {E:Sy} {H:AH} {Q:Value->AH->Prop} {t:Nat} {T:Tr} {M:List MntD}
theorem nilp_p (b o:Nat):binNil eqPtr .neq (ptr b o) (.pointer none)=some (.bool true):=rfl
theorem nilq_p (b o:Nat):binNil eqPtr .eql (ptr b o) (.pointer none)=some (.bool false):=rfl
theorem S.f90 (hE:Fold E) (h:WkAt H t T M) (hQ:Q (vb true) H):E.call (E.fid i.f90) [ptr t 0] H Q:=by
 apply hE.f90
 obtain ⟨⟨p,m,L,q,nx,h1,h2,h3⟩,h4⟩:=h
 simp [F.f90,nilp_p,h1]
 exact hQ
theorem S.f85 (hE:Fold E) (h:WkAt H t T M) (c:PlaceD) (hQ:∀ H',Ext H H'->Q (vb (dirP T M c)) H'):E.call (E.fid i.f85) [ptr t 0,c.v] H Q:=by
 apply hE.f85
 have x1:Ext H (H.new (.cells c.cells none)):=(Ext.refl H).new _
 have hb:=AH.get_new_self H (.cells c.cells none)
 generalize hH1:H.new (.cells c.cells none)=H1 at *
 simp [F.f85,hH1]
 refine S.f90 hE (h.mono x1) ?_
 obtain ⟨⟨p,m,L,q,nx,h1,h2,h3⟩,h4⟩:=h.mono x1
 simp [h1,hb,PlaceD.cells]
 refine S.f7 hE h2 c.i ?_
 simp [h1,hb,PlaceD.cells]
 have x2:Ext H1 (H1.new (.cells [vi 0,vi 0,u16 0#16,u16 0#16,vi 0] none)):=(Ext.refl _).new _
 have hb2:=AH.get_new_self H1 (.cells [vi 0,vi 0,u16 0#16,u16 0#16,vi 0] none)
 refine S.f34 hE q M nx c.m (h3.mono x2) fun H5 e5 =>?_
 have hb5:=e5.cells hb2
 refine ⟨by rw [hb5,hb2],?_⟩
 have hst:storeN 5 (ptr H1.next 0) (optM (getT M c.m)).v H5=some (H5.put H1.next (.cells (optM (getT M c.m)).cells none)):=by
  rw [storeN_ptr,hb5]; rfl
 have x3:Ext H (H5.put H1.next (.cells (optM (getT M c.m)).cells none)):=(x1.trans (x2.trans e5)).put (b:=H1.next) x1.1 _
 have hQ:=hQ _ x3
 have hg:∀ b cs,H1.get b = .cells cs none->(H5.put H1.next (.cells (optM (getT M c.m)).cells none)).get b = .cells cs none:=fun b cs hh=>by
  rw [AH.get_put_ne _ _ (Nat.ne_of_lt (AH.lt_cells hh))]; exact (x2.trans e5).cells hh
 generalize H5.put H1.next (.cells (optM (getT M c.m)).cells none)=H6 at *
 unfold dirP at hQ
 cases hs:(getT M c.m).isSome with
 | false =>
  rw [hs] at hQ
  simp at hQ
  simp [hst]
  exact hQ
 | true =>
  rw [hs] at hQ
  rcases h2.get c.i with ⟨k0,_⟩ | ⟨kk,yy,k0,k1,k2,k3,k4⟩
  ·simp [k0] at hQ
   simp [hst,nodeP_none h2.cov k0]
   exact hQ
  ·have hk:=hg _ _ k3
   have he:binInt .eql (u8 (T.node c.i).kind) (.int .u8 2)=some (vb (decide ((T.node c.i).kind=2#8))):=by simp
   simp at hQ
   simp [hst,nodeP_some h2.cov.nd k1,nilp_p,hk,inC,he]
   exact hQ
def belowM (M:List MntD) (p:PlaceD):Nat:=(M.filter fun m=>decide (m.id<=p.m)).length
theorem getT_some {id:Int} {m:MntD} (h:getT M id=some m):m∈M/\m.id=id:=⟨List.mem_of_find?_eq_some h,by simpa using List.find?_some h⟩
theorem downT_some {p q:PlaceD} (h:downT M p=some q):∃ m,getT M p.m=some m/\m.id≠0/\m.root=p.i/\m.at_=q:=by
 unfold downT at h
 split at h
 ·simp at h
 ·rename_i m hm
  split at h
  ·simp at h
  ·rename_i hc
   simp only [not_or,Decidable.not_not] at hc
   exact ⟨m,hm,hc.1,hc.2,by simpa using h⟩
theorem below_step (ho:Older M) {p q:PlaceD} (h:downT M p=some q):belowM M q<belowM M p:=by
 obtain ⟨m,h1,h2,h3,rfl⟩:=downT_some h
 obtain ⟨hm,hi⟩:=getT_some h1
 have:=ho m hm h2
 refine filter_lt _ _ M (fun x _ hx =>?_) m hm (by simpa using this) (by simpa using Int.le_of_eq hi)
 simp only [decide_eq_true_eq] at hx ⊢
 omega
theorem downsN_stable (ho:Older M):∀ (n:Nat) (p:PlaceD),belowM M p<=n->downsN M n p=downsN M (n+1) p
 | 0,p,h=>by
  cases hf:downT M p with
  | none=>simp [downsN,hf]
  | some q=>have:=below_step ho hf; omega
 | n+1,p,h=>by
  cases hf:downT M p with
  | none=>simp [downsN,hf]
  | some q =>
   have:=below_step ho hf
   have ih:=downsN_stable ho n q (by omega)
   rw [downsN,downsN,hf]
   exact ih
theorem below_le (M:List MntD) (p:PlaceD):belowM M p<=M.length:=List.length_filter_le _ _
theorem downs_none {p:PlaceD} (h:downT M p=none):downs M p=p:=by
 unfold downs
 cases M.length <;> simp [downsN,h]
theorem downs_some (ho:Older M) {p q:PlaceD} (h:downT M p=some q):downs M p=downs M q:=by
 have h1:=below_step ho h
 have h2:=below_le M p
 unfold downs
 obtain ⟨n,hn⟩:∃ n,M.length=n+1:=⟨M.length - 1,by omega⟩
 rw [hn,downsN,h]
 exact downsN_stable ho n _ (by omega)
theorem mkPlace (a:Int) (b:BitVec 16):buildV [(0,1),(1,1)] #[(.int .i64 0),(.int .u16 0)] [(0,vi a),(1,u16 b)]=some (PlaceD.v ⟨a,b⟩):=rfl
theorem mkPlace0:buildV [(0,1),(1,1)] #[(.int .i64 0),(.int .u16 0)] []=some PlaceD.zero.v:=rfl
theorem S.f88 (hE:Fold E) (h:WkAt H t T M) (c:PlaceD) (hQ:∀ H',Ext H H'->Q (upP T M c).v H'):E.call (E.fid i.f88) [ptr t 0,c.v] H Q:=by
 apply hE.f88
 simp [F.f88]
 generalize hH2:(H.new _).new _=H2
 have x2:Ext H H2:=by subst hH2; exact ((Ext.refl H).new _).new _
 have k1:H2.get H.next = .cells c.cells none:=by subst hH2; simp [AH.get_new]
 have k2:H2.get (H.next+1) = .cells [vi 0,u16 0#16] none:=by subst hH2; simp [AH.get_new]
 clear hH2
 have hl:loadN 2 (ptr H.next 0) H2=some c.v:=by rw [loadN_ptr,k1]; rfl
 simp [hl]
 refine S.f85 hE (h.mono x2) c fun H3 e3 =>?_
 have st:∀ (z:PlaceD) (H':AH),H'.get (H.next+1) = .cells [vi 0,u16 0#16] none->storeN 2 (ptr (H.next+1) 0) z.v H'=some (H'.put (H.next+1) (.cells z.cells none))/\loadN 2 (ptr (H.next+1) 0) (H'.put (H.next+1) (.cells z.cells none))=some z.v:=by
  intro z H' hh
  constructor
  ·rw [storeN_ptr,hh]; rfl
  ·rw [loadN_ptr,AH.get_put_self _ _ (AH.lt_cells hh)]; rfl
 unfold upP at hQ
 cases hd:dirP T M c with
 | false =>
  rw [hd] at hQ
  simp at hQ
  simp
  refine S.f42 hE fun H4 e4 =>?_
  obtain ⟨s1,s2⟩:=st ⟨0,1#16⟩ H4 (e4.cells (e3.cells k2))
  simp [s1,s2]
  exact hQ _ ((x2.trans (e3.trans e4)).put (b:=H.next+1) (by omega) _)
 | true =>
  rw [hd] at hQ
  simp at hQ
  simp
  refine LoopL.ind (fun n s H'=>∃ r,n=belowM M r/\s=[ptr t 0,ptr H.next 0,ptr (H.next+1) 0]/\Ext H H'/\downs M r=downs M c/\H'.get H.next = .cells r.cells none/\H'.get (H.next+1) = .cells [vi 0,u16 0#16] none) ?_ (belowM M c) ⟨c,rfl,rfl,x2.trans e3,rfl,e3.cells k1,e3.cells k2⟩
  rintro n _ H4 X hX ⟨r,rfl,rfl,e4,hs,m1,m2⟩
  obtain ⟨⟨p,m,L,q,nx,h1,h2,h3⟩,ho⟩:=h.mono e4
  have l1:=AH.lt_cells m1
  have l2:=AH.lt_cells m2
  have hl:loadN 2 (ptr H.next 0) H4=some r.v:=by rw [loadN_ptr,m1]; rfl
  simp [F.f88_l1,h1,hl]
  have x5:Ext H4 (H4.new (.cells [vi 0,u16 0#16] none)):=(Ext.refl _).new _
  have hb5:=AH.get_new_self H4 (.cells [vi 0,u16 0#16] none)
  refine S.f33 hE q M nx r (h3.mono x5) fun H5 e5 =>?_
  have hb5':=e5.cells hb5
  refine ⟨by rw [hb5',hb5],?_⟩
  have hst:storeN 2 (ptr H4.next 0) (optP (downT M r)).v H5=some (H5.put H4.next (.cells (optP (downT M r)).cells none)):=by rw [storeN_ptr,hb5']; rfl
  have hg:∀ b cs,H4.get b = .cells cs none->(H5.put H4.next (.cells (optP (downT M r)).cells none)).get b = .cells cs none:=fun b cs hh=>by
   rw [AH.get_put_ne _ _ (Nat.ne_of_lt (AH.lt_cells hh))]; exact (x5.trans e5).cells hh
  have x6:Ext H4 (H5.put H4.next (.cells (optP (downT M r)).cells none)):=(x5.trans e5).put (b:=H4.next) (Nat.le_refl _) _
  have hb6:(H5.put H4.next (.cells (optP (downT M r)).cells none)).get H4.next = .cells (optP (downT M r)).cells none:=AH.get_put_self _ _ (AH.lt_cells hb5')
  simp [hst]
  generalize H5.put H4.next (.cells (optP (downT M r)).cells none)=H6 at *
  cases hdn:downT M r with
  | none =>
   have hdr:=downs_none hdn
   rw [<- hs,hdr] at hQ
   simp [hg _ _ h1,hg _ _ m1,PlaceD.cells]
   refine S.f7 hE (h2.mono x6) r.i ?_
   rcases (h2.mono x6).get r.i with ⟨k0,_⟩ | ⟨kk,yy,k0,k1,k2,k3,k4⟩
   ·simp [nodeP_none h2.cov k0]
    refine S.f42 hE fun H7 e7 =>?_
    obtain ⟨s1,s2⟩:=st ⟨0,1#16⟩ H7 (e7.cells (hg _ _ m2))
    simp [s1,s2]
    simp [k0] at hQ
    exact hQ _ ((e4.trans (x6.trans e7)).put (b:=H.next+1) (by omega) _)
   ·simp [nodeP_some h2.cov.nd k1,nilq_p,hg _ _ h1,hg _ _ m1,PlaceD.cells,k3,inC,mkPlace]
    refine S.f36 hE q M nx ⟨r.m,(T.node r.i).parent⟩ (h3.mono x6) ho fun H7 e7 =>?_
    obtain ⟨s1,s2⟩:=st (seen M ⟨r.m,(T.node r.i).parent⟩) H7 (e7.cells (hg _ _ m2))
    simp [s1,s2]
    simp [k0] at hQ
    exact hQ _ ((e4.trans (x6.trans e7)).put (b:=H.next+1) (by omega) _)
  | some q' =>
   have hdr:=downs_some ho hdn
   have hlt:=below_step ho hdn
   rw [hdn] at hb6
   have hl6:loadN 2 (ptr H4.next 0) H6=some q'.v:=by rw [loadN_ptr,hb6]; rfl
   have hs6:storeN 2 (ptr H.next 0) q'.v H6=some (H6.put H.next (.cells q'.cells none)):=by rw [storeN_ptr,hg _ _ m1]; rfl
   simp [hl6,hs6]
   refine hX (belowM M q') hlt _ _ ⟨q',rfl,rfl,(e4.trans x6).put (b:=H.next) (Nat.le_refl _) _,by rw [<- hdr]; exact hs,AH.get_put_self _ _ (AH.lt_cells (hg _ _ m1)),?_⟩
   rw [AH.get_put_ne _ _ (by omega)]
   exact hg _ _ m2
end
end Go.AM
end
section
namespace Go.AM
def wayC (t:Nat) (w:WayD) (lv:Value):List Value:=[ptr t 0,vi w.at_.m,u16 w.at_.i,lv,vi (w.links:Nat)]
abbrev wayV (t:Nat) (w:WayD) (lv:Value):Value := .agg (wayC t w lv).toArray
theorem Rows.plainV {H:AH} {v:Value} {rows:List (List Value)} {sz:Nat} (h:Rows H sz v rows):plain1 v=true:=by
 rcases h.at_ with ⟨_,c,rfl⟩ | ⟨b,o,c,rfl,_⟩
 ·cases c <;> rfl
 ·rfl
section
variable {E:Sy} {H H0 Z:AH} {Q:Value->AH->Prop} {t:Nat} {T:Tr} {M:List MntD} {L:List Res}
theorem wayC_plain (t:Nat) (w:WayD) {lv:Value} (h:plain1 lv=true):(wayC t w lv).all plain1=true:=by
 simp only [wayC,List.all_cons,List.all_nil,h]; rfl
theorem way_store (t:Nat) (w:WayD) {lv:Value} (h:plain1 lv=true) {b:Nat} {cs:List Value} (hl:cs.length=5) {H:AH} (hg:H.get b = .cells cs none):storeN 5 (ptr b 0) (wayV t w lv) H=some (H.put b (.cells (wayC t w lv) none)):=by
 rw [storeN_ptr,hg]
 have h5:(wayC t w lv).length=5:=rfl
 have:AM.splice cs 0 (wayC t w lv)=wayC t w lv:=by simp [splice,hl,h5]
 simp only [List.size_toArray,List.toList_toArray,wayC_plain t w h,h5,hl,Nat.zero_add,Nat.le_refl,and_self,if_true,this]
theorem way_load (t:Nat) (w:WayD) {lv:Value} {b:Nat} {H:AH} (hg:H.get b = .cells (wayC t w lv) none):loadN 5 (ptr b 0) H=some (wayV t w lv):=by
 rw [loadN_ptr,hg]; rfl
theorem S.f89 (hE:Fold E) (h:WkAt H t T M) (c:PlaceD) (path:List UInt8) (hp:path.length<2 ^ 63) (hQ:∀ lv H',Ext H H'->Rows H' 1 lv (strR (beginW M c path).1.left)->FreshV H.next lv->Q (.tuple #[wayV t (beginW M c path).1 lv,vi (beginW M c path).2]) H'):E.call (E.fid i.f89) [ptr t 0,c.v,str path] H Q:=by
 apply hE.f89
 have hz:([.pointer none,vi 0,u16 0#16,nilS,vi 0]:List Value).length=5:=rfl
 have hbv:buildV [(0,1),(1,2),(3,1),(4,1)] #[(.pointer none),(.int .i64 0),u16 0#16,(.slice none 0 0),(.int .i64 0)] [(0,ptr t 0),(1,c.v)]=some (wayV t ⟨c,[],0⟩ nilS):=rfl
 simp only [F.f89,boxO_agg_z,AM.mk_some,mkPtr_eq_z,allocW_eq,AH.next_new_z,u16_lit0_z,tk_eq]
 generalize hH2:(H.new _).new _=H2
 have x2:Ext H H2:=by subst hH2; exact ((Ext.refl H).new _).new _
 have k1:H2.get H.next = .cells c.cells none:=by subst hH2; simp [AH.get_new]
 have k2:H2.get (H.next+1) = .cells [.pointer none,vi 0,u16 0#16,nilS,vi 0] none:=by subst hH2; simp [AH.get_new]
 have n2:H2.next=H.next+2:=by subst hH2; simp
 clear hH2
 have hl:loadN 2 (ptr H.next 0) H2=some c.v:=by rw [loadN_ptr,k1]; rfl
 have x3:Ext H2 (H2.new (.cells [.pointer none,vi 0,u16 0#16,nilS,vi 0] none)):=(Ext.refl _).new _
 have k3:=AH.get_new_self H2 (.cells [.pointer none,vi 0,u16 0#16,nilS,vi 0] none)
 have s3:=way_store t ⟨c,[],0⟩ (lv:=nilS) rfl hz k3
 simp only [AH.next_new_z,hl,hbv,allocW_eq,u16_lit0_z,s3,tk_eq,opt_some]
 have x4:Ext H2 ((H2.new (.cells [.pointer none,vi 0,u16 0#16,nilS,vi 0] none)).put H2.next (.cells (wayC t ⟨c,[],0⟩ nilS) none)):=x3.put (b:=H2.next) (Nat.le_refl _) _
 have k4:((H2.new (.cells [.pointer none,vi 0,u16 0#16,nilS,vi 0] none)).put H2.next (.cells (wayC t ⟨c,[],0⟩ nilS) none)).get H2.next = .cells (wayC t ⟨c,[],0⟩ nilS) none:=AH.get_put_self _ _ (AH.lt_cells k3)
 generalize (H2.new (.cells [.pointer none,vi 0,u16 0#16,nilS,vi 0] none)).put H2.next (.cells (wayC t ⟨c,[],0⟩ nilS) none)=H4 at *
 refine S.f90 hE (h.mono (x2.trans x4)) ?_
 have fin:∀ (w:WayD) (lv:Value) (e:Int) (H':AH) (R:Value->AH->Prop),H'.get H2.next = .cells (wayC t w lv) none->H'.get (H.next+1) = .cells [.pointer none,vi 0,u16 0#16,nilS,vi 0] none->plain1 lv=true ->
   R (.tuple #[wayV t w lv,vi e]) (H'.put (H.next+1) (.cells (wayC t w lv) none)) ->
   opt (loadN 5 (ptr H2.next 0) H') fun v8=>opt (storeN 5 (ptr (H.next+1) 0) v8 H') fun H6=>opt (loadN 5 (ptr (H.next+1) 0) H6) fun v9=>R (.tuple #[v9,vi e]) H6:=by
  intro w lv e H' R g1 g2 hpl hR
  simp only [way_load t w g1,way_store t w hpl hz g2,way_load t w (AH.get_put_self _ _ (AH.lt_cells g2)),tk_eq,opt_some]
  exact hR
 simp only [un_not_z,Bool.not_true,tk_eq,opt_some,ifB_false]
 unfold beginW at hQ
 have k24:=x4.cells k2
 have x24:=x2.trans x4
 by_cases h0:path=[]
 ·subst h0
  simp only [show binStr .eql (str []) (.string ⟨#[]⟩)=some (vb true) from binStr_eql [] [],AH.next_new_z,tk_eq,opt_some,ifB_true]
  refine fin ⟨c,[],0⟩ nilS 2 H4 Q k4 k24 rfl (hQ nilS _ (x24.put (b:=H.next+1) (by omega) _) ?_ (by simp [FreshV,blk]))
  simpa [strR] using Rows.nil _ 1 none
 have h0':binStr .eql (str path) (.string ⟨#[]⟩)=some (vb false):=by
  show binStr .eql (str path) (str [])=_
  rw [binStr_eql]; simp [h0]
 by_cases h1:120<path.length
 ·have h1':(120:Int)<path.length:=by omega
  simp only [h0',lenStr_s,i64_gtr,gt_iff_lt,h1',decide_true,tk_eq,opt_some,ifB_true,ifB_false]
  simp only [h0,h1,if_false,if_true] at hQ
  refine fin ⟨c,[],0⟩ nilS 36 H4 Q k4 k24 rfl (hQ nilS _ (x24.put (b:=H.next+1) (by omega) _) ?_ (by simp [FreshV,blk]))
  simpa [strR] using Rows.nil _ 1 none
 have h1':¬ (120:Int)<path.length:=by omega
 simp only [h0,h1,if_false] at hQ
 have join:∀ (a:PlaceD) (H':AH),Ext H H'->H'.get H2.next = .cells (wayC t ⟨a,[],0⟩ nilS) none->H'.get (H.next+1) = .cells [.pointer none,vi 0,u16 0#16,nilS,vi 0] none ->
   (∀ lv H',Ext H H'->Rows H' 1 lv (strR (partsL path))->FreshV H.next lv->Q (.tuple #[wayV t ⟨a,partsL path,0⟩ lv,vi 0]) H')->F.f89_j1 E Q (str path) (ptr (H.next+1) 0) (ptr H2.next 0) H':=by
  intro a H' e g1 g2 hQ'
  simp only [F.f89_j1]
  refine S.f91 hE path (by omega) fun lv H5 e5 g5 f5 =>?_
  have m1:=e5.cells g1
  have m2:=e5.cells g2
  have hpl:=g5.plain
  have hst:store1 (ptr H2.next 3) lv H5=some (H5.put H2.next (.cells (wayC t ⟨a,partsL path,0⟩ lv) none)):=by
   rw [store1_ptr,if_pos hpl,m1]; rfl
  simp only [addOff_ptr,Nat.zero_add,hst,tk_eq,opt_some]
  have l1:=AH.lt_cells m1
  refine fin ⟨a,partsL path,0⟩ lv 0 _ Q (AH.get_put_self _ _ l1) (by rw [AH.get_put_ne _ _ (by omega)]; exact m2) hpl (hQ' lv _ (((e.trans e5).put (b:=H2.next) (by omega) _).put (b:=H.next+1) (by omega) _) ?_ (fun b hb=>Nat.le_trans e.1 (f5 b hb)))
  have hb:∀ b,blk lv=some b->b≠H2.next/\b≠H.next+1:=fun b hb=>by
   have:=f5 b hb
   have:=AH.lt_cells g1
   have:=AH.lt_cells g2
   omega
  exact (g5.keep fun b hb' _=>by rw [AH.get_put_ne _ _ (hb b hb').2,AH.get_put_ne _ _ (hb b hb').1]).toRows
 obtain ⟨ch,tl,rfl⟩:∃ ch tl,path=ch :: tl:=by
  cases path with
  | nil=>exact (h0 rfl).elim
  | cons ch tl=>exact ⟨ch,tl,rfl⟩
 have hix:ixStr (str (ch :: tl)) (.int .i64 0)=some (.int .u8 ch.toNat):=rfl
 by_cases hc:ch=47
 ·subst hc
  have hc':binInt .eql (.int .u8 (UInt8.toNat 47)) (.int .u8 47)=some (vb true):=rfl
  obtain ⟨⟨p,m,L,q,nx,h1,h2,h3⟩,ho⟩:=h.mono x24
  simp only [h0',lenStr_s,i64_gtr,gt_iff_lt,h1',decide_false,hix,hc',nilCk_p,addOff_ptr,load1_ptr,Nat.zero_add,h1,cell_cells_z,List.getElem?_cons_succ,List.getElem?_cons_zero,tk_eq,opt_some,ifB_true,ifB_false]
  refine S.f42 hE fun H5 e5 =>?_
  refine ⟨by rw [load1_ptr,load1_ptr,e5.cells h1,h1],?_⟩
  refine S.f36 hE q M nx ⟨0,1#16⟩ (h3.mono e5) ho fun H6 e6 =>?_
  have m1:=e6.cells (e5.cells k4)
  have hst:storeN 2 (ptr H2.next 1) (seen M ⟨0,1#16⟩).v H6=some (H6.put H2.next (.cells (wayC t ⟨seen M ⟨0,1#16⟩,[],0⟩ nilS) none)):=by
   rw [storeN_ptr,m1]; rfl
  simp only [addOff_ptr,Nat.zero_add,hst,AH.next_new_z,tk_eq,opt_some]
  refine join (seen M ⟨0,1#16⟩) _ ((x24.trans (e5.trans e6)).put (b:=H2.next) (by omega) _) (AH.get_put_self _ _ (AH.lt_cells m1)) (by rw [AH.get_put_ne _ _ (by omega)]; exact e6.cells (e5.cells k24)) ?_
  simpa [topP] using hQ
 ·have hc':binInt .eql (.int .u8 ch.toNat) (.int .u8 47)=some (vb false):=by
   have:¬ ch.toNat=47:=fun e=>hc (UInt8.toNat_inj.1 e)
   show some (vb (((ch.toNat:Int)) == 47))=_
   congr 2
   simp; omega
  simp only [h0',lenStr_s,i64_gtr,gt_iff_lt,h1',decide_false,hix,hc',tk_eq,opt_some,ifB_false]
  refine join c _ x24 k4 k24 ?_
  simpa [hc] using hQ
theorem set_last {α:Type} (L:List α) (r r':α):(L++[r]).set L.length r'=L++[r']:=by
 rw [List.set_append_right _ _ (Nat.le_refl _),Nat.sub_self]; rfl
theorem erase_last {α:Type} (L:List α) (r:α):(L++[r]).eraseIdx L.length=L:=by
 rw [List.eraseIdx_append_of_length_le (Nat.le_refl _),Nat.sub_self]; simp
theorem setL_snoc {α:Type} (L:List α) (r x:α) {k:Nat} (hk:k<L.length):(L++[r]).set k x=L.set k x++[r]:=List.set_append_left _ _ hk
theorem getE_lt {α:Type} {L:List α} {k:Nat} {r:α} (h:L[k]? = some r):k<L.length:=(List.getElem?_eq_some_iff.1 h).1
theorem getE_set {α:Type} {L:List α} {k:Nat} {r:α} (h:L[k]? = some r) (x:α):(L.set k x)[k]? = some x:=by
 have:=getE_lt h
 simp [this]
theorem getE_snoc {α:Type} {L:List α} {k:Nat} {r:α} (h:L[k]? = some r) (x:α):(L++[x])[k]? = some r:=by
 rw [List.getElem?_append_left (getE_lt h)]; exact h
def followY (M:List MntD) (w:WayD) (text:List UInt8):WayD×Int :=
 if 8<w.links+1 then (⟨w.at_,w.left,w.links+1⟩,40) else (⟨if text.head? = some 47 then seen M topP else w.at_,partsL text++w.left,w.links+1⟩,0)
theorem S.f92 (hE:Fold E) (h:WkAt H0 t T M) {w:WayD} {lv:Value} {k b:Nat} (hs:Has H0 Z H L) (hk:L[k]? = some (boxR b (wayC t w lv))) (hl:Rows Z 1 lv (strR w.left)) (hn:w.left.length<2 ^ 40) (hlk:w.links<=100) (text:List UInt8) (ht:text≠[]/\text.length<=120)
  (hQ:∀ lv' Z' H',Fz H0.next Z Z'->Has H0 Z' H' (L.set k (boxR b (wayC t (followY M w text).1 lv')))->Rows Z' 1 lv' (strR (followY M w text).1.left)->Q (vi (followY M w text).2) H'):E.call (E.fid i.f92) [ptr b 0,str text] H Q:=by
 apply hE.f92
 have hb:=hs.box hk
 have hadd:binInt .add (vi (w.links:Nat)) (.int .i64 1)=some (vi ((w.links+1:Nat):Int)):=i64_inc (by omega)
 have hst:store1 (ptr b 4) (vi ((w.links+1:Nat):Int)) H=some (H.put b (.cells (wayC t ⟨w.at_,w.left,w.links+1⟩ lv) none)):=by
  rw [store1_ptr,if_pos (show plain1 (vi ((w.links+1:Nat):Int))=true from rfl),hb]; rfl
 have h1:=hs.put hk (wayC t ⟨w.at_,w.left,w.links+1⟩ lv)
 have hk1:=getE_set hk (boxR b (wayC t ⟨w.at_,w.left,w.links+1⟩ lv))
 have c4:(wayC t w lv)[4]? = some (vi (w.links:Nat)):=rfl
 simp only [F.f92,nilCk_p,addOff_ptr,load1_ptr,Nat.zero_add,hb,cell_cells_z,c4,hadd,hst,tk_eq,opt_some]
 generalize H.put b (.cells (wayC t ⟨w.at_,w.left,w.links+1⟩ lv) none)=H1 at *
 have hb1:=h1.box hk1
 have c41:(wayC t ⟨w.at_,w.left,w.links+1⟩ lv)[4]? = some (vi ((w.links+1:Nat):Int)):=rfl
 unfold followY at hQ
 by_cases h8:8<w.links+1
 ·have h8':(8:Int)<((w.links+1:Nat):Int):=by omega
  simp only [hb1,cell_cells_z,c41,i64_gtr,gt_iff_lt,h8',decide_true,tk_eq,opt_some,ifB_true]
  rw [if_pos h8] at hQ
  exact hQ lv Z H1 (Fz.refl _ _) h1 hl
 rw [if_neg h8] at hQ
 have h8':¬ (8:Int)<((w.links+1:Nat):Int):=by omega
 obtain ⟨ch,tl,rfl⟩:∃ ch tl,text=ch :: tl:=by
  cases text with
  | nil=>exact (ht.1 rfl).elim
  | cons ch tl=>exact ⟨ch,tl,rfl⟩
 have hix:ixStr (str (ch :: tl)) (.int .i64 0)=some (.int .u8 ch.toNat):=rfl
 have join:∀ (a:PlaceD) (H':AH),Has H0 Z H' (L.set k (boxR b (wayC t ⟨a,w.left,w.links+1⟩ lv))) ->
   (∀ lv' Z' H',Fz H0.next Z Z'->Has H0 Z' H' (L.set k (boxR b (wayC t ⟨a,partsL (ch :: tl)++w.left,w.links+1⟩ lv')))->Rows Z' 1 lv' (strR (partsL (ch :: tl)++w.left))->Q (vi 0) H')->F.f92_j1 E Q (ptr b 0) (str (ch :: tl)) H':=by
  intro a H' g hQ'
  have hkk:=getE_set hk (boxR b (wayC t ⟨a,w.left,w.links+1⟩ lv))
  have gb:=g.box hkk
  have c3:(wayC t ⟨a,w.left,w.links+1⟩ lv)[3]? = some lv:=rfl
  simp only [F.f92_j1,nilCk_p,addOff_ptr,load1_ptr,Nat.zero_add,gb,cell_cells_z,c3,tk_eq,opt_some]
  refine S.f91 hE _ (by omega) fun v H5 e5 g5 f5 =>?_
  have hpl:=partsL_le (ch :: tl)
  have g1:Has H0 Z H5 (L.set k (boxR b (wayC t ⟨a,w.left,w.links+1⟩ lv))++[growR 1 v (strR (partsL (ch :: tl)))]) :=
   g.add _ e5 g5 (fun x hx=>⟨f5 x (mem_blkL.1 hx),g5.blk_lt (mem_blkL.1 hx)⟩) (blkL_nodup v)
  generalize hLL:L.set k (boxR b (wayC t ⟨a,w.left,w.links+1⟩ lv))=LL at *
  have gb5:=g1.box (getE_snoc hkk _)
  refine ⟨by rw [load1_ptr,load1_ptr,gb5,gb],?_⟩
  have hx:=hl.sub g1.sub
  have hkl:(LL++[growR 1 v (strR (partsL (ch :: tl)))])[LL.length]? = some (growR 1 v (strR (partsL (ch :: tl)))):=by simp
  simp only [List.length_cons] at ht hpl
  obtain ⟨v',H6,a1,a2,a3⟩:=g1.app hkl (bytes:=16) hx (by intro r hr; simp only [strR,List.mem_map] at hr; obtain ⟨_,_,rfl⟩:=hr; rfl) (by decide) (by decide) (by rw [strR_length,strR_length]; omega) (by rw [strR_length,strR_length]; omega)
  rw [set_last] at a3
  have gb6:=a3.box (getE_snoc hkk _)
  have hst2:store1 (ptr b 3) v' H6=some (H6.put b (.cells (wayC t ⟨a,partsL (ch :: tl)++w.left,w.links+1⟩ v') none)):=by
   rw [store1_ptr,if_pos a2,gb6]; rfl
  have a4:=a3.put (getE_snoc hkk _) (wayC t ⟨a,partsL (ch :: tl)++w.left,w.links+1⟩ v')
  rw [setL_snoc _ _ _ (getE_lt hkk)] at a4
  have hlen:(LL.set k (boxR b (wayC t ⟨a,partsL (ch :: tl)++w.left,w.links+1⟩ v'))).length=LL.length:=by simp
  obtain ⟨Z',z1,z2,z3⟩:=a4.freeze (k:=LL.length) (r:=growR 1 v' (strR (partsL (ch :: tl))++strR w.left)) (by rw [<- hlen]; simp)
  rw [<- hlen,erase_last] at z3
  subst hLL
  rw [List.set_set] at z3
  simp only [a1,nilCk_p,addOff_ptr,Nat.zero_add,hst2,tk_eq,opt2_some,opt_some]
  refine hQ' v' Z' _ z1 z3 ?_
  have:=Grow.toRows z2
  rw [<- show strR (partsL (ch :: tl))++strR w.left=strR (partsL (ch :: tl)++w.left) by simp [strR]]
  exact this
 by_cases hc:ch=47
 ·subst hc
  have hc':binInt .eql (.int .u8 (UInt8.toNat 47)) (.int .u8 47)=some (vb true):=rfl
  obtain ⟨⟨p,m,L',q,nx,q1,q2,q3⟩,ho⟩:=h.mono h1.ext
  have c0:(wayC t ⟨w.at_,w.left,w.links+1⟩ lv)[0]? = some (ptr t 0):=rfl
  simp only [hb1,cell_cells_z,c41,i64_gtr,gt_iff_lt,h8',decide_false,hix,hc',c0,nilCk_p,addOff_ptr,load1_ptr,Nat.zero_add,Nat.add_zero,q1,List.getElem?_cons_succ,List.getElem?_cons_zero,tk_eq,opt_some,ifB_true,ifB_false]
  refine S.f42 hE fun H5 e5 =>?_
  have h5:=h1.grow e5
  refine ⟨by rw [load1_ptr,load1_ptr,e5.cells q1,q1],by rw [load1_ptr,load1_ptr,h5.box hk1,hb1],?_⟩
  refine S.f36 hE q M nx ⟨0,1#16⟩ (q3.mono e5) ho fun H6 e6 =>?_
  have h6:=h5.grow e6
  have hb6:=h6.box hk1
  have hst3:storeN 2 (ptr b 1) (seen M ⟨0,1#16⟩).v H6=some (H6.put b (.cells (wayC t ⟨seen M ⟨0,1#16⟩,w.left,w.links+1⟩ lv) none)):=by
   rw [storeN_ptr,hb6]; rfl
  have h7:=h6.put hk1 (wayC t ⟨seen M ⟨0,1#16⟩,w.left,w.links+1⟩ lv)
  rw [List.set_set] at h7
  simp only [nilCk_p,addOff_ptr,Nat.zero_add,hst3,tk_eq,opt_some]
  refine join _ _ h7 ?_
  simpa [topP] using hQ
 ·have hc':binInt .eql (.int .u8 ch.toNat) (.int .u8 47)=some (vb false):=by
   have:¬ ch.toNat=47:=fun e=>hc (UInt8.toNat_inj.1 e)
   show some (vb (((ch.toNat:Int)) == 47))=_
   congr 2
   simp; omega
  simp only [hb1,cell_cells_z,c41,i64_gtr,gt_iff_lt,h8',decide_false,hix,hc',tk_eq,opt_some,ifB_false]
  refine join _ _ h1 ?_
  simpa [hc] using hQ
end
end Go.AM
end
section
namespace Go.AM
def Tr.LT (T:Tr):Prop:=∀ n,(T.node n).kind=3#8->(T.node n).text≠[]/\(T.node n).text.length<=120
section
variable {E:Sy} {H H0 Z:AH} {Q:Value->AH->Prop} {t:Nat} {T:Tr} {M:List MntD} {L:List Res}
theorem S.f93 (hE:Fold E) (h:WkAt H0 t T M) (wf:T.WF) (lt:T.LT) {w:WayD} {lv:Value} {k b:Nat} (hs:Has H0 Z H L) (hk:L[k]? = some (boxR b (wayC t w lv))) (hl:Rows Z 1 lv (strR w.left)) (hn:w.left.length<2 ^ 40) (hlk:w.links<=100) (hne:w.left≠[]) (follow:Bool)
  (hQ:∀ lv' Z' H',Fz H0.next Z Z'->Has H0 Z' H' (L.set k (boxR b (wayC t (stepY T M w follow).1 lv')))->Rows Z' 1 lv' (strR (stepY T M w follow).1.left)->Q (vi (stepY T M w follow).2) H'):E.call (E.fid i.f93) [ptr b 0,vb follow] H Q:=by
 apply hE.f93
 obtain ⟨a0,left,links⟩:=w
 cases left with
 | nil=>exact (hne rfl).elim
 | cons name left =>
 have hb:=hs.box hk
 have hl1:=hl.sub hs.sub
 obtain ⟨b1,o1,p1,p2,_⟩:=ix_strR hl1 (i:=0) (by simp)
 have p1:ixSlc 1 lv (vi 0)=some (ptr b1 o1):=p1
 have p2:(H.get b1).cell o1=some (str name):=p2
 have hlenL:(strR (name :: left)).length=left.length+1:=by simp [strR]
 obtain ⟨s1,_⟩:=hl1.slice' (lo:=some (vi (1:Nat))) (hi:=none) (i:=1) (j:=left.length+1) (.inl rfl) (.inr ⟨rfl,by rw [hlenL]⟩) (by omega) (by rw [hlenL]; exact Nat.le_refl _)
 obtain ⟨_,s2⟩:=hl.slice' (lo:=some (vi (1:Nat))) (hi:=none) (i:=1) (j:=left.length+1) (.inl rfl) (.inr ⟨rfl,by rw [hlenL]⟩) (by omega) (by rw [hlenL]; exact Nat.le_refl _)
 rw [List.take_of_length_le (by rw [hlenL]; exact Nat.le_refl _)] at s2
 have s2:Rows Z 1 (sliceV 1 lv 1 (left.length+1)) (strR left):=by simpa [strR] using s2
 have s1:slSlc 1 lv (some (vi 1)) none none H=some (sliceV 1 lv 1 (left.length+1)):=s1
 have hpl:=s2.plainV
 generalize sliceV 1 lv 1 (left.length+1)=lv1 at *
 have hst:store1 (ptr b 3) lv1 H=some (H.put b (.cells (wayC t ⟨a0,left,links⟩ lv1) none)):=by
  rw [store1_ptr,if_pos hpl,hb]; rfl
 have h1:=hs.put hk (wayC t ⟨a0,left,links⟩ lv1)
 have hk1:=getE_set hk (boxR b (wayC t ⟨a0,left,links⟩ lv1))
 have c3:(wayC t ⟨a0,name :: left,links⟩ lv)[3]? = some lv:=rfl
 simp only [F.f93,hb,c3,p1,p2,s1,hst,stdZ]
 generalize H.put b (.cells (wayC t ⟨a0,left,links⟩ lv1) none)=H1 at *
 have hb1:=h1.box hk1
 have c0:(wayC t ⟨a0,left,links⟩ lv1)[0]? = some (ptr t 0):=rfl
 have hlo:loadN 2 (ptr b 1) H1=some a0.v:=by rw [loadN_ptr,hb1]; rfl
 simp only [hb1,c0,hlo,stdZ]
 refine S.f85 hE (h.mono h1.ext) a0 fun H2 e2 =>?_
 have h2:=h1.grow e2
 have hb2:=h2.box hk1
 have fin:∀ (a:PlaceD) (e:Int) (H':AH),Has H0 Z H' (L.set k (boxR b (wayC t ⟨a,left,links⟩ lv1)))->(stepY T M ⟨a0,name :: left,links⟩ follow)=(⟨a,left,links⟩,e)->Q (vi e) H':=by
  intro a e H' g he
  rw [he] at hQ
  exact hQ lv1 Z H' (Fz.refl _ _) g s2
 simp only [un_not_z,stdZ]
 cases hd:dirP T M a0 with
 | false =>
  simp only [Bool.not_false,ifB_true]
  refine fin a0 20 _ h2 ?_
  simp [stepY,hd]
 | true =>
 simp only [Bool.not_true,ifB_false]
 by_cases hdd:name=[46,46]
 ·have hdd':binStr .eql (str name) (.string ⟨#[46,46]⟩)=some (vb true):=by
   show binStr .eql (str name) (str [46,46])=_
   rw [binStr_eql]; simp [hdd]
  have hlo2:loadN 2 (ptr b 1) H2=some a0.v:=by rw [loadN_ptr,hb2]; rfl
  simp only [hdd',hb2,c0,hlo2,stdZ]
  refine S.f88 hE (h.mono h2.ext) a0 fun H3 e3 =>?_
  have h3:=h2.grow e3
  have hb3:=h3.box hk1
  have hst3:storeN 2 (ptr b 1) (upP T M a0).v H3=some (H3.put b (.cells (wayC t ⟨upP T M a0,left,links⟩ lv1) none)):=by
   rw [storeN_ptr,hb3]; rfl
  have h4:=h3.put hk1 (wayC t ⟨upP T M a0,left,links⟩ lv1)
  rw [List.set_set] at h4
  have hk4:=getE_set hk (boxR b (wayC t ⟨upP T M a0,left,links⟩ lv1))
  generalize hu:upP T M a0=u at *
  simp only [hst3,stdZ]
  generalize H3.put b (.cells (wayC t ⟨u,left,links⟩ lv1) none)=H4 at *
  have hb4:=h4.box hk4
  obtain ⟨⟨p,m,L',q,nx,q1,q2,q3⟩,ho⟩:=h.mono h4.ext
  have c04:(wayC t ⟨u,left,links⟩ lv1)[0]? = some (ptr t 0):=rfl
  have c24:(wayC t ⟨u,left,links⟩ lv1)[2]? = some (u16 u.i):=rfl
  simp only [hb4,c04,c24,q1,stdZ]
  refine S.f7 hE q2 u.i ?_
  have hlo4:loadN 2 (ptr b 1) H4=some u.v:=by rw [loadN_ptr,hb4]; rfl
  rcases q2.get u.i with ⟨k0,_⟩ | ⟨kk,yy,k0,k1,k2,k3,k4⟩
  ·simp [nodeP_none q2.cov k0]
   refine fin u 0 _ h4 ?_
   simp [stepY,hd,hdd,hu,k0]
  ·simp [-loadN_ptr,nodeP_some q2.cov.nd k1,nilp_p,hb4,c04,hlo4]
   refine S.f85 hE (h.mono h4.ext) u fun H5 e5 =>?_
   have h5:=h4.grow e5
   cases hdu:dirP T M u with
   | false =>
    simp
    refine fin u 2 _ h5 ?_
    simp [stepY,hd,hdd,hu,k0,hdu]
   | true =>
    simp
    refine fin u 0 _ h5 ?_
    simp [stepY,hd,hdd,hu,k0,hdu]
 have hdd':binStr .eql (str name) (.string ⟨#[46,46]⟩)=some (vb false):=by
  show binStr .eql (str name) (str [46,46])=_
  rw [binStr_eql]; simp [hdd]
 by_cases h14:14<name.length
 ·have h14':(14:Int)<name.length:=by omega
  simp only [hdd',lenStr_s,i64_gtr,gt_iff_lt,h14',decide_true,stdZ]
  refine fin a0 36 _ h2 ?_
  simp [stepY,hd,hdd,h14]
 have h14':¬ (14:Int)<name.length:=by omega
 obtain ⟨⟨p,m,L',q,nx,q1',q2',q3'⟩,ho⟩:=id h
 have q1:=h2.ext.cells q1'
 have q2:=q2'.mono h2.ext
 have q3:=q3'.mono h2.ext
 have c2:(wayC t ⟨a0,left,links⟩ lv1)[2]? = some (u16 a0.i):=rfl
 simp only [hdd',lenStr_s,i64_gtr,gt_iff_lt,h14',decide_false,hb2,c0,c2,q1,stdZ]
 refine S.f8 hE q2 a0.i name ?_
 have hstep:stepY T M ⟨a0,name :: left,links⟩ follow=if (T.look a0.i name).2≠0 then (⟨a0,left,links⟩,(T.look a0.i name).2) else
   if (T.node (T.look a0.i name).1).kind=3#8/\(follow=true\/left≠[]) then followY M ⟨a0,left,links⟩ (T.node (T.look a0.i name).1).text
   else if (T.node (T.look a0.i name).1).kind=2#8 then (⟨seen M ⟨a0.m,(T.look a0.i name).1⟩,left,links⟩,0) else (⟨⟨a0.m,(T.look a0.i name).1⟩,left,links⟩,0):=by
  simp [stepY,hd,hdd,h14,followY]
 rw [hstep] at fin hQ
 have hlook:(T.look a0.i name).2=0->(T.node (T.look a0.i name).1).kind≠0#8:=fun e=>(wf.pos (Tr.look_ok e).2).2.2.2.1
 generalize T.look a0.i name=lk at *
 simp only [ext_tuple,i64_neq,stdZ]
 by_cases he:lk.2=0
 rotate_left
 ·simp only [ne_eq,he,not_false_eq_true,decide_true,ifB_true]
  refine fin a0 lk.2 _ h2 ?_
  simp [he]
 rw [if_neg (by simpa using he)] at fin hQ
 simp only [ne_eq,he,not_true,decide_false,hb2,c0,q1,stdZ]
 refine S.f7 hE q2 lk.1 ?_
 rcases q2'.get lk.1 with ⟨k0,_⟩ | ⟨kk,yy,k0,k1,k2,k3',k4⟩
 ·exact (hlook he k0).elim
 have k3:=h2.ext.cells k3'
 simp only [nodeP_some q2.cov.nd k1,k3,inC,stdZ]
 have hl2:=strR_lenSlc (s2.sub h2.sub)
 have c3':(wayC t ⟨a0,left,links⟩ lv1)[3]? = some lv1:=rfl
 have c1':(wayC t ⟨a0,left,links⟩ lv1)[1]? = some (vi a0.m):=rfl
 have hnp:=nodeP_some q2.cov.nd k1
 have hnl:left.length<2 ^ 40:=by simp only [List.length_cons] at hn; omega
 have stay:¬ ((T.node lk.1).kind=3#8/\(follow=true\/left≠[])) -> 
   opt (nilCk (ptr b 0)) fun v94=>opt (addOff v94 1) fun v95=>opt (addOff v95 0) fun v96=>opt (load1 v96 H2) fun v97 =>
    opt (buildV [(0,1),(1,1)] #[(.int .i64 0),(.int .u16 0)] [(0,v97),(1,u16 lk.1)]) fun v98 =>
    opt (nilCk (ptr b 0)) fun v99=>opt (addOff v99 1) fun v100=>opt (storeN 2 v100 v98 H2) fun H28 =>
    opt (nilCk (nodeP L' lk.1)) fun v101=>opt (addOff v101 1) fun v102=>opt (load1 v102 H28) fun v103=>opt (binInt .eql v103 (.int .u8 2)) fun v104 =>
    ifB v104 (opt (nilCk (ptr b 0)) fun v105=>opt (addOff v105 0) fun v106=>opt (load1 v106 H28) fun v107=>opt (nilCk v107) fun v108=>opt (addOff v108 1) fun v109=>opt (load1 v109 H28) fun v110 =>
     opt (nilCk (ptr b 0)) fun v111=>opt (addOff v111 1) fun v112=>opt (loadN 2 v112 H28) fun v113 =>
     E.call (E.fid i.f36) [v110,v113] H28 fun v114 H29=>opt (nilCk (ptr b 0)) fun v115=>opt (addOff v115 1) fun v116=>opt (storeN 2 v116 v114 H29) fun H30=>Q (.int .i64 0) H30) (Q (.int .i64 0) H28):=by
  intro hnf
  rw [if_neg hnf] at fin
  have hst5:storeN 2 (ptr b 1) (PlaceD.v ⟨a0.m,lk.1⟩) H2=some (H2.put b (.cells (wayC t ⟨⟨a0.m,lk.1⟩,left,links⟩ lv1) none)):=by
   rw [storeN_ptr,hb2]; rfl
  have h5:=h2.put hk1 (wayC t ⟨⟨a0.m,lk.1⟩,left,links⟩ lv1)
  rw [List.set_set] at h5
  have hk5:=getE_set hk (boxR b (wayC t ⟨⟨a0.m,lk.1⟩,left,links⟩ lv1))
  simp only [hb2,c1',mkPlace,hst5,stdZ]
  generalize H2.put b (.cells (wayC t ⟨⟨a0.m,lk.1⟩,left,links⟩ lv1) none)=H5 at *
  have hb5:=h5.box hk5
  have w1:=h5.ext.cells q1'
  have w3:=q3'.mono h5.ext
  have c05:(wayC t ⟨⟨a0.m,lk.1⟩,left,links⟩ lv1)[0]? = some (ptr t 0):=rfl
  have hk:load1 (ptr yy.blk 1) H5=some (u8 (T.node lk.1).kind):=by
   rw [load1_ptr,h5.ext.cells k3']; rfl
  simp only [hnp,hk,stdZ]
  by_cases h2k:(T.node lk.1).kind=2#8
  ·have e2:binInt .eql (u8 (T.node lk.1).kind) (.int .u8 2)=some (vb true):=by
    show binInt .eql (u8 (T.node lk.1).kind) (u8 2#8)=_
    rw [u8_eql]; simp [h2k]
   have hlo5:loadN 2 (ptr b 1) H5=some (PlaceD.v ⟨a0.m,lk.1⟩):=by rw [loadN_ptr,hb5]; rfl
   simp only [e2,hb5,c05,w1,hlo5,stdZ]
   refine S.f36 hE q M nx ⟨a0.m,lk.1⟩ w3 ho fun H6 e6 =>?_
   have h6:=h5.grow e6
   have hb6:=h6.box hk5
   have hst6:storeN 2 (ptr b 1) (seen M ⟨a0.m,lk.1⟩).v H6=some (H6.put b (.cells (wayC t ⟨seen M ⟨a0.m,lk.1⟩,left,links⟩ lv1) none)):=by
    rw [storeN_ptr,hb6]; rfl
   have h7:=h6.put hk5 (wayC t ⟨seen M ⟨a0.m,lk.1⟩,left,links⟩ lv1)
   rw [List.set_set] at h7
   simp only [hst6,stdZ]
   exact fin _ 0 _ h7 (by rw [if_pos h2k])
  ·have e2:binInt .eql (u8 (T.node lk.1).kind) (.int .u8 2)=some (vb false):=by
    show binInt .eql (u8 (T.node lk.1).kind) (u8 2#8)=_
    rw [u8_eql]; simp [h2k]
   simp only [e2,stdZ]
   exact fin _ 0 _ h5 (by rw [if_neg h2k])
 by_cases hk3:(T.node lk.1).kind=3#8
 ·have ht:=lt lk.1 hk3
  by_cases hf:follow=true\/left≠[]
  ·rw [if_pos ⟨hk3,hf⟩] at hQ
   have hfol:=S.f92 (Q:=fun v H=>Q v H) hE h h2 hk1 s2 hnl hlk (T.node lk.1).text ht (fun lv' Z' H' z1 z2 z3=>hQ lv' Z' H' z1 (by rwa [List.set_set] at z2) z3)
   cases follow with
   | true =>
    simp [hk3,hnp,k3,inC]
    exact hfol
   | false =>
    have hpos:0<left.length:=List.length_pos_iff.2 (by simpa using hf)
    simp [hk3,hnp,k3,inC,hb2,c3',hl2,hpos]
    exact hfol
  ·have hf1:follow=false:=by cases follow <;> simp_all
   have hf2:left=[]:=by
    refine Classical.byContradiction fun hc=>hf (.inr hc)
   have st2:=stay fun hc=>hf hc.2
   subst hf1
   subst hf2
   have e3:binInt .eql (u8 (T.node lk.1).kind) (.int .u8 3)=some (vb true):=by
    show binInt .eql (u8 (T.node lk.1).kind) (u8 3#8)=_
    rw [u8_eql]; simp [hk3]
   have hl3:AM.lenSlc lv1=some (vi 0):=hl2
   simp only [e3,gd_tt,gd_ff,hb2,c3',hl3,i64_gtr,gt_iff_lt,Int.lt_irrefl,decide_false,pick_true_z,pick_false_z,stdZ]
   simp only [hb2,stdZ] at st2
   exact st2
 ·have st2:=stay fun hc=>hk3 hc.1
  have e3:binInt .eql (u8 (T.node lk.1).kind) (.int .u8 3)=some (vb false):=by
   show binInt .eql (u8 (T.node lk.1).kind) (u8 3#8)=_
   rw [u8_eql]; simp [hk3]
  simp only [e3,gd_ft,gd_skip,pick_false_z,hb2,stdZ]
  simp only [hb2,stdZ] at st2
  exact st2
end
end Go.AM
end
section
namespace Go.AM
section
variable {E:Sy} {H H' H0 Z:AH} {Q:Value->AH->Prop} {t:Nat} {T:Tr} {M:List MntD} {L:List Res}
theorem Has.callee (h:Has H0 Z H L) (e:Ext H H'):∃ Z',Fz H.next Z Z'/\Has H0 Z' H' L/\∀ sz v rows,Rows H' sz v rows->FreshV H.next v->Rows Z' sz v rows:=by
 have hg:∀ b,(AH.mk H'.next fun b=>if b<H.next then Z.get b else H'.get b).get b=if b<H.next then Z.get b else H'.get b:=by
  intro b
  simp only [AH.get]
  by_cases hb:b<H'.next
  ·rw [if_pos hb]
  ·have h1:¬ b<H.next:=fun hb'=>hb (Nat.lt_of_lt_of_le hb' e.1)
   have h2:¬ b<H'.next:=hb
   simp [h1,h2]
 refine ⟨⟨H'.next,fun b=>if b<H.next then Z.get b else H'.get b⟩,⟨⟨Nat.le_trans h.sub.1 e.1,fun b hb =>?_⟩,fun b hb=>by rw [hg,if_pos hb]⟩,?_,?_⟩
 ·rw [hg]
  split
  ·rfl
  ·rename_i hn
   exact (hb (AH.get_ge _ (Nat.le_trans h.sub.1 (by omega)))).elim
 ·refine h.refreeze e ⟨⟨Nat.le_trans h.sub.1 e.1,fun b hb =>?_⟩,fun b hb=>by rw [hg,if_pos hb]⟩ ⟨Nat.le_refl _,fun b hb =>?_⟩
  ·rw [hg]
   split
   ·rfl
   ·rename_i hn
    exact (hb (AH.get_ge _ (Nat.le_trans h.sub.1 (by omega)))).elim
  ·rw [hg] at hb ⊢
   split
   ·rename_i hlt
    rw [if_pos hlt] at hb
    rw [e.get hlt]
    exact h.sub.2 b hb
   ·rfl
 ·intro sz v rows hr hf
  refine ⟨hr.len,?_⟩
  rcases hr.at_ with g | ⟨b,o,c,g1,g2,g3,g4⟩
  ·exact .inl g
  ·by_cases hrn:rows=[]
   ·have hz:¬ b<H.next:=by
     have:=hf b (by rw [g1]; rfl)
     omega
    exact .inr ⟨b,o,c,g1,g2,by rw [hg,if_neg hz]; exact g3,by rw [hg,if_neg hz]; exact g4⟩
   ·have hz:¬ b<H.next:=by
     have:=hf b (by rw [g1]; rfl)
     omega
    exact .inr ⟨b,o,c,g1,g2,by rw [hg,if_neg hz]; exact g3,by rw [hg,if_neg hz]; exact g4⟩
theorem stepY_need (lt:T.LT) {w:WayD} (follow:Bool) (hne:w.left≠[]) (hlk:w.links<=8) (h0:(stepY T M w follow).2=0):(stepY T M w follow).1.need<w.need/\(stepY T M w follow).1.links<=8:=by
 obtain ⟨a,left,links⟩:=w
 cases left with
 | nil=>exact (hne rfl).elim
 | cons name left =>
  have hlk:links<=8:=hlk
  have stay:∀ a':PlaceD,(WayD.mk a' left links).need<(WayD.mk a (name :: left) links).need/\(WayD.mk a' left links).links<=8:=by
   intro a'
   refine ⟨?_,hlk⟩
   simp only [WayD.need,List.length_cons]
   omega
  revert h0
  unfold stepY
  simp only
  split
  ·intro h; simp at h
  split
  ·split
   ·intro h; simp at h
   ·intro _; exact stay _
  split
  ·intro h; simp at h
  split
  ·rename_i h4
   intro h; exact (h4 h).elim
  split
  ·rename_i h5
   split
   ·intro h; simp at h
   ·rename_i h6
    intro _
    have ht:=(lt _ h5.1).2
    have hp:=partsL_le (T.node (T.look a.i name).1).text
    refine ⟨?_,by show links+1<=8; omega⟩
    simp only [WayD.need,List.length_cons,List.length_append]
    omega
  ·split
   ·intro _; exact stay _
   ·intro _; exact stay _
theorem walkN_stable (lt:T.LT) (follow:Bool):∀ (n:Nat) (w:WayD),w.need<=n->w.links<=8->walkN T M follow n w=walkN T M follow (n+1) w
 | 0,w,h,hl=>by
  have:w.left=[]:=List.eq_nil_of_length_eq_zero (by unfold WayD.need at h; omega)
  simp [walkN,this]
 | n+1,w,h,hl=>by
  rw [walkN,walkN]
  split
  ·rfl
  ·rename_i hne
   split
   ·rfl
   ·rename_i h0
    have:=stepY_need (M:=M) lt follow hne hl (by simpa using h0)
    exact walkN_stable lt follow n _ (by omega) this.2
theorem walkN_enough (lt:T.LT) (follow:Bool) (w:WayD) (hl:w.links<=8):∀ (d n:Nat),w.need<=n->walkN T M follow (n+d) w=walkN T M follow n w
 | 0,_,_=>rfl
 | d+1,n,h=>by rw [<- Nat.add_assoc,<- walkN_stable lt follow (n+d) w (by omega) hl,walkN_enough lt follow w hl d n h]
theorem walkW_nil (follow:Bool) {w:WayD} (h:w.left=[]):walkW T M follow w=(w,0):=by
 unfold walkW
 cases w.need <;> simp [walkN,h]
theorem walkW_step (lt:T.LT) (follow:Bool) {w:WayD} (h:w.left≠[]) (hl:w.links<=8):walkW T M follow w=if (stepY T M w follow).2≠0 then stepY T M w follow else walkW T M follow (stepY T M w follow).1:=by
 have hpos:0<w.need:=by
  have:=List.length_pos_iff.2 h
  unfold WayD.need; omega
 unfold walkW
 obtain ⟨n,hn⟩:∃ n,w.need=n+1:=⟨w.need - 1,by omega⟩
 rw [hn,walkN,if_neg h]
 split
 ·rfl
 ·rename_i h0
  have:=stepY_need (M:=M) lt follow h hl (by simpa using h0)
  obtain ⟨d,hd⟩:∃ d,n=(stepY T M w follow).1.need+d:=⟨n - (stepY T M w follow).1.need,by omega⟩
  rw [hd]
  exact walkN_enough lt follow _ this.2 d _ (Nat.le_refl _)
theorem S.f66 (hE:Fold E) (s:List UInt8) (hs:s.length<2 ^ 63) (hQ:Q (vb (endsSlash s)) H):E.call (E.fid i.f66) [str s,str [47]] H Q:=by
 apply hE.f66
 simp only [F.f66]
 apply hE.f25
 unfold endsSlash at hQ
 cases hs0:s.reverse with
 | nil =>
  obtain rfl:s=[]:=by simpa using hs0
  simp [F.f25]
  simpa using hQ
 | cons c l =>
  obtain rfl:s=l.reverse++[c]:=by
   have:=congrArg List.reverse hs0
   simpa using this
  have hl:((l.reverse++[c]).length:Int)=(l.length:Int)+1:=by simp
  have h1:(1:Int)<=(l.length:Int)+1:=by omega
  simp only [List.length_append,List.length_reverse,List.length_cons,List.length_nil] at hs
  have hsub:binInt .sub (vi ((l.length:Int)+1)) (vi 1)=some (vi (l.length:Nat)):=by
   rw [i64_sub (by omega) (by omega)]; simp
  have hsl:slStr (str (l.reverse++[c])) (some (vi (l.length:Nat))) none=some (str [c]):=by
   rw [slStr_drop _ _ (by simp)]
   congr 2
   rw [List.drop_append]
   simp
  simp [F.f25,h1,hsub,hsl]
  simpa using hQ
end
end Go.AM
end
section
namespace Go.AM
section
variable {E:Sy} {H H' H0 Z:AH} {Q:Value->AH->Prop} {t:Nat} {T:Tr} {M:List MntD} {L:List Res}
theorem beginW_links (M:List MntD) (c:PlaceD) (path:List UInt8):(beginW M c path).1.links=0/\(beginW M c path).1.left.length<=121:=by
 unfold beginW
 split
 ·exact ⟨rfl,by simp⟩
 ·split
  ·exact ⟨rfl,by simp⟩
  ·exact ⟨rfl,by have:=partsL_le path; show (partsL path).length<=121; omega⟩
theorem answer {rb:Nat} {z:PlaceD} (hz:H.get rb = .cells z.cells none) (p:PlaceD) {R:Value->AH->Prop} (hR:R p.v (H.put rb (.cells p.cells none))) :
  opt (storeN 2 (ptr rb 0) p.v H) fun H3=>opt (loadN 2 (ptr rb 0) H3) fun v10=>R v10 H3:=by
 have h1:storeN 2 (ptr rb 0) p.v H=some (H.put rb (.cells p.cells none)):=by rw [storeN_ptr,hz]; rfl
 have h2:loadN 2 (ptr rb 0) (H.put rb (.cells p.cells none))=some p.v:=by rw [loadN_ptr,AH.get_put_self _ _ (AH.lt_cells hz)]; rfl
 simp only [h1,h2,tk_eq,opt_some]
 exact hR
theorem S.f86 (hE:Fold E) (h:WkAt H t T M) (wf:T.WF) (lt:T.LT) (c:PlaceD) (path:List UInt8) (hp:path.length<2 ^ 63) (follow:Bool)
  (hQ:∀ H',Ext H H'->Q (.tuple #[(findW T M c path follow).1.v,vi (findW T M c path follow).2]) H'):E.call (E.fid i.f86) [ptr t 0,c.v,str path,vb follow] H Q:=by
 apply hE.f86
 have g0:Has H H H []:=Has.start (Ext.refl H)
 have g1:=g0.newbox c.cells
 have g2:=g1.newbox PlaceD.zero.cells
 have hz2:([(.int .i64 0),(.int .u16 0)]:List Value)=PlaceD.zero.cells:=rfl
 simp only [F.f86,boxO_agg_z,AM.mk_some,mkPtr_eq_z,allocW_eq,hz2,List.toList_toArray,tk_eq]
 have hb1:=g2.box (k:=0) rfl
 have hl1:loadN 2 (ptr H.next 0) ((H.new (.cells c.cells none)).new (.cells PlaceD.zero.cells none))=some c.v:=by rw [loadN_ptr,hb1]; rfl
 generalize hrb:(H.new (.cells c.cells none)).next=rb at *
 simp only [hl1,stdZ]
 generalize (H.new (.cells c.cells none)).new (.cells PlaceD.zero.cells none)=H2 at *
 refine S.f89 hE (h.mono g2.ext) c path hp fun lv H3 e3 r3 f3 =>?_
 obtain ⟨Z3,z1,g3,z3⟩:=g2.callee e3
 have rz:=z3 1 lv _ r3 f3
 have hlv:=rz.plainV
 have hbg:=beginW_links M c path
 unfold findW at hQ
 generalize hbw:beginW M c path=bw at *
 have hz5:([(.pointer none),(.int .i64 0),(.int .u16 0),(.slice none 0 0),(.int .i64 0)]:List Value).length=5:=rfl
 have g4:=g3.newbox [(.pointer none),(.int .i64 0),(.int .u16 0),(.slice none 0 0),(.int .i64 0)]
 have hb4:=g4.box (k:=2) (b:=H3.next) rfl
 have hst:=way_store t bw.1 hlv hz5 hb4
 have g5:=g4.put (k:=2) (b:=H3.next) rfl (wayC t bw.1 lv)
 simp only [ext_tuple,allocW_eq,hst,stdZ]
 generalize hwb:H3.next=wb at *
 generalize (H3.new (.cells [(.pointer none),(.int .i64 0),(.int .u16 0),(.slice none 0 0),(.int .i64 0)] none)).put wb (.cells (wayC t bw.1 lv) none)=H5 at *
 have g5:Has H Z3 H5 [boxR H.next c.cells,boxR rb PlaceD.zero.cells,boxR wb (wayC t bw.1 lv)]:=g5
 simp only [i64_neq,stdZ]
 by_cases he:bw.2=0
 rotate_left
 ·simp only [ne_eq,he,not_false_eq_true,decide_true,mkPlace0,stdZ]
  rw [if_pos (by simpa using he)] at hQ
  refine answer (R:=fun v H=>Q (.tuple #[v,vi bw.2]) H) (g5.box (k:=1) rfl) PlaceD.zero ?_
  exact hQ _ (g5.put (k:=1) (b:=rb) rfl PlaceD.zero.cells).ext
 rw [if_neg (by simpa using he)] at hQ
 simp only [ne_eq,he,not_true,decide_false,stdZ]
 refine S.f66 hE path hp ?_
 generalize endsSlash path=slash at *
 refine LoopL.ind (fun n ls H'=>∃ w lv Z',n=w.need/\ls=[ptr t 0,vb follow,ptr rb 0,ptr wb 0,vb slash]/\Has H Z' H' [boxR H.next c.cells,boxR rb PlaceD.zero.cells,boxR wb (wayC t w lv)]/\Rows Z' 1 lv (strR w.left)/\w.links<=8/\w.need<=5000/\walkW T M (follow||slash) w=walkW T M (follow||slash) bw.1) ?_ bw.1.need ⟨bw.1,lv,Z3,rfl,rfl,g5,rz,by omega,by unfold WayD.need; omega,rfl⟩
 rintro n _ H6 X hX ⟨w,lv,Z',rfl,rfl,g6,r6,hlk,hnd,hww⟩
 have hb6:=g6.box (k:=2) (b:=wb) rfl
 have c3:(wayC t w lv)[3]? = some lv:=rfl
 have hl6:=strR_lenSlc (r6.sub g6.sub)
 have hneed:w.left.length<=w.need:=by unfold WayD.need; omega
 by_cases hne:w.left=[]
 ·rw [<- hww,walkW_nil _ hne] at hQ
  simp only [ne_eq,not_true,if_false] at hQ
  have hl0:AM.lenSlc lv=some (vi 0):=by rw [hl6,hne]; rfl
  obtain ⟨⟨p,m,L',q,nx,q1,q2,q3⟩,ho⟩:=h.mono g6.ext
  have c2:(wayC t w lv)[2]? = some (u16 w.at_.i):=rfl
  simp only [F.f86_l1,nth_0,nth_1,nth_2,nth_3,nth_4,hb6,c3,hl0,i64_gtr,gt_iff_lt,Int.lt_irrefl,decide_false,q1,c2,stdZ]
  refine S.f7 hE q2 w.at_.i ?_
  have hz6:=g6.box (k:=1) rfl
  rcases q2.get w.at_.i with ⟨k0,_⟩ | ⟨kk,yy,k0,k1,k2,k3,k4⟩
  ·rw [if_pos k0] at hQ
   simp only [nodeP_none q2.cov k0,nilp_none_z,mkPlace0,stdZ]
   refine answer (R:=fun v H=>Q (.tuple #[v,vi 2]) H) hz6 PlaceD.zero ?_
   exact hQ _ (g6.put (k:=1) (b:=rb) rfl PlaceD.zero.cells).ext
  ·rw [if_neg k0] at hQ
   simp only [nodeP_some q2.cov.nd k1,nilq_p,stdZ]
   have hlo6:loadN 2 (ptr wb 1) H6=some w.at_.v:=by rw [loadN_ptr,hb6]; rfl
   cases slash with
   | false =>
    simp only [Bool.false_eq_true,false_and,if_false] at hQ
    simp only [gd_ft,gd_skip,pick_false_z,hlo6,stdZ]
    refine answer (R:=fun v H=>Q (.tuple #[v,vi 0]) H) hz6 w.at_ ?_
    exact hQ _ (g6.put (k:=1) (b:=rb) rfl w.at_.cells).ext
   | true =>
    simp only [gd_tt,hlo6,stdZ]
    refine S.f85 hE (h.mono g6.ext) w.at_ fun H7 e7 =>?_
    have g7:=g6.grow e7
    have hz7:=g7.box (k:=1) rfl
    have hlo7:loadN 2 (ptr wb 1) H7=some w.at_.v:=by rw [loadN_ptr,g7.box (k:=2) (b:=wb) rfl]; rfl
    cases hd:dirP T M w.at_ with
    | false =>
     simp only [hd,and_self,if_true] at hQ
     simp only [gd_tt,un_not_z,Bool.not_false,pick_true_z,mkPlace0,stdZ]
     refine answer (R:=fun v H=>Q (.tuple #[v,vi 20]) H) hz7 PlaceD.zero ?_
     exact hQ _ (g7.put (k:=1) (b:=rb) rfl PlaceD.zero.cells).ext
    | true =>
     simp only [hd,Bool.true_eq_false,and_false,if_false] at hQ
     simp only [gd_tt,un_not_z,Bool.not_true,pick_true_z,hlo7,stdZ]
     refine answer (R:=fun v H=>Q (.tuple #[v,vi 0]) H) hz7 w.at_ ?_
     exact hQ _ (g7.put (k:=1) (b:=rb) rfl w.at_.cells).ext
 ·have hpos:(0:Int)<(w.left.length:Nat):=by have:=List.length_pos_iff.2 hne; omega
  simp only [F.f86_l1,nth_0,nth_1,nth_2,nth_3,nth_4,hb6,c3,hl6,i64_gtr,gt_iff_lt,hpos,decide_true,stdZ]
  have hpk:∀ (K:Value->AH->Prop),K (vb (follow||slash)) H6->gd (vb follow) false (fun k=>k (vb slash) H6) H6 fun v5 H1=>opt (pick (vb follow) (.bool true) v5) fun v6=>K v6 H1:=by
   intro K hK
   cases follow <;> simpa using hK
  refine hpk _ ?_
  refine S.f93 hE h wf lt (k:=2) (b:=wb) g6 rfl r6 (by omega) (by omega) hne (follow||slash) fun lv' Z7 H7 y1 y2 y3 =>?_
  have hst7:=walkW_step (M:=M) lt (follow||slash) hne hlk
  have hnd7:=stepY_need (M:=M) lt (follow||slash) hne hlk
  have y2:Has H Z7 H7 [boxR H.next c.cells,boxR rb PlaceD.zero.cells,boxR wb (wayC t (stepY T M w (follow||slash)).1 lv')]:=y2
  generalize stepY T M w (follow||slash)=st at *
  simp only [i64_neq,stdZ]
  by_cases h0:st.2=0
  ·rw [if_neg (by simpa using h0)] at hst7
   obtain ⟨n1,n2⟩:=hnd7 h0
   simp only [ne_eq,h0,not_true,decide_false,stdZ]
   exact hX _ n1 _ _ ⟨st.1,lv',Z7,rfl,rfl,y2,y3,n2,by omega,by rw [<- hww,hst7]⟩
  ·rw [if_pos (by simpa using h0)] at hst7
   rw [<- hww,hst7,if_pos (by simpa using h0)] at hQ
   simp only [ne_eq,h0,not_false_eq_true,decide_true,mkPlace0,stdZ]
   refine answer (R:=fun v H=>Q (.tuple #[v,vi st.2]) H) (y2.box (k:=1) rfl) PlaceD.zero ?_
   exact hQ _ (y2.put (k:=1) (b:=rb) rfl PlaceD.zero.cells).ext
end
end Go.AM
end
section
namespace Go.AM
section
variable {E:Sy} {H H' H0 Z:AH} {Q:Value->AH->Prop} {t:Nat} {T:Tr} {M:List MntD} {L:List Res}
def cutV (v:Value) (n:Nat):Value:=match v with | .slice a _ _ => .slice a n n | v=>v
theorem Rows.cut {sz:Nat} {v:Value} {rows:List (List Value)} (h:Rows H sz v rows) {n:Nat} (hn:n+1=rows.length):slSlc sz v none (some (vi n)) (some (vi n)) H=some (cutV v n)/\Rows H sz (cutV v n) rows.dropLast:=by
 rcases h.at_ with ⟨rfl,_⟩ | ⟨b,o,c,rfl,h2,h3,h4⟩
 ·simp at hn
 ·have hd:rows.dropLast.length=n:=by rw [List.length_dropLast]; omega
  have e1:bnd (some (vi n)) c c=some n:=by simp only [bnd]; rw [if_pos (by omega)]; simp
  have e2:bnd (some (vi n)) rows.length n=some n:=by simp only [bnd]; rw [if_pos (by omega)]; simp
  have e3:bnd (none:Option Value) 0 n=some 0:=rfl
  refine ⟨?_,fun r hr=>h.len r ((List.dropLast_sublist _).subset hr),.inr ⟨b,o,n,by simp [cutV,hd],by omega,h3,?_⟩⟩
  ·simp only [slSlc,Option.isSome_some,Option.isNone_some,Bool.and_false,h3,Bool.or_true,Bool.not_true,Bool.or_self,Bool.false_eq_true,if_false,e1,e2,e3,Option.bind_some]
   rw [if_pos (Nat.le_refl _)]
   simp only [Nat.sub_zero,cutV]
   congr 2
   split
   ·rfl
   ·simp [Addr.add]
  ·rw [hd]
   have hle:0+n*sz<=rows.length*sz:=by rw [Nat.zero_add]; exact Nat.mul_le_mul_right _ (by omega)
   have:=row_part h4 hle
   rw [Nat.add_zero,List.drop_zero,flatten_take rows h.len] at this
   rw [this,List.dropLast_eq_take]
   congr 3
   omega
theorem S.f87 (hE:Fold E) (h:WkAt H t T M) (wf:T.WF) (lt:T.LT) (c:PlaceD) (path:List UInt8) (hp:path.length<2 ^ 63)
  (hQ:∀ H',Ext H H'->Q (.tuple #[(lastW T M c path).1.v,str (lastW T M c path).2.1,vi (lastW T M c path).2.2]) H'):E.call (E.fid i.f87) [ptr t 0,c.v,str path] H Q:=by
 apply hE.f87
 have g0:Has H H H []:=Has.start (Ext.refl H)
 have g1:=g0.newbox c.cells
 have g2:=g1.newbox PlaceD.zero.cells
 have hz2:([(.int .i64 0),(.int .u16 0)]:List Value)=PlaceD.zero.cells:=rfl
 simp only [F.f87,boxO_agg_z,AM.mk_some,mkPtr_eq_z,allocW_eq,hz2,List.toList_toArray,tk_eq]
 have hb1:=g2.box (k:=0) rfl
 have hl1:loadN 2 (ptr H.next 0) ((H.new (.cells c.cells none)).new (.cells PlaceD.zero.cells none))=some c.v:=by rw [loadN_ptr,hb1]; rfl
 generalize hrb:(H.new (.cells c.cells none)).next=rb at *
 simp only [hl1,stdZ]
 generalize (H.new (.cells c.cells none)).new (.cells PlaceD.zero.cells none)=H2 at *
 refine S.f89 hE (h.mono g2.ext) c path hp fun lv H3 e3 r3 f3 =>?_
 obtain ⟨Z3,z1,g3,z3⟩:=g2.callee e3
 have rz:=z3 1 lv _ r3 f3
 have hlv:=rz.plainV
 have hbg:=beginW_links M c path
 unfold lastW at hQ
 generalize hbw:beginW M c path=bw at *
 have hz5:([(.pointer none),(.int .i64 0),(.int .u16 0),(.slice none 0 0),(.int .i64 0)]:List Value).length=5:=rfl
 have g4:=g3.newbox [(.pointer none),(.int .i64 0),(.int .u16 0),(.slice none 0 0),(.int .i64 0)]
 have hb4:=g4.box (k:=2) (b:=H3.next) rfl
 have hst:=way_store t bw.1 hlv hz5 hb4
 have g5:=g4.put (k:=2) (b:=H3.next) rfl (wayC t bw.1 lv)
 simp only [ext_tuple,allocW_eq,hst,stdZ]
 generalize hwb:H3.next=wb at *
 generalize (H3.new (.cells [(.pointer none),(.int .i64 0),(.int .u16 0),(.slice none 0 0),(.int .i64 0)] none)).put wb (.cells (wayC t bw.1 lv) none)=H5 at *
 have g5:Has H Z3 H5 [boxR H.next c.cells,boxR rb PlaceD.zero.cells,boxR wb (wayC t bw.1 lv)]:=g5
 simp only [i64_neq,stdZ]
 by_cases he:bw.2=0
 rotate_left
 ·simp only [ne_eq,he,not_false_eq_true,decide_true,mkPlace0,stdZ]
  rw [if_pos (by simpa using he)] at hQ
  refine answer (R:=fun v H=>Q (.tuple #[v,str [],vi bw.2]) H) (g5.box (k:=1) rfl) PlaceD.zero ?_
  exact hQ _ (g5.put (k:=1) (b:=rb) rfl PlaceD.zero.cells).ext
 rw [if_neg (by simpa using he)] at hQ
 have hb5:=g5.box (k:=2) (b:=wb) rfl
 have hz6:=g5.box (k:=1) (b:=rb) rfl
 obtain ⟨⟨a0,left,links⟩,e0⟩:=bw
 have c3:(wayC t ⟨a0,left,links⟩ lv)[3]? = some lv:=rfl
 have hl5:=strR_lenSlc (rz.sub g5.sub)
 simp only at he hbg hl5 hQ
 simp only [ne_eq,he,not_true,decide_false,hb5,c3,hl5,i64_eql,stdZ]
 by_cases hnil:left=[]
 ·subst hnil
  simp only [List.length_nil,decide_true,mkPlace0,show ((0:Nat):Int)=0 from rfl,stdZ]
  simp only [List.getLast?_nil] at hQ
  refine answer (R:=fun v H=>Q (.tuple #[v,str [],vi 16]) H) hz6 PlaceD.zero ?_
  exact hQ _ (g5.put (k:=1) (b:=rb) rfl PlaceD.zero.cells).ext
 obtain ⟨ini,name,rfl⟩:∃ ini name,left=ini++[name]:=by
  rcases List.eq_nil_or_concat left with h | ⟨ini,name,h⟩
  ·exact (hnil h).elim
  ·exact ⟨ini,name,by rw [h,List.concat_eq_append]⟩
 have hlen:(ini++[name]).length=ini.length+1:=by simp
 rw [hlen] at hl5 hbg
 have hne:((((ini.length+1:Nat)):Int)=0)=False:=by simp; omega
 have hsub:binInt .sub (vi ((ini.length+1:Nat):Int)) (.int .i64 1)=some (vi (ini.length:Nat)):=by
  rw [i64_sub (by omega) (by omega)]; simp
 have r5:=rz.sub g5.sub
 obtain ⟨b1,o1,p1,p2,_⟩:=ix_strR r5 (i:=ini.length) (by simp)
 have p2:(H5.get b1).cell o1=some (str name):=by simpa using p2
 rw [hlen]
 simp only [hne,decide_false,hb5,c3,hl5,hsub,p1,p2,stdZ]
 have hQ:∀ H',Ext H H'->Q (.tuple #[(if name=[46,46] then (PlaceD.zero,([]:NameL),(16:Int)) else
   if (walkW T M true ⟨a0,ini,links⟩).2≠0 then (PlaceD.zero,[],(walkW T M true ⟨a0,ini,links⟩).2)
    else if dirP T M (walkW T M true ⟨a0,ini,links⟩).1.at_=false then (PlaceD.zero,[],20)
    else if 14<name.length then (PlaceD.zero,[],36)
    else if okName name=false then (PlaceD.zero,[],22)
    else ((walkW T M true ⟨a0,ini,links⟩).1.at_,name,0)).1.v,str (if name=[46,46] then (PlaceD.zero,([]:NameL),(16:Int)) else
   if (walkW T M true ⟨a0,ini,links⟩).2≠0 then (PlaceD.zero,[],(walkW T M true ⟨a0,ini,links⟩).2)
    else if dirP T M (walkW T M true ⟨a0,ini,links⟩).1.at_=false then (PlaceD.zero,[],20)
    else if 14<name.length then (PlaceD.zero,[],36)
    else if okName name=false then (PlaceD.zero,[],22)
    else ((walkW T M true ⟨a0,ini,links⟩).1.at_,name,0)).2.1,vi (if name=[46,46] then (PlaceD.zero,([]:NameL),(16:Int)) else
   if (walkW T M true ⟨a0,ini,links⟩).2≠0 then (PlaceD.zero,[],(walkW T M true ⟨a0,ini,links⟩).2)
    else if dirP T M (walkW T M true ⟨a0,ini,links⟩).1.at_=false then (PlaceD.zero,[],20)
    else if 14<name.length then (PlaceD.zero,[],36)
    else if okName name=false then (PlaceD.zero,[],22)
    else ((walkW T M true ⟨a0,ini,links⟩).1.at_,name,0)).2.2]) H':=by
  simpa using hQ
 by_cases hdd:name=[46,46]
 ·rw [if_pos hdd] at hQ
  have hdd':binStr .eql (str name) (.string ⟨#[46,46]⟩)=some (vb true):=by
   show binStr .eql (str name) (str [46,46])=_
   rw [binStr_eql]; simp [hdd]
  simp only [hdd',hne,decide_false,mkPlace0,stdZ]
  refine answer (R:=fun v H=>Q (.tuple #[v,str [],vi 16]) H) hz6 PlaceD.zero ?_
  exact hQ _ (g5.put (k:=1) (b:=rb) rfl PlaceD.zero.cells).ext
 rw [if_neg hdd] at hQ
 have hdd':binStr .eql (str name) (.string ⟨#[46,46]⟩)=some (vb false):=by
  show binStr .eql (str name) (str [46,46])=_
  rw [binStr_eql]; simp [hdd]
 have hn1:ini.length+1=(strR (ini++[name])).length:=by simp [strR]
 obtain ⟨cut1,_⟩:=Rows.cut r5 hn1
 obtain ⟨_,cut2⟩:=Rows.cut rz hn1
 have cut2:Rows Z3 1 (cutV lv ini.length) (strR ini):=by simpa [strR] using cut2
 have hpl:=cut2.plainV
 generalize cutV lv ini.length=lv1 at *
 have hst2:store1 (ptr wb 3) lv1 H5=some (H5.put wb (.cells (wayC t ⟨a0,ini,links⟩ lv1) none)):=by
  rw [store1_ptr,if_pos hpl,hb5]; rfl
 have g6:=g5.put (k:=2) (b:=wb) rfl (wayC t ⟨a0,ini,links⟩ lv1)
 simp only [hdd',hne,decide_false,hb5,c3,hl5,hsub,p1,p2,cut1,hst2,stdZ]
 generalize H5.put wb (.cells (wayC t ⟨a0,ini,links⟩ lv1) none)=H6 at *
 have g6:Has H Z3 H6 [boxR H.next c.cells,boxR rb PlaceD.zero.cells,boxR wb (wayC t ⟨a0,ini,links⟩ lv1)]:=g6
 refine LoopL.ind (fun n ls H'=>∃ w lv Z',n=w.need/\ls=[ptr t 0,ptr rb 0,ptr wb 0,str name]/\Has H Z' H' [boxR H.next c.cells,boxR rb PlaceD.zero.cells,boxR wb (wayC t w lv)]/\Rows Z' 1 lv (strR w.left)/\w.links<=8/\w.need<=5000/\walkW T M true w=walkW T M true ⟨a0,ini,links⟩) ?_ (WayD.mk a0 ini links).need ⟨⟨a0,ini,links⟩,lv1,Z3,rfl,rfl,g6,cut2,by show links<=8; omega,by unfold WayD.need; simp only; omega,rfl⟩
 rintro n _ H7 X hX ⟨w,lw,Z',rfl,rfl,g7,r7,hlk,hnd,hww⟩
 have hb7:=g7.box (k:=2) (b:=wb) rfl
 have hz7:=g7.box (k:=1) (b:=rb) rfl
 have c37:(wayC t w lw)[3]? = some lw:=rfl
 have hl7:=strR_lenSlc (r7.sub g7.sub)
 have hneed:w.left.length<=w.need:=by unfold WayD.need; omega
 by_cases hne7:w.left=[]
 ·rw [<- hww,walkW_nil _ hne7] at hQ
  simp only [ne_eq,not_true,if_false] at hQ
  have hl0:AM.lenSlc lw=some (vi 0):=by rw [hl7,hne7]; rfl
  have hlo7:loadN 2 (ptr wb 1) H7=some w.at_.v:=by rw [loadN_ptr,hb7]; rfl
  simp only [F.f87_l1,hb7,c37,hl0,i64_gtr,gt_iff_lt,Int.lt_irrefl,decide_false,hlo7,stdZ]
  refine S.f85 hE (h.mono g7.ext) w.at_ fun H8 e8 =>?_
  have g8:=g7.grow e8
  have hz8:=g8.box (k:=1) (b:=rb) rfl
  have hlo8:loadN 2 (ptr wb 1) H8=some w.at_.v:=by rw [loadN_ptr,g8.box (k:=2) (b:=wb) rfl]; rfl
  cases hd:dirP T M w.at_ with
  | false =>
   simp only [hd,if_true] at hQ
   simp only [mkPlace0,stdZ]
   refine answer (R:=fun v H=>Q (.tuple #[v,str [],vi 20]) H) hz8 PlaceD.zero ?_
   exact hQ _ (g8.put (k:=1) (b:=rb) rfl PlaceD.zero.cells).ext
  | true =>
   simp only [hd,Bool.true_eq_false,if_false] at hQ
   by_cases h14:14<name.length
   ·rw [if_pos h14] at hQ
    have h14':(14:Int)<name.length:=by omega
    simp only [lenStr_s,i64_gtr,gt_iff_lt,h14',decide_true,mkPlace0,stdZ]
    refine answer (R:=fun v H=>Q (.tuple #[v,str [],vi 36]) H) hz8 PlaceD.zero ?_
    exact hQ _ (g8.put (k:=1) (b:=rb) rfl PlaceD.zero.cells).ext
   rw [if_neg h14] at hQ
   have h14':¬ (14:Int)<name.length:=by omega
   simp only [lenStr_s,i64_gtr,gt_iff_lt,h14',decide_false,stdZ]
   refine S.f2 hE name (by omega) fun H9 e9 =>?_
   have g9:=g8.grow e9
   have hz9:=g9.box (k:=1) (b:=rb) rfl
   have hlo9:loadN 2 (ptr wb 1) H9=some w.at_.v:=by rw [loadN_ptr,g9.box (k:=2) (b:=wb) rfl]; rfl
   cases hok:okName name with
   | false =>
    rw [if_pos hok] at hQ
    simp only [mkPlace0,stdZ]
    refine answer (R:=fun v H=>Q (.tuple #[v,str [],vi 22]) H) hz9 PlaceD.zero ?_
    exact hQ _ (g9.put (k:=1) (b:=rb) rfl PlaceD.zero.cells).ext
   | true =>
    rw [if_neg (by rw [hok]; simp)] at hQ
    simp only [hlo9,stdZ]
    refine answer (R:=fun v H=>Q (.tuple #[v,str name,vi 0]) H) hz9 w.at_ ?_
    exact hQ _ (g9.put (k:=1) (b:=rb) rfl w.at_.cells).ext
 ·have hpos:(0:Int)<(w.left.length:Nat):=by have:=List.length_pos_iff.2 hne7; omega
  simp only [F.f87_l1,hb7,c37,hl7,i64_gtr,gt_iff_lt,hpos,decide_true,stdZ]
  refine S.f93 hE h wf lt (k:=2) (b:=wb) g7 rfl r7 (by omega) (by omega) hne7 true fun lv' Z7 H7 y1 y2 y3 =>?_
  have hst7:=walkW_step (M:=M) lt true hne7 hlk
  have hnd7:=stepY_need (M:=M) lt true hne7 hlk
  have y2:Has H Z7 H7 [boxR H.next c.cells,boxR rb PlaceD.zero.cells,boxR wb (wayC t (stepY T M w true).1 lv')]:=y2
  generalize stepY T M w true=st at *
  simp only [i64_neq,stdZ]
  by_cases h0:st.2=0
  ·rw [if_neg (by simpa using h0)] at hst7
   obtain ⟨n1,n2⟩:=hnd7 h0
   simp only [ne_eq,h0,not_true,decide_false,stdZ]
   exact hX _ n1 _ _ ⟨st.1,lv',Z7,rfl,rfl,y2,y3,n2,by omega,by rw [<- hww,hst7]⟩
  ·rw [if_pos (by simpa using h0)] at hst7
   rw [<- hww,hst7,if_pos (by simpa using h0)] at hQ
   simp only [ne_eq,h0,not_false_eq_true,decide_true,mkPlace0,stdZ]
   refine answer (R:=fun v H=>Q (.tuple #[v,str [],vi st.2]) H) (y2.box (k:=1) rfl) PlaceD.zero ?_
   exact hQ _ (y2.put (k:=1) (b:=rb) rfl PlaceD.zero.cells).ext
end
end Go.AM
end
section
namespace Go.AM
structure InoX (H0 H:AH) (p m:Nat) (L:LyL) (T:Tr):Prop where
 ext:Ext H0 H
 ino:Ino H p m L T
 own:∀ b∈(inoR p m L T).fp,H0.next<=b
section
variable {E:Sy} {H0 H H' H'':AH} {Q:Value->AH->Prop} {p m:Nat} {L L' L'':LyL} {T T' T'':Tr}
theorem S.f4' (hE:Fold E) (limit:Int) (hQ:∀ p m L H',InoX H H' p m L (Tr.new limit)->Q (ptr p 0) H'):E.call (E.fid i.f4) [vi limit] H Q :=
 S.f4 hE limit fun p m L H' e h hf=>hQ p m L H' ⟨e,h,hf⟩
end
end Go.AM
end
section
namespace Go.AM
section
variable {X:List Res} {E:Sy} {H0 H H' H'':AH} {Q:Value->AH->Prop} {p m:Nat} {L L' L'':LyL} {T T' T'' T2 T2':Tr} {t:Nat} {nv nv' mv:Value} {nx:Int} {mr:List (List Value)}
theorem Tr.WF.look_bd (w:T.WF) (n:BitVec 16) (s:NameL) (h:(T.look n s).2=0):(T.node (T.look n s).1).kind≠0#8/\0<=(T.node (T.look n s).1).links/\(T.node (T.look n s).1).links<=8224 :=
 ⟨(w.pos (Tr.look_ok h).2).2.2.2.1,(w.links_bd _).1,(w.links_bd _).2⟩
end
end Go.AM
end
section
namespace Go.AM
def wkRs (p m:Nat) (L:LyL) (T:Tr) (q:Nat) (v:Value) (M:List MntD) (nx:Int) (w:Nat) (X:List Res):List Res:=inoR p m L T :: tabR q v M nx :: boxR w [ptr p 0,ptr q 0] :: X
def WkO (X:List Res) (H0 H:AH) (w:Nat) (T:Tr) (M:List MntD) (nx:Int):Prop :=
 ∃ p m L q v,Ext H0 H/\Ow (joinR (wkRs p m L T q v M nx w X)) H/\(∀ b∈(joinR (wkRs p m L T q v M nx w X)).fp,H0.next<=b)/\Cov L T/\TabOk M nx
section
variable {E:Sy} {X:List Res} {H H' H0 Z:AH} {Q:Value->AH->Prop} {w:Nat} {T T':Tr} {M M':List MntD} {nx nx':Int} {L:List Res}
theorem WkO.ext (h:WkO X H0 H w T M nx):Ext H0 H:=by obtain ⟨_,_,_,_,_,h,_⟩:=h; exact h
theorem WkO.tab (h:WkO X H0 H w T M nx):TabOk M nx:=by obtain ⟨_,_,_,_,_,_,_,_,_,h⟩:=h; exact h
theorem own_upd {r r':Res} (e:Ext H0 H) (o:Ow r H) (own:∀ b∈r.fp,H0.next<=b) (u:Upd r r' H H'):Ext H0 H'/\Ow r' H'/\∀ b∈r'.fp,H0.next<=b :=
 ⟨u.only.ext e own,o.upd u,fun b hb=>(u.fp b hb).1.elim (own b) fun k=>Nat.le_trans e.1 k⟩
theorem WkO.open_ (h:WkO X H0 H w T M nx):∃ p q,H.get w = .cells [ptr p 0,ptr q 0] none /\
  (∃ m L,Ino H p m L T/\∀ L' T' H',UpdI p m L T L' T' H H'->WkO X H0 H' w T' M nx) /\
  (∃ v,(tabR q v M nx).P H/\(tabR q v M nx).fp.Nodup/\∀ v' M' nx' H',Upd (tabR q v M nx) (tabR q v' M' nx') H H'->TabOk M' nx'->WkO X H0 H' w T M' nx'):=by
 obtain ⟨p,m,L,q,v,e,o,own,cov,tab⟩:=h
 refine ⟨p,q,o.holds (boxR w [ptr p 0,ptr q 0]) (by simp [wkRs]),⟨m,L,⟨o.part (k:=0) rfl,cov⟩,fun L' T' H' u =>?_⟩,⟨v,o.holds (tabR q v M nx) (by simp [wkRs]),(o.part (k:=1) rfl).nd,fun v' M' nx' H' u ok =>?_⟩⟩
 ·obtain ⟨a,b,c⟩:=own_upd e o own (o.set (k:=0) rfl u.upd)
  exact ⟨p,m,L',q,v,a,b,c,u.cov,tab⟩
 ·obtain ⟨a,b,c⟩:=own_upd e o own (o.set (k:=1) rfl u)
  exact ⟨p,m,L,q,v',a,b,c,cov,ok⟩
theorem WkO.openX (h:WkO X H0 H w T M nx) {k:Nat} {r:Res} (hk:X[k]? = some r):Ow r H/\∀ r' H',Upd r r' H H'->WkO (X.set k r') H0 H' w T M nx:=by
 obtain ⟨p,m,L,q,v,e,o,own,cov,tab⟩:=h
 have hk':(wkRs p m L T q v M nx w X)[k+3]? = some r:=by simpa [wkRs] using hk
 refine ⟨o.part hk',fun r' H' u =>?_⟩
 obtain ⟨a,b,c⟩:=own_upd e o own (o.set hk' u)
 exact ⟨p,m,L,q,v,a,b,c,cov,tab⟩
theorem WkO.mono (h:WkO X H0 H w T M nx) (e:Ext H H'):WkO X H0 H' w T M nx:=by
 obtain ⟨p,m,L,q,v,e0,o,own,cov,tab⟩:=h
 exact ⟨p,m,L,q,v,e0.trans e,o.mono e,own,cov,tab⟩
theorem WkO.less {H1:AH} (h:WkO X H1 H w T M nx) (e:Ext H0 H1):WkO X H0 H w T M nx:=by
 obtain ⟨p,m,L,q,v,e0,o,own,cov,tab⟩:=h
 exact ⟨p,m,L,q,v,e.trans e0,o,fun b hb=>Nat.le_trans e.1 (own b hb),cov,tab⟩
theorem WkO.add (h:WkO X H0 H w T M nx) {r:Res} (n:NewRes r H H'):WkO (X++[r]) H0 H' w T M nx:=by
 obtain ⟨p,m,L,q,v,e0,o,own,cov,tab⟩:=h
 obtain ⟨a,b,c⟩:=own_upd e0 o own (o.add r n.1 n.2.1 n.2.2.1 n.2.2.2)
 exact ⟨p,m,L,q,v,a,b,c,cov,tab⟩
theorem newbox (H:AH) (c:List Value):NewRes (boxR H.next c) H (H.new (.cells c none)):=⟨(Ext.refl H).new _,AH.get_new_self _ _,fun b hb=>by simp [boxR] at hb; subst hb; simp,by simp [boxR]⟩
theorem WkO.box (h:WkO X H0 H w T M nx) (c:List Value):WkO (X++[boxR H.next c]) H0 (H.new (.cells c none)) w T M nx:=h.add (newbox H c)
theorem WkO.drop {r:Res} (h:WkO (X++[r]) H0 H w T M nx):WkO X H0 H w T M nx:=by
 obtain ⟨p,m,L,q,v,e0,o,own,cov,tab⟩:=h
 have u:=o.erase (X.length+3)
 have e:(wkRs p m L T q v M nx w (X++[r])).eraseIdx (X.length+3)=wkRs p m L T q v M nx w X:=by simp [wkRs,List.eraseIdx_append]
 rw [e] at u
 obtain ⟨a,b,c⟩:=own_upd e0 o own u
 exact ⟨p,m,L,q,v,a,b,c,cov,tab⟩
theorem WkO.held {k:Nat} {c:List Value} (h:WkO (X++[boxR k c]) H0 H w T M nx):H.get k = .cells c none:=(h.openX (k:=X.length) (r:=boxR k c) (by simp)).1.holds
theorem WkO.put {k:Nat} {c:List Value} (h:WkO (X++[boxR k c]) H0 H w T M nx) (c':List Value):WkO (X++[boxR k c']) H0 (H.put k (.cells c' none)) w T M nx:=by
 have:=(h.openX (k:=X.length) (r:=boxR k c) (by simp)).2 _ _ (boxR.put h.held c')
 rwa [set_last] at this
theorem WkO.at_ (h:WkO X H0 H w T M nx):WkAt H w T M:=by
 obtain ⟨p,q,hw,⟨m,L,hi,_⟩,⟨v,ht,_,_⟩⟩:=h.open_
 have:=h.tab.len
 exact ⟨⟨p,m,L,q,nx,hw,hi,tabR.at_ ht (by omega)⟩,h.tab.older⟩
theorem S.f84 (hE:Fold E) (limit:Int) (hQ:∀ w H',WkO [] H H' w (Tr.new limit) tab0 1->Q (ptr w 0) H'):E.call (E.fid i.f84) [vi limit] H Q:=by
 apply hE.f84
 simp only [F.f84]
 refine S.f4' hE limit fun p m L H1 h1 =>?_
 refine S.f31 hE fun q v H2 n2 =>?_
 have hb:buildV [(0,1),(1,1)] #[(.pointer none),(.pointer none)] [(0,ptr p 0),(1,ptr q 0)]=some (.agg #[ptr p 0,ptr q 0]):=rfl
 simp only [hb,boxO_agg_z,AM.mk_some,mkPtr_eq_z,stdZ]
 refine hQ H2.next _ ⟨p,m,L,q,v,?_⟩
 have o1:Ow (joinR [inoR p m L (Tr.new limit)]) H1:=by
  refine ⟨fun r hr=>by rw [List.mem_singleton] at hr; rw [hr]; exact h1.ino.ow.holds,?_,?_⟩
  ·intro b hb; exact h1.ino.ow.lt b (by simpa [joinR] using hb)
  ·simpa [joinR] using h1.ino.ow.nd
 have own1:∀ b∈(joinR [inoR p m L (Tr.new limit)]).fp,H.next<=b:=fun b hb=>h1.own b (by simpa [joinR] using hb)
 obtain ⟨a2,b2,c2⟩:=own_upd h1.ext o1 own1 (o1.add _ n2.1 n2.2.1 n2.2.2.1 n2.2.2.2)
 have n3:=newbox H2 [ptr p 0,ptr q 0]
 obtain ⟨a3,b3,c3⟩:=own_upd a2 b2 c2 (b2.add _ n3.1 n3.2.1 n3.2.2.1 n3.2.2.2)
 exact ⟨a3,b3,c3,h1.ino.cov,tabOk0⟩
end
end Go.AM
end
section
namespace Go.AM
def Tr.Each (P:Nd->Prop) (T:Tr):Prop:=∀ n,P (T.node n)
structure Keeps (P:Nd->Prop):Prop where
 none:P Nd.none
 addE:∀ s k x,P x->P (Nd.addE s k x)
 delE:∀ s x,P x->P (Nd.delE s x)
 addL:∀ k x,P x->P (Nd.addL k x)
 addH:∀ k x,P x->P (Nd.addH k x)
 par:∀ (q:BitVec 16) (x:Nd),P x->P { x with parent:=q }
 made:∀ inn k text,¬ (k=0#8\/3#8<k\/(k=3#8/\(text.length<1\/120<text.length)))->P (Nd.made inn k text)
 data:∀ (x:Nd) (d:List (BitVec 8)),x.kind=1#8->P x->P { x with data:=d }
section
variable {T:Tr} {P:Nd->Prop} (K:Keeps P)
theorem Tr.Each.upd (h:T.Each P) {n:BitVec 16} {f:Nd->Nd} (hf:∀ x:Nd,P x->P (f x)):(T.upd n f).Each P:=by
 intro k
 rcases T.upd_or n k f with e | e
 ·rw [e]; exact h k
 ·rw [e]; exact hf _ (h k)
theorem Tr.Each.updAt (h:T.Each P) {n:BitVec 16} {f:Nd->Nd} (hf:P (f (T.node n))):(T.upd n f).Each P:=by
 intro k
 unfold Tr.upd Tr.node
 simp only [List.getD_eq_getElem?_getD,List.getElem?_modify]
 have hk:=h k
 unfold Tr.node at hk hf
 simp only [List.getD_eq_getElem?_getD] at hk hf
 by_cases e:n.toNat=k.toNat
 ·rw [e] at hf
  cases hh:T.N[k.toNat]? with
  | none=>rw [hh] at hk; exact hk
  | some x=>rw [hh] at hf; simpa [e] using hf
 ·simp only [e,if_false]
  cases hh:T.N[k.toNat]? with
  | none=>rw [hh] at hk; exact hk
  | some x=>rw [hh] at hk; exact hk
theorem Tr.Each.bump (h:T.Each P):T.bump.Each P:=h
include K
theorem Tr.Each.tidy (h:T.Each P) (n:BitVec 16):(T.tidy n).Each P:=by
 unfold Tr.tidy
 split
 ·exact h.upd fun _ _=>K.none
 ·exact h
theorem Tr.Each.put (h:T.Each P) (a:Nat) (x:Nd) (hx:P x):(T.put a x).Each P:=by
 intro k
 unfold Tr.put Tr.node
 simp only [List.getD_eq_getElem?_getD]
 have hk:=h k
 unfold Tr.node at hk
 simp only [List.getD_eq_getElem?_getD] at hk
 split
 ·rw [List.getElem?_set]
  split
  ·exact hx
  ·exact hk
 ·rw [List.getElem?_append]
  split
  ·exact hk
  ·cases hz:([x][k.toNat - T.N.length]? : Option Nd) with
   | none=>exact K.none
   | some z =>
    have:=List.mem_of_getElem? hz
    simp at this
    subst this
    exact hx
theorem Tr.Each.make (h:T.Each P) (inn:BitVec 16) (s:NameL) (kd:BitVec 8) (text:List UInt8):(T.make inn s kd text).1.Each P:=by
 unfold Tr.make
 split
 ·exact h
 split
 ·exact h
 rename_i hc
 split
 ·exact h
 exact ((h.put K T.free (Nd.made inn kd text) (K.made inn kd text hc)).upd (f:=Nd.addE s (BitVec.ofNat 16 T.free)) fun x hx=>K.addE _ _ _ hx).bump
theorem Tr.Each.drop (h:T.Each P) (inn:BitVec 16) (s:NameL) (d:Bool):(T.drop inn s d).1.Each P:=by
 unfold Tr.drop
 repeat' split
 all_goals try exact h
 exact Tr.Each.tidy K ((h.upd (f:=Nd.delE s) fun x hx=>K.delE _ _ hx).upd (f:=Nd.addL (-1)) fun x hx=>K.addL _ _ hx).bump _
theorem Tr.Each.write (h:T.Each P) (n:BitVec 16) (at_:Int) (b:List (BitVec 8)):(T.write n at_ b).1.Each P:=by
 unfold Tr.write
 split
 ·exact h
 split
 ·exact h
 split
 ·exact h
 rename_i hc
 split
 ·exact h
 refine Tr.Each.bump (Tr.Each.updAt h ?_)
 exact K.data _ _ (by simp only [not_or,Decidable.not_not] at hc; exact hc.1) (h n)
omit K in
theorem Tr.Each.new (limit:Int) (h0:P Nd.none) (h1:P { Nd.none with kind:=2#8,parent:=1#16,links:=1 }):(Tr.new limit).Each P:=by
 intro n
 unfold Tr.new Tr.node
 simp only [List.getD_eq_getElem?_getD]
 by_cases e0:n.toNat=0
 ·rw [e0]; exact h0
 ·by_cases e1:n.toNat=1
  ·rw [e1]; exact h1
  ·rw [List.getElem?_eq_none (by simp; omega)]; exact h0
end
structure Nd.KD (x:Nd):Prop where
 kind:x.kind=0#8\/x.kind=1#8\/x.kind=2#8\/x.kind=3#8
 text:x.kind=3#8->x.text≠[]/\x.text.length<=120
 notext:x.kind≠3#8->x.text=[]
 nodata:x.kind≠1#8->x.data=[]
theorem keeps_KD:Keeps Nd.KD where
 none:=⟨.inl rfl,by simp [Nd.none],by simp [Nd.none],by simp [Nd.none]⟩
 addE:=fun _ _ _ h=>⟨h.kind,h.text,h.notext,h.nodata⟩
 delE:=fun _ _ h=>⟨h.kind,h.text,h.notext,h.nodata⟩
 addL:=fun _ _ h=>⟨h.kind,h.text,h.notext,h.nodata⟩
 addH:=fun _ _ h=>⟨h.kind,h.text,h.notext,h.nodata⟩
 par:=fun _ _ h=>⟨h.kind,h.text,h.notext,h.nodata⟩
 made:=fun inn k text h=>by
  simp only [not_or,not_and] at h
  obtain ⟨h1,h2,h3⟩:=h
  have hk:k=1#8\/k=2#8\/k=3#8:=by
   have h2:¬ (3<k.toNat):=h2
   have h1:k.toNat≠0:=fun e=>h1 (BitVec.eq_of_toNat_eq e)
   have:k.toNat=1\/k.toNat=2\/k.toNat=3:=by omega
   rcases this with e | e | e
   ·exact .inl (BitVec.eq_of_toNat_eq e)
   ·exact .inr (.inl (BitVec.eq_of_toNat_eq e))
   ·exact .inr (.inr (BitVec.eq_of_toNat_eq e))
  refine ⟨.inr hk,fun e =>?_,fun e =>?_,fun _=>rfl⟩
  ·have e:k=3#8:=e
   obtain ⟨a,b⟩:=h3 e
   have ht:(Nd.made inn k text).text=text:=by simp [Nd.made,e]
   rw [ht]
   refine ⟨fun e0=>a (by rw [e0]; decide),by omega⟩
  ·have e:k≠3#8:=e
   simp [Nd.made,e]
 data:=fun x d hk h=>⟨h.kind,h.text,h.notext,fun e=>(e hk).elim⟩
abbrev Tr.KD (T:Tr):Prop:=T.Each Nd.KD
theorem Tr.KD.new (limit:Int):(Tr.new limit).KD:=Tr.Each.new limit keeps_KD.none ⟨.inr (.inr (.inl rfl)),by simp,by simp [Nd.none],by simp [Nd.none]⟩
end Go.AM
end
section
namespace Go.AM
section
variable {E:Sy} {X:List Res} {H H' H0 Z:AH} {Q:Value->AH->Prop} {w p m:Nat} {T T':Tr} {M M':List MntD} {nx nx':Int} {L:LyL}
abbrev Tr.CO (T:Tr):Prop := -9223372036854775808<=T.change/\T.change<9223372036854775806
theorem Ino.cMake (hE:Fold E) (h:Ino H p m L T) (wf:T.WF) (n:BitVec 16) (s:NameL) (hs:s.length<2 ^ 63) (k:BitVec 8) (text:List UInt8) (ht:text.length<2 ^ 63) (hc:T.CO)
  (hQ:∀ L' H',UpdI p m L T L' (T.make n s k text).1 H H'->Q (.tuple #[u16 (T.make n s k text).2.1,vi (T.make n s k text).2.2]) H'):E.call (E.fid i.f9) [ptr p 0,u16 n,str s,u8 k,str text] H Q:=by
 have hlen:=wf.len16
 have hl2:=wf.len.1
 exact S.f9 hE h n s hs k text ht ⟨hc.1,by have:=hc.2; omega⟩ ⟨by omega,by omega⟩ (fun _ r=>wf.chain ⟨(Tr.room_ok r).1,(Tr.room_ok r).2.2.1⟩ 17) fun L1 H1 _ u1=>hQ _ _ u1
theorem Ino.cAdd (hE:Fold E) (h:Ino H p m L T) (wf:T.WF) (n:BitVec 16) (s:NameL) (hs:s.length<2 ^ 63) (v:BitVec 16) (hc:T.CO)
  (hQ:∀ L' H',UpdI p m L T L' (T.add n s v).1 H H'->Q (vi (T.add n s v).2) H'):E.call (E.fid i.f5) [ptr p 0,u16 n,str s,u16 v] H Q :=
 S.f5 hE h n s hs v ⟨hc.1,by have:=hc.2; omega⟩ (wf.links_bd v).1 fun L1 H1 _ u1=>hQ _ _ u1
theorem Ino.cDrop (hE:Fold E) (h:Ino H p m L T) (wf:T.WF) (n:BitVec 16) (s:NameL) (d:Bool) (hc:T.CO)
  (hQ:∀ L' H',UpdI p m L T L' (T.drop n s d).1 H H'->Q (vi (T.drop n s d).2) H'):E.call (E.fid i.f6) [ptr p 0,u16 n,str s,vb d] H Q :=
 S.f6 hE h n s d ⟨hc.1,by have:=hc.2; omega⟩ (fun e=>by have:=wf.look_bd n s e; exact ⟨this.1,by omega,by omega⟩) fun L1 H1 _ _ u1=>hQ _ _ u1
theorem Ino.cMove (hE:Fold E) (h:Ino H p m L T) (wf:T.WF) (fr to:BitVec 16) (s other:NameL) (hs:other.length<2 ^ 63) (hc:T.CO)
  (hQ:∀ L' H',UpdI p m L T L' (T.move fr s to other).1 H H'->Q (vi (T.move fr s to other).2) H'):E.call (E.fid i.f10) [ptr p 0,u16 fr,str s,u16 to,str other] H Q:=by
 exact S.f10 hE h fr to s other hs hc (fun e=>(wf.look_bd fr s e).1) (fun _ hk h1=>wf.chain ⟨hk,h1⟩ 17) (f:=17) (fun e hk=>wf.fits17 (wf.look_live (Tr.look_ok e).2 hk)) (by omega)
  (fun y hk hy=>⟨(wf.pos hy).2.2.2.1,(wf.links_bd y).1,by have:=(wf.links_bd y).2; omega⟩) fun L1 H1 _ _ u1=>hQ _ _ u1
theorem Ino.cWrite (hE:Fold E) (h:Ino H p m L T) (wf:T.WF) (n:BitVec 16) (at_:Int) (v:Value) (b:List (BitVec 8)) (hv:Rows H 1 v (byteR b)) (hb:b.length<2 ^ 63) (hat : -9223372036854775808<=at_/\at_<9223372036854775808) (hc:T.CO)
  (hQ:∀ L' H',UpdI p m L T L' (T.write n at_ b).1 H H'->Q (vi (T.write n at_ b).2) H'):E.call (E.fid i.f13) [ptr p 0,u16 n,vi at_,v] H Q :=
 S.f13 hE h n at_ v b hv hb ⟨hc.1,by have:=hc.2; omega⟩ hat (by have:=wf.data n; omega) fun L1 H1 _ u1=>hQ _ _ u1
theorem Tr.KD.lt (h:T.KD):T.LT:=fun n hk=>(h n).text hk
end
end Go.AM
end
section
namespace Go.AM
def AH.since (H:AH) (n:Nat):AH:=⟨if n<H.next then H.next else 0,fun b=>if b<n then .dead else H.get b⟩
theorem AH.get_since (H:AH) (n b:Nat):(H.since n).get b=if n<=b then H.get b else .dead:=by
 unfold AH.since
 simp only [AH.get]
 by_cases h:n<=b
 ·have h1:¬ b<n:=by omega
  rw [if_pos h]
  simp only [h1,if_false]
  by_cases hb:b<H.next
  ·have hn:n<H.next:=by omega
   simp [hb,hn]
  ·simp [hb]
 ·have h1:b<n:=by omega
  rw [if_neg h]
  simp [h1]
theorem AH.since_get {H:AH} {n b:Nat} (h:n<=b):(H.since n).get b=H.get b:=by rw [AH.get_since,if_pos h]
def frR (n:Nat) (H:AH):Res where
 fp:=List.range' n (H.next - n)
 P:=fun K=>∀ b∈List.range' n (H.next - n),K.get b=H.get b
 keep:=fun h hk b hb=>(hk b hb).trans (h b hb)
theorem frR_new {H H':AH} (e:Ext H H'):NewRes (frR H.next H') H H':=by
 refine ⟨e,fun b _=>rfl,fun b hb =>?_,List.nodup_range'⟩
 simp only [frR,List.mem_range'_1] at hb
 have:=e.1
 omega
theorem Ow.since {n:Nat} {H K:AH} (o:Ow (frR n H) K):Sub (H.since n) K:=by
 have hm:∀ b,n<=b->b<H.next->b∈(frR n H).fp:=fun b h1 h2=>by simp only [frR,List.mem_range'_1]; omega
 constructor
 ·unfold AH.since
  simp only
  split
  ·rename_i h
   have:=o.lt (H.next - 1) (hm _ (by omega) (by omega))
   omega
  ·omega
 ·intro b hb
  rw [AH.get_since] at hb ⊢
  split at hb
  ·rename_i h
   rw [if_pos h]
   exact o.holds b (hm b h (AH.lt_of_get hb))
  ·exact (hb rfl).elim
theorem Rows.since {H:AH} {n sz:Nat} {v:Value} {rows:List (List Value)} (h:Rows H sz v rows) (f:FreshV n v):Rows (H.since n) sz v rows:=by
 refine ⟨h.len,?_⟩
 rcases h.at_ with g | ⟨b,o,c,g1,g2,g3,g4⟩
 ·exact .inl g
 ·have hb:=f b (by rw [g1]; rfl)
  exact .inr ⟨b,o,c,g1,g2,by rw [AH.since_get hb]; exact g3,by rw [AH.since_get hb]; exact g4⟩
section
variable {X:List Res} {H0 H H':AH} {w:Nat} {T:Tr} {M:List MntD} {nx:Int}
theorem WkO.frz (h:WkO X H0 H w T M nx) (e:Ext H H'):WkO (X++[frR H.next H']) H0 H' w T M nx:=h.add (frR_new e)
theorem WkO.since {K:AH} {k n:Nat} (h:WkO X H0 H w T M nx) (hk:X[k]? = some (frR n K)):Sub (K.since n) H:=(h.openX hk).1.since
end
end Go.AM
end
section
namespace Go.AM
section
variable {X:List Res} {E:Sy} {H0 H H' H'':AH} {Q:Value->AH->Prop} {p m:Nat} {L L' L'':LyL} {T T' T'' T2 T2':Tr} {t:Nat} {nv nv' mv:Value} {nx:Int} {mr:List (List Value)}
theorem strOf_rows {v:Value} {l:List (BitVec 8)} (h:Rows H 1 v (byteR l)):strOf v H=some (str (l.map UInt8.ofBitVec)):=by
 refine strOf_vals (l:=l) ?_
 unfold Vals
 rw [List.map_map]
 exact h
end
end Go.AM
end
section
namespace Go.AM
section
variable {X:List Res} {E:Sy} {H0 H H' H'':AH} {Q:Value->AH->Prop} {p m:Nat} {L L' L'':LyL} {T T' T'' T2 T2':Tr} {t:Nat} {nv nv' mv:Value} {nx:Int} {mr:List (List Value)}
inductive Tr.Did (up:Bool) (T:Tr):Tr->Prop
 | make (a:BitVec 16) (s:NameL) (k:BitVec 8) (text:List UInt8):T.Did up (T.make a s k text).1
 | add (a:BitVec 16) (s:NameL) (b:BitVec 16):T.Did up (T.add a s b).1
 | drop (a:BitVec 16) (s:NameL) (d:Bool):T.Did up (T.drop a s d).1
 | move (a:BitVec 16) (s:NameL) (b:BitVec 16) (o:NameL):T.Did up (T.move a s b o).1
 | hold (a:BitVec 16):T.Did up (T.hold a up).1
 | write (a:BitVec 16) (n:Int) (l:List (BitVec 8)):T.Did up (T.write a n l).1
 | cut (a:BitVec 16) (n:Int):T.Did up (T.cut a n).1
 | refl:T.Did up T
end
end Go.AM
end
section
namespace Go.AM
section
variable {T T' T'':Tr}
theorem Tr.node_upd_ne {n k:BitVec 16} (h:k≠n) (f:Nd->Nd):(T.upd n f).node k=T.node k:=by
 have e:¬ n.toNat=k.toNat:=fun e=>h (BitVec.eq_of_toNat_eq e.symm)
 unfold Tr.upd Tr.node
 simp only [List.getD_eq_getElem?_getD,List.getElem?_modify,e,if_false]
 cases T.N[k.toNat]? <;> rfl
end
end Go.AM
end
section
namespace Go.AM
section
variable {T T' T'':Tr}
open Classical in
theorem Tr.node_upd_lt {n:BitVec 16} (h:n.toNat<T.N.length) (f:Nd->Nd):(T.upd n f).node n=f (T.node n):=by
 unfold Tr.upd Tr.node
 simp [List.getD_eq_getElem?_getD,List.getElem?_modify,h]
theorem Tr.len_upd (n:BitVec 16) (f:Nd->Nd):(T.upd n f).N.length=T.N.length:=by simp [Tr.upd]
theorem Tr.len_tidy (n:BitVec 16):(T.tidy n).N.length=T.N.length:=by
 unfold Tr.tidy
 split
 ·exact Tr.len_upd _ _
 ·rfl
end
end Go.AM
end
section
namespace Go.AM
def Nd.Kept (x:Nd):Prop:=x.kind≠0#8->x.links≠0\/x.held≠0
def Tr.Tidy (T:Tr):Prop:=∀ n,(T.node n).Kept
def Tr.TidyX (T:Tr) (a:BitVec 16):Prop:=∀ n,n≠a->(T.node n).Kept
section
variable {T T':Tr} {n:BitVec 16} {f:Nd->Nd}
theorem Nd.Kept.none:Nd.none.Kept:=fun h=>(h rfl).elim
theorem kept_delE (s:NameL) (x:Nd) (h:x.Kept):(Nd.delE s x).Kept:=h
theorem kept_addE (s:NameL) (k:BitVec 16) (x:Nd) (h:x.Kept):(Nd.addE s k x).Kept:=h
theorem kept_par (q:BitVec 16) (x:Nd) (h:x.Kept):({ x with parent:=q }:Nd).Kept:=h
theorem kept_data (d:List (BitVec 8)) (x:Nd) (h:x.Kept):({ x with data:=d }:Nd).Kept:=h
theorem Tr.Tidy.upd (h:T.Tidy) (hf:∀ x:Nd,x.Kept->(f x).Kept):(T.upd n f).Tidy:=fun k=>by
 rcases T.upd_or n k f with e | e
 ·rw [e]; exact h k
 ·rw [e]; exact hf _ (h k)
theorem Tr.Tidy.updX (h:T.Tidy):(T.upd n f).TidyX n:=fun k hk=>by
 rw [Tr.node_upd_ne hk]; exact h k
theorem Tr.Tidy.updAt (h:T.Tidy) (hf:(f (T.node n)).Kept):(T.upd n f).Tidy:=fun k=>by
 by_cases e:k=n
 ·subst e
  rcases T.upd_or k k f with e | e
  ·rw [e]; exact h k
  ·rw [e]; exact hf
 ·rw [Tr.node_upd_ne e]; exact h k
theorem Tr.TidyX.tidy (h:T.TidyX n):(T.tidy n).Tidy:=by
 intro k
 unfold Tr.tidy
 split
 ·by_cases e:k=n
  ·subst e
   rcases Nat.lt_or_ge k.toNat T.N.length with hl | hl
   ·rw [Tr.node_upd_lt hl]; exact Nd.Kept.none
   ·have:(T.upd k fun _=>Nd.none).node k=Nd.none:=by
     unfold Tr.node
     rw [List.getD_eq_getElem?_getD,List.getElem?_eq_none (by rw [Tr.len_upd]; exact hl)]; rfl
    rw [this]; exact Nd.Kept.none
  ·rw [Tr.node_upd_ne e]; exact h k e
 ·rename_i hz
  by_cases e:k=n
  ·subst e
   intro _
   exact Classical.byContradiction fun hc=>hz ⟨Classical.byContradiction fun a=>hc (.inl a),Classical.byContradiction fun a=>hc (.inr a)⟩
  ·exact h k e
theorem Tr.Tidy.bump (h:T.Tidy):T.bump.Tidy:=h
theorem Tr.TidyX.bump (h:T.TidyX n):T.bump.TidyX n:=h
theorem Tr.Tidy.put (h:T.Tidy) (a:Nat) (x:Nd) (hx:x.Kept):(T.put a x).Tidy:=by
 intro k
 unfold Tr.put Tr.node
 simp only [List.getD_eq_getElem?_getD]
 have hk:=h k
 unfold Tr.node at hk
 simp only [List.getD_eq_getElem?_getD] at hk
 split
 ·rw [List.getElem?_set]
  split
  ·exact hx
  ·exact hk
 ·rw [List.getElem?_append]
  split
  ·exact hk
  ·cases hz:([x][k.toNat - T.N.length]? : Option Nd) with
   | none=>exact Nd.Kept.none
   | some y =>
    have:=List.mem_of_getElem? hz
    simp at this
    subst this
    exact hx
theorem Tr.Tidy.drop (h:T.Tidy) (a:BitVec 16) (s:NameL) (d:Bool):(T.drop a s d).1.Tidy:=by
 unfold Tr.drop
 repeat' split
 all_goals try exact h
 exact (Tr.Tidy.updX (h.upd (kept_delE s))).bump.tidy
theorem Tr.Tidy.moved (h:T.Tidy) (fr:BitVec 16) (s:NameL) (to:BitVec 16) (o:NameL) (m:BitVec 16):(Tr.moved T fr s to o m).Tidy:=by
 unfold Tr.moved
 have h2:((T.upd fr (Nd.delE s)).upd to (Nd.addE o m)).Tidy:=(h.upd (kept_delE s)).upd (kept_addE o m)
 simp only
 split
 ·exact (h2.upd (kept_par to)).bump
 ·exact h2.bump
theorem Tr.Tidy.make (h:T.Tidy) (a:BitVec 16) (s:NameL) (k:BitVec 8) (text:List UInt8):(T.make a s k text).1.Tidy:=by
 unfold Tr.make
 repeat' split
 all_goals try exact h
 exact ((h.put _ (Nd.made a k text) fun _ => .inl (by show (1:Int)≠0; decide)).upd (kept_addE _ _)).bump
theorem Tr.Tidy.hold (h:T.Tidy) (w:T.WF) (a:BitVec 16) (b:Bool):(T.hold a b).1.Tidy:=by
 unfold Tr.hold
 repeat' split
 all_goals try exact h
 ·refine h.updAt fun _ => .inr ?_
  have:=w.held a
  show (T.node a).held+1≠0
  omega
 ·exact h.updX.tidy
theorem Tr.Tidy.move (h:T.Tidy) (a:BitVec 16) (s:NameL) (b:BitVec 16) (o:NameL):(T.move a s b o).1.Tidy:=by
 unfold Tr.move
 split
 ·exact h
 split
 ·exact h
 split
 ·exact h
 split
 ·exact h
 split
 ·exact h
 refine Tr.Tidy.moved ?_ _ _ _ _ _
 split
 ·exact h.drop _ _ _
 ·exact h
theorem Tr.Tidy.add (h:T.Tidy) (w:T.WF) (a:BitVec 16) (s:NameL) (b:BitVec 16):(T.add a s b).1.Tidy:=by
 unfold Tr.add
 repeat' split
 all_goals try exact h
 rename_i h0 h2 _ hl _
 refine Tr.Tidy.bump (Tr.Tidy.updAt (h.upd (kept_addE s b)) fun _ => .inl ?_)
 have hb:b≠1#16:=fun e=>h2 (by rw [e]; exact w.root.1)
 have hln:=w.links b hb h0
 have hm:((T.upd a (Nd.addE s b)).node b).links=(T.node b).links:=by
  rcases T.upd_or a b (Nd.addE s b) with e | e <;> rw [e]
  rfl
 show ((T.upd a (Nd.addE s b)).node b).links+1≠0
 rw [hm,hln]
 omega
theorem Tr.Did.tidy {up:Bool} (d:T.Did up T') (h:T.Tidy) (w:T.WF):T'.Tidy:=by
 cases d
 ·exact h.make _ _ _ _
 ·exact h.add w _ _ _
 ·exact h.drop _ _ _
 ·exact h.move _ _ _ _
 ·exact h.hold w _ _
 ·unfold Tr.write
  repeat' split
  all_goals try exact h
  exact (h.upd fun x hx=>kept_data _ x hx).bump
 ·unfold Tr.cut
  repeat' split
  all_goals try exact h
  exact (h.upd fun x hx=>kept_data _ x hx).bump
 ·exact h
theorem Tr.Tidy.new (limit:Int):(Tr.new limit).Tidy:=by
 intro n
 unfold Tr.node Tr.new
 simp only [List.getD_eq_getElem?_getD]
 cases hz:([Nd.none,{ Nd.none with kind:=2#8,parent:=1#16,links:=1 }][n.toNat]? : Option Nd) with
 | none=>exact Nd.Kept.none
 | some y =>
  have:=List.mem_of_getElem? hz
  simp at this
  rcases this with rfl | rfl
  ·exact Nd.Kept.none
  ·exact fun _ => .inl (by decide)
end
end Go.AM
end
section
namespace Go.AM
variable {E:Sy} {H0 Z H:AH} {L:List Res} {Q:Value->AH->Prop}
structure PInv (T:List MntD) (nx k:Int):Prop where
 older:Older T
 uniq:∀ a∈T,∀ b∈T,a.id≠0->b.id≠0->a.at_=b.at_->a.id=b.id
 nodup:(T.map MntD.id).Nodup
 len:T.length<=16
 ids:∀ m∈T,0<=m.id/\m.id<nx
 nx0:1<=nx
 nx1:nx<=1+k
 held:∀ m∈T,0<=m.held/\m.held<=k
theorem PInv.ok {T:List MntD} {nx k:Int} (h:PInv T nx k) (hk:k<=1000):TabOk T nx :=
 ⟨h.older,h.len,by have:=h.nx0; omega,by have:=h.nx1; omega,fun m hm=>by have:=h.held m hm; omega⟩
theorem PInv.mono {T:List MntD} {nx k k':Int} (h:PInv T nx k) (hk:k<=k'):PInv T nx k' :=
 { h with nx1:=by have:=h.nx1; omega,held:=fun m hm=>by have:=h.held m hm; omega }
theorem pinv0:PInv tab0 1 0:=⟨by unfold Older; simp [tab0],by simp [tab0],by simp [tab0],by simp [tab0],by simp [tab0],by omega,by omega,by simp [tab0]⟩
theorem seenN_ge {T:List MntD} (h:Older T):∀ (n:Nat) (p:PlaceD),p.m<=(seenN T n p).m
 | 0,p=>by simp [seenN]
 | n+1,p=>by
  rw [seenN]
  cases hf:T.find? (standsAt p) with
  | none=>simp
  | some m =>
   have h1:=List.find?_some hf
   have h2:=List.mem_of_find?_eq_some hf
   simp only [standsAt,Bool.and_eq_true,decide_eq_true_eq] at h1
   have h3:=h m h2 h1.1
   have h4:=seenN_ge h n ⟨m.id,m.root⟩
   rw [h1.2] at h3
   simp only at h4 ⊢
   omega
theorem seen_fix {T:List MntD} (h:Older T) {p:PlaceD} (e:seen T p=p):T.find? (standsAt p)=none:=by
 cases hf:T.find? (standsAt p) with
 | none=>rfl
 | some m =>
  have h1:=List.find?_some hf
  have h2:=List.mem_of_find?_eq_some hf
  simp only [standsAt,Bool.and_eq_true,decide_eq_true_eq] at h1
  have h3:=h m h2 h1.1
  have h4:=seenN_ge h T.length ⟨m.id,m.root⟩
  have h5:=seen_some h hf
  rw [e] at h5
  unfold seen at h5
  rw [<- h5] at h4
  rw [h1.2] at h3
  simp only at h4
  omega
theorem PInv.bind {T:List MntD} {nx k:Int} (h:PInv T nx k) (r:BitVec 16) (p:PlaceD):PInv (bindT T nx r p).T (bindT T nx r p).nx (k+1):=by
 have hk:PInv T nx (k+1):=h.mono (by omega)
 unfold bindT
 split
 ·exact hk
 ·rename_i hf
  split
  ·exact hk
  ·rename_i hs
   split
   ·exact hk
   ·rename_i hl
    have hs:seen T p=p:=Classical.not_not.1 hs
    have hno:=seen_fix h.older hs
    have hpm:p.m<nx:=by
     rcases ixOf_cases (fun m:MntD=>decide (m.id=p.m)) T with ⟨h1,h2⟩ | ⟨j,hj,h1,h2,h3,_⟩
     ·have h2:findT T p.m = -1:=h2
      omega
     ·have:=(h.ids _ (List.getElem_mem hj)).2
      simp only [decide_eq_true_eq] at h3
      omega
    have hnx:=h.nx0
    refine ⟨fun m hm h0 =>?_,fun a ha b hb a0 b0 e =>?_,?_,by simp; omega,fun m hm =>?_,by simp only; omega,by have:=h.nx1; simp only; omega,fun m hm =>?_⟩
    ·rcases List.mem_append.1 hm with hm | hm
     ·exact h.older m hm h0
     ·simp only [List.mem_singleton] at hm; subst hm; exact hpm
    ·rcases List.mem_append.1 ha with ha | ha <;> rcases List.mem_append.1 hb with hb | hb
     ·exact h.uniq a ha b hb a0 b0 e
     ·simp only [List.mem_singleton] at hb; subst hb
      exact absurd (by simp only [standsAt,Bool.and_eq_true,decide_eq_true_eq]; exact ⟨a0,e⟩) (List.find?_eq_none.1 hno a ha)
     ·simp only [List.mem_singleton] at ha; subst ha
      exact absurd (by simp only [standsAt,Bool.and_eq_true,decide_eq_true_eq]; exact ⟨b0,e.symm⟩) (List.find?_eq_none.1 hno b hb)
     ·simp only [List.mem_singleton] at ha hb; subst ha hb; rfl
    ·rw [List.map_append,List.nodup_append]
     refine ⟨h.nodup,by simp,fun a ha b hb =>?_⟩
     obtain ⟨m,hm,rfl⟩:=List.mem_map.1 ha
     simp at hb; subst hb
     have:=(h.ids m hm).2
     omega
    ·rcases List.mem_append.1 hm with hm | hm
     ·have:=h.ids m hm; simp only; omega
     ·simp only [List.mem_singleton] at hm; subst hm; simp only; omega
    ·rcases List.mem_append.1 hm with hm | hm
     ·have:=h.held m hm; omega
     ·simp only [List.mem_singleton] at hm; subst hm; simp only; have:=h.nx1; omega
end Go.AM
end
section
namespace Go.AM
set_option maxRecDepth 20000
section
variable {E:Sy} {H H' H0 Z:AH} {Q:Value->AH->Prop} {w t:Nat} {T:Tr} {M:List MntD} {L:List Res} {v:Value}
theorem Tr.WF.nodup_names (wf:T.WF) (n:BitVec 16):((T.node n).ents.map Prod.fst).Nodup:=by
 have h:=wf.rising n
 unfold Rising at h
 rw [List.Nodup,List.pairwise_map]
 refine List.Pairwise.imp (fun {a b} h' =>?_) h
 intro e
 rw [e] at h'
 exact name_lt_irrefl b.1 h'
end
end Go.AM
end
section
namespace Go.AM
set_option maxRecDepth 20000
abbrev EntL:=List (NameL×BitVec 16)
end Go.AM
end
section
namespace Go.AM
theorem lookup_aset {K V:Type} [BEq K] [LawfulBEq K] [DecidableEq K] (k n:K) (v:V):∀ l:List (K×V),(aset k v l).lookup n=if n=k then some v else l.lookup n
 | []=>by
  simp only [aset,List.lookup]
  by_cases h:n=k
  ·simp [h]
  ·have:(n == k)=false:=by simpa using h
   simp [h,this]
 | p :: l=>by
  obtain ⟨a,b⟩:=p
  simp only [aset]
  by_cases e:a=k
  ·subst e
   simp only [if_true,List.lookup]
   by_cases h:n=a
   ·simp [h]
   ·have:(n == a)=false:=by simpa using h
    simp [h,this]
  ·simp only [e,if_false,List.lookup]
   by_cases h:n=a
   ·subst h
    simp [e]
   ·have h2:(n == a)=false:=by simpa using h
    simp only [h2]
    exact lookup_aset k n v l
end Go.AM
end
section
namespace Go.AM
set_option maxRecDepth 20000
def Tr.entsK (T:Tr) (n:BitVec 16):EntL:=if (T.node n).kind=2#8 then (T.node n).ents else []
def Tr.entOk (T:Tr) (n:BitVec 16) (e:NameL×BitVec 16):Bool:=okName e.1&&(decide ((T.node e.2).kind≠0#8)&&(decide ((T.node e.2).kind≠2#8)||decide ((T.node e.2).parent=n)))
def Tr.entsOk (T:Tr) (n:BitVec 16):Bool:=(T.entsK n).all (T.entOk n)
def Tr.cntR (T:Tr) (l:List (BitVec 16)) (k:BitVec 16):Nat:=(if k=1#16 then 1 else 0)+(l.map fun n=>cntE k (T.entsK n)).sum
def Tr.nodeOk (T:Tr) (n:BitVec 16):Bool :=
 decide ((T.node n).links=(T.cntR T.nums n:Int))&&(!(decide ((T.node n).links=0)&&decide ((T.node n).held=0)))&&(!(decide ((T.node n).kind=2#8)&&decide (1<(T.node n).links))) &&
  (!(decide ((T.node n).kind=2#8)&&decide (0<(T.node n).links))||T.within 1#16 n)
def Tr.mntOk (T:Tr) (m:MntD):Bool:=decide ((T.node m.root).kind=2#8)&&(decide (m.id=0)||decide ((T.node m.at_.i).kind=2#8))
def rightT (T:Tr) (M:List MntD):Bool:=T.nums.all T.entsOk&&(T.nums.all T.nodeOk&&M.all T.mntOk)
abbrev viI (n:Int):Value:=vi n
def CntM (L:List (BitVec 16×Int)) (f:BitVec 16->Nat):Prop:=∀ k,(L.lookup k).getD 0=(f k:Int)
section
variable {E:Sy} {H H' H0:AH} {Q:Value->AH->Prop} {w r:Nat} {T:Tr} {M:List MntD} {L:List (BitVec 16×Int)} {f:BitVec 16->Nat}
theorem CntM.look (h:MapAt u16 viI H r L) (c:CntM L f) (k:BitVec 16):AM.look 0 (.int .i64 0) false (.map (some r)) (u16 k) H=some (vi (f k:Int)):=by
 rw [h.look (kd:=0) (fun a b=>same_u16 a b) k,<- c k]
 cases L.lookup k <;> rfl
theorem CntM.set (c:CntM L f) (k:BitVec 16):CntM (aset k ((f k+1:Nat):Int) L) (fun j=>f j+if j=k then 1 else 0):=by
 intro j
 rw [lookup_aset]
 by_cases e:j=k
 ·rw [if_pos e]; simp [e]
 ·rw [if_neg e,c j]; simp [e]
theorem right_l2 (hE:Fold E) (hw:WkAt H0 w T M) (hnl:∀ n,∀ e∈(T.node n).ents,e.1.length<2 ^ 63) (hel:∀ n,(T.node n).ents.length<2 ^ 32) {n:BitVec 16} (hn:n∈T.nums) {nm:Option Nat} {ord:EntL} (hk:(T.node n).kind=2#8->∃ s,nm=some s/\MapAt str u16 H0 s ord/\ord.Perm (T.node n).ents) (hk':(T.node n).kind≠2#8->nm=none)
  (e0:Ext H0 H) (hr:H0.next<=r) (hm:MapAt u16 viI H r L) (c:CntM L f) (hf:∀ k,f k<=2 ^ 60) {o:AObj} {mkv:Nat->Value} (ho:rangeM (.map nm) H=some (o,mkv)) {X0:List Value->AH->Prop} {t25 t26:Value} {j:Nat} (hj:j<2 ^ 62)
  (hbad:T.entsOk n=false->∀ H',Ext H0 H'->Q (vb false) H')
  (next:T.entsOk n=true->∀ H' L',Ext H0 H'->Only [r] H H'->MapAt u16 viI H' r L'->CntM L' (fun k=>f k+cntE k (T.entsK n))->X0 [ptr w 0,.map (some r),t25,t26,vi ((j+1:Nat):Int)] H') :
  LoopL (fun l H X1=>F.f82_l2 E Q X0 (nth l 0) (nth l 1) (nth l 2) (nth l 3) (nth l 4) (nth l 5) (nth l 6) H X1) [ptr w 0,.map (some r),u16 n,t25,t26,vi j,mkv H.next] (H.new o):=by
 have hjj:=i64_inc (i:=j) (by omega)
 have hx0:ext (.tuple #[.bool false]) 0=some (.bool false):=rfl
 have hrlt:=hm.lt
 by_cases hkd:(T.node n).kind=2#8
 rotate_left
 ·
  have hnm:=hk' hkd
  subst hnm
  have ho':rangeM (.map none) H=some (.miter none 0 [] 0,mkPtr):=rfl
  rw [ho'] at ho
  simp only [Option.some.injEq,Prod.mk.injEq] at ho
  obtain ⟨rfl,rfl⟩:=ho
  have hek:T.entsK n=[]:=if_neg hkd
  have hok:T.entsOk n=true:=by unfold Tr.entsOk; rw [hek]; rfl
  have hnx:∀ K:Value->AH->Prop,nextM (ptr H.next 0) (H.new (.miter none 0 [] 0)) K=K (.tuple #[.bool false]) (H.new (.miter none 0 [] 0)):=fun K=>by
   simp only [nextM,AH.get_new_self]
  refine LoopL.step fun X _ =>?_
  simp only [F.f82_l2,nth_0,nth_1,nth_2,nth_3,nth_4,nth_5,nth_6,mkPtr_eq,hnx]
  simp only [hx0,hjj,stdZ]
  refine next hok _ L (e0.new _) ((Only.refl _ _).new _) (hm.keep (AH.get_new_lt _ _ hrlt)) fun k =>?_
  rw [hek]
  simpa [cntE] using c k
 obtain ⟨s,rfl,hms,hperm⟩:=hk hkd
 have hek:T.entsK n=(T.node n).ents:=if_pos hkd
 have hms1:=hms.keep (e0.get hms.lt)
 obtain ⟨o',o1,o2⟩:=IterAt.start hms1
 rw [ho] at o1
 simp only [Option.some.injEq,Prod.mk.injEq] at o1
 obtain ⟨rfl,rfl⟩:=o1
 have hslt:s<H0.next:=hms.lt
 refine LoopL.ind (fun m ls H'=>∃ done L',ls=[ptr w 0,.map (some r),u16 n,t25,t26,vi j,mkPtr H.next]/\Ext H0 H'/\Only [r] H H'/\H.next<H'.next/\IterAt str u16 H' H.next s ord done/\MapAt u16 viI H' r L'/\CntM L' (fun k=>f k+cntE k done)/\done.all (T.entOk n)=true/\m=ord.length - done.length) ?_ ord.length
  ⟨[],L,rfl,e0.new _,(Only.refl _ _).new _,by simp,o2,hm.keep (AH.get_new_lt _ _ hrlt),by simpa [cntE] using c,rfl,by simp⟩
 rintro m _ H1 X1 hX ⟨done,L1,rfl,e1,on1,hlt1,it1,hm1,c1,hok1,rfl⟩
 simp only [F.f82_l2,nth_0,nth_1,nth_2,nth_3,nth_4,nth_5,nth_6]
 have hrne:r≠H.next:=by omega
 refine IterAt.next it1 (fun p ob hp hnd it' hen =>?_) fun hpd =>?_
 ·have on2:Only [r] H (H1.put H.next ob):=on1.put (.inr (Nat.le_refl _)) ob
  have hlen:done.length+1<=ord.length:=by
   have:=nodup_le (done++[p]) ord it'.nodup.1 it'.nodup.2
   simpa using this
  have hpe:p∈(T.node n).ents:=hperm.mem_iff.1 hp
  have hbad':T.entOk n p=false->∀ H',Ext H0 H'->Q (vb false) H':=fun hb=>hbad (by
   unfold Tr.entsOk
   rw [hek,List.all_eq_false]
   exact ⟨p,hpe,by simp [hb]⟩)
  have e2:Ext H0 (H1.put H.next ob):=e1.put (by have:=e0.1; omega) ob
  have hm2:MapAt u16 viI (H1.put H.next ob) r L1:=hm1.keep (AH.get_put_ne _ _ hrne)
  have hlt2:H.next<(H1.put H.next ob).next:=by simpa using hlt1
  generalize H1.put H.next ob=H2 at *
  obtain ⟨⟨pb,mb,Ly',q',nx,q1,q2,q3⟩,_⟩:=hw.mono e2
  simp only [ext_tuple,List.getElem?_cons_zero,List.getElem?_cons_succ,mkPtr_eq,hen,q1,stdZ]
  refine S.f7 hE q2 p.2 ?_
  refine S.f2 hE p.1 (hnl n p hpe) fun H3 e3 =>?_
  have e03:=e2.trans e3
  unfold Tr.entOk at hbad'
  cases hnok:okName p.1 with
  | false =>
   have nt:un .not (vb false)=some (vb true):=rfl
   simp only [nt,stdZ]
   exact hbad' (by rw [hnok]; rfl) _ e03
  | true =>
   have nt:un .not (vb true)=some (vb false):=rfl
   rcases q2.get p.2 with ⟨k0,_⟩ | ⟨kk,yy,k0,k1,k2,k3,k4⟩
   ·rw [nodeP_none q2.cov k0]
    have hbn:binNil eqPtr .eql (.pointer none) (.pointer none)=some (vb true):=rfl
    simp only [nt,hbn,stdZ]
    exact hbad' (by rw [k0]; simp) _ e03
   ·rw [nodeP_some q2.cov.nd k1]
    have hb3:=e3.cells k3
    have d1:(inC p.2 (T.node p.2) yy)[1]? = some (u8 (T.node p.2).kind):=rfl
    have d4:(inC p.2 (T.node p.2) yy)[4]? = some (u16 (T.node p.2).parent):=rfl
    have kd2:(.int .u8 2:Value)=u8 2#8:=rfl
    have count:T.entOk n p=true->opt (look 0 (.int .i64 0) false (.map (some r)) (u16 p.2) H3) fun v29=>opt (binInt .add v29 (.int .i64 1)) fun v30=>opt (setMap 0 (.map (some r)) (u16 p.2) v30 H3) fun H19=>X1 [ptr w 0,.map (some r),u16 n,t25,t26,vi j,ptr H.next 0] H19:=by
     intro hok
     have hm3:=hm2.keep (e3.get hm2.lt)
     have hlk:=c1.look hm3 p.2
     have hle:cntE p.2 done<=2 ^ 32:=by
      have h1:cntE p.2 done<=done.length:=cntE_le
      have h2:=hperm.length_eq
      have h3:=hel n
      omega
     have hfk:=hf p.2
     have hinc:=i64_inc (i:=f p.2+cntE p.2 done) (by omega)
     obtain ⟨ob2,b1,b2,b3⟩:=hm3.set (kd:=0) (fun a b=>same_u16 a b) p.2 (((f p.2+cntE p.2 done)+1:Nat):Int)
     have b2:setMap 0 (.map (some r)) (u16 p.2) (vi ((f p.2+cntE p.2 done+1:Nat):Int)) H3=some (H3.put r ob2):=b2
     simp only [hlk,hinc,b2,stdZ]
     have hsr:s≠r:=by omega
     have hl3:H.next<H3.next:=Nat.lt_of_lt_of_le hlt2 e3.1
     refine hX (ord.length - (done++[p]).length) (by simp; omega) _ _ ⟨done++[p],_,rfl,e03.put hr ob2,(on2.trans' e3.only).put (.inl (by simp)) ob2,by simpa using hl3,(it'.keep (e3.get it'.map.lt) (e3.get it'.lt)).keep (AH.get_put_ne _ _ hsr) (AH.get_put_ne _ _ (Ne.symm hrne)),b3,?_,by rw [List.all_append,hok1]; simp [hok],rfl⟩
     have:=c1.set p.2
     intro k
     rw [this k]
     simp only [cntE,List.countP_append,List.countP_cons,List.countP_nil,decide_eq_true_eq,Nat.zero_add,Nat.add_assoc]
     by_cases e:k=p.2
     ·simp [e]
     ·have e':¬ p.2=k:=fun h=>e h.symm
      simp [e,e']
    simp only [nt,nilq_p,hb3,d1,kd2,u8_eql,stdZ]
    by_cases h2:(T.node p.2).kind=2#8
    ·simp only [h2,decide_true,hb3,d4,u16_neq,stdZ]
     by_cases hpar:(T.node p.2).parent=n
     ·simp only [hpar,ne_eq,not_true,decide_false,stdZ]
      exact count (by unfold Tr.entOk; rw [hnok,h2,hpar]; simp)
     ·simp only [hpar,ne_eq,not_false_eq_true,decide_true,stdZ]
      exact hbad' (by rw [hnok,h2]; simp [hpar]) _ e03
    ·simp only [h2,decide_false,stdZ]
     exact count (by unfold Tr.entOk; rw [hnok]; simp [h2,k0])
 ·simp only [hx0,hjj,stdZ]
  have hp2:done.Perm (T.node n).ents:=hpd.trans hperm
  refine next ?_ _ L1 e1 on1 hm1 fun k =>?_
  ·unfold Tr.entsOk
   rw [hek]
   rw [List.all_eq_true] at hok1 ⊢
   exact fun x hx=>hok1 x (hp2.mem_iff.2 hx)
  ·have hc:cntE k done=cntE k (T.node n).ents:=hp2.countP_eq _
   rw [c1 k]
   show ((f k+cntE k done:Nat):Int)=((f k+cntE k (T.entsK n):Nat):Int)
   rw [hek,hc]
end
end Go.AM
end
section
namespace Go.AM
set_option maxRecDepth 20000
section
variable {E:Sy} {H H' K K0:AH} {Q:Value->AH->Prop} {ab lb:Nat} {vd:Value}
theorem lss_t {a b:Nat} (h:a<b):binInt .lss (vi (a:Int)) (vi (b:Int))=some (vb true):=by rw [i64_lss]; simp; omega
theorem lss_f {a b:Nat} (h:¬ a<b):binInt .lss (vi (a:Int)) (vi (b:Int))=some (vb false):=by rw [i64_lss]; simp; omega
theorem eql_t (a:Int):binInt .eql (vi a) (vi a)=some (vb true):=by rw [i64_eql]; simp
theorem neq_f (a:Int):binInt .neq (vi a) (vi a)=some (vb false):=by rw [i64_neq]; simp
end
end Go.AM
end
section
namespace Go.AM
set_option maxRecDepth 20000
section
variable {E:Sy} {H H' H0:AH} {Q:Value->AH->Prop} {w r:Nat} {T:Tr} {M:List MntD} {L:List (BitVec 16×Int)} {f:BitVec 16->Nat} {v:Value}
theorem all_at {α:Type} {p:α->Bool} {l:List α} {j:Nat} (hj:j<l.length) (hb:p l[j]=false):l.all p=false:=List.all_eq_false.2 ⟨_,List.getElem_mem hj,by simp [hb]⟩
theorem all_take {α:Type} {p:α->Bool} {l:List α} {j:Nat} (hj:j<l.length) (h:(l.take j).all p=true) (hb:p l[j]=true):(l.take (j+1)).all p=true:=by
 rw [List.take_succ_eq_append_getElem hj,List.all_append,h]
 simp [hb]
theorem right_l4 (hE:Fold E) (hw:WkAt H w T M) (hm:Rows H 5 v (M.map MntD.cells)) (hM:M.length<2 ^ 60) (hQ:∀ H',Ext H H'->Q (vb (M.all T.mntOk)) H') :
  LoopL (fun l H X0=>F.f82_l4 E Q (nth l 0) (nth l 1) (nth l 2) (nth l 3) H X0) [ptr w 0,v,vi M.length,(.int .i64 0)] H:=by
 have i0:(.int .i64 0:Value)=vi ((0:Nat):Int):=rfl
 rw [i0]
 refine LoopL.count M.length (fun j ls H'=>ls=[ptr w 0,v,vi M.length,vi j]/\Ext H H'/\(M.take j).all T.mntOk=true) ?_ ⟨rfl,Ext.refl _,rfl⟩
 rintro j _ H1 X0 hj hX ⟨rfl,e1,hall⟩
 rcases Nat.lt_or_ge j M.length with hjl | hjl
 rotate_left
 ·have s:=lss_f (show ¬ j<M.length by omega)
  simp only [F.f82_l4,s,stdZ]
  rw [List.take_of_length_le hjl] at hall
  rw [hall] at hQ
  exact hQ _ e1
 have hX:=hX hjl
 have s:=lss_t hjl
 have hjj:=i64_inc (i:=j) (by omega)
 obtain ⟨b,o,p1,p2⟩:=(hm.mono e1).ix (i:=j) (by rw [List.length_map]; exact hjl)
 rw [List.getElem_map] at p2
 have p3:loadN 5 (ptr b o) H1=some (.agg (M[j]).cells.toArray):=by rw [loadN_ptr,p2]; rfl
 have hbad:T.mntOk M[j]=false->∀ H',Ext H H'->Q (vb false) H':=fun h H' e=>by
  have:=hQ H' e
  rw [all_at hjl h] at this
  exact this
 have hgood:T.mntOk M[j]=true->∀ H',Ext H H'->X0 [ptr w 0,v,vi M.length,vi ((j+1:Nat):Int)] H':=fun h H' e=>hX _ _ ⟨rfl,e,all_take hjl hall h⟩
 generalize M[j]=m at *
 have hst:storeN 5 (ptr H1.next 0) (.agg m.cells.toArray) (H1.new (.cells [(.int .i64 0),(.int .i64 0),(.int .u16 0),(.int .u16 0),(.int .i64 0)] none))=some (H1.new (.cells m.cells none)):=by
  rw [storeN_ptr,AH.get_new_self]
  have h3:AM.splice [(.int .i64 0),(.int .i64 0),(.int .u16 0),(.int .u16 0),(.int .i64 0)] 0 m.cells=m.cells:=rfl
  have h4:m.cells.all plain1=true:=rfl
  have h5:m.cells.length=5:=rfl
  have h6:([(.int .i64 0),(.int .i64 0),(.int .u16 0),(.int .u16 0),(.int .i64 0)]:List Value).length=5:=rfl
  simp only [List.size_toArray,List.toList_toArray,h5,h4,h6,Nat.zero_add,Nat.le_refl,and_self,if_true,h3,AH.new_put]
 have x2:Ext H1 (H1.new (.cells m.cells none)):=(Ext.refl _).new _
 have hb2:=AH.get_new_self H1 (.cells m.cells none)
 obtain ⟨⟨pb,mb,Ly',q',nx,q1,q2,q3⟩,_⟩:=hw.mono (e1.trans x2)
 have e2:=e1.trans x2
 have c0:m.cells[0]? = some (vi m.id):=rfl
 have c2:m.cells[2]? = some (u16 m.at_.i):=rfl
 have c3:m.cells[3]? = some (u16 m.root):=rfl
 simp only [F.f82_l4,s,p1,p3,allocW_eq,hst,q1,hb2,c2,c3,stdZ]
 generalize H1.next=A at *
 generalize H1.new (.cells m.cells none)=H2 at *
 refine S.f7 hE q2 m.root ?_
 refine ⟨rfl,rfl,?_⟩
 refine S.f7 hE q2 m.at_.i ?_
 have k2:(.int .u8 2:Value)=u8 2#8:=rfl
 unfold Tr.mntOk at hbad hgood
 have hbn:binNil eqPtr .eql (.pointer none) (.pointer none)=some (vb true):=rfl
 rcases q2.get m.root with ⟨k0,_⟩ | ⟨kk,yy,k0,k1,k3,k4,k5⟩
 ·rw [nodeP_none q2.cov k0]
  simp only [hbn,stdZ]
  exact hbad (by rw [k0]; rfl) _ e2
 rw [nodeP_some q2.cov.nd k1]
 have d1:(inC m.root (T.node m.root) yy)[1]? = some (u8 (T.node m.root).kind):=rfl
 by_cases hr:(T.node m.root).kind=2#8
 rotate_left
 ·have sn:binInt .neq (u8 (T.node m.root).kind) (u8 2#8)=some (vb true):=by rw [u8_neq]; simp [hr]
  simp only [nilq_p,k4,d1,k2,sn,stdZ]
  exact hbad (by simp [hr]) _ e2
 have sn:binInt .neq (u8 (T.node m.root).kind) (u8 2#8)=some (vb false):=by rw [u8_neq]; simp [hr]
 by_cases h0:m.id=0
 ·have s0:binInt .neq (vi m.id) (.int .i64 0)=some (vb false):=by rw [h0]; exact neq_f 0
  simp only [nilq_p,k4,d1,k2,sn,hb2,c0,s0,hjj,stdZ]
  exact hgood (by simp [hr,h0]) _ e2
 have s0:binInt .neq (vi m.id) (.int .i64 0)=some (vb true):=by
  show binInt .neq (vi m.id) (vi 0)=_
  rw [i64_neq]; simp [h0]
 rcases q2.get m.at_.i with ⟨l0,_⟩ | ⟨ll,zz,l0,l1,l3,l4,l5⟩
 ·rw [nodeP_none q2.cov l0]
  simp only [nilq_p,k4,d1,k2,sn,hb2,c0,s0,hbn,stdZ]
  exact hbad (by rw [l0]; simp [h0]) _ e2
 rw [nodeP_some q2.cov.nd l1]
 have d2:(inC m.at_.i (T.node m.at_.i) zz)[1]? = some (u8 (T.node m.at_.i).kind):=rfl
 by_cases ha:(T.node m.at_.i).kind=2#8
 ·have sa:binInt .neq (u8 (T.node m.at_.i).kind) (u8 2#8)=some (vb false):=by rw [u8_neq]; simp [ha]
  simp only [nilq_p,k4,d1,k2,sn,hb2,c0,s0,l4,d2,sa,hjj,stdZ]
  exact hgood (by simp [hr,ha]) _ e2
 ·have sa:binInt .neq (u8 (T.node m.at_.i).kind) (u8 2#8)=some (vb true):=by rw [u8_neq]; simp [ha]
  simp only [nilq_p,k4,d1,k2,sn,hb2,c0,s0,l4,d2,sa,stdZ]
  exact hbad (by simp [ha,h0]) _ e2
theorem right_l3 (hE:Fold E) (hw:WkAt H w T M) (hm:MapAt u16 viI H r L) (c:CntM L (T.cntR T.nums)) (hl:T.N.length<=65536) (hM:M.length<=1000) (rv:Rows H 1 v (u16R T.nums)) (hQ:∀ H',Ext H H'->Q (vb (T.nums.all T.nodeOk&&M.all T.mntOk)) H') :
  LoopL (fun l H X0=>F.f82_l3 E Q (nth l 0) (nth l 1) (nth l 2) (nth l 3) (nth l 4) H X0) [ptr w 0,.map (some r),v,vi T.nums.length,(.int .i64 0)] H:=by
 have i0:(.int .i64 0:Value)=vi ((0:Nat):Int):=rfl
 rw [i0]
 have hnl:T.nums.length<=65536:=by
  unfold Tr.nums
  refine Nat.le_trans (List.length_filter_le _ _) ?_
  simp; omega
 refine LoopL.count T.nums.length (fun j ls H'=>ls=[ptr w 0,.map (some r),v,vi T.nums.length,vi j]/\Ext H H'/\(T.nums.take j).all T.nodeOk=true) ?_ ⟨rfl,Ext.refl _,rfl⟩
 rintro j _ H1 X0 hj hX ⟨rfl,e1,hall⟩
 obtain ⟨⟨pb,mb,Ly',q',nx,q1,q2,q3⟩,_⟩:=hw.mono e1
 rcases Nat.lt_or_ge j T.nums.length with hjl | hjl
 rotate_left
 ·have s:=lss_f (show ¬ j<T.nums.length by omega)
  rw [List.take_of_length_le hjl] at hall
  rw [hall,Bool.true_and] at hQ
  simp only [F.f82_l3,s,q1,stdZ]
  refine S.f35 hE q' M nx q3 hM fun v2 H2 e2 r2 =>?_
  have hlv:AM.lenSlc v2=some (vi M.length):=by have:=r2.lenSlc; rw [List.length_map] at this; exact this
  simp only [hlv,stdZ]
  exact right_l4 hE (hw.mono (e1.trans e2)) r2 (by omega) fun H' e=>hQ H' ((e1.trans e2).trans e)
 have hX:=hX hjl
 have s:=lss_t hjl
 have hjj:=i64_inc (i:=j) (by omega)
 obtain ⟨b,o,p1,p2⟩:=(rv.mono e1).ix (i:=j) (by rw [u16R_length]; exact hjl)
 have hrw:(u16R T.nums)[j]'(by rw [u16R_length]; exact hjl)=[u16 T.nums[j]]:=by simp [u16R]
 rw [hrw] at p2
 have p3:(H1.get b).cell o=some (u16 T.nums[j]):=by have:=row_at p2 (j:=0) (by omega); simpa using this
 have hkn:(T.node T.nums[j]).kind≠0#8:=(Tr.nums_mem hl _).1 (List.getElem_mem hjl)
 have hbad:T.nodeOk T.nums[j]=false->∀ H',Ext H H'->Q (vb false) H':=fun h H' e=>by
  have:=hQ H' e
  rw [all_at hjl h,Bool.false_and] at this
  exact this
 have hgood:T.nodeOk T.nums[j]=true->∀ H',Ext H H'->X0 [ptr w 0,.map (some r),v,vi T.nums.length,vi ((j+1:Nat):Int)] H':=fun h H' e=>hX _ _ ⟨rfl,e,all_take hjl hall h⟩
 generalize T.nums[j]=n at *
 simp only [F.f82_l3,s,p1,p3,q1,stdZ]
 refine S.f7 hE q2 n ?_
 rcases q2.get n with ⟨k0,_⟩ | ⟨kk,yy,k0,k1,k3,k4,k5⟩
 ·exact (hkn k0).elim
 rw [nodeP_some q2.cov.nd k1]
 have d1:(inC n (T.node n) yy)[1]? = some (u8 (T.node n).kind):=rfl
 have d6:(inC n (T.node n) yy)[6]? = some (vi (T.node n).links):=rfl
 have d7:(inC n (T.node n) yy)[7]? = some (vi (T.node n).held):=rfl
 have hlk:=c.look (hm.keep (e1.get hm.lt)) n
 have k2:(.int .u8 2:Value)=u8 2#8:=rfl
 have i1:(.int .i64 1:Value)=vi 1:=rfl
 have iz:(.int .i64 0:Value)=vi 0:=rfl
 unfold Tr.nodeOk at hbad hgood
 by_cases hc:(T.node n).links=(T.cntR T.nums n:Int)
 rotate_left
 ·have sn:binInt .neq (vi (T.node n).links) (vi (T.cntR T.nums n:Int))=some (vb true):=by rw [i64_neq]; simp [hc]
  simp only [k4,d6,hlk,sn,stdZ]
  exact hbad (by simp [hc]) _ e1
 have sn:binInt .neq (vi (T.node n).links) (vi (T.cntR T.nums n:Int))=some (vb false):=by rw [i64_neq]; simp [hc]
 have second:¬ ((T.node n).links=0/\(T.node n).held=0)->¬ ((T.node n).kind=2#8/\1<(T.node n).links)->(∀ H',Ext H H'->Q (vb (T.nums.all T.nodeOk&&M.all T.mntOk)) H')->((!(decide ((T.node n).kind=2#8)&&decide (0<(T.node n).links))||T.within 1#16 n)=T.nodeOk n):=by
  intro a1 a2 _
  unfold Tr.nodeOk
  rw [decide_eq_true hc]
  simp only [Bool.true_and]
  have b1:(!(decide ((T.node n).links=0)&&decide ((T.node n).held=0)))=true:=by rw [<- Bool.decide_and,decide_eq_false a1]; rfl
  have b2:(!(decide ((T.node n).kind=2#8)&&decide (1<(T.node n).links)))=true:=by rw [<- Bool.decide_and,decide_eq_false a2]; rfl
  rw [b1,b2]; rfl
 by_cases hz:(T.node n).links=0/\(T.node n).held=0
 ·have s1:binInt .eql (vi (T.node n).links) (vi 0)=some (vb true):=by rw [hz.1]; exact eql_t 0
  have s2:binInt .eql (vi (T.node n).held) (vi 0)=some (vb true):=by rw [hz.2]; exact eql_t 0
  simp only [k4,d6,d7,hlk,sn,iz,s1,s2,stdZ]
  exact hbad (by simp [hz.1,hz.2]) _ e1
 have hfirst:∃ x:Bool,binInt .eql (vi (T.node n).links) (vi 0)=some (vb x)/\(x=true->binInt .eql (vi (T.node n).held) (vi 0)=some (vb false)):=by
  by_cases h0:(T.node n).links=0
  ·refine ⟨true,by rw [h0]; exact eql_t 0,fun _ =>?_⟩
   have:(T.node n).held≠0:=fun h=>hz ⟨h0,h⟩
   rw [i64_eql]; simp [this]
  ·exact ⟨false,by rw [i64_eql]; simp [h0],fun h=>nomatch h⟩
 obtain ⟨x,s1,s2⟩:=hfirst
 have fin:¬ ((T.node n).kind=2#8/\1<(T.node n).links)->(opt (nilCk (ptr yy.blk 0)) fun v39=>opt (addOff v39 1) fun v40=>opt (load1 v40 H1) fun v41=>opt (binInt .eql v41 (.int .u8 2)) fun v42 =>
   gd v42 true (fun k=>k (ptr yy.blk 0) H1) H1 fun v43 H26=>gd v42 true (fun k=>opt (nilCk v43) fun v=>k v H26) H26 fun v44 H27=>gd v42 true (fun k=>opt (addOff v44 6) fun v=>k v H27) H27 fun v45 H28=>gd v42 true (fun k=>opt (load1 v45 H28) fun v=>k v H28) H28 fun v46 H29=>gd v42 true (fun k=>opt (binInt .gtr v46 (.int .i64 0)) fun v=>k v H29) H29 fun v47 H30 =>
   opt (pick v42 v47 (.bool false)) fun v48=>gd v48 true (fun k=>k (ptr w 0) H30) H30 fun v49 H31=>gd v48 true (fun k=>opt (nilCk v49) fun v=>k v H31) H31 fun v50 H32=>gd v48 true (fun k=>opt (addOff v50 0) fun v=>k v H32) H32 fun v51 H33=>gd v48 true (fun k=>opt (load1 v51 H33) fun v=>k v H33) H33 fun v52 H34=>gd v48 true (fun k=>k (u16 n) H34) H34 fun v53 H35 =>
   gd v48 true (fun k=>E.call (E.fid i.f12) [v52,v53,(.int .u16 1)] H35 fun v h=>k v h) H35 fun v54 H36=>gd v48 true (fun k=>opt (un .not v54) fun v=>k v H36) H36 fun v55 H37=>opt (pick v48 v55 (.bool false)) fun v56=>ifB v56 (Q (.bool false) H37) (opt (binInt .add (vi j) (.int .i64 1)) fun v57=>X0 [ptr w 0,.map (some r),v,vi T.nums.length,v57] H37)):=by
  intro hk1
  have hsec:=second hz hk1 hQ
  have n1:(.int .u16 1:Value)=u16 1#16:=rfl
  by_cases hk2:(T.node n).kind=2#8
  ·have se:binInt .eql (u8 (T.node n).kind) (u8 2#8)=some (vb true):=by rw [u8_eql]; simp [hk2]
   by_cases hpos:0<(T.node n).links
   ·have sg:binInt .gtr (vi (T.node n).links) (vi 0)=some (vb true):=by rw [i64_gtr]; simp [hpos]
    simp only [k4,d1,d6,k2,se,iz,sg,q1,n1,stdZ]
    refine S.f12 hE q2 n 1#16 ?_
    rw [decide_eq_true hk2,decide_eq_true hpos] at hsec
    cases hwi:T.within 1#16 n with
    | true =>
     have nt:un .not (vb true)=some (vb false):=rfl
     simp only [nt,hjj,stdZ]
     refine hgood ?_ _ e1
     have:T.nodeOk n=true:=by rw [<- hsec,hwi]; rfl
     exact this
    | false =>
     have nt:un .not (vb false)=some (vb true):=rfl
     simp only [nt,stdZ]
     refine hbad ?_ _ e1
     have:T.nodeOk n=false:=by rw [<- hsec,hwi]; rfl
     exact this
   ·have sg:binInt .gtr (vi (T.node n).links) (vi 0)=some (vb false):=by rw [i64_gtr]; simp; omega
    simp only [k4,d1,d6,k2,se,iz,sg,hjj,stdZ]
    refine hgood ?_ _ e1
    have:T.nodeOk n=true:=by rw [<- hsec,decide_eq_false hpos]; simp
    exact this
  ·have se:binInt .eql (u8 (T.node n).kind) (u8 2#8)=some (vb false):=by rw [u8_eql]; simp [hk2]
   simp only [k4,d1,k2,se,hjj,stdZ]
   refine hgood ?_ _ e1
   have:T.nodeOk n=true:=by rw [<- hsec,decide_eq_false hk2]; simp
   exact this
 by_cases hk1:(T.node n).kind=2#8/\1<(T.node n).links
 ·have se:binInt .eql (u8 (T.node n).kind) (u8 2#8)=some (vb true):=by rw [u8_eql]; simp [hk1.1]
  have sg:binInt .gtr (vi (T.node n).links) (vi 1)=some (vb true):=by rw [i64_gtr]; simp [hk1.2]
  have hb:(decide ((T.node n).links=(T.cntR T.nums n:Int))&&(!(decide ((T.node n).links=0)&&decide ((T.node n).held=0)))&&(!(decide ((T.node n).kind=2#8)&&decide (1<(T.node n).links)))&&(!(decide ((T.node n).kind=2#8)&&decide (0<(T.node n).links))||T.within 1#16 n))=false:=by
   rw [decide_eq_true hk1.1,decide_eq_true hk1.2]; simp
  cases x with
  | true =>
   have s2:=s2 rfl
   simp only [k4,d1,d6,d7,hlk,sn,iz,s1,s2,k2,se,i1,sg,stdZ]
   exact hbad hb _ e1
  | false =>
   simp only [k4,d1,d6,hlk,sn,iz,s1,k2,se,i1,sg,stdZ]
   exact hbad hb _ e1
 ·have hk2:∃ y:Bool,binInt .eql (u8 (T.node n).kind) (u8 2#8)=some (vb y)/\(y=true->binInt .gtr (vi (T.node n).links) (vi 1)=some (vb false)):=by
   by_cases h2:(T.node n).kind=2#8
   ·refine ⟨true,by rw [u8_eql]; simp [h2],fun _ =>?_⟩
    have:¬ 1<(T.node n).links:=fun h=>hk1 ⟨h2,h⟩
    rw [i64_gtr]; simp; omega
   ·exact ⟨false,by rw [u8_eql]; simp [h2],fun h=>nomatch h⟩
  obtain ⟨y,t1,t2⟩:=hk2
  have fin:=fin hk1
  cases x with
  | true =>
   have s2:=s2 rfl
   cases y with
   | true =>
    have t2:=t2 rfl
    simp only [k4,d1,d6,d7,hlk,sn,iz,s1,s2,k2,t1,i1,t2,stdZ]
    simp only [k4,d1,k2,t1,stdZ] at fin
    exact fin
   | false =>
    simp only [k4,d1,d6,d7,hlk,sn,iz,s1,s2,k2,t1,stdZ]
    simp only [k4,d1,k2,t1,stdZ] at fin
    exact fin
  | false =>
   cases y with
   | true =>
    have t2:=t2 rfl
    simp only [k4,d1,d6,hlk,sn,iz,s1,k2,t1,i1,t2,stdZ]
    simp only [k4,d1,k2,t1,stdZ] at fin
    exact fin
   | false =>
    simp only [k4,d1,d6,hlk,sn,iz,s1,k2,t1,stdZ]
    simp only [k4,d1,k2,t1,stdZ] at fin
    exact fin
end
end Go.AM
end
section
namespace Go.AM
set_option maxRecDepth 20000
section
variable {E:Sy} {H H' H0:AH} {Q:Value->AH->Prop} {w r:Nat} {T:Tr} {M:List MntD} {L:List (BitVec 16×Int)} {f:BitVec 16->Nat} {v:Value}
theorem Tr.nums_len (hl:T.N.length<=65536):T.nums.length<=65536:=by
 unfold Tr.nums
 refine Nat.le_trans (List.length_filter_le _ _) ?_
 simp; omega
theorem cntR_snoc (l:List (BitVec 16)) (n k:BitVec 16):T.cntR (l++[n]) k=T.cntR l k+cntE k (T.entsK n):=by
 unfold Tr.cntR
 rw [List.map_append,List.sum_append]
 simp [Nat.add_assoc]
theorem entsK_len (hel:∀ n,(T.node n).ents.length<2 ^ 32) (n k:BitVec 16):cntE k (T.entsK n)<=2 ^ 32:=by
 have h1:cntE k (T.entsK n)<=(T.entsK n).length:=cntE_le
 have h2:=hel n
 unfold Tr.entsK at h1 ⊢
 split at h1
 ·rw [if_pos (by assumption)]; omega
 ·rw [if_neg (by assumption)]; simp [cntE]
theorem cntR_le (hel:∀ n,(T.node n).ents.length<2 ^ 32) (l:List (BitVec 16)) (hl:l.length<=65536) (k:BitVec 16):T.cntR l k<=2 ^ 60:=by
 have key:∀ l:List (BitVec 16),(l.map fun n=>cntE k (T.entsK n)).sum<=l.length*2 ^ 32:=by
  intro l
  induction l with
  | nil=>simp
  | cons n l ih =>
   have:=entsK_len hel n k
   simp only [List.map_cons,List.sum_cons,List.length_cons] at ih ⊢
   omega
 have:=key l
 unfold Tr.cntR
 split <;> omega
theorem Rows.only {H H':AH} {sz:Nat} {v:Value} {rows:List (List Value)} {F:List Nat} (h:Rows H sz v rows) (o:Only F H H') (hb:∀ b,blk v=some b->b ∉ F):Rows H' sz v rows:=by
 refine ⟨h.len,?_⟩
 rcases h.at_ with h | ⟨b,o',c,h1,h2,h3,h4⟩
 ·exact .inl h
 ·have:=o.get (AH.lt_of_get (row_notdead h4)) (hb b (by rw [h1]; rfl))
  exact .inr ⟨b,o',c,h1,h2,by rw [this]; exact h3,by rw [this]; exact h4⟩
theorem S.f82 (hE:Fold E) (hw:WkAt H w T M) (hl:T.N.length<=65536) (hM:M.length<=1000) (hnl:∀ n,∀ e∈(T.node n).ents,e.1.length<2 ^ 63) (hel:∀ n,(T.node n).ents.length<2 ^ 32) (hQ:∀ H',Ext H H'->Q (vb (rightT T M)) H'):E.call (E.fid i.f82) [ptr w 0] H Q:=by
 apply hE.f82
 have x1:Ext H (H.new (.map [] 0 true)):=(Ext.refl _).new _
 have hm1:MapAt u16 viI (H.new (.map [] 0 true)) H.next ([]:List (BitVec 16×Int)):=MapAt.new H
 obtain ⟨o,_,s1,s2⟩:=hm1.set (kd:=0) (fun a b=>same_u16 a b) 1#16 (1:Int)
 have s1:setMap 0 (.map (some H.next)) (.int .u16 1) (.int .i64 1) (H.new (.map [] 0 true))=some ((H.new (.map [] 0 true)).put H.next o):=s1
 have x2:Ext H ((H.new (.map [] 0 true)).put H.next o):=x1.put (Nat.le_refl _) o
 have c2:CntM (aset 1#16 (1:Int) []) (T.cntR []):=by
  intro k
  rw [lookup_aset]
  unfold Tr.cntR
  by_cases e:k=1#16
  ·rw [if_pos e,if_pos e]; rfl
  ·rw [if_neg e,if_neg e]; rfl
 obtain ⟨⟨p,m,Ly0,q',nx,a1,a2,a3⟩,_⟩:=id hw
 have q1:=x2.cells a1
 have q2:=a2.mono x2
 simp only [F.f82,nilq_p,mapW_eq,s1,q1,stdZ]
 generalize (H.new (.map [] 0 true)).put H.next o=H2 at *
 refine S.f11 hE q2 hl fun nv H3 e3 r3 f3 =>?_
 have hlv:=r3.lenSlc
 rw [u16R_length] at hlv
 have hnl2:=Tr.nums_len hl
 have i0:(.int .i64 0:Value)=vi ((0:Nat):Int):=rfl
 have hm3:=s2.keep (e3.get s2.lt)
 simp only [hlv,i0,stdZ]
 refine LoopL.count T.nums.length (fun j ls H'=>∃ L,ls=[ptr w 0,.map (some H.next),nv,vi T.nums.length,vi j]/\Ext H H'/\Rows H' 1 nv (u16R T.nums)/\MapAt u16 viI H' H.next L/\CntM L (T.cntR (T.nums.take j))/\(T.nums.take j).all T.entsOk=true) ?_ ⟨_,rfl,x2.trans e3,r3,hm3,c2,rfl⟩
 rintro j _ H4 X0 hj hX ⟨L,rfl,e4,r4,hm4,c4,hall⟩
 have q1:=e4.cells a1
 have q2:=a2.mono e4
 rcases Nat.lt_or_ge j T.nums.length with hjl | hjl
 rotate_left
 ·have s:=lss_f (show ¬ j<T.nums.length by omega)
  rw [List.take_of_length_le hjl] at hall c4
  unfold rightT at hQ
  rw [hall,Bool.true_and] at hQ
  simp only [F.f82_l1,s,q1,stdZ]
  refine S.f11 hE q2 hl fun nv2 H5 e5 r5 f5 =>?_
  have hlv5:=r5.lenSlc
  rw [u16R_length] at hlv5
  simp only [hlv5,stdZ]
  exact right_l3 hE (hw.mono (e4.trans e5)) (hm4.keep (e5.get hm4.lt)) c4 hl hM r5 fun H' e=>hQ H' ((e4.trans e5).trans e)
 have hX:=hX hjl
 have s:=lss_t hjl
 obtain ⟨b,o',p1,p2⟩:=r4.ix (i:=j) (by rw [u16R_length]; exact hjl)
 have hrw:(u16R T.nums)[j]'(by rw [u16R_length]; exact hjl)=[u16 T.nums[j]]:=by simp [u16R]
 rw [hrw] at p2
 have p3:(H4.get b).cell o'=some (u16 T.nums[j]):=by have:=row_at p2 (j:=0) (by omega); simpa using this
 have hmem:T.nums[j]∈T.nums:=List.getElem_mem hjl
 have hkn:(T.node T.nums[j]).kind≠0#8:=(Tr.nums_mem hl _).1 hmem
 have hbad:T.entsOk T.nums[j]=false->∀ H',Ext H H'->Q (vb false) H':=fun h H' e=>by
  have:=hQ H' e
  unfold rightT at this
  rw [all_at hjl h,Bool.false_and] at this
  exact this
 have hgood:T.entsOk T.nums[j]=true->∀ H' L',Ext H H'->Rows H' 1 nv (u16R T.nums)->MapAt u16 viI H' H.next L'->CntM L' (fun k=>T.cntR (T.nums.take j) k+cntE k (T.entsK T.nums[j]))->X0 [ptr w 0,.map (some H.next),nv,vi T.nums.length,vi ((j+1:Nat):Int)] H':=fun h H' L' e rr hm c=>hX _ _ ⟨L',rfl,e,rr,hm,by
   intro k
   rw [List.take_succ_eq_append_getElem hjl,cntR_snoc]
   exact c k,all_take hjl hall h⟩
 generalize T.nums[j]=n at *
 simp only [F.f82_l1,s,p1,p3,q1,stdZ]
 refine S.f7 hE q2 n ?_
 rcases q2.get n with ⟨k0,_⟩ | ⟨kk,yy,k0,k1,k3,k4,k5⟩
 ·exact (hkn k0).elim
 rw [nodeP_some q2.cov.nd k1]
 have d3:(inC n (T.node n) yy)[3]? = some (.map yy.nm):=rfl
 have hrm:∃ ob,rangeM (.map yy.nm) H4=some (ob,mkPtr):=by
  by_cases hk:(T.node n).kind=2#8
  ·obtain ⟨s',hs'⟩:=k5.dir hk
   obtain ⟨ob,o1,_⟩:=IterAt.start (nodeR.names (q2.node k1) hs')
   exact ⟨ob,by rw [hs']; exact o1⟩
  ·rw [k5.nodir hk]; exact ⟨_,rfl⟩
 obtain ⟨ob,hrm⟩:=hrm
 simp only [k4,d3,hrm,AM.mk_some,stdZ]
 exact right_l2 hE hw hnl hel hmem (nm:=yy.nm) (ord:=yy.ord) (fun hk=>by
  obtain ⟨s',hs'⟩:=k5.dir hk
  exact ⟨s',hs',nodeR.names (a2.node k1) hs',k5.perm⟩) (fun hk=>k5.nodir hk) e4 (Nat.le_refl _) hm4 c4 (cntR_le hel _ (by rw [List.length_take]; omega)) hrm (by omega) hbad fun hok H' L' e on hm c=>hgood hok H' L' e (r4.only on fun b hb=>by
  have:=f3 b hb
  have h2:H.next<H2.next:=s2.lt
  simp; omega) hm c
end
end Go.AM
end
section
namespace Go.AM
set_option maxRecDepth 20000
section
variable {T:Tr} {M:List MntD}
theorem sum_filter {α:Type} (p:α->Bool) (g:α->Nat):∀ l:List α,(∀ x∈l,p x=false->g x=0)->((l.filter p).map g).sum=(l.map g).sum
 | [],_=>rfl
 | x :: l,h=>by
  have ih:=sum_filter p g l fun y hy=>h y (List.mem_cons_of_mem _ hy)
  rw [List.filter_cons]
  cases hx:p x with
  | true=>simp [ih]
  | false=>simp [ih,h x List.mem_cons_self hx]
theorem Tr.nodes_map {β:Type} (hl:T.N.length<=65536) (g:Nd->β):T.N.map g=((List.range T.N.length).map (BitVec.ofNat 16)).map fun n=>g (T.node n):=by
 apply List.ext_getElem
 ·simp
 ·intro k h1 h2
  have hk:k<T.N.length:=by simpa using h1
  simp only [List.getElem_map,List.getElem_range]
  congr 1
  unfold Tr.node
  rw [BitVec.toNat_ofNat,Nat.mod_eq_of_lt (by omega),List.getD_eq_getElem?_getD,List.getElem?_eq_getElem hk]
  rfl
theorem Tr.WF.entsK (wf:T.WF) (n:BitVec 16):T.entsK n=(T.node n).ents:=by
 unfold Tr.entsK
 split
 ·rfl
 ·cases he:(T.node n).ents with
  | nil=>rfl
  | cons x l=>exact (‹¬ _› (wf.ents n x.1 x.2 (by rw [he]; exact List.mem_cons_self)).1).elim
theorem Tr.WF.cntR (wf:T.WF) (k:BitVec 16):T.cntR T.nums k=(if k=1#16 then 1 else 0)+T.refs k:=by
 have h16:=wf.len16
 unfold Tr.cntR
 congr 1
 have hf:(fun n=>cntE k (T.entsK n))=fun n=>cntE k (T.node n).ents:=by funext n; rw [wf.entsK]
 rw [hf]
 unfold Tr.nums Tr.refs
 rw [sum_filter,Tr.nodes_map (by omega)]
 intro n _ h
 have h0:(T.node n).kind=0#8:=by simpa using h
 rw [wf.zero n h0]; rfl
theorem Tr.WF.refs1 (wf:T.WF):T.refs 1#16=0:=by
 have h16:=wf.len16
 rcases Nat.eq_zero_or_pos (T.refs 1#16) with h | h
 ·exact h
 ·obtain ⟨n,s,hs⟩:=Tr.refs_pos (by omega) h
  exact ((wf.ents n s _ hs).2.2.2.2.1 rfl).elim
theorem Tr.WF.links_cnt (wf:T.WF) {n:BitVec 16} (hk:(T.node n).kind≠0#8):(T.node n).links=(T.cntR T.nums n:Int):=by
 rw [wf.cntR]
 by_cases e:n=1#16
 ·subst e
  rw [if_pos rfl,wf.refs1,wf.root.2.2]; rfl
 ·rw [if_neg e,wf.links n e hk,Nat.zero_add]
theorem withinF_in (hk:(T.node 1#16).kind=2#8):∀ {f:Nat} {n:BitVec 16},(T.node n).kind=2#8->T.rootIn f n->(∀ m,(T.node m).kind=2#8->m≠1#16->(T.node m).parent≠m\/True)->T.rootIn f n->(∀ m,T.rootIn f m->m≠1#16->m≠(T.node m).parent)->T.withinF 1#16 (f+1) n=true
  | 0,n,_,h,_,_,_=>by
    have:n=1#16:=h
    subst this
    simp [Tr.withinF,hk]
  | f+1,n,hn,h,a,_,b=>by
    rw [Tr.withinF,if_neg (by simp [hn])]
    by_cases e:n=1#16
    · rw [if_pos e]
    · rw [if_neg e,if_neg (b n h e)]
      rcases h with h | h
      · exact (e h).elim
      · have hp:(T.node (T.node n).parent).kind=2#8:=by
          cases f with
          | zero=>have:(T.node n).parent=1#16:=h.2; rw [this]; exact hk
          | succ f => rcases h.2 with h2 | h2
                      · rw [h2]; exact hk
                      · exact h2.1
        exact withinF_in hk hp h.2 a h.2 fun m hm=>b m (Tr.rootIn_mono hm (by omega))
theorem rootIn_self:∀ {f:Nat} {n:BitVec 16},T.rootIn f n->n≠1#16->n≠(T.node n).parent
 | 0,_,h,hn=>(hn h).elim
 | f+1,n,h,hn=>by
  rcases h with h | h
  ·exact (hn h).elim
  ·intro e
   rw [<- e] at h
   exact rootIn_self h.2 hn e
theorem Tr.WF.rootWithin (wf:T.WF) {n:BitVec 16} (hn:T.Live n):T.within 1#16 n=true:=by
 have hd:=wf.depth n hn.1 hn.2
 unfold Tr.within
 rw [Tr.withinF_root wf.root.1 wf.root.2.1 _ hd (by omega)]
 exact withinF_in wf.root.1 hn.1 hd (fun _ _ _ => .inr trivial) hd fun m hm h1=>rootIn_self hm h1
theorem right_wf (wf:T.WF) (ti:T.Tidy) (hm:∀ m∈M,(T.node m.root).kind=2#8/\(m.id≠0->(T.node m.at_.i).kind=2#8)):rightT T M=true:=by
 have h16:=wf.len16
 unfold rightT
 rw [Bool.and_eq_true,Bool.and_eq_true,List.all_eq_true,List.all_eq_true,List.all_eq_true]
 refine ⟨fun n hn =>?_,fun n hn =>?_,fun m hm' =>?_⟩
 ·unfold Tr.entsOk
  rw [wf.entsK,List.all_eq_true]
  intro e he
  obtain ⟨_,_,a,b,_,c⟩:=wf.ents n e.1 e.2 he
  unfold Tr.entOk
  rw [a,decide_eq_true b]
  by_cases h2:(T.node e.2).kind=2#8
  ·simp [c h2]
  ·simp [h2]
 ·have hk:=(Tr.nums_mem (by omega) n).1 hn
  have hl:=wf.links_cnt hk
  have ht:=ti n hk
  unfold Tr.nodeOk
  rw [decide_eq_true hl,Bool.true_and]
  have a1:(!(decide ((T.node n).links=0)&&decide ((T.node n).held=0)))=true:=by
   rw [<- Bool.decide_and,decide_eq_false (fun h=>ht.elim (fun k=>k h.1) fun k=>k h.2)]; rfl
  have hle:(T.node n).kind=2#8->(T.node n).links<=1:=fun h2=>by
   by_cases e:n=1#16
   ·rw [e,wf.root.2.2]; exact Int.le_refl _
   ·rw [wf.links n e hk]
    have:=wf.dirs n h2
    omega
  have a2:(!(decide ((T.node n).kind=2#8)&&decide (1<(T.node n).links)))=true:=by
   rw [<- Bool.decide_and,decide_eq_false (fun h=>by have:=hle h.1; have:=h.2; omega)]; rfl
  rw [a1,a2,Bool.true_and]
  by_cases h2:(T.node n).kind=2#8/\0<(T.node n).links
  ·rw [wf.rootWithin ⟨h2.1,by have:=h2.2; omega⟩]; simp
  ·rw [<- Bool.decide_and,decide_eq_false h2]; rfl
 ·obtain ⟨a,b⟩:=hm m hm'
  unfold Tr.mntOk
  rw [decide_eq_true a,Bool.true_and]
  by_cases h0:m.id=0
  ·simp [h0]
  ·simp [b h0]
end
end Go.AM
end
section
namespace Go.AM
set_option maxRecDepth 20000
structure SpotD where
 dir:PlaceD
 name:NameL
 ino:BitVec 16
 deriving DecidableEq
def SpotD.cells (s:SpotD):List Value:=[vi s.dir.m,u16 s.dir.i,str s.name,u16 s.ino]
abbrev SpotD.v (s:SpotD):Value := .agg s.cells.toArray
def SpotD.zero:SpotD:=⟨⟨0,0#16⟩,[],0#16⟩
def spottedW (T:Tr) (M:List MntD) (c:PlaceD) (path:List UInt8):SpotD×Int :=
 if (lastW T M c path).2.2≠0 then (SpotD.zero,(lastW T M c path).2.2)
 else if (T.look (lastW T M c path).1.i (lastW T M c path).2.1).2≠0/\(T.look (lastW T M c path).1.i (lastW T M c path).2.1).2≠2 then (SpotD.zero,(T.look (lastW T M c path).1.i (lastW T M c path).2.1).2)
 else (⟨(lastW T M c path).1,(lastW T M c path).2.1,(T.look (lastW T M c path).1.i (lastW T M c path).2.1).1⟩,0)
def removeW (T:Tr) (M:List MntD) (s:SpotD) (d:Bool):Tr×Int :=
 if s.ino=0#16 then (T,2) else if M.any (uses s.ino)=true then (T,16) else T.drop s.dir.i s.name d
def linkW (T:Tr) (p:PlaceD) (s:SpotD):Tr×Int:=if p.m≠s.dir.m then (T,18) else T.add s.dir.i s.name p.i
def renameW (T:Tr) (M:List MntD) (a b:SpotD):Tr×Int :=
 if a.ino=0#16 then (T,2) else if a.dir.m≠b.dir.m then (T,18) else if M.any (uses a.ino)=true\/(b.ino≠0#16/\M.any (uses b.ino)=true) then (T,16) else T.move a.dir.i a.name b.dir.i b.name
section
variable {X:List Res} {E:Sy} {H H' H0:AH} {Q:Value->AH->Prop} {w:Nat} {T:Tr} {M:List MntD} {nx:Int} {v:Value}
theorem WkO.held2 {b b':Nat} {c c':List Value} (h:WkO ((X++[boxR b c])++[boxR b' c']) H0 H w T M nx):H.get b = .cells c none:=(h.openX (k:=X.length) (r:=boxR b c) (by simp)).1.holds
theorem st4 (K:AH) (s:SpotD):storeN 4 (ptr K.next 0) s.v (K.new (.cells [(.int .i64 0),(.int .u16 0),(.string ⟨#[]⟩),(.int .u16 0)] none))=some (K.new (.cells s.cells none)):=by
 rw [storeN_ptr,AH.get_new_self]
 have h3:AM.splice [(.int .i64 0),(.int .u16 0),(.string ⟨#[]⟩),(.int .u16 0)] 0 s.cells=s.cells:=rfl
 have h4:s.cells.all plain1=true:=rfl
 have h5:s.cells.length=4:=rfl
 have h6:([(.int .i64 0),(.int .u16 0),(.string ⟨#[]⟩),(.int .u16 0)]:List Value).length=4:=rfl
 simp only [List.size_toArray,List.toList_toArray,h5,h4,h6,Nat.zero_add,Nat.le_refl,and_self,if_true,h3,AH.new_put]
theorem st2 (K:AH) (p:PlaceD):storeN 2 (ptr K.next 0) p.v (K.new (.cells [(.int .i64 0),(.int .u16 0)] none))=some (K.new (.cells p.cells none)):=by
 rw [storeN_ptr,AH.get_new_self]
 have h3:AM.splice [(.int .i64 0),(.int .u16 0)] 0 p.cells=p.cells:=rfl
 have h4:p.cells.all plain1=true:=rfl
 have h5:p.cells.length=2:=rfl
 have h6:([(.int .i64 0),(.int .u16 0)]:List Value).length=2:=rfl
 simp only [List.size_toArray,List.toList_toArray,h5,h4,h6,Nat.zero_add,Nat.le_refl,and_self,if_true,h3,AH.new_put]
theorem put4 {b:Nat} {c:List Value} (hb:H.get b = .cells c none) (hc:c.length=4) (s:SpotD):storeN 4 (ptr b 0) s.v H=some (H.put b (.cells s.cells none)):=by
 rw [storeN_ptr,hb]
 have h4:s.cells.all plain1=true:=rfl
 have h5:s.cells.length=4:=rfl
 have h3:AM.splice c 0 s.cells=s.cells:=by simp [splice,hc,h5]
 simp only [List.size_toArray,List.toList_toArray,h5,h4,hc,Nat.zero_add,Nat.le_refl,and_self,if_true,h3]
theorem put2 {b:Nat} {c:List Value} (hb:H.get b = .cells c none) (hc:c.length=2) (p:PlaceD):storeN 2 (ptr b 0) p.v H=some (H.put b (.cells p.cells none)):=by
 rw [storeN_ptr,hb]
 have h4:p.cells.all plain1=true:=rfl
 have h5:p.cells.length=2:=rfl
 have h3:AM.splice c 0 p.cells=p.cells:=by simp [splice,hc,h5]
 simp only [List.size_toArray,List.toList_toArray,h5,h4,hc,Nat.zero_add,Nat.le_refl,and_self,if_true,h3]
theorem S.f83 (hE:Fold E) (hw:WkAt H w T M) (wf:T.WF) (lt:T.LT) (c:PlaceD) (path:List UInt8) (hp:path.length<2 ^ 63)
  (hQ:∀ H',Ext H H'->Q (.tuple #[(spottedW T M c path).1.v,vi (spottedW T M c path).2]) H'):E.call (E.fid i.f83) [ptr w 0,c.v,str path] H Q:=by
 apply hE.f83
 have z4:([(.int .i64 0),(.int .u16 0),(.string ⟨#[]⟩),(.int .u16 0)]:List Value)=SpotD.zero.cells:=rfl
 have z2:([(.int .i64 0),(.int .u16 0)]:List Value)=PlaceD.zero.cells:=rfl
 have g2:=((Has.start (Ext.refl H)).newbox c.cells).newbox SpotD.zero.cells
 have g2:Has H H ((H.new (.cells c.cells none)).new (.cells SpotD.zero.cells none)) [boxR H.next c.cells,boxR (H.next+1) SpotD.zero.cells]:=g2
 simp only [F.f83,boxO_agg_z,AM.mk_some,mkPtr_eq_z,List.toList_toArray,z4,allocW_eq,stdZ]
 generalize (H.new (.cells c.cells none)).new (.cells SpotD.zero.cells none)=H2 at *
 have lo1:loadN 2 (ptr H.next 0) H2=some c.v:=by rw [loadN_ptr,g2.box (k:=0) (b:=H.next) rfl]; rfl
 simp only [lo1,stdZ]
 refine S.f87 hE (hw.mono g2.ext) wf lt c path hp fun H3 e3 =>?_
 have g3:=g2.grow e3
 have g4:=g3.newbox (lastW T M c path).1.cells
 have g4:Has H H (H3.new (.cells (lastW T M c path).1.cells none)) [boxR H.next c.cells,boxR (H.next+1) SpotD.zero.cells,boxR H3.next (lastW T M c path).1.cells]:=g4
 simp only [z2,allocW_eq,st2,stdZ]
 have hst2:=st2 H3 (lastW T M c path).1
 rw [z2] at hst2
 simp only [hst2,stdZ]
 unfold spottedW at hQ
 generalize (lastW T M c path)=l at *
 obtain ⟨d,name,e⟩:=l
 simp only at hQ hst2 g4 ⊢
 generalize H3.new (.cells d.cells none)=H5 at *
 have i0:(.int .i64 0:Value)=vi 0:=rfl
 have i2:(.int .i64 2:Value)=vi 2:=rfl
 have hbz:buildV [(0,2),(2,1),(3,1)] #[(.int .i64 0),(.int .u16 0),(.string ⟨#[]⟩),(.int .u16 0)] []=some SpotD.zero.v:=rfl
 have fin:∀ (s:SpotD) (x:Int),(∀ H',Ext H H'->Q (.tuple #[s.v,vi x]) H')->∀ H5,Has H H H5 [boxR H.next c.cells,boxR (H.next+1) SpotD.zero.cells,boxR H3.next d.cells]->(opt (storeN 4 (ptr (H.next+1) 0) s.v H5) fun H6=>opt (loadN 4 (ptr (H.next+1) 0) H6) fun v11=>Q (.tuple #[v11,vi x]) H6):=by
  intro s x hq H5 g5
  have g6:=g5.put (k:=1) (b:=H.next+1) rfl s.cells
  have lo:loadN 4 (ptr (H.next+1) 0) (H5.put (H.next+1) (.cells s.cells none))=some s.v:=by rw [loadN_ptr,g6.box (k:=1) (b:=H.next+1) rfl]; rfl
  simp only [put4 (g5.box (k:=1) (b:=H.next+1) rfl) rfl,lo,stdZ]
  exact hq _ g6.ext
 by_cases he:e=0
 rotate_left
 ·have s1:binInt .neq (vi e) (vi 0)=some (vb true):=by rw [i64_neq]; simp [he]
  rw [if_pos he] at hQ
  simp only [i0,s1,hbz,stdZ]
  exact fin SpotD.zero e hQ _ g4
 have s1:binInt .neq (vi e) (vi 0)=some (vb false):=by rw [i64_neq]; simp [he]
 rw [if_neg (by simpa using he)] at hQ
 obtain ⟨⟨p,m,Ly,q',nx,q1,q2,q3⟩,_⟩:=hw.mono g4.ext
 have hbd:=g4.box (k:=2) (b:=H3.next) rfl
 have d1:d.cells[1]? = some (u16 d.i):=rfl
 simp only [i0,s1,q1,hbd,d1,stdZ]
 refine S.f8 hE q2 d.i name ?_
 generalize T.look d.i name=k at *
 obtain ⟨n,x⟩:=k
 simp only at hQ ⊢
 have lo8:loadN 2 (ptr H3.next 0) H5=some d.v:=by rw [loadN_ptr,hbd]; rfl
 have hbv:buildV [(0,2),(2,1),(3,1)] #[(.int .i64 0),(.int .u16 0),(.string ⟨#[]⟩),(.int .u16 0)] [(0,d.v),(1,str name),(2,u16 n)]=some (SpotD.v ⟨d,name,n⟩):=rfl
 by_cases hx0:x=0
 ·have s2:binInt .neq (vi x) (vi 0)=some (vb false):=by rw [i64_neq]; simp [hx0]
  rw [if_neg (by simp [hx0])] at hQ
  simp only [i0,s2,lo8,hbv,stdZ]
  exact fin ⟨d,name,n⟩ 0 hQ _ g4
 have s2:binInt .neq (vi x) (vi 0)=some (vb true):=by rw [i64_neq]; simp [hx0]
 by_cases hx2:x=2
 ·have s3:binInt .neq (vi x) (vi 2)=some (vb false):=by rw [i64_neq]; simp [hx2]
  rw [if_neg (by simp [hx2])] at hQ
  simp only [i0,i2,s2,s3,lo8,hbv,stdZ]
  exact fin ⟨d,name,n⟩ 0 hQ _ g4
 ·have s3:binInt .neq (vi x) (vi 2)=some (vb true):=by rw [i64_neq]; simp [hx2]
  rw [if_pos ⟨hx0,hx2⟩] at hQ
  simp only [i0,i2,s2,s3,hbz,stdZ]
  exact fin SpotD.zero x hQ _ g4
theorem S.f78 (hE:Fold E) (h:WkO X H0 H w T M nx) (wf:T.WF) (s:SpotD) (hs:s.name.length<2 ^ 63) (k:BitVec 8) (text:List UInt8) (ht:text.length<2 ^ 63) (hc:T.CO)
  (hQ:∀ H',WkO X H0 H' w (T.make s.dir.i s.name k text).1 M nx->Q (.tuple #[(if (T.make s.dir.i s.name k text).2.2≠0 then PlaceD.zero else ⟨s.dir.m,(T.make s.dir.i s.name k text).2.1⟩:PlaceD).v,vi (T.make s.dir.i s.name k text).2.2]) H') :
  E.call (E.fid i.f78) [ptr w 0,s.v,u8 k,str text] H Q:=by
 apply hE.f78
 have z2:([(.int .i64 0),(.int .u16 0)]:List Value)=PlaceD.zero.cells:=rfl
 have h2:=(h.box s.cells).box PlaceD.zero.cells
 have h2:WkO ((X++[boxR H.next s.cells])++[boxR (H.next+1) PlaceD.zero.cells]) H0 ((H.new (.cells s.cells none)).new (.cells PlaceD.zero.cells none)) w T M nx:=h2
 simp only [F.f78,boxO_agg_z,AM.mk_some,mkPtr_eq_z,List.toList_toArray,z2,allocW_eq,nilq_p,stdZ]
 generalize (H.new (.cells s.cells none)).new (.cells PlaceD.zero.cells none)=H2 at *
 obtain ⟨p,q,hw,⟨m,L,hi,ki⟩,_⟩:=h2.open_
 have hb1:=h2.held2
 have c0:s.cells[0]? = some (vi s.dir.m):=rfl
 have c1:s.cells[1]? = some (u16 s.dir.i):=rfl
 have c2:s.cells[2]? = some (str s.name):=rfl
 simp only [hw,hb1,c1,c2,stdZ]
 refine Ino.cMake hE hi wf s.dir.i s.name hs k text ht hc fun L' H4 u4 =>?_
 have h4:=ki _ _ _ u4
 have hb4:=h4.held
 have hb41:=h4.held2
 generalize T.make s.dir.i s.name k text=r at *
 obtain ⟨T',n,e⟩:=r
 have i0:(.int .i64 0:Value)=vi 0:=rfl
 have fin:∀ (pl:PlaceD) (x:Int),(∀ H',WkO X H0 H' w T' M nx->Q (.tuple #[pl.v,vi x]) H')->(opt (storeN 2 (ptr (H.next+1) 0) pl.v H4) fun H5=>opt (loadN 2 (ptr (H.next+1) 0) H5) fun v19=>Q (.tuple #[v19,vi x]) H5):=by
  intro pl x hq
  have h5:=h4.put pl.cells
  have lo:loadN 2 (ptr (H.next+1) 0) (H4.put (H.next+1) (.cells pl.cells none))=some pl.v:=by rw [loadN_ptr,h5.held]; rfl
  simp only [put2 hb4 rfl,lo,stdZ]
  exact hq _ h5.drop.drop
 simp only at hQ ⊢
 by_cases he:e=0
 ·have s1:binInt .neq (vi e) (vi 0)=some (vb false):=by rw [i64_neq]; simp [he]
  have hbv:buildV [(0,1),(1,1)] #[(.int .i64 0),(.int .u16 0)] [(0,vi s.dir.m),(1,u16 n)]=some (PlaceD.v ⟨s.dir.m,n⟩):=rfl
  simp only [i0,s1,hb41,c0,hbv,stdZ]
  subst he
  simp only [ne_eq,not_true,if_false] at hQ
  exact fin ⟨s.dir.m,n⟩ 0 hQ
 ·have s1:binInt .neq (vi e) (vi 0)=some (vb true):=by rw [i64_neq]; simp [he]
  have hbz:buildV [(0,1),(1,1)] #[(.int .i64 0),(.int .u16 0)] []=some PlaceD.zero.v:=rfl
  simp only [i0,s1,hbz,stdZ]
  simp only [ne_eq,he,not_false_eq_true,if_true] at hQ
  exact fin PlaceD.zero e hQ
end
end Go.AM
end
section
namespace Go.AM
set_option maxRecDepth 20000
section
variable {X:List Res} {E:Sy} {H H' H0:AH} {Q:Value->AH->Prop} {w:Nat} {T:Tr} {M:List MntD} {nx:Int} {v:Value}
theorem S.f80 (hE:Fold E) (h:WkO X H0 H w T M nx) (wf:T.WF) (s:SpotD) (d:Bool) (hc:T.CO)
  (hQ:∀ H',WkO X H0 H' w (removeW T M s d).1 M nx->Q (vi (removeW T M s d).2) H'):E.call (E.fid i.f80) [ptr w 0,s.v,vb d] H Q:=by
 apply hE.f80
 have h1:=h.box s.cells
 have c1:s.cells[1]? = some (u16 s.dir.i):=rfl
 have c2:s.cells[2]? = some (str s.name):=rfl
 have c3:s.cells[3]? = some (u16 s.ino):=rfl
 have n0:(.int .u16 0:Value)=u16 0#16:=rfl
 simp only [F.f80,boxO_agg_z,AM.mk_some,mkPtr_eq_z,List.toList_toArray,nilq_p,stdZ]
 generalize H.next=A at *
 generalize H.new (.cells s.cells none)=H1 at *
 have hb:=h1.held
 unfold removeW at hQ
 simp only [hb,c3,n0,u16_eql,stdZ]
 by_cases hi:s.ino=0#16
 ·rw [if_pos hi] at hQ
  simp only [hi,decide_true,stdZ]
  exact hQ _ h1.drop
 rw [if_neg hi] at hQ
 obtain ⟨⟨p,m,Ly,q,nx',q1,q2,q3⟩,_⟩:=h1.at_
 simp only [hi,decide_false,q1,hb,c3,stdZ]
 refine S.f38 hE q M nx' s.ino q3 fun H2 e2 =>?_
 have h2:=h1.mono e2
 cases hu:M.any (uses s.ino) with
 | true =>
  rw [if_pos hu] at hQ
  simp only [stdZ]
  exact hQ _ h2.drop
 | false =>
  rw [if_neg (by rw [hu]; decide)] at hQ
  obtain ⟨p,q,hw,⟨m,L,hi,ki⟩,_⟩:=h2.open_
  have hb2:=h2.held
  simp only [hw,hb2,c1,c2,stdZ]
  refine Ino.cDrop hE hi wf s.dir.i s.name d hc fun L' H3 u3 =>?_
  exact hQ _ (ki _ _ _ u3).drop
theorem S.f77 (hE:Fold E) (h:WkO X H0 H w T M nx) (wf:T.WF) (p:PlaceD) (s:SpotD) (hs:s.name.length<2 ^ 63) (hc:T.CO)
  (hQ:∀ H',WkO X H0 H' w (linkW T p s).1 M nx->Q (vi (linkW T p s).2) H'):E.call (E.fid i.f77) [ptr w 0,p.v,s.v] H Q:=by
 apply hE.f77
 have h2:=(h.box p.cells).box s.cells
 have h2:WkO ((X++[boxR H.next p.cells])++[boxR (H.next+1) s.cells]) H0 ((H.new (.cells p.cells none)).new (.cells s.cells none)) w T M nx:=h2
 have b0:p.cells[0]? = some (vi p.m):=rfl
 have b1:p.cells[1]? = some (u16 p.i):=rfl
 have c0:s.cells[0]? = some (vi s.dir.m):=rfl
 have c1:s.cells[1]? = some (u16 s.dir.i):=rfl
 have c2:s.cells[2]? = some (str s.name):=rfl
 simp only [F.f77,boxO_agg_z,AM.mk_some,mkPtr_eq_z,List.toList_toArray,nilq_p,stdZ]
 generalize (H.new (.cells p.cells none)).new (.cells s.cells none)=H2 at *
 have ha:=h2.held2
 have hb:=h2.held
 unfold linkW at hQ
 simp only [ha,hb,b0,c0,stdZ]
 by_cases hm:p.m=s.dir.m
 ·rw [if_neg (by simpa using hm)] at hQ
  have s1:binInt .neq (vi p.m) (vi s.dir.m)=some (vb false):=by rw [hm]; exact neq_f _
  obtain ⟨pp,q,hw,⟨m,L,hi,ki⟩,_⟩:=h2.open_
  simp only [s1,hw,ha,hb,b1,c1,c2,stdZ]
  refine Ino.cAdd hE hi wf s.dir.i s.name hs p.i hc fun L' H3 u3 =>?_
  exact hQ _ (ki _ _ _ u3).drop.drop
 ·rw [if_pos hm] at hQ
  have s1:binInt .neq (vi p.m) (vi s.dir.m)=some (vb true):=by rw [i64_neq]; simp [hm]
  simp only [s1,stdZ]
  exact hQ _ h2.drop.drop
theorem S.f81 (hE:Fold E) (h:WkO X H0 H w T M nx) (wf:T.WF) (a b:SpotD) (hs:b.name.length<2 ^ 63) (hc:T.CO)
  (hQ:∀ H',WkO X H0 H' w (renameW T M a b).1 M nx->Q (vi (renameW T M a b).2) H'):E.call (E.fid i.f81) [ptr w 0,a.v,b.v] H Q:=by
 apply hE.f81
 have h2:=(h.box a.cells).box b.cells
 have h2:WkO ((X++[boxR H.next a.cells])++[boxR (H.next+1) b.cells]) H0 ((H.new (.cells a.cells none)).new (.cells b.cells none)) w T M nx:=h2
 have a0:a.cells[0]? = some (vi a.dir.m):=rfl
 have a1:a.cells[1]? = some (u16 a.dir.i):=rfl
 have a2:a.cells[2]? = some (str a.name):=rfl
 have a3:a.cells[3]? = some (u16 a.ino):=rfl
 have b0:b.cells[0]? = some (vi b.dir.m):=rfl
 have b1:b.cells[1]? = some (u16 b.dir.i):=rfl
 have b2:b.cells[2]? = some (str b.name):=rfl
 have b3:b.cells[3]? = some (u16 b.ino):=rfl
 have n0:(.int .u16 0:Value)=u16 0#16:=rfl
 simp only [F.f81,boxO_agg_z,AM.mk_some,mkPtr_eq_z,List.toList_toArray,nilq_p,stdZ]
 generalize (H.new (.cells a.cells none)).new (.cells b.cells none)=H2 at *
 have ha:=h2.held2
 have hb:=h2.held
 unfold renameW at hQ
 simp only [ha,a3,n0,u16_eql,stdZ]
 by_cases hi:a.ino=0#16
 ·rw [if_pos hi] at hQ
  simp only [hi,decide_true,stdZ]
  exact hQ _ h2.drop.drop
 rw [if_neg hi] at hQ
 simp only [hi,decide_false,ha,hb,a0,b0,stdZ]
 by_cases hm:a.dir.m=b.dir.m
 rotate_left
 ·rw [if_pos hm] at hQ
  have s1:binInt .neq (vi a.dir.m) (vi b.dir.m)=some (vb true):=by rw [i64_neq]; simp [hm]
  simp only [s1,stdZ]
  exact hQ _ h2.drop.drop
 rw [if_neg (by simpa using hm)] at hQ
 have s1:binInt .neq (vi a.dir.m) (vi b.dir.m)=some (vb false):=by rw [hm]; exact neq_f _
 obtain ⟨⟨p,m,Ly,q,nx',q1,q2,q3⟩,_⟩:=h2.at_
 simp only [s1,q1,ha,a3,stdZ]
 refine S.f38 hE q M nx' a.ino q3 fun H3 e3 =>?_
 have h3:=h2.mono e3
 have ha3:=h3.held2
 have hb3:=h3.held
 have q13:=e3.cells q1
 have q33:=q3.mono e3
 cases hu:M.any (uses a.ino) with
 | true =>
  rw [if_pos (.inl hu)] at hQ
  simp only [stdZ]
  exact hQ _ h3.drop.drop
 | false =>
  have move:∀ H4,WkO ((X++[boxR H.next a.cells])++[boxR (H.next+1) b.cells]) H0 H4 w T M nx->(∀ H',WkO X H0 H' w (T.move a.dir.i a.name b.dir.i b.name).1 M nx->Q (vi (T.move a.dir.i a.name b.dir.i b.name).2) H') ->
    (opt (nilCk (ptr w 0)) fun v33=>opt (addOff v33 0) fun v34=>opt (load1 v34 H4) fun v35=>opt (addOff (ptr H.next 0) 0) fun v36=>opt (addOff v36 1) fun v37=>opt (load1 v37 H4) fun v38=>opt (addOff (ptr H.next 0) 2) fun v39=>opt (load1 v39 H4) fun v40 =>
     opt (addOff (ptr (H.next+1) 0) 0) fun v41=>opt (addOff v41 1) fun v42=>opt (load1 v42 H4) fun v43=>opt (addOff (ptr (H.next+1) 0) 2) fun v44=>opt (load1 v44 H4) fun v45=>E.call (E.fid i.f10) [v35,v38,v40,v43,v45] H4 fun v46 H16=>Q v46 H16):=by
   intro H4 h4 hq
   obtain ⟨p,q,hw,⟨m,L,hi,ki⟩,_⟩:=h4.open_
   simp only [hw,h4.held2,h4.held,a1,a2,b1,b2,stdZ]
   refine Ino.cMove hE hi wf a.dir.i b.dir.i a.name b.name hs hc fun L' H5 u5 =>?_
   exact hq _ (ki _ _ _ u5).drop.drop
  by_cases hbi:b.ino=0#16
  ·rw [if_neg (by simp [hu,hbi])] at hQ
   have s4:binInt .neq (u16 b.ino) (u16 0#16)=some (vb false):=by rw [u16_neq]; simp [hbi]
   simp only [hb3,b3,n0,s4,stdZ]
   have:=move H3 h3 hQ
   simp only [stdZ] at this
   exact this
  ·have s4:binInt .neq (u16 b.ino) (u16 0#16)=some (vb true):=by rw [u16_neq]; simp [hbi]
   simp only [hb3,b3,n0,s4,q13,stdZ]
   refine S.f38 hE q M nx' b.ino q33 fun H4 e4 =>?_
   have h4:=h3.mono e4
   cases hu2:M.any (uses b.ino) with
   | true =>
    rw [if_pos (.inr ⟨hbi,hu2⟩)] at hQ
    simp only [stdZ]
    exact hQ _ h4.drop.drop
   | false =>
    rw [if_neg (by simp [hu,hu2])] at hQ
    simp only [stdZ]
    have:=move H4 h4 hQ
    simp only [stdZ] at this
    exact this
end
end Go.AM
end
section
namespace Go.AM
set_option maxRecDepth 20000
structure BoundW where
 M:List MntD
 nx:Int
 e:Int
def bindW (T:Tr) (M:List MntD) (nx:Int) (a b:PlaceD):BoundW :=
 if dirP T M a=false\/dirP T M b=false then ⟨M,nx,20⟩
 else if (T.node a.i).links=0\/(T.node b.i).links=0 then ⟨M,nx,2⟩
 else ⟨(bindT M nx a.i b).T,(bindT M nx a.i b).nx,(bindT M nx a.i b).e⟩
def readW (T:Tr) (n:BitVec 16) (at_ many:Int):List (BitVec 8)×Int :=
 if (T.node n).kind=0#8 then ([],2) else if (T.node n).kind=2#8 then ([],21) else if (T.node n).kind≠1#8\/at_<0\/many<0 then ([],22)
 else if ((T.node n).data.length:Int)<=at_ then ([],0)
 else (((T.node n).data.take (at_.toNat+min many.toNat ((T.node n).data.length - at_.toNat))).drop at_.toNat,0)
section
variable {X:List Res} {E:Sy} {H H' H0:AH} {Q:Value->AH->Prop} {w:Nat} {T:Tr} {M:List MntD} {nx:Int} {v:Value}
theorem dirP_kind' {p:PlaceD} (h:dirP T M p=true):(T.node p.i).kind=2#8:=by
 unfold dirP at h
 simp only [Bool.and_eq_true,decide_eq_true_eq] at h
 exact h.2
theorem S.f76 (hE:Fold E) (h:WkO X H0 H w T M nx) (a b:PlaceD) (tok:TabOk (bindT M nx a.i b).T (bindT M nx a.i b).nx)
  (hQ:∀ H',WkO X H0 H' w T (bindW T M nx a b).M (bindW T M nx a b).nx->Q (vi (bindW T M nx a b).e) H'):E.call (E.fid i.f76) [ptr w 0,a.v,b.v] H Q:=by
 apply hE.f76
 have h2:=(h.box a.cells).box b.cells
 have h2:WkO ((X++[boxR H.next a.cells])++[boxR (H.next+1) b.cells]) H0 ((H.new (.cells a.cells none)).new (.cells b.cells none)) w T M nx:=h2
 simp only [F.f76,boxO_agg_z,AM.mk_some,mkPtr_eq_z,List.toList_toArray,nilq_p,stdZ]
 generalize (H.new (.cells a.cells none)).new (.cells b.cells none)=H2 at *
 have la:∀ {H'},H'.get H.next = .cells a.cells none->loadN 2 (ptr H.next 0) H'=some a.v:=fun e=>by rw [loadN_ptr,e]; rfl
 have lb:∀ {H'},H'.get (H.next+1) = .cells b.cells none->loadN 2 (ptr (H.next+1) 0) H'=some b.v:=fun e=>by rw [loadN_ptr,e]; rfl
 have nt:un .not (vb true)=some (vb false):=rfl
 have nf:un .not (vb false)=some (vb true):=rfl
 unfold bindW at hQ
 simp only [la h2.held2,stdZ]
 refine S.f85 hE h2.at_ a fun H3 e3 =>?_
 have h3:=h2.mono e3
 cases hda:dirP T M a with
 | false =>
  rw [if_pos (.inl hda)] at hQ
  simp only [nf,stdZ]
  exact hQ _ h3.drop.drop
 | true =>
 simp only [nt,lb h3.held,stdZ]
 refine S.f85 hE h3.at_ b fun H4 e4 =>?_
 have h4:=h3.mono e4
 cases hdb:dirP T M b with
 | false =>
  rw [if_pos (.inr hdb)] at hQ
  simp only [nf,stdZ]
  exact hQ _ h4.drop.drop
 | true =>
 rw [if_neg (by rw [hda,hdb]; simp)] at hQ
 have ka:=dirP_kind' hda
 have kb:=dirP_kind' hdb
 have a1:a.cells[1]? = some (u16 a.i):=rfl
 have b1:b.cells[1]? = some (u16 b.i):=rfl
 obtain ⟨p,q,hw,⟨m,L,hi,_⟩,_⟩:=h4.open_
 have hA:=h4.held2
 have hB:=h4.held
 simp only [nt,hw,hA,a1,stdZ]
 refine S.f7 hE hi a.i ?_
 rcases hi.get a.i with ⟨k0,_⟩ | ⟨kk,yy,k0,k1,k3,k4,k5⟩
 ·rw [ka] at k0; exact absurd k0 (by decide)
 rw [nodeP_some hi.cov.nd k1]
 have d6:(inC a.i (T.node a.i) yy)[6]? = some (vi (T.node a.i).links):=rfl
 have i0:(.int .i64 0:Value)=vi 0:=rfl
 by_cases hla:(T.node a.i).links=0
 ·rw [if_pos (.inl hla)] at hQ
  have s1:binInt .eql (vi (T.node a.i).links) (vi 0)=some (vb true):=by rw [hla]; exact eql_t 0
  simp only [k4,d6,i0,s1,stdZ]
  exact hQ _ h4.drop.drop
 have s1:binInt .eql (vi (T.node a.i).links) (vi 0)=some (vb false):=by rw [i64_eql]; simp [hla]
 simp only [k4,d6,i0,s1,hw,hB,b1,stdZ]
 refine S.f7 hE hi b.i ?_
 rcases hi.get b.i with ⟨k0',_⟩ | ⟨kk',yy',k0',k1',k3',k4',k5'⟩
 ·rw [kb] at k0'; exact absurd k0' (by decide)
 rw [nodeP_some hi.cov.nd k1']
 have d6':(inC b.i (T.node b.i) yy')[6]? = some (vi (T.node b.i).links):=rfl
 by_cases hlb:(T.node b.i).links=0
 ·rw [if_pos (.inr hlb)] at hQ
  have s2:binInt .eql (vi (T.node b.i).links) (vi 0)=some (vb true):=by rw [hlb]; exact eql_t 0
  simp only [k4',d6',i0,s2,stdZ]
  exact hQ _ h4.drop.drop
 have s2:binInt .eql (vi (T.node b.i).links) (vi 0)=some (vb false):=by rw [i64_eql]; simp [hlb]
 rw [if_neg (by simp [hla,hlb])] at hQ
 obtain ⟨p',q',hw',_,⟨v,ht,hnd,back⟩⟩:=h4.open_
 simp only [k4',d6',i0,s2,hw',hA,a1,lb hB,stdZ]
 refine S.f32 hE q' v M nx ht hnd h4.tab a.i b fun v' H1 u1 =>?_
 simp only [stdZ]
 exact hQ _ (back _ _ _ _ u1 tok).drop.drop
theorem S.f79 (hE:Fold E) (hw:WkAt H w T M) (n:BitVec 16) (at_ many:Int) (hd:(T.node n).data.length<=1024) (ha : -9223372036854775808<=at_/\at_<9223372036854775808) (hm : -9223372036854775808<=many/\many<9223372036854775808)
  (hQ:∀ v H',Ext H H'->Rows H' 1 v (byteR (readW T n at_ many).1)->Q (.tuple #[v,vi (readW T n at_ many).2]) H'):E.call (E.fid i.f79) [ptr w 0,u16 n,vi at_,vi many] H Q:=by
 apply hE.f79
 obtain ⟨⟨p,m,Ly,q',nx,q1,q2,q3⟩,_⟩:=hw
 simp only [F.f79,nilq_p,q1,stdZ]
 refine S.f7 hE q2 n ?_
 unfold readW at hQ
 have hbn:binNil eqPtr .eql (.pointer none) (.pointer none)=some (vb true):=rfl
 have rn:∀ {x:List (BitVec 8)},x=[]->Rows H 1 nilS (byteR x):=fun e=>by subst e; exact Rows.nil _ _ _
 rcases q2.get n with ⟨k0,_⟩ | ⟨kk,yy,k0,k1,k3,k4,k5⟩
 ·rw [nodeP_none q2.cov k0]
  rw [if_pos k0] at hQ
  simp only [hbn,stdZ]
  exact hQ nilS H (Ext.refl _) (rn rfl)
 rw [nodeP_some q2.cov.nd k1]
 rw [if_neg k0] at hQ
 have d1:(inC n (T.node n) yy)[1]? = some (u8 (T.node n).kind):=rfl
 have d2:(inC n (T.node n) yy)[2]? = some yy.data:=rfl
 have c1:(.int .u8 1:Value)=u8 1#8:=rfl
 have c2:(.int .u8 2:Value)=u8 2#8:=rfl
 have i0:(.int .i64 0:Value)=vi 0:=rfl
 by_cases h2:(T.node n).kind=2#8
 ·rw [if_pos h2] at hQ
  have s1:binInt .eql (u8 (T.node n).kind) (u8 2#8)=some (vb true):=by rw [u8_eql]; simp [h2]
  simp only [nilq_p,k4,d1,c2,s1,stdZ]
  exact hQ nilS H (Ext.refl _) (rn rfl)
 rw [if_neg h2] at hQ
 have s1:binInt .eql (u8 (T.node n).kind) (u8 2#8)=some (vb false):=by rw [u8_eql]; simp [h2]
 by_cases h1:(T.node n).kind=1#8
 rotate_left
 ·rw [if_pos (.inl h1)] at hQ
  have s2:binInt .neq (u8 (T.node n).kind) (u8 1#8)=some (vb true):=by rw [u8_neq]; simp [h1]
  simp only [nilq_p,k4,d1,c1,c2,s1,s2,stdZ]
  exact hQ nilS H (Ext.refl _) (rn rfl)
 have s2:binInt .neq (u8 (T.node n).kind) (u8 1#8)=some (vb false):=by rw [u8_neq]; simp [h1]
 by_cases hat:at_<0
 ·rw [if_pos (.inr (.inl hat))] at hQ
  have s3:binInt .lss (vi at_) (vi 0)=some (vb true):=by rw [i64_lss]; simp [hat]
  simp only [nilq_p,k4,d1,c1,c2,s1,s2,i0,s3,stdZ]
  exact hQ nilS H (Ext.refl _) (rn rfl)
 have s3:binInt .lss (vi at_) (vi 0)=some (vb false):=by rw [i64_lss]; simp [hat]
 by_cases hmn:many<0
 ·rw [if_pos (.inr (.inr hmn))] at hQ
  have s4:binInt .lss (vi many) (vi 0)=some (vb true):=by rw [i64_lss]; simp [hmn]
  simp only [nilq_p,k4,d1,c1,c2,s1,s2,i0,s3,s4,stdZ]
  exact hQ nilS H (Ext.refl _) (rn rfl)
 have s4:binInt .lss (vi many) (vi 0)=some (vb false):=by rw [i64_lss]; simp [hmn]
 rw [if_neg (by simp [h1,hat,hmn])] at hQ
 have rd:=(nodeR.bytes (q2.node k1)).toRows
 have hlen:AM.lenSlc yy.data=some (vi (T.node n).data.length):=by have:=rd.lenSlc; rw [byteR,List.length_map] at this; exact this
 obtain ⟨a,rfl⟩:∃ a:Nat,at_=(a:Int):=⟨at_.toNat,by omega⟩
 obtain ⟨b,rfl⟩:∃ b:Nat,many=(b:Int):=⟨many.toNat,by omega⟩
 by_cases hge:(T.node n).data.length<=a
 ·rw [if_pos (by omega)] at hQ
  have s5:binInt .geq (vi (a:Int)) (vi (T.node n).data.length)=some (vb true):=by rw [i64_geq]; simp; omega
  simp only [nilq_p,k4,d1,d2,c1,c2,s1,s2,i0,s3,s4,hlen,s5,stdZ]
  exact hQ nilS H (Ext.refl _) (rn rfl)
 rw [if_neg (by omega)] at hQ
 have s5:binInt .geq (vi (a:Int)) (vi (T.node n).data.length)=some (vb false):=by rw [i64_geq]; simp; omega
 have hbS:buildS 0 1 #[(.int .u8 0)] []=some (.cells [] none,mkSlc 0 0):=by
  have:=buildS_full 0 1 [u8 0#8] [] [] rfl rfl rfl rfl (by simp)
  simpa using this
 have hsub:binInt .sub (vi ((T.node n).data.length:Int)) (vi (a:Int))=some (vi (((T.node n).data.length - a:Nat):Int)):=by
  rw [i64_sub (by omega) (by omega)]
  congr 2
  omega
 have hmin:fold2 min2 [vi (b:Int),vi (((T.node n).data.length - a:Nat):Int)]=some (vi ((min b ((T.node n).data.length - a):Nat):Int)):=by
  rw [i64_min]
  congr 2
  split <;> omega
 have hadd:binInt .add (vi (a:Int)) (vi ((min b ((T.node n).data.length - a):Nat):Int))=some (vi ((a+min b ((T.node n).data.length - a):Nat):Int)):=i64_add_nat a _ (by omega)
 have g1:=(Has.start (Ext.refl H)).newroom 1
 have g1:Has H H (H.new (.cells [] none)) [growR 1 (slc H.next 0 0 0) []]:=g1
 have x1:Ext H (H.new (.cells [] none)):=(Ext.refl _).new _
 have k4':=x1.cells k4
 obtain ⟨v',t1,t2⟩:=(rd.mono x1).slice (lo:=some (vi (a:Int))) (hi:=some (vi ((a+min b ((T.node n).data.length - a):Nat):Int))) (i:=a) (j:=a+min b ((T.node n).data.length - a)) (.inl rfl) (.inl rfl) (by omega) (by rw [byteR,List.length_map]; omega)
 have hdt:((byteR (T.node n).data).take (a+min b ((T.node n).data.length - a))).drop a=byteR (((T.node n).data.take (a+min b ((T.node n).data.length - a))).drop a):=by simp [byteR,List.map_drop,List.map_take]
 rw [hdt] at t2
 obtain ⟨v2,H2,w1,w2,w3⟩:=g1.app (k:=0) (bytes:=1) rfl t2 (fun r hr=>by
  obtain ⟨x,_,rfl⟩:=List.mem_map.1 hr
  rfl) (by decide) (by decide) (by rw [byteR,List.length_map,List.length_drop,List.length_take]; simp; omega) (by rw [byteR,List.length_map,List.length_drop,List.length_take]; simp; omega)
 simp only [nilq_p,k4,d1,d2,c1,c2,s1,s2,i0,s3,s4,hlen,s5,hbS,AM.mk_some,mkSlc_eq,stdZ]
 simp only [k4',d2,hlen,hsub,hmin,hadd,t1,w1,stdZ]
 exact hQ v2 _ w3.ext (w3.rows (k:=0) rfl)
end
end Go.AM
end
section
namespace Go.AM
set_option maxRecDepth 20000
section
variable {X:List Res} {E:Sy} {H H' H0:AH} {Q:Value->AH->Prop} {w:Nat} {T:Tr} {M:List MntD} {nx:Int} {v:Value}
theorem okName_len {s:NameL} (h:okName s=true):s.length<=14:=by
 simp only [okName,Bool.and_eq_true,decide_eq_true_eq] at h
 exact h.1.1.2
theorem S.vfs_RightO (hE:Fold E) (hw:WkAt H w T M) (wf:T.WF) (hM:M.length<=1000) (hQ:∀ H',Ext H H'->Q (vb (rightT T M)) H'):E.call (E.fid i.f82) [ptr w 0] H Q:=by
 have h16:=wf.len16
 refine S.f82 hE hw (by omega) hM (fun n e he =>?_) (fun n=>by have:=wf.size n; omega) hQ
 have hok:=(wf.ents n e.1 e.2 he).2.2.1
 have:e.1.length<=14:=okName_len hok
 omega
theorem S.f43 (hE:Fold E) (hQ:∀ H',Ext H H'->Q (vb true) H'):E.call (E.fid i.f43) [] H Q:=by
 apply hE.f43
 have sa:(.string ⟨#[47,97]⟩:Value)=str [47,97]:=rfl
 have sab:(.string ⟨#[47,97,47,98]⟩:Value)=str [47,97,47,98]:=rfl
 have s0:(.string ⟨#[]⟩:Value)=str []:=rfl
 have k2:(.int .u8 2:Value)=u8 2#8:=rfl
 have i0:(.int .i64 0:Value)=vi 0:=rfl
 have i22:(.int .i64 22:Value)=vi 22:=rfl
 have eq0:binInt .eql (vi 0) (vi 0)=some (vb true):=rfl
 have eq22:binInt .eql (vi 22) (vi 22)=some (vb true):=rfl
 simp only [F.f43,stdZ]
 refine S.f84 hE 9 fun w H1 h1 =>?_
 have wf1:=Tr.new_wf 9
 have kd1:=Tr.KD.new 9
 refine S.f42 hE fun H2 e2 =>?_
 have h2:=h1.mono e2
 simp only [sa,stdZ]
 have f1:spottedW (Tr.new 9) tab0 ⟨0,1#16⟩ [47,97]=(⟨⟨0,1#16⟩,[97],0#16⟩,0):=by decide +kernel
 refine S.f83 hE h2.at_ wf1 (Tr.KD.lt kd1) ⟨0,1#16⟩ [47,97] (by decide) fun H3 e3 =>?_
 rw [f1]
 have lo4:∀ (K:AH) (s:SpotD) (H':AH),Ext (K.new (.cells s.cells none)) H'->loadN 4 (ptr K.next 0) H'=some s.v:=fun K s H' e=>by rw [loadN_ptr,e.cells (AH.get_new_self _ _)]; rfl
 have h3:=(h2.mono e3).mono ((Ext.refl H3).new (.cells (SpotD.cells ⟨⟨0,1#16⟩,[97],0#16⟩) none))
 simp only [allocW_eq,st4,lo4 H3 _ _ (Ext.refl _),k2,stdZ]
 generalize H3.new (.cells (SpotD.cells ⟨⟨0,1#16⟩,[97],0#16⟩) none)=H5 at *
 have f2:((Tr.new 9).make 1#16 [97] 2#8 []).2=(2#16,0):=by decide +kernel
 have wf2:=wf1.make 1#16 [97] 2#8 []
 have kd2:=kd1.make keeps_KD 1#16 [97] 2#8 []
 have ti2:=(Tr.Tidy.new 9).make 1#16 [97] 2#8 []
 refine S.f78 hE h3 wf1 ⟨⟨0,1#16⟩,[97],0#16⟩ (by decide) 2#8 [] (by decide) (by decide) fun H6 h6 =>?_
 have h6:WkO [] H H6 w ((Tr.new 9).make 1#16 [97] 2#8 []).1 tab0 1:=h6
 have f2':((Tr.new 9).make (SpotD.dir ⟨⟨0,1#16⟩,[97],0#16⟩).i (SpotD.name ⟨⟨0,1#16⟩,[97],0#16⟩) 2#8 []).2=(2#16,0):=f2
 rw [f2']
 have g3:spottedW ((Tr.new 9).make 1#16 [97] 2#8 []).1 tab0 ⟨0,1#16⟩ [47,97]=(⟨⟨0,1#16⟩,[97],2#16⟩,0):=by decide +kernel
 have g4:spottedW ((Tr.new 9).make 1#16 [97] 2#8 []).1 tab0 ⟨0,1#16⟩ [47,97,47,98]=(⟨⟨0,2#16⟩,[98],0#16⟩,0):=by decide +kernel
 have g5:(renameW ((Tr.new 9).make 1#16 [97] 2#8 []).1 tab0 ⟨⟨0,1#16⟩,[97],2#16⟩ ⟨⟨0,2#16⟩,[98],0#16⟩).2=22:=by decide +kernel
 have g6:(renameW ((Tr.new 9).make 1#16 [97] 2#8 []).1 tab0 ⟨⟨0,1#16⟩,[97],2#16⟩ ⟨⟨0,2#16⟩,[98],0#16⟩).1=((Tr.new 9).make 1#16 [97] 2#8 []).1:=by decide +kernel
 have co2:((Tr.new 9).make 1#16 [97] 2#8 []).1.CO:=by decide +kernel
 generalize ((Tr.new 9).make 1#16 [97] 2#8 []).1=T2 at *
 simp only [ne_eq,not_true,if_false,allocW_eq,st2,stdZ]
 have x7:Ext H6 (H6.new (.cells (PlaceD.cells ⟨0,2#16⟩) none)):=(Ext.refl _).new _
 have hb7:=AH.get_new_self H6 (.cells (PlaceD.cells ⟨0,2#16⟩) none)
 have h7:=h6.mono x7
 have st2':=st2 H6 ⟨0,2#16⟩
 simp only [st2',stdZ]
 generalize H6.new (.cells (PlaceD.cells ⟨0,2#16⟩) none)=H8 at *
 refine S.f42 hE fun H9 e9 =>?_
 simp only [sa,stdZ]
 refine S.f83 hE (h7.mono e9).at_ wf2 (Tr.KD.lt kd2) ⟨0,1#16⟩ [47,97] (by decide) fun H10 e10 =>?_
 rw [g3]
 have x11:Ext H10 (H10.new (.cells (SpotD.cells ⟨⟨0,1#16⟩,[97],2#16⟩) none)):=(Ext.refl _).new _
 have hb11:=AH.get_new_self H10 (.cells (SpotD.cells ⟨⟨0,1#16⟩,[97],2#16⟩) none)
 have l11:=lo4 H10 ⟨⟨0,1#16⟩,[97],2#16⟩
 simp only [allocW_eq,st4,stdZ]
 generalize H10.new (.cells (SpotD.cells ⟨⟨0,1#16⟩,[97],2#16⟩) none)=H12 at *
 have e812:=e9.trans (e10.trans x11)
 refine S.f42 hE fun H13 e13 =>?_
 simp only [sab,stdZ]
 refine S.f83 hE (h7.mono (e812.trans e13)).at_ wf2 (Tr.KD.lt kd2) ⟨0,1#16⟩ [47,97,47,98] (by decide) fun H14 e14 =>?_
 rw [g4]
 have x15:Ext H14 (H14.new (.cells (SpotD.cells ⟨⟨0,2#16⟩,[98],0#16⟩) none)):=(Ext.refl _).new _
 have l15:=lo4 H14 ⟨⟨0,2#16⟩,[98],0#16⟩
 simp only [allocW_eq,st4,stdZ]
 generalize H14.new (.cells (SpotD.cells ⟨⟨0,2#16⟩,[98],0#16⟩) none)=H16 at *
 have e1216:=e13.trans (e14.trans x15)
 have h16:=h7.mono (e812.trans e1216)
 have hbp:=(e812.trans e1216).cells hb7
 have hbf:=e1216.cells hb11
 have c3:(SpotD.cells ⟨⟨0,1#16⟩,[97],2#16⟩)[3]? = some (u16 2#16):=rfl
 have d1:(PlaceD.cells ⟨0,2#16⟩)[1]? = some (u16 2#16):=rfl
 simp only [i0,eq0,hbf,hbp,c3,d1,u16_eql,decide_true,stdZ]
 simp only [i0,eq0,hbf,hbp,c3,d1,u16_eql,decide_true,l11 _ e1216,l15 _ (Ext.refl _),stdZ]
 refine S.f81 hE h16 wf2 ⟨⟨0,1#16⟩,[97],2#16⟩ ⟨⟨0,2#16⟩,[98],0#16⟩ (by decide) co2 fun H17 h17 =>?_
 rw [g6] at h17
 rw [g5]
 simp only [i22,eq22,stdZ]
 refine S.vfs_RightO hE h17.at_ wf2 (by decide) fun H18 e18 =>?_
 rw [right_wf wf2 ti2 (fun m hm =>?_)]
 ·simp only [stdZ]
  exact hQ _ (h17.ext.trans e18)
 ·simp [tab0] at hm
  subst hm
  exact ⟨wf2.root.1,fun h=>(h rfl).elim⟩
end
end Go.AM
end
section
namespace Go.AM
set_option maxRecDepth 20000
def bM:List MntD:=[⟨0,⟨0,0#16⟩,1#16,0⟩,⟨1,⟨0,3#16⟩,2#16,0⟩]
def nmC:List UInt8:=[109,110,111,112,113,114]
structure BT (T:Tr):Prop where
 wf:T.WF
 kd:T.KD
 ti:T.Tidy
 a:alook [97] (T.node 1#16).ents=some 2#16
 b:alook [98] (T.node 1#16).ents=some 3#16
 c:alook [99] (T.node 1#16).ents=none
 k2:(T.node 2#16).kind=2#8
 k3:(T.node 3#16).kind=2#8
 l2:(T.node 2#16).links≠0
 files:∀ c∈nmC,∀ k,alook [c] (T.node 2#16).ents=some k->(T.node k).kind=1#8
section
variable {T T':Tr}
theorem look_dir {n:BitVec 16} (h:(T.node n).kind=2#8) (s:NameL):T.look n s=match alook s (T.node n).ents with | some k=>(k,0) | none=>(0#16,2):=by
 unfold Tr.look
 rw [if_neg (by simp [Tr.dir_zero.2 h])]
 rfl
theorem BT.dir0 (h:BT T):dirP T bM topP=true:=by
 unfold dirP
 rw [decide_eq_true (show (T.node topP.i).kind=2#8 from h.wf.root.1)]; rfl
theorem BT.dirA (h:BT T):dirP T bM ⟨0,2#16⟩=true:=by
 unfold dirP
 rw [decide_eq_true (show (T.node 2#16).kind=2#8 from h.k2)]; rfl
theorem BT.dirB (h:BT T):dirP T bM ⟨1,2#16⟩=true:=by
 unfold dirP
 rw [decide_eq_true (show (T.node 2#16).kind=2#8 from h.k2)]; rfl
theorem BT.stepA (h:BT T) (left:List NameL) (f:Bool):stepY T bM ⟨topP,[97] :: left,0⟩ f=(⟨⟨0,2#16⟩,left,0⟩,0):=by
 have hl:T.look topP.i [97]=(2#16,0):=by
  rw [look_dir (show (T.node topP.i).kind=2#8 from h.wf.root.1),show alook [97] (T.node topP.i).ents=some 2#16 from h.a]
 have hs:seen bM ⟨0,2#16⟩=⟨0,2#16⟩:=by decide
 simp only [stepY,h.dir0,hl,h.k2]
 simp [hs,topP]
theorem BT.stepB (h:BT T) (left:List NameL) (f:Bool):stepY T bM ⟨topP,[98] :: left,0⟩ f=(⟨⟨1,2#16⟩,left,0⟩,0):=by
 have hl:T.look topP.i [98]=(3#16,0):=by
  rw [look_dir (show (T.node topP.i).kind=2#8 from h.wf.root.1),show alook [98] (T.node topP.i).ents=some 3#16 from h.b]
 have hs:seen bM ⟨0,3#16⟩=⟨1,2#16⟩:=by decide
 simp only [stepY,h.dir0,hl,h.k3]
 simp [hs,topP]
structure Way1 (T:Tr) (q:NameL) (at_:PlaceD):Prop where
 step:∀ left f,stepY T bM ⟨topP,q :: left,0⟩ f=(⟨at_,left,0⟩,0)
 dir:dirP T bM at_=true
 ino:at_.i=2#16
theorem BT.wayA (h:BT T):Way1 T [97] ⟨0,2#16⟩:=⟨h.stepA,h.dirA,rfl⟩
theorem BT.wayB (h:BT T):Way1 T [98] ⟨1,2#16⟩:=⟨h.stepB,h.dirB,rfl⟩
theorem walk_one {q:NameL} {at_:PlaceD} (w:Way1 T q at_) (f:Bool):walkW T bM f ⟨topP,[q],0⟩=(⟨at_,[],0⟩,0):=by
 show walkN T bM f (1088+1+1) ⟨topP,[q],0⟩=_
 rw [walkN,if_neg (by simp),w.step]
 rw [if_neg (by simp),walkN,if_pos rfl]
structure Path2 (p:List UInt8) (q x:NameL):Prop where
 ne:p≠[]
 len:p.length<=120
 head:p.head? = some 47
 parts:partsL p=[q,x]
 slash:endsSlash p=false
theorem seen_top:seen bM topP=topP:=by decide
theorem begin2 {p:List UInt8} {q x:NameL} (h:Path2 p q x):beginW bM topP p=(⟨topP,[q,x],0⟩,0):=by
 unfold beginW
 rw [if_neg h.ne,if_neg (by have:=h.len; omega),if_pos h.head,seen_top,h.parts]
theorem last2 {p:List UInt8} {q x:NameL} {at_:PlaceD} (h:Path2 p q x) (w:Way1 T q at_) (hx:okName x=true) (hd:x≠[46,46]):lastW T bM topP p=(at_,x,0):=by
 have hl:=okName_len hx
 have hb:=begin2 h
 unfold lastW
 rw [hb]
 simp only [ne_eq,not_true,if_false,List.getLast?_cons_cons,List.getLast?_singleton,List.dropLast_cons₂,List.dropLast_singleton,if_neg hd,walk_one w,w.dir]
 rw [if_neg (by decide),if_neg (by omega),if_neg (by rw [hx]; decide)]
theorem spot2 {p:List UInt8} {q x:NameL} {at_:PlaceD} (h:Path2 p q x) (w:Way1 T q at_) (hx:okName x=true) (hd:x≠[46,46]) (k2:(T.node 2#16).kind=2#8):spottedW T bM topP p=(⟨at_,x,(alook x (T.node 2#16).ents).getD 0#16⟩,0):=by
 have hl:T.look at_.i x=match alook x (T.node 2#16).ents with | some k=>(k,0) | none=>(0#16,2):=by rw [w.ino,look_dir k2]
 unfold spottedW
 rw [last2 h w hx hd]
 simp only [ne_eq,not_true,if_false,hl]
 cases alook x (T.node 2#16).ents with
 | none=>simp
 | some k=>simp
theorem find2 {p:List UInt8} {q x:NameL} {at_:PlaceD} {n:BitVec 16} (h:Path2 p q x) (w:Way1 T q at_) (hx:okName x=true) (hd:x≠[46,46]) (k2:(T.node 2#16).kind=2#8) (hn:alook x (T.node 2#16).ents=some n) (hk:(T.node n).kind=1#8):findW T bM topP p true=(⟨at_.m,n⟩,0):=by
 have hl:T.look at_.i x=(n,0):=by rw [w.ino,look_dir k2,hn]
 have hlen:=okName_len hx
 have hst:stepY T bM ⟨at_,[x],0⟩ true=(⟨⟨at_.m,n⟩,[],0⟩,0):=by
  simp only [stepY,w.dir,hl,hk]
  rw [if_neg (by decide),if_neg hd,if_neg (by omega)]
  simp
 have hw:walkW T bM true ⟨topP,[q,x],0⟩=(⟨⟨at_.m,n⟩,[],0⟩,0):=by
  show walkN T bM true (1088+1+1+1) ⟨topP,[q,x],0⟩=_
  rw [walkN,if_neg (by simp),w.step,if_neg (by simp),walkN,if_neg (by simp),hst,if_neg (by simp),walkN,if_pos rfl]
 unfold findW
 rw [begin2 h]
 simp only [ne_eq,not_true,if_false,h.slash,Bool.true_or,hw,hk]
 rw [if_neg (by decide),if_neg (by simp)]
theorem spot1 (h:BT T) (c:UInt8) (hc:c=97\/c=99):spottedW T bM topP [47,c]=(⟨topP,[c],(alook [c] (T.node 1#16).ents).getD 0#16⟩,0):=by
 have hb:beginW bM topP [47,c]=(⟨topP,[[c]],0⟩,0):=by rcases hc with rfl | rfl <;> decide
 have hok:okName [c]=true:=by rcases hc with rfl | rfl <;> decide
 have hd:[c]≠([46,46]:NameL):=by simp
 have hw:walkW T bM true ⟨topP,[],0⟩=(⟨topP,[],0⟩,0):=by
  show walkN T bM true (1088+1) ⟨topP,[],0⟩=_
  rw [walkN,if_pos rfl]
 have hl:lastW T bM topP [47,c]=(topP,[c],0):=by
  unfold lastW
  rw [hb]
  simp only [ne_eq,not_true,if_false,List.getLast?_singleton,List.dropLast_singleton,if_neg hd,hw,h.dir0]
  rw [if_neg (by decide),if_neg (by simp),if_neg (by rw [hok]; decide)]
 have hk:T.look topP.i [c]=match alook [c] (T.node 1#16).ents with | some k=>(k,0) | none=>(0#16,2):=look_dir h.wf.root.1 [c]
 unfold spottedW
 rw [hl]
 simp only [ne_eq,not_true,if_false,hk]
 cases alook [c] (T.node 1#16).ents with
 | none=>simp
 | some k=>simp
theorem paths_ok:∀ c∈nmC,Path2 [47,97,47,c] [97] [c]/\Path2 [47,98,47,c] [98] [c]/\Path2 [47,97,47,c,120] [97] [c,120]/\Path2 [47,98,47,c,120] [98] [c,120]/\okName [c]=true/\okName [c,120]=true/\[c]≠[46,46]/\[c,120]≠[46,46]/\([c]:NameL)≠[100]:=by
 intro c hc
 simp only [nmC,List.mem_cons,List.not_mem_nil,or_false] at hc
 rcases hc with rfl | rfl | rfl | rfl | rfl | rfl <;> exact ⟨⟨by decide,by decide,by decide,by decide,by decide⟩,⟨by decide,by decide,by decide,by decide,by decide⟩,⟨by decide,by decide,by decide,by decide,by decide⟩,⟨by decide,by decide,by decide,by decide,by decide⟩,by decide,by decide,by decide,by decide,by decide⟩
theorem alook_insertE {s t:NameL} {k:BitVec 16} {l:EntL} (hn:(l.map Prod.fst).Nodup) (hs:alook s l=none):alook t (insertE (s,k) l)=if t=s then some k else alook t l:=by
 have hp:=insertE_perm (s,k) l
 have hnd:((insertE (s,k) l).map Prod.fst).Nodup:=(hp.map Prod.fst).nodup_iff.2 (by
  rw [List.map_cons,List.nodup_cons]
  exact ⟨lookup_none.1 hs,hn⟩)
 have:=lookup_perm (a:=t) hp hnd
 unfold alook
 rw [this]
 exact alook_cons t (s,k) l
theorem make_kind (h1:1<=T.N.length) (h2:T.N.length<=60000) (a:BitVec 16) (s:NameL) (k:BitVec 8) (text:List UInt8) {n:BitVec 16} (hn:(T.node n).kind≠0#8):((T.make a s k text).1.node n).kind=(T.node n).kind:=by
 have hf:=Tr.free_ok h1 h2
 unfold Tr.make
 repeat' split
 all_goals try rfl
 show (((T.put T.free (Nd.made a k text)).upd a (Nd.addE s (BitVec.ofNat 16 T.free))).node n).kind=_
 have hne:n≠BitVec.ofNat 16 T.free:=by rintro rfl; exact hn hf.zero
 have hp:(T.put T.free (Nd.made a k text)).node n=T.node n:=by rw [Tr.node_put hf.le hf.lt,if_neg hne]
 rcases (T.put T.free (Nd.made a k text)).upd_or a n (Nd.addE s (BitVec.ofNat 16 T.free)) with e | e
 ·rw [e,hp]
 ·rw [e,hp]; rfl
theorem tidy_kind (U:Tr) (n m:BitVec 16):((U.tidy n).node m)=U.node m\/(U.tidy n).node m=Nd.none:=by
 unfold Tr.tidy
 split
 ·rcases U.upd_or n m (fun _=>Nd.none) with e | e
  ·exact .inl e
  ·exact .inr e
 ·exact .inl rfl
theorem drop_kind (a:BitVec 16) (s:NameL) (d:Bool) (n:BitVec 16):((T.drop a s d).1.node n).kind=(T.node n).kind\/((T.drop a s d).1.node n).kind=0#8:=by
 unfold Tr.drop
 repeat' split
 all_goals try exact .inl rfl
 rcases tidy_kind (((T.upd a (Nd.delE s)).upd (T.look a s).1 (Nd.addL (-1))).bump) (T.look a s).1 n with e | e
 ·refine .inl ?_
  show ((Tr.tidy _ _).node n).kind=_
  rw [e]
  show ((((T.upd a (Nd.delE s)).upd (T.look a s).1 (Nd.addL (-1)))).node n).kind=_
  rcases (T.upd a (Nd.delE s)).upd_or (T.look a s).1 n (Nd.addL (-1)) with e | e <;> rw [e] <;> rcases T.upd_or a n (Nd.delE s) with e | e <;> rw [e] <;> rfl
 ·refine .inr ?_
  show ((Tr.tidy _ _).node n).kind=_
  rw [e]; rfl
end
end Go.AM
end
section
namespace Go.AM
set_option maxRecDepth 20000
structure BI (T:Tr) (i:Nat):Prop where
 bt:BT T
 lim:T.limit=40
 n:T.N.length<=5+i
 e:(T.node 2#16).ents.length<=1+i
 c0:0<=T.change
 c1:T.change<=3*i+20
section
variable {T T':Tr} {i:Nat} {c:UInt8} {k:BitVec 16}
theorem BI.co (h:BI T i) (hi:i<=100):T.CO:=⟨by have:=h.c0; omega,by have:=h.c1; omega⟩
theorem BT.other (h:BT T) (wf:T'.WF) (kd:T'.KD) (ti:T'.Tidy) (h1:(T'.node 1#16).ents=(T.node 1#16).ents) (h2:(T'.node 2#16).kind=2#8/\(T'.node 2#16).links=(T.node 2#16).links) (h3:(T'.node 3#16).kind=2#8) (hf:∀ c∈nmC,∀ k,alook [c] (T'.node 2#16).ents=some k->(T'.node k).kind=1#8):BT T' :=
 ⟨wf,kd,ti,by rw [h1]; exact h.a,by rw [h1]; exact h.b,by rw [h1]; exact h.c,h2.1,h3,by rw [h2.2]; exact h.l2,hf⟩
theorem BI.make (h:BI T i) (hi:i<=20) (hc:c∈nmC) (hno:alook [c] (T.node 2#16).ents=none):∃ n,(T.make 2#16 [c] 1#8 []).2=(n,0)/\n≠0#16/\BI (T.make 2#16 [c] 1#8 []).1 (i+1)/\alook [c] ((T.make 2#16 [c] 1#8 []).1.node 2#16).ents=some n /\
  ((T.make 2#16 [c] 1#8 []).1.node n).kind=1#8/\((T.make 2#16 [c] 1#8 []).1.node n).data=[]/\(T.make 2#16 [c] 1#8 []).1.change<=3*i+21:=by
 have hb:=h.bt
 have hn:=h.n
 have he:=h.e
 obtain ⟨_,_,_,_,hok,_,_,_,_⟩:=paths_ok c hc
 have hl2:=hb.wf.len.1
 have hfr:=Tr.free_ok (T:=T) (by omega) (by omega)
 have hroom:T.room 2#16 [c]=0:=by
  unfold Tr.room
  rw [if_neg (by simp [Tr.dir_zero.2 hb.k2]),if_neg (by rw [hok]; decide),hno,if_neg (by simp),if_neg hb.l2,if_neg (by omega)]
 have hlen:T.len<=T.N.length:=List.countP_le_length
 have hlim:=h.lim
 have heq:T.make 2#16 [c] 1#8 []=(((T.put T.free (Nd.made 2#16 1#8 [])).upd 2#16 (Nd.addE [c] (BitVec.ofNat 16 T.free))).bump,(BitVec.ofNat 16 T.free,0)):=by
  unfold Tr.make
  rw [if_neg (by rw [hroom]; decide),if_neg (by decide),if_neg (by
   intro hh
   rcases hh with hh | hh
   ·omega
   ·exact absurd hh.1 (by decide))]
 have wf':=hb.wf.make 2#16 [c] 1#8 []
 have kd':=hb.kd.make keeps_KD 2#16 [c] 1#8 []
 have ti':=hb.ti.make 2#16 [c] 1#8 []
 have kinds:=fun {n:BitVec 16} (hn:(T.node n).kind≠0#8)=>make_kind (T:=T) (by omega) (by omega) 2#16 [c] 1#8 [] hn
 have k1:=kinds (n:=1#16) (by rw [hb.wf.root.1]; decide)
 have k2:=kinds (n:=2#16) (by rw [hb.k2]; decide)
 have k3:=kinds (n:=3#16) (by rw [hb.k3]; decide)
 have old:=fun {m:BitVec 16} (hm:(T.node m).kind=1#8)=>kinds (n:=m) (by rw [hm]; decide)
 rw [heq] at wf' kd' ti' k1 k2 k3 old ⊢
 have z:=hfr.zero
 generalize hN:BitVec.ofNat 16 T.free=n at *
 have n2:(2#16:BitVec 16)≠n:=by rintro rfl; rw [hb.k2] at z; exact absurd z (by decide)
 have n1:(1#16:BitVec 16)≠n:=by rintro rfl; rw [hb.wf.root.1] at z; exact absurd z (by decide)
 have n3:(3#16:BitVec 16)≠n:=by rintro rfl; rw [hb.k3] at z; exact absurd z (by decide)
 have n0:n≠0#16:=by
  rw [<- hN]
  intro e
  have:=congrArg BitVec.toNat e
  have hp:=hfr.pos
  have hlt:=hfr.lt
  rw [BitVec.toNat_ofNat,Nat.mod_eq_of_lt (by omega)] at this
  simp at this
  omega
 have hU:∀ m,(T.put T.free (Nd.made 2#16 1#8 [])).node m=if m=n then Nd.made 2#16 1#8 [] else T.node m:=fun m=>by rw [Tr.node_put hfr.le hfr.lt,hN]
 have hT:∀ m,(((T.put T.free (Nd.made 2#16 1#8 [])).upd 2#16 (Nd.addE [c] n)).bump).node m=if m=2#16 then Nd.addE [c] n (T.node 2#16) else if m=n then Nd.made 2#16 1#8 [] else T.node m:=fun m=>by
  show ((T.put T.free (Nd.made 2#16 1#8 [])).upd 2#16 (Nd.addE [c] n)).node m=_
  rw [Tr.node_upd (by rw [hU,if_neg n2,hb.k2]; decide),hU,if_neg n2,hU]
 have hal:∀ t,alook t (Nd.addE [c] n (T.node 2#16)).ents=if t=[c] then some n else alook t (T.node 2#16).ents:=fun t=>alook_insertE (hb.wf.nodup_names 2#16) hno
 refine ⟨n,rfl,n0,⟨BT.other hb wf' kd' ti' ?_ ⟨by rw [k2]; exact hb.k2,?_⟩ (by rw [k3]; exact hb.k3) ?_,?_,?_,?_,?_,?_⟩,?_,?_,?_,?_⟩
 ·rw [hT,if_neg (by decide),if_neg n1]
 ·rw [hT,if_pos rfl]; rfl
 ·intro d hd k hk
  rw [hT,if_pos rfl,hal] at hk
  by_cases e:[d]=[c]
  ·rw [if_pos e] at hk
   have:n=k:=by simpa using hk
   subst this
   rw [hT,if_neg (Ne.symm n2),if_pos rfl]; rfl
  ·rw [if_neg e] at hk
   have hk1:=hb.files d hd k hk
   rw [old hk1]; exact hk1
 ·exact hlim
 ·have:(((T.put T.free (Nd.made 2#16 1#8 [])).upd 2#16 (Nd.addE [c] n)).bump).N.length<=T.N.length+1:=by
   show ((T.put T.free (Nd.made 2#16 1#8 [])).N.modify _ _).length<=_
   rw [List.length_modify]
   unfold Tr.put
   simp only
   split <;> simp
  exact Nat.le_trans this (by omega)
 ·rw [hT,if_pos rfl]
  show (insertE ([c],n) (T.node 2#16).ents).length<=_
  rw [(insertE_perm _ _).length_eq,List.length_cons]
  omega
 ·show 0<=T.change+1
  have:=h.c0
  omega
 ·show T.change+1<=_
  have:=h.c1
  omega
 ·rw [hT,if_pos rfl,hal,if_pos rfl]
 ·rw [hT,if_neg (Ne.symm n2),if_pos rfl]; rfl
 ·rw [hT,if_neg (Ne.symm n2),if_pos rfl]; rfl
 ·show T.change+1<=_
  have:=h.c1
  omega
theorem BI.write (h:BI T (i+1)) (hch:T.change<=3*i+21) {n:BitVec 16} (hk:(T.node n).kind=1#8) (hd:(T.node n).data=[]) (b:List (BitVec 8)) (hb:b.length<=100):(T.write n 0 b).2=0/\BI (T.write n 0 b).1 (i+1)/\(∀ m,((T.write n 0 b).1.node m).ents=(T.node m).ents)/\((T.write n 0 b).1.node n).kind=1#8/\((T.write n 0 b).1.node n).data=b:=by
 have heq:T.write n 0 b=((T.upd n (fun x=>{ x with data:=writeL x.data (0:Int).toNat b })).bump,0):=by
  unfold Tr.write
  rw [if_neg (by rw [hk]; decide),if_neg (by rw [hk]; decide),if_neg (by rw [hk]; simp),if_neg (by omega)]
 have hbt:=h.bt
 have wf':=hbt.wf.write n 0 b
 have kd':=hbt.kd.write keeps_KD n 0 b
 have ti':(T.write n 0 b).1.Tidy:=Tr.Did.tidy (T:=T) (up:=true) (.write n 0 b) hbt.ti hbt.wf
 rw [heq] at wf' kd' ti' ⊢
 have hT:∀ m,((T.upd n (fun x=>{ x with data:=writeL x.data (0:Int).toNat b })).bump).node m=if m=n then { T.node n with data:=writeL (T.node n).data (0:Int).toNat b } else T.node m:=fun m=>by
  show (T.upd n (fun x=>{ x with data:=writeL x.data (0:Int).toNat b })).node m=_
  rw [Tr.node_upd (by rw [hk]; decide)]
 have hents:∀ m,(((T.upd n (fun x=>{ x with data:=writeL x.data (0:Int).toNat b })).bump).node m).ents=(T.node m).ents:=fun m=>by
  rw [hT]
  split
  ·rename_i e; rw [e]
  ·rfl
 have hkind:∀ m,(((T.upd n (fun x=>{ x with data:=writeL x.data (0:Int).toNat b })).bump).node m).kind=(T.node m).kind:=fun m=>by
  rw [hT]
  split
  ·rename_i e; rw [e]
  ·rfl
 have hlinks:∀ m,(((T.upd n (fun x=>{ x with data:=writeL x.data (0:Int).toNat b })).bump).node m).links=(T.node m).links:=fun m=>by
  rw [hT]
  split
  ·rename_i e; rw [e]
  ·rfl
 refine ⟨rfl,⟨BT.other hbt wf' kd' ti' (hents _) ⟨by rw [hkind]; exact hbt.k2,hlinks _⟩ (by rw [hkind]; exact hbt.k3) (fun d hd k hk =>?_),h.lim,?_,by rw [hents]; exact h.e,?_,?_⟩,hents,by rw [hkind]; exact hk,?_⟩
 ·rw [hents] at hk
  rw [hkind]
  exact hbt.files d hd k hk
 ·have:((T.upd n (fun x=>{ x with data:=writeL x.data (0:Int).toNat b })).bump).N.length=T.N.length:=by simp [Tr.bump,Tr.upd]
  rw [this]; exact h.n
 ·show 0<=T.change+1
  have:=h.c0
  omega
 ·show T.change+1<=_
  omega
 ·rw [hT,if_pos rfl]
  show writeL (T.node n).data _ b=b
  rw [hd]
  simp [writeL]
theorem BI.drop (h:BI T i) (hc:c∈nmC) {n:BitVec 16} (hn:alook [c] (T.node 2#16).ents=some n):n≠0#16/\bM.any (uses n)=false/\(T.drop 2#16 [c] false).2=0/\BI (T.drop 2#16 [c] false).1 (i+1)/\alook [c] ((T.drop 2#16 [c] false).1.node 2#16).ents=none:=by
 have hb:=h.bt
 have hk:=hb.files c hc n hn
 have hl:T.look 2#16 [c]=(n,0):=by rw [look_dir hb.k2,hn]
 have heq:T.drop 2#16 [c] false=((((T.upd 2#16 (Nd.delE [c])).upd n (Nd.addL (-1))).bump).tidy n,0):=by
  unfold Tr.drop
  rw [hl]
  simp only [ne_eq,not_true,if_false,Bool.false_eq_true,false_and,true_and,hk]
  rw [if_neg (by decide)]
 have wf':=hb.wf.drop 2#16 [c] false
 have kd':=hb.kd.drop keeps_KD 2#16 [c] false
 have ti':=hb.ti.drop 2#16 [c] false
 have kinds:=fun m=>drop_kind (T:=T) 2#16 [c] false m
 have n2:n≠2#16:=by rintro rfl; rw [hb.k2] at hk; exact absurd hk (by decide)
 have n1:n≠1#16:=by rintro rfl; rw [hb.wf.root.1] at hk; exact absurd hk (by decide)
 have n3:n≠3#16:=by rintro rfl; rw [hb.k3] at hk; exact absurd hk (by decide)
 have n0:n≠0#16:=by rintro rfl; rw [hb.wf.n0] at hk; exact absurd hk (by decide)
 rw [heq] at wf' kd' ti' kinds ⊢
 have hkn:(((T.upd 2#16 (Nd.delE [c])).upd n (Nd.addL (-1))).node n).kind≠0#8:=by
  have e1:(T.upd 2#16 (Nd.delE [c])).node n=T.node n:=Tr.node_upd_ne n2 _
  rw [Tr.node_upd (by rw [e1,hk]; decide),if_pos rfl,e1]
  show (T.node n).kind≠0#8
  rw [hk]; decide
 have hT:∀ m,m≠n->((((T.upd 2#16 (Nd.delE [c])).upd n (Nd.addL (-1))).bump).tidy n).node m=if m=2#16 then Nd.delE [c] (T.node 2#16) else T.node m:=fun m hm=>by
  have e0:((((T.upd 2#16 (Nd.delE [c])).upd n (Nd.addL (-1))).bump).tidy n).node m=(((T.upd 2#16 (Nd.delE [c])).upd n (Nd.addL (-1))).bump).node m:=Tr.tidy_node (T:=((T.upd 2#16 (Nd.delE [c])).upd n (Nd.addL (-1))).bump) hkn m hm
  rw [e0]
  show ((T.upd 2#16 (Nd.delE [c])).upd n (Nd.addL (-1))).node m=_
  rw [Tr.node_upd_ne hm,Tr.node_upd (by rw [hb.k2]; decide)]
 have hnd:=hb.wf.nodup_names 2#16
 have hal:∀ t,alook t (adel [c] (T.node 2#16).ents)=if t=[c] then none else alook t (T.node 2#16).ents:=fun t=>alook_adel _ _ hnd
 have t2:=hT 2#16 (Ne.symm n2)
 rw [if_pos rfl] at t2
 refine ⟨n0,?_,rfl,⟨BT.other hb wf' kd' ti' (by rw [hT _ (Ne.symm n1),if_neg (by decide)]) ⟨by rw [t2]; exact hb.k2,by rw [t2]; rfl⟩ (by rw [hT _ (Ne.symm n3),if_neg (by decide)]; exact hb.k3) (fun d hd k hk' =>?_),?_,?_,?_,?_,?_⟩,?_⟩
 ·have u1:uses n ⟨0,⟨0,0#16⟩,1#16,0⟩=false:=by unfold uses; simp [Ne.symm n1]
  have u2:uses n ⟨1,⟨0,3#16⟩,2#16,0⟩=false:=by unfold uses; simp [Ne.symm n2,Ne.symm n3]
  simp [bM,u1,u2]
 ·rw [t2] at hk'
  have hmem:([d],k)∈(((((T.upd 2#16 (Nd.delE [c])).upd n (Nd.addL (-1))).bump).tidy n).node 2#16).ents:=by rw [t2]; exact alook_mem hk'
  have hk0:=(wf'.ents 2#16 [d] k hmem).2.2.2.1
  have hk'':alook [d] (T.node 2#16).ents=some k:=by
   have:=hal [d]
   change alook [d] (adel [c] (T.node 2#16).ents)=some k at hk'
   rw [this] at hk'
   split at hk'
   ·exact nomatch hk'
   ·exact hk'
  have h1:=hb.files d hd k hk''
  rcases kinds k with e | e
  ·exact e.trans h1
  ·exact (hk0 e).elim
 ·unfold Tr.tidy
  split <;> exact h.lim
 ·rw [Tr.len_tidy]
  have:(((T.upd 2#16 (Nd.delE [c])).upd n (Nd.addL (-1))).bump).N.length=T.N.length:=by simp [Tr.bump,Tr.upd]
  rw [this]
  have:=h.n
  omega
 ·rw [t2]
  show (adel [c] (T.node 2#16).ents).length<=_
  have:=(adel_sub [c] (T.node 2#16).ents).length_le
  have:=h.e
  omega
 ·have:((((T.upd 2#16 (Nd.delE [c])).upd n (Nd.addL (-1))).bump).tidy n).change=T.change+1:=by unfold Tr.tidy; split <;> rfl
  rw [this]
  have:=h.c0
  omega
 ·have:((((T.upd 2#16 (Nd.delE [c])).upd n (Nd.addL (-1))).bump).tidy n).change=T.change+1:=by unfold Tr.tidy; split <;> rfl
  rw [this]
  have:=h.c1
  omega
 ·rw [t2]
  show alook [c] (adel [c] (T.node 2#16).ents)=none
  rw [hal,if_pos rfl]
end
end Go.AM
end
section
namespace Go.AM
set_option maxRecDepth 20000
section
variable {X:List Res} {E:Sy} {H H' H0:AH} {Q:Value->AH->Prop} {w TB:Nat} {T:Tr} {M:List MntD} {nx:Int} {v:Value}
theorem tbO {c:List Value} (h:WkO (boxR TB c :: X) H0 H w T M nx):H.get TB = .cells c none:=(h.openX (k:=0) rfl).1.holds
def spotV (E:Sy) (TB:Nat):Value := .func (.func (E.fid i.f45)) #[] #[ptr TB 0]
theorem spotV_call (v:Value) (H:AH) (R:Value->AH->Prop):callV E.call (spotV E TB) [v] H R=E.call (E.fid i.f45) [v,ptr TB 0] H R:=rfl
theorem S.spot (hE:Fold E) (hw:WkAt H w T M) (htb:H.get TB = .cells [ptr w 0] none) (wf:T.WF) (lt:T.LT) (path:List UInt8) (hp:path.length<2 ^ 63) (hQ:∀ H',Ext H H'->Q (spottedW T M topP path).1.v H'):E.call (E.fid i.f45) [str path,ptr TB 0] H Q:=by
 apply hE.f45
 have z4:([(.int .i64 0),(.int .u16 0),(.string ⟨#[]⟩),(.int .u16 0)]:List Value)=SpotD.zero.cells:=rfl
 have g2:=((Has.start (Ext.refl H)).newbox SpotD.zero.cells).newbox SpotD.zero.cells
 have g2:Has H H ((H.new (.cells SpotD.zero.cells none)).new (.cells SpotD.zero.cells none)) [boxR H.next SpotD.zero.cells,boxR (H.next+1) SpotD.zero.cells]:=g2
 have x1:Ext H (H.new (.cells SpotD.zero.cells none)):=(Ext.refl _).new _
 have x12:Ext (H.new (.cells SpotD.zero.cells none)) ((H.new (.cells SpotD.zero.cells none)).new (.cells SpotD.zero.cells none)):=(Ext.refl _).new _
 have hn1:(H.new (.cells SpotD.zero.cells none)).next=H.next+1:=rfl
 have c0:([ptr w 0]:List Value)[0]? = some (ptr w 0):=rfl
 simp only [F.f45,z4,allocW_eq,x1.cells htb,c0,stdZ]
 have ht1:=x1.cells htb
 generalize H.new (.cells SpotD.zero.cells none)=H1 at *
 generalize H1.new (.cells SpotD.zero.cells none)=H2 at *
 refine S.f42 hE fun H3 e3 =>?_
 have hb2:=g2.box (k:=1) (b:=H.next+1) rfl
 have ht3:=(x12.trans e3).cells ht1
 refine ⟨by rw [hn1,e3.cells hb2,hb2],by simp only [ht3,ht1,c0,stdZ],?_⟩
 refine S.f83 hE ((hw.mono x1).mono (x12.trans e3)) wf lt topP path hp fun H4 e4 =>?_
 refine ⟨by rw [hn1,(e3.trans e4).cells hb2,hb2],?_⟩
 rw [hn1]
 have g4:=g2.grow (e3.trans e4)
 have hp4:=put4 (g4.box (k:=1) (b:=H.next+1) rfl) rfl (spottedW T M topP path).1
 have g5:=g4.put (k:=1) (b:=H.next+1) rfl (spottedW T M topP path).1.cells
 have g5:Has H H (H4.put (H.next+1) (.cells (spottedW T M topP path).1.cells none)) [boxR H.next SpotD.zero.cells,boxR (H.next+1) (spottedW T M topP path).1.cells]:=g5
 have lo5:loadN 4 (ptr (H.next+1) 0) (H4.put (H.next+1) (.cells (spottedW T M topP path).1.cells none))=some (spottedW T M topP path).1.v:=by rw [loadN_ptr,g5.box (k:=1) (b:=H.next+1) rfl]; rfl
 simp only [hp4,lo5,stdZ]
 generalize H4.put (H.next+1) (.cells (spottedW T M topP path).1.cells none)=H5 at *
 have hp6:=put4 (g5.box (k:=0) (b:=H.next) rfl) rfl (spottedW T M topP path).1
 have g6:=g5.put (k:=0) (b:=H.next) rfl (spottedW T M topP path).1.cells
 have lo6:loadN 4 (ptr H.next 0) (H5.put H.next (.cells (spottedW T M topP path).1.cells none))=some (spottedW T M topP path).1.v:=by rw [loadN_ptr,g6.box (k:=0) (b:=H.next) rfl]; rfl
 simp only [hp6,lo6,stdZ]
 exact hQ _ g6.ext
theorem binds_j1 (hE:Fold E) (h:WkO [boxR TB [ptr w 0]] H0 H w T bM nx) {i:Nat} (hi:i<=40) (b:BI T i) (hQ:∀ H',Q (vb true) H'):F.f44_j1 E Q (ptr TB 0) (spotV E TB) H:=by
 have sa:(.string ⟨#[47,97]⟩:Value)=str [47,97]:=rfl
 have sc:(.string ⟨#[47,99]⟩:Value)=str [47,99]:=rfl
 have c0:([ptr w 0]:List Value)[0]? = some (ptr w 0):=rfl
 have i16:(.int .i64 16:Value)=vi 16:=rfl
 have lt:=Tr.KD.lt b.bt.kd
 have spa:=spot1 b.bt 97 (.inl rfl)
 have spc:=spot1 b.bt 99 (.inr rfl)
 rw [b.bt.a] at spa
 rw [b.bt.c] at spc
 have co:=b.co (by omega)
 have ht:=tbO h
 simp only [F.f44_j1,ht,c0,sa,spotV_call,stdZ]
 refine S.spot hE h.at_ ht b.bt.wf lt [47,97] (by decide) fun H1 e1 =>?_
 rw [spa]
 have h1:=h.mono e1
 have ht1:=e1.cells ht
 refine ⟨by simp only [ht,ht1,c0,stdZ],?_⟩
 refine S.f80 hE h1 b.bt.wf ⟨topP,[97],2#16⟩ true co fun H2 h2 =>?_
 have hr:removeW T bM ⟨topP,[97],2#16⟩ true=(T,16):=by
  unfold removeW
  rw [if_neg (by decide),if_pos (by decide)]
 rw [hr] at h2 ⊢
 have eq16:binInt .eql (vi 16) (vi 16)=some (vb true):=rfl
 have ht2:=tbO h2
 simp only [i16,eq16,ht2,c0,sa,spotV_call,stdZ]
 refine S.spot hE h2.at_ ht2 b.bt.wf lt [47,97] (by decide) fun H3 e3 =>?_
 rw [spa]
 have ht3:=e3.cells ht2
 refine ⟨by simp [ht2,ht3],?_⟩
 simp only [sc,spotV_call,stdZ]
 refine S.spot hE (h2.mono e3).at_ ht3 b.bt.wf lt [47,99] (by decide) fun H4 e4 =>?_
 rw [spc]
 have h4:=(h2.mono e3).mono e4
 have ht4:=tbO h4
 refine ⟨by simp [ht2,ht4],?_⟩
 simp only [stdZ]
 refine S.f81 hE h4 b.bt.wf ⟨topP,[97],2#16⟩ ⟨topP,[99],0#16⟩ (by decide) co fun H5 h5 =>?_
 have hr2:renameW T bM ⟨topP,[97],2#16⟩ ⟨topP,[99],0#16⟩=(T,16):=by
  unfold renameW
  rw [if_neg (by decide),if_neg (by decide),if_pos (.inl (by decide))]
 rw [hr2] at h5 ⊢
 have ht5:=tbO h5
 simp only [i16,eq16,ht5,c0,stdZ]
 simp only [ht5,c0,stdZ]
 refine S.vfs_RightO hE h5.at_ b.bt.wf (by decide) fun H6 e6 =>?_
 rw [right_wf b.bt.wf b.bt.ti (fun m hm =>?_)]
 ·simp only [stdZ]
  exact hQ _
 ·simp only [bM,List.mem_cons,List.not_mem_nil,or_false] at hm
  rcases hm with rfl | rfl
  ·exact ⟨b.bt.wf.root.1,fun h=>(h rfl).elim⟩
  ·exact ⟨b.bt.k2,fun _=>b.bt.k3⟩
end
end Go.AM
end
