/- CONTRACTS ON THE PRINTED FUNCTIONS. -/
import Derived.Test.YtgeenpollgalkaaGreatDoorV3d26C0
set_option linter.all false
section
namespace Go.AM
def topP:PlaceD:=⟨0,1#16⟩
def dirP (T:Tr) (M:List MntD) (p:PlaceD):Bool:=(getT M p.m).isSome&&decide ((T.node p.i).kind=2#8)
def downsN (M:List MntD):Nat->PlaceD->PlaceD
 | 0,p=>p
 | n+1,p=>match downT M p with
  | none=>p
  | some q=>downsN M n q
def downs (M:List MntD) (p:PlaceD):PlaceD:=downsN M M.length p
def upP (T:Tr) (M:List MntD) (p:PlaceD):PlaceD :=
 if dirP T M p=true then if (T.node (downs M p).i).kind=0#8 then topP else seen M ⟨(downs M p).m,(T.node (downs M p).i).parent⟩ else topP
def splitF (cur:NameL):List UInt8->List NameL
 | []=>[cur]
 | c :: s=>if c=47 then cur :: splitF [] s else splitF (cur++[c]) s
def okPart (x:NameL):Bool:=decide (x≠[])&&decide (x≠[46])
def partsL (s:List UInt8):List NameL:=(splitF [] s).filter okPart
structure WayD where
 at_:PlaceD
 left:List NameL
 links:Nat
 deriving DecidableEq
def stepY (T:Tr) (M:List MntD) (w:WayD) (follow:Bool):WayD×Int :=
 match w.left with
 | []=>(w,0)
 | name :: left =>
  if dirP T M w.at_=false then (⟨w.at_,left,w.links⟩,20)
  else if name=[46,46] then
   if (T.node (upP T M w.at_).i).kind≠0#8/\dirP T M (upP T M w.at_)=false then (⟨upP T M w.at_,left,w.links⟩,2) else (⟨upP T M w.at_,left,w.links⟩,0)
  else if 14<name.length then (⟨w.at_,left,w.links⟩,36)
  else if (T.look w.at_.i name).2≠0 then (⟨w.at_,left,w.links⟩,(T.look w.at_.i name).2)
  else
   let n:=(T.look w.at_.i name).1
   if (T.node n).kind=3#8/\(follow=true\/left≠[]) then
    if 8<w.links+1 then (⟨w.at_,left,w.links+1⟩,40)
    else (⟨if (T.node n).text.head? = some 47 then seen M topP else w.at_,partsL (T.node n).text++left,w.links+1⟩,0)
   else if (T.node n).kind=2#8 then (⟨seen M ⟨w.at_.m,n⟩,left,w.links⟩,0)
   else (⟨⟨w.at_.m,n⟩,left,w.links⟩,0)
def walkN (T:Tr) (M:List MntD) (follow:Bool):Nat->WayD->WayD×Int
 | 0,w=>(w,0)
 | f+1,w=>if w.left=[] then (w,0) else if (stepY T M w follow).2≠0 then stepY T M w follow else walkN T M follow f (stepY T M w follow).1
def WayD.need (w:WayD):Nat:=w.left.length+(9 - w.links)*121
def walkW (T:Tr) (M:List MntD) (follow:Bool) (w:WayD):WayD×Int:=walkN T M follow w.need w
def beginW (M:List MntD) (cwd:PlaceD) (path:List UInt8):WayD×Int :=
 if path=[] then (⟨cwd,[],0⟩,2) else if 120<path.length then (⟨cwd,[],0⟩,36)
 else (⟨if path.head? = some 47 then seen M topP else cwd,partsL path,0⟩,0)
def lastW (T:Tr) (M:List MntD) (cwd:PlaceD) (path:List UInt8):PlaceD×NameL×Int :=
 if (beginW M cwd path).2≠0 then (PlaceD.zero,[],(beginW M cwd path).2)
 else
  let w:=(beginW M cwd path).1
  match w.left.getLast? with
  | none=>(PlaceD.zero,[],16)
  | some name =>
   if name=[46,46] then (PlaceD.zero,[],16)
   else
    let r:=walkW T M true ⟨w.at_,w.left.dropLast,w.links⟩
    if r.2≠0 then (PlaceD.zero,[],r.2)
    else if dirP T M r.1.at_=false then (PlaceD.zero,[],20)
    else if 14<name.length then (PlaceD.zero,[],36)
    else if okName name=false then (PlaceD.zero,[],22)
    else (r.1.at_,name,0)
end Go.AM
end
section
namespace Go.AM
open Go.Sort
section
variable {E:Sy} {H H':AH} {Q:Value->AH->Prop}
theorem bitsLen_shift (x k:Nat) (h:2 ^ k<=x):bitsLen x=bitsLen (x / 2 ^ k)+k:=by
 have hp:=Nat.two_pow_pos k
 apply Nat.le_antisymm
 ·rw [bitsLen_le_iff,Nat.pow_add]
  have:=lt_two_pow_bitsLen (x / 2 ^ k)
  rw [Nat.div_lt_iff_lt_mul hp] at this
  exact this
 ·have h1:k<=bitsLen x:=by
   apply Classical.byContradiction
   intro hc
   have:bitsLen x<=k:=by omega
   rw [bitsLen_le_iff] at this
   omega
  have:bitsLen (x / 2 ^ k)<=bitsLen x - k:=by
   rw [bitsLen_le_iff,Nat.div_lt_iff_lt_mul hp,<- Nat.pow_add,Nat.sub_add_cancel h1]
   exact lt_two_pow_bitsLen x
  omega
def len8tab:List UInt8:=(List.range 256).map fun n=>UInt8.ofNat (bitsLen n)
theorem len8tab_at:∀ n<256,len8tab[n]? = some (UInt8.ofNat (bitsLen n)):=by decide +kernel
theorem bitsLen_le8:∀ n<256,bitsLen n<=8:=by decide +kernel
theorem len8_ix (x:BitVec 8):ixStr (str len8tab) (u8 x)=some (u8 (BitVec.ofNat 8 (bitsLen x.toNat))):=by
 rw [ixStr_u8]
 have hx:=x.isLt
 have hl:len8tab.length=256:=by decide +kernel
 have hlt:x.toNat<len8tab.length:=by omega
 rw [ixStr_s len8tab x.toNat hlt]
 have:=len8tab_at x.toNat (by omega)
 rw [List.getElem?_eq_getElem hlt] at this
 simp only [Option.some.injEq] at this
 rw [this]
 rfl
theorem len_tail (l:List UInt8) (hl:l=len8tab) (x:BitVec 64) (hx:x.toNat<256) (k:Nat) (hk:k<1000) (hQ:Q (vi ((bitsLen x.toNat+k:Nat):Int)) H) :
  (opt (convInt .u8 (u64 x)) fun v1=>opt (ixStr (.string ⟨l.toArray⟩) v1) fun v2=>opt (convInt .i64 v2) fun v3=>opt (binInt .add (vi k) v3) fun v4=>Q v4 H):=by
 subst hl
 have e1:(x.setWidth 8).toNat=x.toNat:=by rw [BitVec.toNat_setWidth,Nat.mod_eq_of_lt (by omega)]
 have e2:=bitsLen_le8 x.toNat hx
 simp only [u64_to_u8,tk_eq,opt_some]
 rw [show (Value.string ⟨len8tab.toArray⟩)=str len8tab from rfl,len8_ix,e1]
 simp only [opt_some,u8_to_i64,tk_eq,BitVec.toNat_ofNat]
 rw [Nat.mod_eq_of_lt (by omega),i64_add_nat _ _ (by omega),opt_some,Nat.add_comm]
 exact hQ
set_option maxRecDepth 100000
theorem S.f29 (hE:Fold E) (x:BitVec 64) (hx:x.toNat<2 ^ 32) (hQ:Q (vi (bitsLen x.toNat:Nat)) H):E.call (E.fid i.f29) [u64 x] H Q:=by
 apply hE.f29
 simp only [F.f29,ifB_false]
 apply hE.f31
 have c0:¬ 4294967296<=x.toNat:=by omega
 have t3:∀ (y:BitVec 64) (k:Nat),y.toNat<256->k<1000->bitsLen x.toNat=bitsLen y.toNat+k->F.f31_j3 E Q (u64 y) (vi k) H:=by
  intro y k hy hk e
  unfold F.f31_j3
  refine len_tail _ ?_ y hy k hk ?_
  ·decide +kernel
  ·rw [<- e]; exact hQ
 have t2:∀ (y:BitVec 64) (k:Nat),y.toNat<65536->k<900->bitsLen x.toNat=bitsLen y.toNat+k->F.f31_j2 E Q (u64 y) (vi k) H:=by
  intro y k hy hk e
  by_cases h:256<=y.toNat
  ·have h8:(y >>> 8).toNat=y.toNat / 256:=by rw [BitVec.toNat_ushiftRight,Nat.shiftRight_eq_div_pow]
   have hs:=bitsLen_shift y.toNat 8 (by omega)
   rw [show (2:Nat) ^ 8=256 from rfl] at hs
   have hk8:binInt .add (vi k) (.int .i64 8)=some (vi ((k+8:Nat):Int)):=i64_add_nat k 8 (by omega)
   simp only [F.f31_j2,u64_lit 256 (by decide),u64_geq,tk_eq,opt_some]
   simp [h,hk8]
   have:=t3 (y >>> 8) (k+8) (by omega) (by omega) (by rw [e,hs,h8]; omega)
   simpa using this
  ·simp only [F.f31_j2,u64_lit 256 (by decide),u64_geq,tk_eq,opt_some]
   simp [h]
   exact t3 y k (by omega) (by omega) e
 by_cases h:65536<=x.toNat
 ·have h8:(x >>> 16).toNat=x.toNat / 65536:=by rw [BitVec.toNat_ushiftRight,Nat.shiftRight_eq_div_pow]
  have hs:=bitsLen_shift x.toNat 16 (by omega)
  rw [show (2:Nat) ^ 16=65536 from rfl] at hs
  have hk8:binInt .add (.int .i64 0) (.int .i64 16)=some (vi ((16:Nat):Int)):=i64_add_nat 0 16 (by omega)
  simp [F.f31,F.f31_j1,c0,h,hk8]
  exact t2 (x >>> 16) 16 (by omega) (by omega) (by rw [hs,h8])
 ·simp [F.f31,F.f31_j1,c0,h]
  exact t2 x 0 (by omega) (by omega) rfl
theorem S.f87 (hE:Fold E) (x:Nat) (hx:x<2 ^ 32) (hQ:Q (u64 (BitVec.ofNat 64 (2 ^ bitsLen x))) H):E.call (E.fid i.f87) [vi x] H Q:=by
 apply hE.f87
 have e1:(BitVec.ofNat 64 x).toNat=x:=by rw [BitVec.toNat_ofNat,Nat.mod_eq_of_lt (by omega)]
 have hc:convInt .u64 (vi x)=some (u64 (BitVec.ofNat 64 x)):=by
  rw [i64_to_u64,BitVec.ofInt_natCast]
 simp only [F.f87,hc,tk_eq,opt_some]
 refine S.f29 hE _ (by rw [e1]; exact hx) ?_
 rw [e1]
 have:=u64_shl 1#64 .i64 (bitsLen x)
 have l1:(.int .u64 1:Value)=u64 1#64:=rfl
 have e2:(1#64 <<< bitsLen x)=BitVec.ofNat 64 (2 ^ bitsLen x):=by
  apply BitVec.eq_of_toNat_eq
  rw [BitVec.toNat_shiftLeft,Nat.shiftLeft_eq]
  simp
 rw [l1,this,opt_some,e2]
 exact hQ
theorem S.f95 (hE:Fold E) (r:Nat) (x:BitVec 64) (hr:H.get r = .cells [u64 x] none) (hQ:∀ y,Q (u64 y) (H.put r (.cells [u64 y] none))):E.call (E.fid i.f95) [ptr r 0] H Q:=by
 apply hE.f95
 have hlt:=AH.lt_cells hr
 have l1:(.int .u64 13:Value)=u64 13#64:=rfl
 have l2:(.int .u64 7:Value)=u64 7#64:=rfl
 have l3:(.int .u64 17:Value)=u64 17#64:=rfl
 simp [F.f95,hr,l1,l2,l3,AH.get_put,hlt]
 exact hQ _
end
end Go.AM
end
section
namespace Go.AM
open Go.Sort
section
variable {E:Sy} {H H':AH} {Q:Value->AH->Prop} {b c n:Nat} {d:Array (BitVec 16)} {tail:List Value} {f:Option Nat}
theorem enc_inode_Number_plain:∀ x:BitVec 16,plain1 (u16 x)=true:=fun _=>rfl
theorem S.f0 (hE:Fold E) (x y:BitVec 16) (hQ:Q (vb (lt16 x y)) H):E.call (E.fid i.f0) [u16 x,u16 y] H Q:=by
 apply hE.f0
 simp only [F.f0]
 apply hE.f1
 simp [F.f1]
 exact hQ
theorem S.f84 (hE:Fold E) (hg:H.get b=arrO u16 d tail f) (hn:d.size=n) (hsz:n<2 ^ 60) (a e:Nat) (hae:a<=e) (he:e<=n)
  (hQ:∀ H',SortTo H b u16 tail f (insertionSort lt16 d a e) H'->Q (.tuple #[]) H'):E.call (E.fid i.f84) [slc b 0 n c,vi a,vi e] H Q:=by
 apply hE.f84
 simp only [F.f84,tk_eq]
 rw [i64_succ a (by omega),opt_some]
 unfold insertionSort at hQ
 obtain ⟨R,hR⟩:∃ R,R=insOuter lt16 a e (a+1) d:=⟨_,rfl⟩
 rw [<- hR] at hQ
 refine LoopL.ind (fun m l H'=>∃ (j:Nat) (d':Array (BitVec 16)),l=[slc b 0 n c,vi a,vi e,vi j]/\SortTo H b u16 tail f d' H'/\d'.size=n/\R=insOuter lt16 a e j d'/\a<j/\m=e - j) ?_ (e - (a+1)) ⟨a+1,d,rfl,.refl hg,hn,hR,by omega,rfl⟩
 rintro m _ H1 X hX ⟨j,d1,rfl,s1,n1,r1,haj,rfl⟩
 unfold insOuter at r1
 by_cases hj:j<e
 ·rw [if_pos hj] at r1
  have hj':(j:Int)<e:=by omega
  simp [F.f84_l1,hj']
  refine LoopL.ind (fun m l H2=>∃ (k:Nat) (d2:Array (BitVec 16)),l=[slc b 0 n c,vi a,vi e,vi j,vi k]/\SortTo H b u16 tail f d2 H2/\d2.size=n/\insInner lt16 a j d1=insInner lt16 a k d2/\k<=j/\m=k) ?_ j ⟨j,d1,rfl,s1,n1,rfl,Nat.le_refl _,rfl⟩
  rintro m _ H2 X1 hX1 ⟨k,d2,rfl,s2,n2,r2,hkj,rfl⟩
  have done:insInner lt16 a m d2=d2->∀ l,l=[slc b 0 n c,vi a,vi e,vi ((j+1:Nat):Int)]->X l H2:=by
   rintro e2 l rfl
   rw [e2] at r2
   rw [r2] at r1
   exact hX (e - (j+1)) (by omega) _ _ ⟨j+1,d2,rfl,s2,n2,r1,by omega,rfl⟩
  by_cases hka:a<m
  ·obtain ⟨k,rfl⟩:∃ k,m=k+1:=⟨m - 1,by omega⟩
   have hka':(a:Int)<((k+1:Nat):Int):=by omega
   have f1:=arr_ix (b:=b) (c:=c) (n:=n) (i:=k+1) (by omega)
   have f2:=arr_ix (b:=b) (c:=c) (n:=n) (i:=k) (by omega)
   have g1:=arr_load s2.get (i:=k+1) (by omega)
   have g2:=arr_load s2.get (i:=k) (by omega)
   have hd:binInt .sub (vi ((k+1:Nat):Int)) (.int .i64 1)=some (vi (k:Int)):=i64_dec (k+1) (by omega) (by omega)
   obtain ⟨w1,w2⟩:=arr_swap enc_inode_Number_plain s2.get (i:=k+1) (j:=k) (by omega) (by omega)
   have hjj:=i64_succ j (by omega)
   simp only [insInner,hka,decide_true,Bool.true_and] at r2 done
   generalize hk1:k+1=k1 at *
   simp [-store1_ptr,-load1_ptr,F.f84_l2,hka',f1,f2,g1,g2,hd]
   refine S.f0 hE _ _ ?_
   by_cases hl:lt16 d2[k1]! d2[k]! = true
   ·simp only [hl,if_true] at r2
    simp [-store1_ptr,-load1_ptr,hl,f1,f2,g1,g2,hd,w1,w2]
    exact hX1 k (by omega) _ _ ⟨k,_,rfl,s2.put _,by rw [size_swp]; exact n2,r2,by omega,rfl⟩
   ·simp only [hl,if_false] at done
    simp [-store1_ptr,-load1_ptr,hl,hjj]
    exact done rfl _ rfl
  ·have hka':¬ (a:Int)<(m:Int):=by omega
   have hjj:=i64_succ j (by omega)
   simp [-store1_ptr,-load1_ptr,F.f84_l2,hka',hjj]
   refine done ?_ _ rfl
   cases m with
   | zero=>rfl
   | succ k=>simp [insInner,hka]
 ·rw [if_neg hj] at r1
  subst r1
  have hj':¬ (j:Int)<e:=by omega
  simp [F.f84_l1,hj']
  exact hQ _ s1
theorem S.f94 (hE:Fold E) (hg:H.get b=arrO u16 d tail f) (hn:d.size=n) (hsz:n<2 ^ 60) (lo hi first:Nat) (hlo:lo<=n) (hf:first+hi<=n)
  (hQ:∀ H',SortTo H b u16 tail f (siftDown lt16 hi first lo d) H'->Q (.tuple #[]) H'):E.call (E.fid i.f94) [slc b 0 n c,vi lo,vi hi,vi first] H Q:=by
 apply hE.f94
 simp only [F.f94,tk_eq]
 obtain ⟨R,hR⟩:∃ R,R=siftDown lt16 hi first lo d:=⟨_,rfl⟩
 rw [<- hR] at hQ
 refine LoopL.ind (fun m l H'=>∃ (r:Nat) (d':Array (BitVec 16)),l=[slc b 0 n c,vi hi,vi first,vi r]/\SortTo H b u16 tail f d' H'/\d'.size=n/\R=siftDown lt16 hi first r d'/\r<=n/\m=hi - r) ?_ (hi - lo) ⟨lo,d,rfl,.refl hg,hn,hR,hlo,rfl⟩
 rintro m _ H1 X hX ⟨r,d1,rfl,s1,n1,r1,hr,rfl⟩
 have a1:=i64_dbl r (by omega)
 have a2:=i64_succ (2*r) (by omega)
 have a3:=i64_succ (2*r+1) (by omega)
 have step:∀ ch:Nat,r<ch->ch<hi->R=(if !lt16 d1[first+r]! d1[first+ch]! then d1 else siftDown lt16 hi first ch (swp d1 (first+r) (first+ch)))->F.f94_j1 E Q X (slc b 0 n c) (vi hi) (vi first) (vi r) (vi ch) H1:=by
  intro ch h1 h2 hR'
  have b1:=i64_add_nat first r (by omega)
  have b2:=i64_add_nat first ch (by omega)
  have f1:=arr_ix (b:=b) (c:=c) (n:=n) (i:=first+r) (by omega)
  have f2:=arr_ix (b:=b) (c:=c) (n:=n) (i:=first+ch) (by omega)
  have g1:=arr_load s1.get (i:=first+r) (by omega)
  have g2:=arr_load s1.get (i:=first+ch) (by omega)
  obtain ⟨w1,w2⟩:=arr_swap enc_inode_Number_plain s1.get (i:=first+r) (j:=first+ch) (by omega) (by omega)
  generalize hp:first+r=p at *
  generalize hq:first+ch=q at *
  simp [-store1_ptr,-load1_ptr,F.f94_j1,b1,b2,f1,f2,g1,g2]
  refine S.f0 hE _ _ ?_
  by_cases hl:lt16 d1[p]! d1[q]! = true
  ·simp only [hl,Bool.not_true,Bool.false_eq_true,if_false] at hR'
   simp [-store1_ptr,-load1_ptr,hl,b1,b2,f1,f2,g1,g2,w1,w2]
   exact hX (hi - ch) (by omega) _ _ ⟨ch,_,rfl,s1.put _,by rw [size_swp]; exact n1,hR',by omega,rfl⟩
  ·have hl:lt16 d1[p]! d1[q]! = false:=by simpa using hl
   simp only [hl,Bool.not_false,if_true] at hR'
   subst hR'
   simp [-store1_ptr,-load1_ptr,hl]
   exact hQ _ s1
 rw [siftDown] at r1
 by_cases c1:2*r+1>=hi
 ·rw [dif_pos c1] at r1
  subst r1
  have c1':(hi:Int)<=((2*r+1:Nat):Int):=by omega
  generalize 2*r+1=ch at *
  generalize 2*r=rr at *
  simp [F.f94_l1,a1,a2,c1']
  exact hQ _ s1
 rw [dif_neg c1] at r1
 have c1':¬ (hi:Int)<=((2*r+1:Nat):Int):=by omega
 have b1:=i64_add_nat first (2*r+1) (by omega)
 have b2:=i64_succ (first+(2*r+1)) (by omega)
 by_cases c2:2*r+1+1<hi
 ·have c2':((2*r+1+1:Nat):Int)<hi:=by omega
  have f1:=arr_ix (b:=b) (c:=c) (n:=n) (i:=first+(2*r+1)) (by omega)
  have f2:=arr_ix (b:=b) (c:=c) (n:=n) (i:=first+(2*r+1)+1) (by omega)
  have g1:=arr_load s1.get (i:=first+(2*r+1)) (by omega)
  have g2:=arr_load s1.get (i:=first+(2*r+1)+1) (by omega)
  have st1:=step (2*r+1) (by omega) (by omega)
  have st2:=step (2*r+1+1) (by omega) c2
  rw [dif_pos (by omega:2*r+2<hi)] at r1
  simp only [c2,decide_true,Bool.true_and] at r1
  rw [show 2*r+2=2*r+1+1 by omega] at r1
  generalize hq2:first+(2*r+1)+1=q2 at *
  generalize hq:first+(2*r+1)=q at *
  generalize hc2:2*r+1+1=ch2 at *
  generalize hc1:2*r+1=ch at *
  generalize 2*r=rr at *
  simp [-store1_ptr,-load1_ptr,F.f94_l1,a1,a2,a3,c1',c2',b1,b2,f1,f2,g1,g2]
  refine S.f0 hE _ _ ?_
  by_cases hl:lt16 d1[q]! d1[q2]! = true
  ·simp only [hl,if_true] at r1
   simp [hl,a3]
   exact st2 r1
  ·simp only [hl,if_false] at r1
   simp [hl]
   exact st1 r1
 ·have c2':¬ ((2*r+1+1:Nat):Int)<hi:=by omega
  have st1:=step (2*r+1) (by omega) (by omega)
  simp only [c2,decide_false,Bool.false_and,Bool.false_eq_true,if_false] at r1
  generalize hc2:2*r+1+1=ch2 at *
  generalize hc1:2*r+1=ch at *
  generalize 2*r=rr at *
  simp [-store1_ptr,-load1_ptr,F.f94_l1,a1,a2,a3,c1',c2']
  exact st1 r1
theorem size_siftDown_inode_Number (hi first r:Nat) (d:Array (BitVec 16)):(siftDown lt16 hi first r d).size=d.size:=by
 obtain ⟨m,hm⟩:∃ m,hi - r<=m:=⟨_,Nat.le_refl _⟩
 induction m generalizing r d with
 | zero =>
  rw [siftDown,dif_pos (by omega)]
 | succ m ih =>
  rw [siftDown]
  split
  ·rfl
  ·split
   ·split
    ·rfl
    ·split
     ·rw [ih _ _ (by omega),size_swp]
     ·rfl
   ·split
    ·rfl
    ·rw [ih _ _ (by omega),size_swp]
theorem S.f83 (hE:Fold E) (hg:H.get b=arrO u16 d tail f) (hn:d.size=n) (hsz:n<2 ^ 60) (a e:Nat) (hae:a<e) (he:e<=n)
  (hQ:∀ H',SortTo H b u16 tail f (heapSort lt16 d a e) H'->Q (.tuple #[]) H'):E.call (E.fid i.f83) [slc b 0 n c,vi a,vi e] H Q:=by
 apply hE.f83
 have a1:=i64_sub_nat e a (by omega) (by omega)
 have a2:=i64_dec (e - a) (by omega) (by omega)
 have a3:=i64_quo_num (e - a - 1) 2 (by decide) (by omega)
 unfold heapSort at hQ
 have a1':binInt .sub (vi e) (vi a)=some (vi ((e - a:Nat):Int)):=a1
 generalize hw:e - a=w at *
 have a3':binInt .quo (vi ((w - 1:Nat):Int)) (.int .i64 2)=some (vi (((w - 1) / 2:Nat):Int)):=a3
 generalize hw1:w - 1=w1 at *
 generalize hh:w1 / 2=h2 at *
 have hh2:h2<=w1:=by rw [<- hh]; exact Nat.div_le_self _ _
 simp only [F.f83,a1',a2,a3',tk_eq,opt_some]
 obtain ⟨R,hR⟩:∃ R,R=heapPop lt16 a w (heapBuild lt16 w a (h2+1) d):=⟨_,rfl⟩
 rw [<- hR] at hQ
 refine LoopL.ind (fun m l H'=>∃ (k:Nat) (d':Array (BitVec 16)),l=[slc b 0 n c,vi a,vi 0,vi w,vi ((k:Int) - 1)]/\SortTo H b u16 tail f d' H'/\d'.size=n/\R=heapPop lt16 a w (heapBuild lt16 w a k d')/\k<=w/\m=k) ?_ (h2+1) ⟨h2+1,d,by simp,.refl hg,hn,hR,by omega,rfl⟩
 rintro m _ H1 X hX ⟨k,d1,rfl,s1,n1,r1,hk,rfl⟩
 cases m with
 | succ k =>
  have e1:((k+1:Nat):Int) - 1=(k:Int):=by omega
  have hd:binInt .sub (vi k) (.int .i64 1)=some (vi ((k:Int) - 1)):=i64_sub (by omega) (by omega)
  rw [e1]
  simp [F.f83_l1]
  refine S.f94 hE s1.get n1 hsz k w a (by omega) (by omega) fun H2 s2 =>?_
  simp only [hd,tk_eq,opt_some]
  exact hX k (by omega) _ _ ⟨k,_,rfl,s1.trans s2,by rw [size_siftDown_inode_Number]; exact n1,by rw [r1]; rfl,by omega,rfl⟩
 | zero =>
  have hd:binInt .sub (vi w) (.int .i64 1)=some (vi ((w:Int) - 1)):=i64_sub (by omega) (by omega)
  simp [F.f83_l1,hd]
  clear hX
  refine LoopL.ind (fun m l H'=>∃ (k:Nat) (d':Array (BitVec 16)),l=[slc b 0 n c,vi a,vi 0,vi ((k:Int) - 1)]/\SortTo H b u16 tail f d' H'/\d'.size=n/\R=heapPop lt16 a k d'/\k<=w/\m=k) ?_ w ⟨w,d1,rfl,s1,n1,r1,Nat.le_refl _,rfl⟩
  rintro m _ H2 X hX ⟨k,d2,rfl,s2,n2,r2,hk,rfl⟩
  cases m with
  | succ k =>
   have e1:((k+1:Nat):Int) - 1=(k:Int):=by omega
   have hd:binInt .sub (vi k) (.int .i64 1)=some (vi ((k:Int) - 1)):=i64_sub (by omega) (by omega)
   have b1:=i64_add_nat a k (by omega)
   have f1:=arr_ix (b:=b) (c:=c) (n:=n) (i:=a) (by omega)
   have f2:=arr_ix (b:=b) (c:=c) (n:=n) (i:=a+k) (by omega)
   have g1:=arr_load s2.get (i:=a) (by omega)
   have g2:=arr_load s2.get (i:=a+k) (by omega)
   obtain ⟨w1,w2⟩:=arr_swap enc_inode_Number_plain s2.get (i:=a) (j:=a+k) (by omega) (by omega)
   rw [e1]
   rw [heapPop] at r2
   generalize hq:a+k=q at *
   simp [-store1_ptr,-load1_ptr,F.f83_l2,b1,f1,f2,g1,g2,w1,w2]
   have s3:=s2.put (swp d2 a q)
   refine S.f94 hE s3.get (by rw [size_swp]; exact n2) hsz 0 k a (by omega) (by omega) fun H3 s4 =>?_
   simp only [hd,tk_eq,opt_some]
   exact hX k (by omega) _ _ ⟨k,_,rfl,s3.trans s4,by rw [size_siftDown_inode_Number,size_swp]; exact n2,r2,by omega,rfl⟩
  | zero =>
   simp [F.f83_l2]
   rw [heapPop] at r2
   subst r2
   exact hQ _ s2
theorem S.f93 (hE:Fold E) (hg:H.get b=arrO u16 d tail f) (hn:d.size=n) (hsz:n<2 ^ 60) (a e:Nat) (hae:a<e) (he:e<=n)
  (hQ:∀ H',SortTo H b u16 tail f (reverseRange d a e) H'->Q (.tuple #[]) H'):E.call (E.fid i.f93) [slc b 0 n c,vi a,vi e] H Q:=by
 apply hE.f93
 have a1:=i64_dec e (by omega) (by omega)
 unfold reverseRange at hQ
 simp only [F.f93,a1,tk_eq,opt_some]
 obtain ⟨R,hR⟩:∃ R,R=reverseLoop a (e - 1) d:=⟨_,rfl⟩
 rw [<- hR] at hQ
 refine LoopL.ind (fun m l H'=>∃ (p q:Nat) (d':Array (BitVec 16)),l=[slc b 0 n c,vi p,vi q]/\SortTo H b u16 tail f d' H'/\d'.size=n/\R=reverseLoop p q d'/\p<=n/\q<n/\m=q - p) ?_ (e - 1 - a) ⟨a,e - 1,d,rfl,.refl hg,hn,hR,by omega,by omega,rfl⟩
 rintro m _ H1 X hX ⟨p,q,d1,rfl,s1,n1,r1,hp,hq,rfl⟩
 rw [reverseLoop] at r1
 by_cases h:p<q
 ·rw [if_pos h] at r1
  have h':(p:Int)<q:=by omega
  have f1:=arr_ix (b:=b) (c:=c) (n:=n) (i:=p) (by omega)
  have f2:=arr_ix (b:=b) (c:=c) (n:=n) (i:=q) (by omega)
  have g1:=arr_load s1.get (i:=p) (by omega)
  have g2:=arr_load s1.get (i:=q) (by omega)
  obtain ⟨w1,w2⟩:=arr_swap enc_inode_Number_plain s1.get (i:=p) (j:=q) (by omega) (by omega)
  have b1:=i64_succ p (by omega)
  have b2:=i64_dec q (by omega) (by omega)
  simp [-store1_ptr,-load1_ptr,F.f93_l1,h',f1,f2,g1,g2,w1,w2,b1,b2]
  exact hX (q - 1 - (p+1)) (by omega) _ _ ⟨p+1,q - 1,_,rfl,s1.put _,by rw [size_swp]; exact n1,r1,by omega,by omega,rfl⟩
 ·rw [if_neg h] at r1
  subst r1
  have h':¬ (p:Int)<q:=by omega
  simp [F.f93_l1,h']
  exact hQ _ s1
theorem S.f91 (hE:Fold E) (hg:H.get b=arrO u16 d tail f) (hn:d.size=n) (hsz:n<2 ^ 60) (a e pivot:Nat) (h1:a<=pivot) (h2:pivot<e) (he:e<=n)
  (hQ:∀ H',SortTo H b u16 tail f (partition lt16 d a e pivot).2.2 H'->Q (.tuple #[vi (partition lt16 d a e pivot).1,vb (partition lt16 d a e pivot).2.1]) H'):E.call (E.fid i.f91) [slc b 0 n c,vi a,vi e,vi pivot] H Q:=by
 apply hE.f91
 have f1:=arr_ix (b:=b) (c:=c) (n:=n) (i:=a) (by omega)
 have f2:=arr_ix (b:=b) (c:=c) (n:=n) (i:=pivot) (by omega)
 have g1:=arr_load hg (i:=a) (by omega)
 have g2:=arr_load hg (i:=pivot) (by omega)
 obtain ⟨w1,w2⟩:=arr_swap enc_inode_Number_plain hg (i:=a) (j:=pivot) (by omega) (by omega)
 have b1:=i64_succ a (by omega)
 have b2:=i64_dec e (by omega) (by omega)
 simp only [F.f91,f1,f2,g1,g2,w1,w2,b1,b2,tk_eq,opt_some]
 have s0:=(SortTo.refl hg).put (swp d a pivot)
 have n0:(swp d a pivot).size=n:=by rw [size_swp]; exact hn
 unfold partition at hQ
 generalize hd0:swp d a pivot=d0 at *
 generalize hH0:H.put b (arrO u16 d0 tail f)=H0 at *
 simp only at hQ
 obtain ⟨I,hI⟩:∃ I,I=scanUp (fun x=>lt16 x d0[a]!) d0 (e - 1) (a+1):=⟨_,rfl⟩
 rw [<- hI] at hQ
 obtain ⟨J,hJ⟩:∃ J,J=scanDown (fun x => !lt16 x d0[a]!) d0 I (e - 1):=⟨_,rfl⟩
 rw [<- hJ] at hQ
 have hIl:=sUp_le (fun x=>lt16 x d0[a]!) d0 (e - 1) _ (a+1) (Nat.le_refl _)
 rw [<- hI] at hIl
 have hJl:=sDown_le (fun x => !lt16 x d0[a]!) d0 I (e - 1)
 rw [<- hJ] at hJl
 refine LoopL.ind (fun m l H'=>H0=H'/\∃ p:Nat,l=[slc b 0 n c,vi a,vi p,vi ((e - 1:Nat):Int)]/\I=scanUp (fun x=>lt16 x d0[a]!) d0 (e - 1) p/\a+1<=p/\p<=e/\m=e - p) ?_ (e - (a+1)) ⟨rfl,a+1,rfl,hI,Nat.le_refl _,by omega,rfl⟩
 rintro m _ _ X hX ⟨rfl,p,rfl,r1,hp1,hp2,rfl⟩
 rw [scanUp] at r1
 have exit1:I=p->LoopL (fun l H X0=>F.f91_l2 E Q (nth l 0) (nth l 1) (nth l 2) (nth l 3) H X0) [slc b 0 n c,vi a,vi p,vi ((e - 1:Nat):Int)] H0:=by
  rintro rfl
  clear hX r1
  refine LoopL.ind (fun m l H'=>H0=H'/\∃ q:Nat,l=[slc b 0 n c,vi a,vi I,vi q]/\J=scanDown (fun x => !lt16 x d0[a]!) d0 I q/\q<=e - 1/\I<=q+1/\m=q) ?_ (e - 1) ⟨rfl,e - 1,rfl,hJ,Nat.le_refl _,by omega,rfl⟩
  rintro m _ _ X hX ⟨rfl,q,rfl,r1,hq1,hq2,rfl⟩
  have exit2:J=m->F.f91_l2 E Q (slc b 0 n c) (vi a) (vi I) (vi m) H0 X:=by
   rintro rfl
   clear hX
   have f1:=arr_ix (b:=b) (c:=c) (n:=n) (i:=a) (by omega)
   have f2:=arr_ix (b:=b) (c:=c) (n:=n) (i:=J) (by omega)
   have g1:=arr_load s0.get (i:=a) (by omega)
   have g2:=arr_load s0.get (i:=J) (by omega)
   obtain ⟨w1,w2⟩:=arr_swap enc_inode_Number_plain s0.get (i:=J) (j:=a) (by omega) (by omega)
   by_cases hij:I<=J
   ·have hij':(I:Int)<=J:=by omega
    have hij'':¬ (J:Int)<I:=by omega
    have hnl:lt16 d0[J]! d0[a]! = true:=by
     cases J with
     | zero=>omega
     | succ q =>
      rw [scanDown] at r1
      split at r1
      ·have:=sDown_le (fun x => !lt16 x d0[a]!) d0 I q
       omega
      ·rename_i hc
       simp at hc
       exact hc (by omega)
    have f3:=arr_ix (b:=b) (c:=c) (n:=n) (i:=I) (by omega)
    have g3:=arr_load s0.get (i:=I) (by omega)
    obtain ⟨w3,w4⟩:=arr_swap enc_inode_Number_plain s0.get (i:=I) (j:=J) (by omega) (by omega)
    have b3:=i64_succ I (by omega)
    have b4:=i64_dec J (by omega) (by omega)
    simp [-store1_ptr,-load1_ptr,F.f91_l2,hij',f1,f2,g1,g2]
    refine S.f0 hE _ _ ?_
    simp [-store1_ptr,-load1_ptr,hnl,hij'',f1,f2,f3,g1,g2,g3,w3,w4,b3,b4]
    rw [if_neg (by omega)] at hQ
    have s1:=s0.put (swp d0 I J)
    have n1:(swp d0 I J).size=n:=by rw [size_swp]; exact n0
    generalize hd1:swp d0 I J=d1 at *
    simp only at hQ
    obtain ⟨R,hR⟩:∃ R,R=partLoop lt16 a (I+1) (J - 1) d1:=⟨_,rfl⟩
    rw [<- hR] at hQ
    refine LoopL.ind (fun m l H'=>∃ (p q:Nat) (d2:Array (BitVec 16)),l=[slc b 0 n c,vi a,vi p,vi q]/\SortTo H b u16 tail f d2 H'/\d2.size=n/\R=partLoop lt16 a p q d2/\a+1<=p/\p<=q+1+1/\p<=e/\q<=e - 1/\a<=q/\m=q+1 - p) ?_ (J - 1+1 - (I+1)) ⟨I+1,J - 1,d1,rfl,s1,n1,hR,by omega,by omega,by omega,by omega,by omega,rfl⟩
    clear hR s1 n1 hd1 w1 w2 w3 w4
    rintro m _ H2 X3 hX3 ⟨p,q,d2,rfl,s2,n2,r2,hp1,hp2,hpe,hq1,hqa,rfl⟩
    rw [partLoop] at r2
    simp only [F.f91_l3,nth_0,nth_1,nth_2,nth_3]
    obtain ⟨I2,hI2⟩:∃ I,I=scanUp (fun x=>lt16 x d2[a]!) d2 q p:=⟨_,rfl⟩
    obtain ⟨J2,hJ2⟩:∃ J,J=scanDown (fun x => !lt16 x d2[a]!) d2 I2 q:=⟨_,rfl⟩
    rw [<- hI2] at r2
    try simp only at r2
    rw [<- hJ2] at r2
    have hIl2:=sUp_le (fun x=>lt16 x d2[a]!) d2 q _ p (Nat.le_refl _)
    rw [<- hI2] at hIl2
    have hJl2:=sDown_le (fun x => !lt16 x d2[a]!) d2 I2 q
    rw [<- hJ2] at hJl2
    have hI2e:I2<=q+1\/(I2=p/\q+1<p):=by
     by_cases h:p<=q+1
     ·exact .inl (hIl2.2 h)
     ·refine .inr ⟨?_,by omega⟩
      rw [hI2,scanUp,if_neg (by simp; omega)]
    have hJ2e:I2<=q+1\/J2=q:=by
     rcases hI2e with h | ⟨h,h'⟩
     ·exact .inl h
     ·right
      rw [hJ2]
      cases q with
      | zero=>rfl
      | succ q=>rw [scanDown,if_neg (by simp; omega)]
    refine LoopL.ind (fun m l H'=>H2=H'/\∃ p':Nat,l=[slc b 0 n c,vi a,vi p',vi q]/\I2=scanUp (fun x=>lt16 x d2[a]!) d2 q p'/\p<=p'/\p'<=e/\m=q+1 - p') ?_ (q+1 - p) ⟨rfl,p,rfl,hI2,Nat.le_refl _,by omega,rfl⟩
    rintro m _ _ X4 hX4 ⟨rfl,p',rfl,r4,hp3,hp4,rfl⟩
    rw [scanUp] at r4
    have exit4:I2=p'->LoopL (fun l H X1=>F.f91_l5 E Q X3 (nth l 0) (nth l 1) (nth l 2) (nth l 3) H X1) [slc b 0 n c,vi a,vi p',vi q] H2:=by
     rintro rfl
     clear hX4 r4
     refine LoopL.ind (fun m l H'=>H2=H'/\∃ q':Nat,l=[slc b 0 n c,vi a,vi I2,vi q']/\J2=scanDown (fun x => !lt16 x d2[a]!) d2 I2 q'/\q'<=q/\m=q') ?_ q ⟨rfl,q,rfl,hJ2,Nat.le_refl _,rfl⟩
     rintro m _ _ X5 hX5 ⟨rfl,q',rfl,r5,hq3,rfl⟩
     have exit5:J2=m->F.f91_l5 E Q X3 (slc b 0 n c) (vi a) (vi I2) (vi m) H2 X5:=by
      rintro rfl
      clear hX5
      have f2:=arr_ix (b:=b) (c:=c) (n:=n) (i:=J2) (by omega)
      have g1:=arr_load s2.get (i:=a) (by omega)
      have g2:=arr_load s2.get (i:=J2) (by omega)
      by_cases hij:I2<=J2
      ·have hij':(I2:Int)<=J2:=by omega
       have hij'':¬ (J2:Int)<I2:=by omega
       have hnl:lt16 d2[J2]! d2[a]! = true:=by
        cases J2 with
        | zero=>omega
        | succ q' =>
         rw [scanDown] at r5
         split at r5
         ·have:=sDown_le (fun x => !lt16 x d2[a]!) d2 I2 q'
          omega
         ·rename_i hc
          simp at hc
          exact hc (by omega)
       have f3:=arr_ix (b:=b) (c:=c) (n:=n) (i:=I2) (by omega)
       have g3:=arr_load s2.get (i:=I2) (by omega)
       obtain ⟨w3,w4⟩:=arr_swap enc_inode_Number_plain s2.get (i:=I2) (j:=J2) (by omega) (by omega)
       have b3:=i64_succ I2 (by omega)
       have b4:=i64_dec J2 (by omega) (by omega)
       simp [-store1_ptr,-load1_ptr,F.f91_l5,hij',f1,f2,g1,g2]
       refine S.f0 hE _ _ ?_
       simp [-store1_ptr,-load1_ptr,hnl,hij'',f1,f2,f3,g1,g2,g3,w3,w4,b3,b4]
       rw [if_neg (by omega),dif_pos (by omega)] at r2
       exact hX3 (J2 - 1+1 - (I2+1)) (by omega) _ _ ⟨I2+1,J2 - 1,_,rfl,s2.put _,by rw [size_swp]; exact n2,r2,by omega,by omega,by omega,by omega,by omega,rfl⟩
      ·have hij':¬ (I2:Int)<=J2:=by omega
       have hij'':(J2:Int)<I2:=by omega
       rw [if_pos (by omega)] at r2
       subst r2
       obtain ⟨w1,w2⟩:=arr_swap enc_inode_Number_plain s2.get (i:=J2) (j:=a) (by omega) (by omega)
       simp [-store1_ptr,-load1_ptr,F.f91_l5,hij',hij'',f1,f2,g1,g2,w1,w2]
       exact hQ _ (s2.put _)
     cases m with
     | zero=>exact exit5 r5
     | succ q' =>
      by_cases hc:I2<=q'+1/\lt16 d2[q'+1]! d2[a]! = false
      ·rw [scanDown,if_pos (by simp [hc.1,hc.2])] at r5
       have hc':(I2:Int)<=((q'+1:Nat):Int):=by omega
       have f2:=arr_ix (b:=b) (c:=c) (n:=n) (i:=q'+1) (by omega)
       have g1:=arr_load s2.get (i:=a) (by omega)
       have g2:=arr_load s2.get (i:=q'+1) (by omega)
       have b4:binInt .sub (vi ((q'+1:Nat):Int)) (.int .i64 1)=some (vi (q':Int)):=i64_dec (q'+1) (by omega) (by omega)
       have hlt:=hc.2
       generalize hqq:q'+1=qq at *
       simp [-store1_ptr,-load1_ptr,F.f91_l5,hc',f1,f2,g1,g2]
       refine S.f0 hE _ _ ?_
       simp [-store1_ptr,-load1_ptr,hlt,b4]
       exact hX5 q' (by omega) _ _ ⟨rfl,q',rfl,r5,by omega,rfl⟩
      ·rw [scanDown,if_neg (by simpa using hc)] at r5
       exact exit5 r5
    by_cases hc:p'<=q/\lt16 d2[p']! d2[a]! = true
    ·rw [if_pos (by simp [hc.1,hc.2])] at r4
     have hc':(p':Int)<=q:=by omega
     have f2:=arr_ix (b:=b) (c:=c) (n:=n) (i:=p') (by omega)
     have g1:=arr_load s2.get (i:=a) (by omega)
     have g2:=arr_load s2.get (i:=p') (by omega)
     have b3:=i64_succ p' (by omega)
     simp [-store1_ptr,-load1_ptr,F.f91_l4,hc',f1,f2,g1,g2]
     refine S.f0 hE _ _ ?_
     simp [-store1_ptr,-load1_ptr,hc.2,b3]
     exact hX4 (q+1 - (p'+1)) (by omega) _ _ ⟨rfl,p'+1,rfl,r4,by omega,by omega,rfl⟩
    ·rw [if_neg (by simpa using hc)] at r4
     by_cases hpq:p'<=q
     ·have hc':(p':Int)<=q:=by omega
      have hlt:lt16 d2[p']! d2[a]! = false:=by simpa using fun h=>hc ⟨hpq,h⟩
      have f2:=arr_ix (b:=b) (c:=c) (n:=n) (i:=p') (by omega)
      have g1:=arr_load s2.get (i:=a) (by omega)
      have g2:=arr_load s2.get (i:=p') (by omega)
      simp [-store1_ptr,-load1_ptr,F.f91_l4,hc',f1,f2,g1,g2]
      refine S.f0 hE _ _ ?_
      simp [-store1_ptr,-load1_ptr,hlt]
      exact exit4 r4
     ·have hc':¬ (p':Int)<=q:=by omega
      simp [-store1_ptr,-load1_ptr,F.f91_l4,hc']
      exact exit4 r4
   ·have hij':¬ (I:Int)<=J:=by omega
    have hij'':(J:Int)<I:=by omega
    simp [-store1_ptr,-load1_ptr,F.f91_l2,hij',hij'',f1,f2,g1,g2,w1,w2]
    rw [if_pos (by omega)] at hQ
    exact hQ _ (s0.put _)
  cases m with
  | zero=>exact exit2 r1
  | succ q =>
   by_cases hc:I<=q+1/\lt16 d0[q+1]! d0[a]! = false
   ·rw [scanDown,if_pos (by simp [hc.1,hc.2])] at r1
    have hc':(I:Int)<=((q+1:Nat):Int):=by omega
    have f2:=arr_ix (b:=b) (c:=c) (n:=n) (i:=q+1) (by omega)
    have g1:=arr_load s0.get (i:=a) (by omega)
    have g2:=arr_load s0.get (i:=q+1) (by omega)
    have b4:binInt .sub (vi ((q+1:Nat):Int)) (.int .i64 1)=some (vi (q:Int)):=i64_dec (q+1) (by omega) (by omega)
    have hlt:=hc.2
    generalize hqq:q+1=qq at *
    simp [-store1_ptr,-load1_ptr,F.f91_l2,hc',f1,f2,g1,g2]
    refine S.f0 hE _ _ ?_
    simp [-store1_ptr,-load1_ptr,hlt,b4]
    exact hX q (by omega) _ _ ⟨rfl,q,rfl,r1,by omega,by omega,rfl⟩
   ·rw [scanDown,if_neg (by simpa using hc)] at r1
    exact exit2 r1
 by_cases hc:p<=e - 1/\lt16 d0[p]! d0[a]! = true
 ·rw [if_pos (by simp [hc.1,hc.2])] at r1
  have hc':(p:Int)<=((e - 1:Nat):Int):=by omega
  have f2:=arr_ix (b:=b) (c:=c) (n:=n) (i:=p) (by omega)
  have g1:=arr_load s0.get (i:=a) (by omega)
  have g2:=arr_load s0.get (i:=p) (by omega)
  have b3:=i64_succ p (by omega)
  generalize he1:e - 1=e1 at *
  simp [-store1_ptr,-load1_ptr,F.f91_l1,hc',f1,f2,g1,g2]
  refine S.f0 hE _ _ ?_
  simp [-store1_ptr,-load1_ptr,hc.2,b3]
  exact hX (e - (p+1)) (by omega) _ _ ⟨rfl,p+1,rfl,r1,by omega,by omega,rfl⟩
 ·rw [if_neg (by simpa using hc)] at r1
  have exit1:=exit1 r1
  by_cases hpq:p<=e - 1
  ·have hc':(p:Int)<=((e - 1:Nat):Int):=by omega
   have hlt:lt16 d0[p]! d0[a]! = false:=by simpa using fun h=>hc ⟨hpq,h⟩
   have f2:=arr_ix (b:=b) (c:=c) (n:=n) (i:=p) (by omega)
   have g1:=arr_load s0.get (i:=a) (by omega)
   have g2:=arr_load s0.get (i:=p) (by omega)
   generalize he1:e - 1=e1 at *
   simp [-store1_ptr,-load1_ptr,F.f91_l1,hc',f1,f2,g1,g2]
   refine S.f0 hE _ _ ?_
   simp [-store1_ptr,-load1_ptr,hlt]
   exact exit1
  ·have hc':¬ (p:Int)<=((e - 1:Nat):Int):=by omega
   generalize he1:e - 1=e1 at *
   simp [-store1_ptr,-load1_ptr,F.f91_l1,hc']
   exact exit1
theorem S.f90 (hE:Fold E) (hg:H.get b=arrO u16 d tail f) (hn:d.size=n) (hsz:n<2 ^ 60) (a e pivot:Nat) (h1:a<=pivot) (h2:pivot<e) (he:e<=n)
  (hQ:∀ H',SortTo H b u16 tail f (partitionEqual lt16 d a e pivot).2 H'->Q (vi (partitionEqual lt16 d a e pivot).1) H'):E.call (E.fid i.f90) [slc b 0 n c,vi a,vi e,vi pivot] H Q:=by
 apply hE.f90
 have f1:=arr_ix (b:=b) (c:=c) (n:=n) (i:=a) (by omega)
 have f2:=arr_ix (b:=b) (c:=c) (n:=n) (i:=pivot) (by omega)
 have g1:=arr_load hg (i:=a) (by omega)
 have g2:=arr_load hg (i:=pivot) (by omega)
 obtain ⟨w1,w2⟩:=arr_swap enc_inode_Number_plain hg (i:=a) (j:=pivot) (by omega) (by omega)
 have b1:=i64_succ a (by omega)
 have b2:=i64_dec e (by omega) (by omega)
 simp only [F.f90,f1,f2,g1,g2,w1,w2,b1,b2,tk_eq,opt_some]
 have s0:=(SortTo.refl hg).put (swp d a pivot)
 have n0:(swp d a pivot).size=n:=by rw [size_swp]; exact hn
 unfold partitionEqual at hQ
 generalize hd0:swp d a pivot=d0 at *
 generalize hH0:H.put b (arrO u16 d0 tail f)=H0 at *
 clear w1 w2 f2 g1 g2
 obtain ⟨R,hR⟩:∃ R,R=partEqLoop lt16 a (a+1) (e - 1) d0:=⟨_,rfl⟩
 rw [<- hR] at hQ
 refine LoopL.ind (fun m l H'=>∃ (p q:Nat) (d2:Array (BitVec 16)),l=[slc b 0 n c,vi a,vi p,vi q]/\SortTo H b u16 tail f d2 H'/\d2.size=n/\R=partEqLoop lt16 a p q d2/\a+1<=p/\p<=q+1+1/\p<=e/\q<=e - 1/\a<=q/\m=q+1 - p) ?_ (e - 1+1 - (a+1)) ⟨a+1,e - 1,d0,rfl,s0,n0,hR,by omega,by omega,by omega,by omega,by omega,rfl⟩
 clear hR s0 n0 hd0
 rintro m _ H2 X3 hX3 ⟨p,q,d2,rfl,s2,n2,r2,hp1,hp2,hpe,hq1,hqa,rfl⟩
 rw [partEqLoop] at r2
 simp only [F.f90_l1,nth_0,nth_1,nth_2,nth_3]
 obtain ⟨I2,hI2⟩:∃ I,I=scanUp (fun x => !lt16 d2[a]! x) d2 q p:=⟨_,rfl⟩
 obtain ⟨J2,hJ2⟩:∃ J,J=scanDown (fun x=>lt16 d2[a]! x) d2 I2 q:=⟨_,rfl⟩
 rw [<- hI2] at r2
 try simp only at r2
 rw [<- hJ2] at r2
 have hIl2:=sUp_le (fun x => !lt16 d2[a]! x) d2 q _ p (Nat.le_refl _)
 rw [<- hI2] at hIl2
 have hJl2:=sDown_le (fun x=>lt16 d2[a]! x) d2 I2 q
 rw [<- hJ2] at hJl2
 have hI2e:I2<=q+1\/(I2=p/\q+1<p):=by
  by_cases h:p<=q+1
  ·exact .inl (hIl2.2 h)
  ·refine .inr ⟨?_,by omega⟩
   rw [hI2,scanUp,if_neg (by simp; omega)]
 have hJ2e:I2<=q+1\/J2=q:=by
  rcases hI2e with h | ⟨h,h'⟩
  ·exact .inl h
  ·right
   rw [hJ2]
   cases q with
   | zero=>rfl
   | succ q=>rw [scanDown,if_neg (by simp; omega)]
 refine LoopL.ind (fun m l H'=>H2=H'/\∃ p':Nat,l=[slc b 0 n c,vi a,vi p',vi q]/\I2=scanUp (fun x => !lt16 d2[a]! x) d2 q p'/\p<=p'/\p'<=e/\m=q+1 - p') ?_ (q+1 - p) ⟨rfl,p,rfl,hI2,Nat.le_refl _,by omega,rfl⟩
 rintro m _ _ X4 hX4 ⟨rfl,p',rfl,r4,hp3,hp4,rfl⟩
 rw [scanUp] at r4
 have exit4:I2=p'->LoopL (fun l H X1=>F.f90_l3 E Q X3 (nth l 0) (nth l 1) (nth l 2) (nth l 3) H X1) [slc b 0 n c,vi a,vi p',vi q] H2:=by
  rintro rfl
  clear hX4 r4
  refine LoopL.ind (fun m l H'=>H2=H'/\∃ q':Nat,l=[slc b 0 n c,vi a,vi I2,vi q']/\J2=scanDown (fun x=>lt16 d2[a]! x) d2 I2 q'/\q'<=q/\m=q') ?_ q ⟨rfl,q,rfl,hJ2,Nat.le_refl _,rfl⟩
  rintro m _ _ X5 hX5 ⟨rfl,q',rfl,r5,hq3,rfl⟩
  have exit5:J2=m->F.f90_l3 E Q X3 (slc b 0 n c) (vi a) (vi I2) (vi m) H2 X5:=by
   rintro rfl
   clear hX5
   have f2:=arr_ix (b:=b) (c:=c) (n:=n) (i:=J2) (by omega)
   have g1:=arr_load s2.get (i:=a) (by omega)
   have g2:=arr_load s2.get (i:=J2) (by omega)
   by_cases hij:I2<=J2
   ·have hij':(I2:Int)<=J2:=by omega
    have hij'':¬ (J2:Int)<I2:=by omega
    have hnl:lt16 d2[a]! d2[J2]! = false:=by
     cases J2 with
     | zero=>omega
     | succ q' =>
      rw [scanDown] at r5
      split at r5
      ·have:=sDown_le (fun x=>lt16 d2[a]! x) d2 I2 q'
       omega
      ·rename_i hc
       simp at hc
       exact hc (by omega)
    have f3:=arr_ix (b:=b) (c:=c) (n:=n) (i:=I2) (by omega)
    have g3:=arr_load s2.get (i:=I2) (by omega)
    obtain ⟨w3,w4⟩:=arr_swap enc_inode_Number_plain s2.get (i:=I2) (j:=J2) (by omega) (by omega)
    have b3:=i64_succ I2 (by omega)
    have b4:=i64_dec J2 (by omega) (by omega)
    simp [-store1_ptr,-load1_ptr,F.f90_l3,hij',f1,f2,g1,g2]
    refine S.f0 hE _ _ ?_
    simp [-store1_ptr,-load1_ptr,hnl,hij'',f1,f2,f3,g1,g2,g3,w3,w4,b3,b4]
    rw [if_neg (by omega),dif_pos (by omega)] at r2
    exact hX3 (J2 - 1+1 - (I2+1)) (by omega) _ _ ⟨I2+1,J2 - 1,_,rfl,s2.put _,by rw [size_swp]; exact n2,r2,by omega,by omega,by omega,by omega,by omega,rfl⟩
   ·have hij':¬ (I2:Int)<=J2:=by omega
    have hij'':(J2:Int)<I2:=by omega
    rw [if_pos (by omega)] at r2
    subst r2
    simp [-store1_ptr,-load1_ptr,F.f90_l3,hij',hij'']
    exact hQ _ s2
  cases m with
  | zero=>exact exit5 r5
  | succ q' =>
   by_cases hc:I2<=q'+1/\lt16 d2[a]! d2[q'+1]! = true
   ·rw [scanDown,if_pos (by simp [hc.1,hc.2])] at r5
    have hc':(I2:Int)<=((q'+1:Nat):Int):=by omega
    have f2:=arr_ix (b:=b) (c:=c) (n:=n) (i:=q'+1) (by omega)
    have g1:=arr_load s2.get (i:=a) (by omega)
    have g2:=arr_load s2.get (i:=q'+1) (by omega)
    have b4:binInt .sub (vi ((q'+1:Nat):Int)) (.int .i64 1)=some (vi (q':Int)):=i64_dec (q'+1) (by omega) (by omega)
    have hlt:=hc.2
    generalize hqq:q'+1=qq at *
    simp [-store1_ptr,-load1_ptr,F.f90_l3,hc',f1,f2,g1,g2]
    refine S.f0 hE _ _ ?_
    simp [-store1_ptr,-load1_ptr,hlt,b4]
    exact hX5 q' (by omega) _ _ ⟨rfl,q',rfl,r5,by omega,rfl⟩
   ·rw [scanDown,if_neg (by simpa using hc)] at r5
    exact exit5 r5
 by_cases hc:p'<=q/\lt16 d2[a]! d2[p']! = false
 ·rw [if_pos (by simp [hc.1,hc.2])] at r4
  have hc':(p':Int)<=q:=by omega
  have f2:=arr_ix (b:=b) (c:=c) (n:=n) (i:=p') (by omega)
  have g1:=arr_load s2.get (i:=a) (by omega)
  have g2:=arr_load s2.get (i:=p') (by omega)
  have b3:=i64_succ p' (by omega)
  simp [-store1_ptr,-load1_ptr,F.f90_l2,hc',f1,f2,g1,g2]
  refine S.f0 hE _ _ ?_
  simp [-store1_ptr,-load1_ptr,hc.2,b3]
  exact hX4 (q+1 - (p'+1)) (by omega) _ _ ⟨rfl,p'+1,rfl,r4,by omega,by omega,rfl⟩
 ·rw [if_neg (by simpa using hc)] at r4
  by_cases hpq:p'<=q
  ·have hc':(p':Int)<=q:=by omega
   have hlt:lt16 d2[a]! d2[p']! = true:=by simpa using fun h=>hc ⟨hpq,h⟩
   have f2:=arr_ix (b:=b) (c:=c) (n:=n) (i:=p') (by omega)
   have g1:=arr_load s2.get (i:=a) (by omega)
   have g2:=arr_load s2.get (i:=p') (by omega)
   simp [-store1_ptr,-load1_ptr,F.f90_l2,hc',f1,f2,g1,g2]
   refine S.f0 hE _ _ ?_
   simp [-store1_ptr,-load1_ptr,hlt]
   exact exit4 r4
  ·have hc':¬ (p':Int)<=q:=by omega
   simp [-store1_ptr,-load1_ptr,F.f90_l2,hc']
   exact exit4 r4
theorem S.f89 (hE:Fold E) (hg:H.get b=arrO u16 d tail f) (hn:d.size=n) (hsz:n<2 ^ 60) (a e:Nat) (hae:a<e) (he:e<=n)
    (hQ:∀ H',SortTo H b u16 tail f (partialInsertionSort lt16 d a e).1 H'->Q (vb (partialInsertionSort lt16 d a e).2) H'):E.call (E.fid i.f89) [slc b 0 n c,vi a,vi e] H Q:=by
  apply hE.f89
  have b1:=i64_succ a (by omega)
  simp only [F.f89,b1,tk_eq,opt_some]
  unfold partialInsertionSort at hQ
  obtain ⟨R,hR⟩:∃ R,R=partialIns lt16 a e 5 (a+1) d:=⟨_,rfl⟩
  rw [<- hR] at hQ
  refine LoopL.ind (fun m l H'=>∃ (i:Nat) (d1:Array (BitVec 16)),l=[slc b 0 n c,vi a,vi e,vi i,vi ((5 - m:Nat):Int)]/\SortTo H b u16 tail f d1 H'/\d1.size=n/\R=partialIns lt16 a e m i d1/\a+1<=i/\i<=e/\m<=5) ?_ 5 ⟨a+1,d,rfl,.refl hg,hn,hR,Nat.le_refl _,by omega,Nat.le_refl _⟩
  rintro m _ H1 X hX ⟨i0,d1,rfl,s1,n1,r1,hi1,hi2,hm⟩
  cases m with
  | zero =>
    simp [F.f89_l1]
    rw [partialIns] at r1
    subst r1
    exact hQ _ s1
  | succ m =>
    have hms:((5 - (m+1):Nat):Int)<5:=by omega
    have hmi:binInt .add (vi ((5 - (m+1):Nat):Int)) (.int .i64 1)=some (vi ((5 - m:Nat):Int)):=by
      rw [i64_succ _ (by omega)]; congr 3; omega
    have hX:∀ (i:Nat) (d2:Array (BitVec 16)) H2,SortTo H b u16 tail f d2 H2->d2.size=n->R=partialIns lt16 a e m i d2->a+1<=i->i<=e->X [slc b 0 n c,vi a,vi e,vi i,vi ((5 - m:Nat):Int)] H2:=fun i d2 H2 q1 q2 q3 q4 q5=>hX m (by omega) _ _ ⟨i,d2,rfl,q1,q2,q3,q4,q5,by omega⟩
    generalize hk:5 - (m+1)=k at *
    generalize hk':5 - m=k' at *
    simp [F.f89_l1,hms]
    rw [partialIns_succ] at r1
    obtain ⟨I,hI⟩:∃ I,I=scanSorted lt16 d1 e i0:=⟨_,rfl⟩
    rw [<- hI] at r1
    refine LoopL.ind (fun m l H'=>H1=H'/\∃ i':Nat,l=[slc b 0 n c,vi a,vi e,vi i',vi k]/\I=scanSorted lt16 d1 e i'/\a+1<=i'/\i'<=e/\m=e - i') ?_ (e - i0) ⟨rfl,i0,rfl,hI,hi1,hi2,rfl⟩
    rintro mm _ _ X1 hX1 ⟨rfl,i',rfl,r2,hi3,hi4,rfl⟩
    rw [scanSorted] at r2
    have b2:=i64_sub_nat e a (by omega) (by omega)
    have b2':binInt .sub (vi e) (vi a)=some (vi ((e - a:Nat):Int)):=b2
    have exit:I=i' ->
        (opt (binInt .eql (vi i') (vi e)) fun v15 =>
         ifB v15 (Q (.bool true) H1) (
         opt (binInt .sub (vi e) (vi a)) fun v16 =>
         opt (binInt .lss v16 (.int .i64 50)) fun v17 =>
         ifB v17 (Q (.bool false) H1) (
         opt (binInt .sub (vi i') (.int .i64 1)) fun v18 =>
         opt (binInt .sub (vi i') (.int .i64 1)) fun v19 =>
         opt (ixSlc 1 (slc b 0 n c) v19) fun v20 =>
         opt (load1 v20 H1) fun v21 =>
         opt (ixSlc 1 (slc b 0 n c) (vi i')) fun v22 =>
         opt (load1 v22 H1) fun v23 =>
         opt (ixSlc 1 (slc b 0 n c) (vi i')) fun v24 =>
         opt (store1 v24 v21 H1) fun H12 =>
         opt (ixSlc 1 (slc b 0 n c) v18) fun v25 =>
         opt (store1 v25 v23 H12) fun H13 =>
         opt (binInt .sub (vi i') (vi a)) fun v26 =>
         opt (binInt .geq v26 (.int .i64 2)) fun v27 =>
         ifB v27 (
         opt (binInt .sub (vi i') (.int .i64 1)) fun v28 =>
         LoopL (fun l H X1=>F.f89_l4 E Q X (nth l 0) (nth l 1) (nth l 2) (nth l 3) (nth l 4) (nth l 5) H X1) [slc b 0 n c,vi a,vi e,vi i',vi k,v28] H13) (
         F.f89_j1 E Q X (slc b 0 n c) (vi a) (vi e) (vi i') (vi k) H13)))):=by
      rintro rfl
      clear hX1
      by_cases c1:I=e
      · rw [if_pos c1] at r1
        subst r1
        simp [c1]
        exact hQ _ s1
      rw [if_neg c1] at r1
      have c1':¬ (I:Int)=e:=by omega
      by_cases c2:e - a<50
      · rw [if_pos c2] at r1
        subst r1
        have c2':((e - a:Nat):Int)<50:=by omega
        generalize e - a=w at *
        simp [c1',b2',c2']
        exact hQ _ s1
      rw [if_neg c2] at r1
      have c2':¬ ((e - a:Nat):Int)<50:=by omega
      have b3:=i64_dec I (by omega) (by omega)
      have b4:=i64_sub_nat I a (by omega) (by omega)
      have b4':binInt .sub (vi I) (vi a)=some (vi ((I - a:Nat):Int)):=b4
      have f1:=arr_ix (b:=b) (c:=c) (n:=n) (i:=I) (by omega)
      have f2:=arr_ix (b:=b) (c:=c) (n:=n) (i:=I - 1) (by omega)
      have g1:=arr_load s1.get (i:=I) (by omega)
      have g2:=arr_load s1.get (i:=I - 1) (by omega)
      obtain ⟨w1,w2⟩:=arr_swap enc_inode_Number_plain s1.get (i:=I) (j:=I - 1) (by omega) (by omega)
      have s2:=s1.put (swp d1 I (I - 1))
      have n2:(swp d1 I (I - 1)).size=n:=by rw [size_swp]; exact n1
      have hkk:binInt .add (vi k) (.int .i64 1)=some (vi k'):=hmi
      have j1:∀ (d3:Array (BitVec 16)) H3,SortTo H b u16 tail f d3 H3->d3.size=n->R=partialIns lt16 a e m I (fixUp lt16 e I d3)->F.f89_j1 E Q X (slc b 0 n c) (vi a) (vi e) (vi I) (vi k) H3:=by
        intro d3 H3 s3 n3 r3
        unfold fixUp at r3
        have b5:=i64_sub_nat e I (by omega) (by omega)
        have b5':binInt .sub (vi e) (vi I)=some (vi ((e - I:Nat):Int)):=b5
        by_cases c3:e - I>=2
        · rw [if_pos c3] at r3
          have c3':(2:Int)<=((e - I:Nat):Int):=by omega
          have b6:=i64_succ I (by omega)
          generalize hw:e - I=w at *
          simp [F.f89_j1,b5',c3',b6]
          obtain ⟨D,hD⟩:∃ D,D=shiftUp lt16 e (I+1) d3:=⟨_,rfl⟩
          rw [<- hD] at r3
          refine LoopL.ind (fun mm l H'=>∃ (q:Nat) (d4:Array (BitVec 16)),l=[slc b 0 n c,vi a,vi e,vi I,vi k,vi q]/\SortTo H b u16 tail f d4 H'/\d4.size=n/\D=shiftUp lt16 e q d4/\1<=q/\q<=e/\mm=e - q) ?_ (e - (I+1)) ⟨I+1,d3,by simp,s3,n3,hD,by omega,by omega,rfl⟩
          rintro mm _ H4 X5 hX5 ⟨q,d4,rfl,s4,n4,r4,hq1,hq2,rfl⟩
          rw [shiftUp] at r4
          have done:D=d4->X [slc b 0 n c,vi a,vi e,vi I,vi k'] H4:=by
            rintro rfl
            exact hX I D H4 s4 n4 r3 hi3 (by omega)
          by_cases c4:q<e
          · have c4':(q:Int)<e:=by omega
            rw [if_pos c4] at r4
            have b7:=i64_dec q (by omega) (by omega)
            have b8:=i64_succ q (by omega)
            have f1:=arr_ix (b:=b) (c:=c) (n:=n) (i:=q) (by omega)
            have f2:=arr_ix (b:=b) (c:=c) (n:=n) (i:=q - 1) (by omega)
            have g1:=arr_load s4.get (i:=q) (by omega)
            have g2:=arr_load s4.get (i:=q - 1) (by omega)
            obtain ⟨w1,w2⟩:=arr_swap enc_inode_Number_plain s4.get (i:=q) (j:=q - 1) (by omega) (by omega)
            have hY:=fun (d5:Array (BitVec 16)) H5 q1 q2 q3=>hX5 (e - (q+1)) (by omega) [slc b 0 n c,vi a,vi e,vi I,vi k,vi ((q+1:Nat):Int)] H5 ⟨q+1,d5,rfl,q1,q2,q3,by omega,by omega,rfl⟩
            generalize hq':q - 1=q' at *
            generalize hq'':q+1=q'' at *
            simp [-store1_ptr,-load1_ptr,F.f89_l3,c4',b7,f1,f2,g1,g2]
            refine S.f0 hE _ _ ?_
            by_cases hl:lt16 d4[q]! d4[q']! = true
            · simp only [hl,Bool.not_true,Bool.false_eq_true,if_false] at r4
              simp [-store1_ptr,-load1_ptr,hl,b7,b8,f1,f2,g1,g2,w1,w2]
              exact hY _ _ (s4.put _) (by rw [size_swp]; exact n4) r4
            · have hl:lt16 d4[q]! d4[q']! = false:=by simpa using hl
              simp only [hl,Bool.not_false,if_true] at r4
              simp [hl,hkk]
              exact done r4
          · have c4':¬ (q:Int)<e:=by omega
            rw [if_neg c4] at r4
            simp [F.f89_l3,c4',hkk]
            exact done r4
        · rw [if_neg c3] at r3
          have c3':¬ (2:Int)<=((e - I:Nat):Int):=by omega
          generalize hw:e - I=w at *
          simp [F.f89_j1,b5',c3',hkk]
          exact hX I d3 H3 s3 n3 r3 hi3 hi4
      unfold fixDown at r1
      by_cases c3:I - a>=2
      · rw [if_pos c3] at r1
        have c3':(2:Int)<=((I - a:Nat):Int):=by omega
        obtain ⟨D,hD⟩:∃ D,D=shiftDown lt16 (I - 1) (swp d1 I (I - 1)):=⟨_,rfl⟩
        rw [<- hD] at r1
        have goal4:LoopL (fun l H X1=>F.f89_l4 E Q X (nth l 0) (nth l 1) (nth l 2) (nth l 3) (nth l 4) (nth l 5) H X1) [slc b 0 n c,vi a,vi e,vi I,vi k,vi ((I - 1:Nat):Int)] (H1.put b (arrO u16 (swp d1 I (I - 1)) tail f)):=by
          refine LoopL.ind (fun mm l H'=>∃ (q:Nat) (d4:Array (BitVec 16)),l=[slc b 0 n c,vi a,vi e,vi I,vi k,vi q]/\SortTo H b u16 tail f d4 H'/\d4.size=n/\D=shiftDown lt16 q d4/\q<n/\mm=q) ?_ (I - 1) ⟨I - 1,_,rfl,s2,n2,hD,by omega,rfl⟩
          rintro mm _ H4 X5 hX5 ⟨q,d4,rfl,s4,n4,r4,hq1,rfl⟩
          cases mm with
          | zero =>
            simp [F.f89_l4]
            rw [shiftDown] at r4
            subst r4
            exact j1 _ _ s4 n4 r1
          | succ q =>
            have c4':(1:Int)<=((q+1:Nat):Int):=by omega
            rw [shiftDown] at r4
            have b7:binInt .sub (vi ((q+1:Nat):Int)) (.int .i64 1)=some (vi (q:Int)):=i64_dec (q+1) (by omega) (by omega)
            have f1:=arr_ix (b:=b) (c:=c) (n:=n) (i:=q+1) (by omega)
            have f2:=arr_ix (b:=b) (c:=c) (n:=n) (i:=q) (by omega)
            have g1:=arr_load s4.get (i:=q+1) (by omega)
            have g2:=arr_load s4.get (i:=q) (by omega)
            obtain ⟨w1,w2⟩:=arr_swap enc_inode_Number_plain s4.get (i:=q+1) (j:=q) (by omega) (by omega)
            have hY:=fun (d5:Array (BitVec 16)) H5 q1 q2 q3=>hX5 q (by omega) [slc b 0 n c,vi a,vi e,vi I,vi k,vi (q:Int)] H5 ⟨q,d5,rfl,q1,q2,q3,by omega,rfl⟩
            generalize hq':q+1=q' at *
            simp [-store1_ptr,-load1_ptr,F.f89_l4,c4',b7,f1,f2,g1,g2]
            refine S.f0 hE _ _ ?_
            by_cases hl:lt16 d4[q']! d4[q]! = true
            · simp only [hl,Bool.not_true,Bool.false_eq_true,if_false] at r4
              simp [-store1_ptr,-load1_ptr,hl,b7,f1,f2,g1,g2,w1,w2]
              exact hY _ _ (s4.put _) (by rw [size_swp]; exact n4) r4
            · have hl:lt16 d4[q']! d4[q]! = false:=by simpa using hl
              simp only [hl,Bool.not_false,if_true] at r4
              simp [hl]
              subst r4
              exact j1 _ _ s4 n4 r1
        generalize hI':I - 1=I' at *
        generalize hw:e - a=w at *
        generalize hw2:I - a=w2' at *
        simp [-store1_ptr,-load1_ptr,c1',b2',c2',b3,b4',f1,f2,g1,g2,w1,w2,c3']
        exact goal4
      · rw [if_neg c3] at r1
        have c3':¬ (2:Int)<=((I - a:Nat):Int):=by omega
        have:=j1 _ _ s2 n2 r1
        generalize hI':I - 1=I' at *
        generalize hw:e - a=w at *
        generalize hw2:I - a=w2' at *
        simp [-store1_ptr,-load1_ptr,c1',b2',c2',b3,b4',f1,f2,g1,g2,w1,w2,c3']
        exact this
    have b7:=i64_succ i' (by omega)
    by_cases c4:i'<e
    · have c4':(i':Int)<e:=by omega
      have b6:=i64_dec i' (by omega) (by omega)
      have f1:=arr_ix (b:=b) (c:=c) (n:=n) (i:=i') (by omega)
      have f2:=arr_ix (b:=b) (c:=c) (n:=n) (i:=i' - 1) (by omega)
      have g1:=arr_load s1.get (i:=i') (by omega)
      have g2:=arr_load s1.get (i:=i' - 1) (by omega)
      by_cases hl:lt16 d1[i']! d1[i' - 1]! = true
      · rw [if_neg (by simp [hl])] at r2
        have:=exit r2
        clear exit hX1
        generalize hI':i' - 1=I' at *
        simp [-store1_ptr,-load1_ptr,F.f89_l2,c4',b6,f1,f2,g1,g2]
        refine S.f0 hE _ _ ?_
        simp only [hl]
        simp only [un_not_z,Bool.not_true,tk_eq,opt_some,gd_tt,pick_true_z,ifB_false]
        exact this
      · have hl:lt16 d1[i']! d1[i' - 1]! = false:=by simpa using hl
        rw [if_pos (by simp [hl,c4])] at r2
        clear exit
        have hX1:=hX1 (e - (i'+1)) (by omega) [slc b 0 n c,vi a,vi e,vi ((i'+1:Nat):Int),vi k] H1 ⟨rfl,i'+1,rfl,r2,by omega,by omega,rfl⟩
        generalize hI':i' - 1=I' at *
        generalize hI'':i'+1=I'' at *
        simp [-store1_ptr,-load1_ptr,F.f89_l2,c4',b6,f1,f2,g1,g2]
        refine S.f0 hE _ _ ?_
        simp [hl,b7]
        exact hX1
    · have c4':¬ (i':Int)<e:=by omega
      rw [if_neg (by simp [c4])] at r2
      have:=exit r2
      clear exit hX1
      simp only [F.f89_l2,nth_0,nth_1,nth_2,nth_3,nth_4,i64_lss,c4',decide_false,tk_eq,opt_some,gd_ft,pick_false_z,ifB_false]
      exact this
theorem S.f88 (hE:Fold E) (hg:H.get b=arrO u16 d tail f) (hn:d.size=n) (p q:Nat) (hp:p<n) (hq:q<n) (s k:Nat) (hs:H.get s = .cells [vi k] none) (hk:k<1000) (hsb:s≠b)
  (hQ:∀ r1 r2 k' H',((r1=p/\r2=q)\/(r1=q/\r2=p))->Only [s] H H'->H'.get s = .cells [vi (k':Nat)] none->k'<=k+1->Q (.tuple #[vi (r1:Nat),vi (r2:Nat)]) H') :
  E.call (E.fid i.f88) [slc b 0 n c,vi p,vi q,ptr s 0] H Q:=by
 apply hE.f88
 have f1:=arr_ix (b:=b) (c:=c) (n:=n) (i:=p) hp
 have f2:=arr_ix (b:=b) (c:=c) (n:=n) (i:=q) hq
 have g1:=arr_load hg (i:=p) (by omega)
 have g2:=arr_load hg (i:=q) (by omega)
 have hlt:=AH.lt_cells hs
 have b1:=i64_succ k (by omega)
 simp [-load1_ptr,F.f88,f1,f2,g1,g2]
 refine S.f0 hE _ _ ?_
 by_cases hl:lt16 d[q]! d[p]! = true
 ·simp only [hl,ifB_true,nilCk_p,load1_ptr,hs,cell_cells_z,List.getElem?_cons_zero,tk_eq,opt_some,b1,store1_ptr,plain1_int,if_true,List.length_cons,List.length_nil,List.set_cons_zero]
  rw [if_pos (by omega),opt_some]
  exact hQ q p (k+1) _ (.inr ⟨rfl,rfl⟩) ((Only.refl _ _).put (.inl (by simp)) _) (AH.get_put_self _ _ hlt) (Nat.le_refl _)
 ·simp [hl]
  exact hQ p q k _ (.inl ⟨rfl,rfl⟩) (Only.refl _ _) hs (by omega)
theorem S.f86 (hE:Fold E) (hg:H.get b=arrO u16 d tail f) (hn:d.size=n) (p q r:Nat) (hp:p<n) (hq:q<n) (hr:r<n) (s k:Nat) (hs:H.get s = .cells [vi k] none) (hk:k<900) (hsb:s≠b)
  (hQ:∀ m k' H',(m=p\/m=q\/m=r)->Only [s] H H'->H'.get s = .cells [vi (k':Nat)] none->k'<=k+3->Q (vi (m:Nat)) H') :
  E.call (E.fid i.f86) [slc b 0 n c,vi p,vi q,vi r,ptr s 0] H Q:=by
 apply hE.f86
 have keep:∀ {H'},Only [s] H H'->H'.get b=arrO u16 d tail f:=fun o=>by rw [o.get (arr_lt hg) (by simpa using Ne.symm hsb)]; exact hg
 simp only [F.f86]
 refine S.f88 hE hg hn p q hp hq s k hs (by omega) hsb fun a1 a2 k1 H1 e1 o1 s1 l1 =>?_
 simp
 refine S.f88 hE (keep o1) hn a2 r (by omega) hr s k1 s1 (by omega) hsb fun a3 a4 k2 H2 e2 o2 s2 l2 =>?_
 have o12:=o1.trans' o2
 simp
 refine S.f88 hE (keep o12) hn a1 a3 (by omega) (by omega) s k2 s2 (by omega) hsb fun a5 a6 k3 H3 e3 o3 s3 l3 =>?_
 simp
 exact hQ a6 k3 H3 (by omega) (o12.trans' o3) s3 (by omega)
theorem S.f85 (hE:Fold E) (hg:H.get b=arrO u16 d tail f) (hn:d.size=n) (hsz:n<2 ^ 60) (p:Nat) (hp0:1<=p) (hp:p+1<n) (s k:Nat) (hs:H.get s = .cells [vi k] none) (hk:k<900) (hsb:s≠b)
  (hQ:∀ m k' H',(p - 1<=m/\m<=p+1)->Only [s] H H'->H'.get s = .cells [vi (k':Nat)] none->k'<=k+3->Q (vi (m:Nat)) H') :
  E.call (E.fid i.f85) [slc b 0 n c,vi p,ptr s 0] H Q:=by
 apply hE.f85
 have b1:=i64_dec p hp0 (by omega)
 have b2:=i64_succ p (by omega)
 simp only [F.f85,b1,b2,tk_eq,opt_some]
 refine S.f86 hE hg hn (p - 1) p (p+1) (by omega) (by omega) hp s k hs hk hsb fun m k' H' e1 o1 s1 l1=>hQ m k' H' (by omega) o1 s1 l1
theorem S.f82 (hE:Fold E) (hg:H.get b=arrO u16 d tail f) (hn:d.size=n) (hsz:n<2 ^ 60) (a e:Nat) (hae:a+8<=e) (he:e<=n)
  (hQ:∀ (m:Nat) (h:Int) H',a<=m->m<e->Ext H H'->Q (.tuple #[vi m,vi h]) H'):E.call (E.fid i.f82) [slc b 0 n c,vi a,vi e] H Q:=by
 apply hE.f82
 have a1:binInt .sub (vi e) (vi a)=some (vi ((e - a:Nat):Int)):=i64_sub_nat e a (by omega) (by omega)
 have hbl:=arr_lt hg
 generalize hw:e - a=w at *
 have a2:binInt .quo (vi (w:Int)) (.int .i64 4)=some (vi ((w / 4:Nat):Int)):=i64_quo_num w 4 (by decide) (by omega)
 have hq4:w / 4*4<=w:=Nat.div_mul_le_self _ _
 have hq4':1<=w / 4:=by omega
 have hq50:50<=w->12<=w / 4:=fun h=>by omega
 generalize hq:w / 4=q at *
 have m1:binInt .mul (vi (q:Int)) (.int .i64 1)=some (vi ((q*1:Nat):Int)):=by rw [i64_mul (by omega) (by omega)]; congr 2
 have m2:binInt .mul (vi (q:Int)) (.int .i64 2)=some (vi ((q*2:Nat):Int)):=by rw [i64_mul (by omega) (by omega)]; congr 2
 have m3:binInt .mul (vi (q:Int)) (.int .i64 3)=some (vi ((q*3:Nat):Int)):=by rw [i64_mul (by omega) (by omega)]; congr 2
 have p1:=i64_add_nat a (q*1) (by omega)
 have p2:=i64_add_nat a (q*2) (by omega)
 have p3:=i64_add_nat a (q*3) (by omega)
 have c8:(8:Int)<=w:=by omega
 have hg1:(H.new (.cells [vi 0] none)).get b=arrO u16 d tail f:=by rw [AH.get_new_lt _ _ hbl]; exact hg
 have hs1:(H.new (.cells [vi 0] none)).get H.next = .cells [vi ((0:Nat):Int)] none:=AH.get_new_self _ _
 have hsb:H.next≠b:=by omega
 have x1:Ext H (H.new (.cells [vi 0] none)):=(Ext.refl H).new _
 have ext_of:∀ {H'},Only [H.next] (H.new (.cells [vi 0] none)) H'->Ext H H':=fun o=>o.ext x1 (by simp)
 have keep:∀ {H'},Only [H.next] (H.new (.cells [vi 0] none)) H'->H'.get b=arrO u16 d tail f:=fun o=>by rw [o.get (arr_lt hg1) (by simpa using Ne.symm hsb)]; exact hg1
 have last:∀ (m k:Nat) H',a<=m->m<e->Ext H H'->H'.get H.next = .cells [vi (k:Nat)] none->F.f82_j1 E Q (ptr H.next 0) (vi m) H':=by
  intro m k H' h1 h2 e1 s1
  by_cases k0:(k:Int)=0
  ·simp [F.f82_j1,s1,k0]
   exact hQ m _ H' h1 h2 e1
  ·by_cases k12:(k:Int)=12
   ·simp [F.f82_j1,s1,k12]
    exact hQ m _ H' h1 h2 e1
   ·have k0':¬ k=0:=by omega
    simp [F.f82_j1,s1,k0',k12]
    exact hQ m _ H' h1 h2 e1
 have last2:∀ (x y z k:Nat) H',a<=x->x<e->a<=y->y<e->a<=z->z<e->Only [H.next] (H.new (.cells [vi 0] none)) H'->H'.get H.next = .cells [vi (k:Nat)] none->k<900->F.f82_j2 E Q (slc b 0 n c) (ptr H.next 0) (vi x) (vi y) (vi z) H':=by
  intro x y z k H' h1 h2 h3 h4 h5 h6 o1 s1 hk
  simp only [F.f82_j2]
  refine S.f86 hE (keep o1) hn x y z (by omega) (by omega) (by omega) H.next k s1 hk hsb fun m k' H2 hm o2 s2 _ =>?_
  exact last m k' H2 (by omega) (by omega) (ext_of (o1.trans' o2)) s2
 by_cases c50:50<=w
 ·have c50':(50:Int)<=w:=by omega
  have hq50:=hq50 c50
  have g1:a+1<=a+q*1/\a+q*1+1<e:=by omega
  have g2:a+1<=a+q*2/\a+q*2+1<e:=by omega
  have g3:a+1<=a+q*3/\a+q*3+1<e:=by omega
  generalize hx:a+q*1=x at *
  generalize hy:a+q*2=y at *
  generalize hz:a+q*3=z at *
  generalize q*1=q1 at *
  generalize q*2=q2 at *
  generalize q*3=q3 at *
  simp [F.f82,a1,a2,m1,m2,m3,p1,p2,p3,c8,c50']
  refine S.f85 hE hg1 hn hsz x (by omega) (by omega) H.next 0 hs1 (by omega) hsb fun r1 k1 H1 e1 o1 s1 l1 =>?_
  refine S.f85 hE (keep o1) hn hsz y (by omega) (by omega) H.next k1 s1 (by omega) hsb fun r2 k2 H2 e2 o2 s2 l2 =>?_
  refine S.f85 hE (keep (o1.trans' o2)) hn hsz z (by omega) (by omega) H.next k2 s2 (by omega) hsb fun r3 k3 H3 e3 o3 s3 l3 =>?_
  exact last2 r1 r2 r3 k3 H3 (by omega) (by omega) (by omega) (by omega) (by omega) (by omega) ((o1.trans' o2).trans' o3) s3 (by omega)
 ·have c50':¬ (50:Int)<=w:=by omega
  have g1:a+q*1<e:=by omega
  have g2:a+q*2<e:=by omega
  have g3:a+q*3<e:=by omega
  have g0:a<=a+q*1/\a<=a+q*2/\a<=a+q*3:=by omega
  generalize hx:a+q*1=x at *
  generalize hy:a+q*2=y at *
  generalize hz:a+q*3=z at *
  generalize q*1=q1 at *
  generalize q*2=q2 at *
  generalize q*3=q3 at *
  simp [F.f82,a1,a2,m1,m2,m3,p1,p2,p3,c8,c50']
  exact last2 x y z 0 _ g0.1 g1 g0.2.1 g2 g0.2.2 g3 (Only.refl _ _) hs1 (by omega)
theorem S.f81 (hE:Fold E) (hg:H.get b=arrO u16 d tail f) (hn:d.size=n) (hsz:n<2 ^ 31) (a e:Nat) (hae:a+8<=e) (he:e<=n)
  (hQ:∀ d' H',PermIn a e d d'->SortTo H b u16 tail f d' H'->Q (.tuple #[]) H'):E.call (E.fid i.f81) [slc b 0 n c,vi a,vi e] H Q:=by
 apply hE.f81
 have a1:binInt .sub (vi e) (vi a)=some (vi ((e - a:Nat):Int)):=i64_sub_nat e a (by omega) (by omega)
 have hbl:=arr_lt hg
 generalize hw:e - a=w at *
 have a2:binInt .quo (vi (w:Int)) (.int .i64 4)=some (vi ((w / 4:Nat):Int)):=i64_quo_num w 4 (by decide) (by omega)
 have hq4:w / 4*4<=w:=Nat.div_mul_le_self _ _
 have hq4':2<=w / 4:=by omega
 generalize hq:w / 4=q at *
 have m2:binInt .mul (vi (q:Int)) (.int .i64 2)=some (vi ((q*2:Nat):Int)):=by rw [i64_mul (by omega) (by omega)]; congr 2
 have p2:=i64_add_nat a (q*2) (by omega)
 have p3:=i64_dec (a+q*2) (by omega) (by omega)
 have p4:=i64_succ (a+q*2) (by omega)
 have c8:(8:Int)<=w:=by omega
 have hc:convInt .u64 (vi (w:Int))=some (u64 (BitVec.ofNat 64 w)):=by rw [i64_to_u64,BitVec.ofInt_natCast]
 have hm2:2 ^ bitsLen w<=2*w:=two_pow_bitsLen_le (by omega)
 have hm1:=Nat.two_pow_pos (bitsLen w)
 generalize hM:2 ^ bitsLen w=M at *
 have gx:a+1<=a+q*2/\a+q*2+1<e:=by omega
 generalize hx:a+q*2=x at *
 generalize q*2=q2 at *
 have x1:Ext H (H.new (.cells [u64 (BitVec.ofNat 64 w)] none)):=(Ext.refl H).new _
 simp [F.f81,a1,a2,m2,p2,p3,c8,hc]
 refine S.f87 hE w (by omega) ?_
 rw [hM]
 simp [a2,m2,p2,p3]
 refine LoopL.ind (fun m l H'=>∃ (j:Nat) (d1:Array (BitVec 16)) (y:BitVec 64),l=[slc b 0 n c,vi a,vi w,ptr H.next 0,u64 (BitVec.ofNat 64 M),vi j]/\SortTo H b u16 tail f d1 H'/\d1.size=n/\PermIn a e d d1/\H'.get H.next = .cells [u64 y] none/\a<=j/\j<=x+2/\m=x+2 - j) ?_ (x+2 - (x - 1))
  ⟨x - 1,d,_,by simp,⟨x1.only,by rw [AH.get_new_lt _ _ hbl]; exact hg⟩,hn,permIn_refl _ _ _,AH.get_new_self _ _,by omega,by omega,rfl⟩
 rintro m _ H1 X hX ⟨j,d1,y,rfl,s1,n1,pp,hb1,hj1,hj2,rfl⟩
 by_cases cj:j<=x+1
 ·have cj':(j:Int)<=((x+1:Nat):Int):=by omega
  have pj:=i64_succ j (by omega)
  have fin:∀ (o:Nat) (y':BitVec 64),o<w->F.f81_j1 E Q X (slc b 0 n c) (vi a) (vi w) (ptr H.next 0) (u64 (BitVec.ofNat 64 M)) (vi j) (vi o) (H1.put H.next (.cells [u64 y'] none)):=by
   intro o y' ho
   have hnb:b≠H.next:=by omega
   have s2:SortTo H b u16 tail f d1 (H1.put H.next (.cells [u64 y'] none)):=⟨s1.only.put (.inr (Nat.le_refl _)) _,by rw [AH.get_put_ne _ _ hnb]; exact s1.get⟩
   have pa:=i64_add_nat a o (by omega)
   have f1:=arr_ix (b:=b) (c:=c) (n:=n) (i:=j) (by omega)
   have f2:=arr_ix (b:=b) (c:=c) (n:=n) (i:=a+o) (by omega)
   have g1:=arr_load s2.get (i:=j) (by omega)
   have g2:=arr_load s2.get (i:=a+o) (by omega)
   obtain ⟨w1,w2⟩:=arr_swap enc_inode_Number_plain s2.get (i:=j) (j:=a+o) (by omega) (by omega)
   have hpp:=swp_permIn d1 a e j (a+o) hj1 (by omega) (by omega) (by omega) (by omega)
   have hX:=hX (x+2 - (j+1)) (by omega) [slc b 0 n c,vi a,vi w,ptr H.next 0,u64 (BitVec.ofNat 64 M),vi ((j+1:Nat):Int)] _ ⟨j+1,_,y',rfl,s2.put (swp d1 j (a+o)),by rw [size_swp]; exact n1,permIn_trans _ _ _ _ _ pp hpp,by rw [AH.get_put_ne _ _ (Ne.symm hnb),AH.get_put_self _ _ (AH.lt_cells hb1)],by omega,by omega,rfl⟩
   generalize a+o=ao at *
   generalize hj'':j+1=j' at *
   simp [-store1_ptr,-load1_ptr,F.f81_j1,pa,f1,f2,g1,g2,w1,w2,pj]
   exact hX
  generalize hx1:x+1=x' at *
  simp [F.f81_l1,a2,m2,p2,p4,cj']
  refine S.f95 hE H.next y hb1 fun y' =>?_
  have l1:(.int .u64 1:Value)=u64 1#64:=rfl
  have hsub:BitVec.ofNat 64 M - 1#64=BitVec.ofNat 64 (M - 1):=by
   apply BitVec.eq_of_toNat_eq
   rw [BitVec.toNat_sub,BitVec.toNat_ofNat,BitVec.toNat_ofNat,BitVec.toNat_ofNat]
   omega
  have hand:(y'&&&BitVec.ofNat 64 (M - 1)).toNat<=M - 1:=by
   rw [BitVec.toNat_and]
   refine Nat.le_trans Nat.and_le_right ?_
   rw [BitVec.toNat_ofNat]
   exact Nat.mod_le _ _
  have hcv:∀ z:BitVec 64,z.toNat<2 ^ 62->convInt .i64 (u64 z)=some (vi (z.toNat:Int)):=by
   intro z hz
   rw [u64_def,convInt_int,wrap_i64 (by omega) (by omega)]
  have hcv':=hcv _ (by omega:(y'&&&BitVec.ofNat 64 (M - 1)).toNat<2 ^ 62)
  simp only [l1,u64_sub,hsub,u64_and,hcv',tk_eq,opt_some,i64_geq,nth_0,nth_1,nth_2,nth_3,nth_4,nth_5]
  generalize (y'&&&BitVec.ofNat 64 (M - 1)).toNat=o at *
  by_cases co:w<=o
  ·have co':(w:Int)<=o:=by omega
   have hs:binInt .sub (vi (o:Int)) (vi (w:Int))=some (vi ((o - w:Nat):Int)):=i64_sub_nat o w co (by omega)
   simp only [co',decide_true,ifB_true,hs,tk_eq,opt_some,nth_0,nth_1,nth_2,nth_3,nth_4,nth_5]
   exact fin (o - w) y' (by omega)
  ·have co':¬ (w:Int)<=o:=by omega
   simp only [co',decide_false,ifB_false,nth_0,nth_1,nth_2,nth_3,nth_4,nth_5]
   exact fin o y' (by omega)
 ·have cj':¬ (j:Int)<=((x+1:Nat):Int):=by omega
  generalize hx1:x+1=x' at *
  simp [F.f81_l1,a2,m2,p2,p4,cj']
  exact hQ d1 H1 pp s1
theorem S.f92 (hE:Fold E) (hS:SWO lt16):∀ (w:Nat) {H:AH} {Q:Value->AH->Prop} {d:Array (BitVec 16)} (_:H.get b=arrO u16 d tail f) (_:d.size=n) (_:n<2 ^ 31) (a e:Nat) (_:a<=e) (_:e<=n) (limit:Nat) (_:limit<2 ^ 60) (_:Go.Sort.Below lt16 a e d) (_:e - a<=w)
    (_:∀ d' H',PermIn a e d d'->SortedIn lt16 a e d'->SortTo H b u16 tail f d' H'->Q (.tuple #[]) H'),E.call (E.fid i.f92) [slc b 0 n c,vi a,vi e,vi limit] H Q:=by
  intro w
  induction w using Nat.strongRecOn with
  | _ w ih =>
  intro H Q d hg hn hsz a0 e0 hae0 he0 limit0 hlim0 hB0 hw hQ
  apply hE.f92
  simp only [F.f92]
  refine LoopL.ind (fun m l H'=>∃ (a e limit:Nat) (wb wp:Bool) (d1:Array (BitVec 16)),l=[slc b 0 n c,vi a,vi e,vi limit,vb wb,vb wp]/\SortTo H b u16 tail f d1 H'/\d1.size=n/\a<=e/\e<=n/\limit<2 ^ 60/\e - a<=w/\Go.Sort.Below lt16 a e d1 /\
      (∀ R,PermIn a e d1 R->SortedIn lt16 a e R->PermIn a0 e0 d R/\SortedIn lt16 a0 e0 R)/\m=e - a) ?_ (e0 - a0) ⟨a0,e0,limit0,true,true,d,rfl,.refl hg,hn,hae0,he0,hlim0,hw,hB0,fun R h1 h2=>⟨h1,h2⟩,rfl⟩
  rintro m _ H1 X hX ⟨a,e,limit,wb,wp,d1,rfl,s1,n1,hae,hen,hlim,hwe,hB,fin,rfl⟩
  have a1:binInt .sub (vi e) (vi a)=some (vi ((e - a:Nat):Int)):=i64_sub_nat e a (by omega) (by omega)
  by_cases c12:e - a<=12
  · have c12':((e - a:Nat):Int)<=12:=by omega
    generalize hW:e - a=W at *
    simp [F.f92_l1,a1,c12']
    refine S.f84 hE s1.get n1 (by omega) a e hae hen fun H2 s2 =>?_
    obtain ⟨h1,h2⟩:=insertionSort_holds hS d1 a e hae (by omega)
    obtain ⟨h3,h4⟩:=fin _ h1 h2
    exact hQ _ _ h3 h4 (s1.trans s2)
  have c12':¬ ((e - a:Nat):Int)<=12:=by omega
  by_cases c0:limit=0
  · subst c0
    generalize hW:e - a=W at *
    simp [F.f92_l1,a1,c12']
    refine S.f83 hE s1.get n1 (by omega) a e (by omega) hen fun H2 s2 =>?_
    obtain ⟨h1,h2⟩:=heapSort_holds hS d1 a e hae (by omega)
    obtain ⟨h3,h4⟩:=fin _ h1 h2
    exact hQ _ _ h3 h4 (s1.trans s2)
  have c0':¬ (limit:Int)=0:=by omega
  have w8:binInt .quo (vi ((e - a:Nat):Int)) (.int .i64 8)=some (vi (((e - a) / 8:Nat):Int)):=i64_quo_num (e - a) 8 (by decide) (by omega)
  have j3:∀ (d3:Array (BitVec 16)) H3 (lim:Nat) (wb wp:Bool) (pv:Nat),SortTo H b u16 tail f d3 H3->d3.size=n->PermIn a e d1 d3->lim<2 ^ 60->a<=pv->pv<e->F.f92_j3 E Q X (slc b 0 n c) (vi a) (vi e) (vi lim) (vb wb) (vb wp) (vi ((e - a:Nat):Int)) (vi pv) H3:=by
    intro d3 H3 lim wb wp pv s3 n3 p3 hlim hp1 hp2
    have B3:Go.Sort.Below lt16 a e d3:=hB.permA permIn_all (by omega) p3
    have fin3:∀ R,PermIn a e d3 R->SortedIn lt16 a e R->PermIn a0 e0 d R/\SortedIn lt16 a0 e0 R:=fun R h1 h2=>fin R (permIn_trans _ _ _ _ _ p3 h1) h2
    have part:∀ (K:Value->AH->Prop),(K=fun v15 H13 =>
         opt (ext v15 0) fun v16 =>
         opt (ext v15 1) fun v17 =>
         opt (binInt .sub v16 (vi a)) fun v18 =>
         opt (binInt .sub (vi e) v16) fun v19 =>
         opt (binInt .quo (vi ((e - a:Nat):Int)) (.int .i64 8)) fun v20 =>
         opt (binInt .lss v18 v19) fun v21 =>
         ifB v21 (
         opt (binInt .geq v18 v20) fun v22 =>
         E.call (E.fid i.f92) [slc b 0 n c,vi a,v16,vi lim] H13 fun v23 H14 =>
         opt (binInt .add v16 (.int .i64 1)) fun v24 =>
         X [slc b 0 n c,v24,vi e,vi lim,v22,v17] H14) (
         opt (binInt .geq v19 v20) fun v25 =>
         opt (binInt .add v16 (.int .i64 1)) fun v26 =>
         E.call (E.fid i.f92) [slc b 0 n c,v26,vi e,vi lim] H13 fun v27 H15 =>
         X [slc b 0 n c,vi a,v16,vi lim,v25,v17] H15))->E.call (E.fid i.f91) [slc b 0 n c,vi a,vi e,vi pv] H3 K:=by
      rintro K rfl
      refine S.f91 hE s3.get n3 (by omega) a e pv hp1 hp2 hen fun H4 s4 =>?_
      rcases hx:partition lt16 d3 a e pv with ⟨mid,ap,d4⟩
      rw [hx] at s4
      obtain ⟨g1,g2,hs4,hBa,hBr,hl,hr⟩:=round_part hS (partition_holds lt16) hp1 hp2 (by omega) B3 hx
      have n4:d4.size=n:=by omega
      have s4':=s3.trans s4
      have b1:binInt .sub (vi mid) (vi a)=some (vi ((mid - a:Nat):Int)):=i64_sub_nat mid a g1 (by omega)
      have b2:binInt .sub (vi e) (vi mid)=some (vi ((e - mid:Nat):Int)):=i64_sub_nat e mid (by omega) (by omega)
      have b3:=i64_succ mid (by omega)
      simp only [tk_eq,ext_tuple,List.getElem?_cons_zero,List.getElem?_cons_succ,opt_some,b1,b2,b3,w8,i64_lss,i64_geq]
      by_cases cl:mid - a<e - mid
      · have cl':((mid - a:Nat):Int)<((e - mid:Nat):Int):=by omega
        simp only [cl',decide_true,tk_eq,ifB_true,i64_geq,opt_some]
        refine ih (mid - a) (by omega) s4'.get n4 hsz a mid g1 (by omega) lim hlim hBa (Nat.le_refl _) fun d5 H5 p5 q5 s5 =>?_
        obtain ⟨hBL,hfin⟩:=hl d5 p5 q5
        have n5:d5.size=n:=by rw [p5.1]; exact n4
        simp only [b3,tk_eq,opt_some]
        exact hX (e - (mid+1)) (by omega) _ _ ⟨mid+1,e,lim,_,ap,d5,rfl,s4'.trans s5,n5,by omega,hen,hlim,by omega,hBL,fun R h1 h2=>by
          obtain ⟨h3,h4⟩:=hfin R h1 h2
          exact fin3 R h3 h4,rfl⟩
      · have cl':¬ ((mid - a:Nat):Int)<((e - mid:Nat):Int):=by omega
        simp only [cl',decide_false,tk_eq,ifB_false,i64_geq,opt_some,b3]
        refine ih (e - (mid+1)) (by omega) s4'.get n4 hsz (mid+1) e (by omega) hen lim hlim hBr (Nat.le_refl _) fun d5 H5 p5 q5 s5 =>?_
        obtain ⟨hBL,hfin⟩:=hr d5 p5 q5
        have n5:d5.size=n:=by rw [p5.1]; exact n4
        exact hX (mid - a) (by omega) _ _ ⟨a,mid,lim,_,ap,d5,rfl,s4'.trans s5,n5,g1,by omega,hlim,by omega,hBL,fun R h1 h2=>by
          obtain ⟨h3,h4⟩:=hfin R h1 h2
          exact fin3 R h3 h4,rfl⟩
    by_cases ca:0<a
    · have ca':(0:Int)<a:=by omega
      have b1:=i64_dec a (by omega) (by omega)
      have f1:=arr_ix (b:=b) (c:=c) (n:=n) (i:=a - 1) (by omega)
      have f2:=arr_ix (b:=b) (c:=c) (n:=n) (i:=pv) (by omega)
      have g1:=arr_load s3.get (i:=a - 1) (by omega)
      have g2:=arr_load s3.get (i:=pv) (by omega)
      have part:=part _ rfl
      by_cases hl:lt16 d3[a - 1]! d3[pv]! = true
      · generalize hW:e - a=W at *
        generalize hA:a - 1=a1 at *
        simp [-store1_ptr,-load1_ptr,F.f92_j3,ca',ca,b1,f1,f2,g1,g2]
        refine S.f0 hE _ _ ?_
        simp only [hl]
        simp only [un_not_z,Bool.not_true,tk_eq,opt_some,gd_tt,pick_true_z,ifB_false]
        exact part
      · have hl:lt16 d3[a - 1]! d3[pv]! = false:=by simpa using hl
        clear part
        rcases hx:partitionEqual lt16 d3 a e pv with ⟨mid,d4⟩
        obtain ⟨g3,g4,hs4,hB4,hfin⟩:=round_eq hS (partitionEqual_holds lt16) ca hp1 hp2 (by omega) B3 hl hx
        have hY:=fun H4 s4=>hX (e - mid) (by omega) [slc b 0 n c,vi mid,vi e,vi lim,vb wb,vb wp] H4 ⟨mid,e,lim,wb,wp,d4,rfl,s4,by omega,g4,hen,hlim,by omega,hB4,fun R h1 h2=>by
            obtain ⟨h3,h4⟩:=hfin R h1 h2
            exact fin3 R h3 h4,rfl⟩
        generalize hW:e - a=W at *
        generalize hA:a - 1=a1 at *
        simp [-store1_ptr,-load1_ptr,F.f92_j3,ca',ca,b1,f1,f2,g1,g2]
        refine S.f0 hE _ _ ?_
        simp [hl]
        refine S.f90 hE s3.get n3 (by omega) a e pv hp1 hp2 hen fun H4 s4 =>?_
        rw [hx] at s4 ⊢
        exact hY H4 (s3.trans s4)
    · have ca':¬ (0:Int)<a:=by omega
      have part:=part _ rfl
      generalize hW:e - a=W at *
      simp only [F.f92_j3,i64_gtr,ca',decide_false,tk_eq,opt_some,gd_ft,pick_false_z,ifB_false]
      exact part
  have j2:∀ (d3:Array (BitVec 16)) H3 (lim:Nat) (wb wp:Bool) (pv:Nat) (hint:Int),SortTo H b u16 tail f d3 H3->d3.size=n->PermIn a e d1 d3->lim<2 ^ 60->a<=pv->pv<e->F.f92_j2 E Q X (slc b 0 n c) (vi a) (vi e) (vi lim) (vb wb) (vb wp) (vi ((e - a:Nat):Int)) (vi pv) (vi hint) H3:=by
    intro d3 H3 lim wb wp pv hint s3 n3 p3 hlim hp1 hp2
    have B3:Go.Sort.Below lt16 a e d3:=hB.permA permIn_all (by omega) p3
    have h3:=j3 d3 H3 lim wb wp pv s3 n3 p3 hlim hp1 hp2
    have try_:E.call (E.fid i.f89) [slc b 0 n c,vi a,vi e] H3 fun v6 H4=>ifB v6 (Q (.tuple #[]) H4) (F.f92_j3 E Q X (slc b 0 n c) (vi a) (vi e) (vi lim) (vb wb) (vb wp) (vi ((e - a:Nat):Int)) (vi pv) H4):=by
      refine S.f89 hE s3.get n3 (by omega) a e (by omega) hen fun H4 s4 =>?_
      obtain ⟨q1,q2⟩:=partialInsertionSort_holds hS d3 a e (by omega) (by omega) B3
      cases hb:(partialInsertionSort lt16 d3 a e).2 with
      | true =>
        obtain ⟨h5,h6⟩:=fin _ (permIn_trans _ _ _ _ _ p3 q1) (q2 hb)
        simp only [ifB_true]
        exact hQ _ _ h5 h6 (s3.trans s4)
      | false =>
        simp only [ifB_false]
        exact j3 _ H4 lim wb wp pv (s3.trans s4) (by rw [q1.1]; exact n3) (permIn_trans _ _ _ _ _ p3 q1) hlim hp1 hp2
    cases wb with
    | false =>
      simp only [F.f92_j2,gd_ft,pick_false_z,tk_eq,opt_some,ifB_false]
      exact h3
    | true =>
      cases wp with
      | false =>
        simp only [F.f92_j2,gd_tt,gd_ft,pick_true_z,pick_false_z,tk_eq,opt_some,ifB_false]
        exact h3
      | true =>
        by_cases ch:hint=1
        · simp only [F.f92_j2,gd_tt,pick_true_z,tk_eq,opt_some,i64_eql,ch,decide_true,ifB_true]
          exact try_
        · simp only [F.f92_j2,gd_tt,pick_true_z,tk_eq,opt_some,i64_eql,ch,decide_false,ifB_false]
          exact h3
  have j1:∀ (d3:Array (BitVec 16)) H3 (lim:Nat) (wb wp:Bool),SortTo H b u16 tail f d3 H3->d3.size=n->PermIn a e d1 d3->lim<2 ^ 60->F.f92_j1 E Q X (slc b 0 n c) (vi a) (vi e) (vi lim) (vb wb) (vb wp) (vi ((e - a:Nat):Int)) H3:=by
    intro d3 H3 lim wb wp s3 n3 p3 hlim
    simp only [F.f92_j1]
    refine S.f82 hE s3.get n3 (by omega) a e (by omega) hen fun pv hint H4 hp1 hp2 e4 =>?_
    have s4:=s3.ext e4
    simp only [tk_eq,ext_tuple,List.getElem?_cons_zero,List.getElem?_cons_succ,opt_some,i64_eql]
    by_cases ch:hint=2
    · simp only [ch,decide_true,ifB_true]
      refine S.f93 hE s4.get n3 (by omega) a e (by omega) hen fun H5 s5 =>?_
      have q1:=reverseRange_holds d3 a e hae (by omega)
      have b1:=i64_dec e (by omega) (by omega)
      have b2:binInt .sub (vi pv) (vi a)=some (vi ((pv - a:Nat):Int)):=i64_sub_nat pv a hp1 (by omega)
      have b3:binInt .sub (vi ((e - 1:Nat):Int)) (vi ((pv - a:Nat):Int))=some (vi ((e - 1 - (pv - a):Nat):Int)):=i64_sub_nat (e - 1) (pv - a) (by omega) (by omega)
      simp only [b1,b2,b3,tk_eq,opt_some]
      exact j2 _ H5 lim wb wp _ 1 (s4.trans s5) (by rw [q1.1]; exact n3) (permIn_trans _ _ _ _ _ p3 q1) hlim (by omega) (by omega)
    · simp only [ch,decide_false,ifB_false]
      exact j2 d3 H4 lim wb wp pv hint s4 n3 p3 hlim hp1 hp2
  cases wb with
  | true =>
    have:=j1 d1 H1 limit true wp s1 n1 (permIn_refl _ _ _) hlim
    generalize hW:e - a=W at *
    simp only [F.f92_l1,nth_0,nth_1,nth_2,nth_3,nth_4,nth_5,a1,c12',c0',i64_leq,i64_eql,decide_false,un_not_z,Bool.not_true,tk_eq,opt_some,ifB_false]
    exact this
  | false =>
    have b1:=i64_dec limit (by omega) (by omega)
    have go:=fun d' H' p' s'=>j1 d' H' (limit - 1) false wp s' (by rw [(p':PermIn a e d1 d').1]; exact n1) p' (by omega)
    generalize hW:e - a=W at *
    simp only [F.f92_l1,nth_0,nth_1,nth_2,nth_3,nth_4,nth_5,a1,c12',c0',i64_leq,i64_eql,decide_false,un_not_z,Bool.not_false,tk_eq,opt_some,ifB_false,ifB_true]
    refine S.f81 hE s1.get n1 hsz a e (by omega) hen fun d' H' p' s' =>?_
    simp only [b1,tk_eq,opt_some]
    exact go d' H' p' (s1.trans s')
theorem S.f80 (hE:Fold E) (hS:SWO lt16) (hg:H.get b=arrO u16 d tail f) (hn:d.size=n) (hsz:n<2 ^ 31)
  (hQ:∀ d' H',PermIn 0 n d d'->SortedIn lt16 0 n d'->SortTo H b u16 tail f d' H'->Q (.tuple #[]) H'):E.call (E.fid i.f80) [slc b 0 n c] H Q:=by
 apply hE.f80
 have e1:(BitVec.ofNat 64 n).toNat=n:=by rw [BitVec.toNat_ofNat,Nat.mod_eq_of_lt (by omega)]
 have hc:convInt .u64 (vi (n:Int))=some (u64 (BitVec.ofNat 64 n)):=by rw [i64_to_u64,BitVec.ofInt_natCast]
 simp only [F.f80,lenSlc_slc_z,hc,tk_eq,opt_some]
 refine S.f29 hE _ (by rw [e1]; omega) ?_
 rw [e1]
 have hl:bitsLen n<=31:=by rw [bitsLen_le_iff]; exact hsz
 exact S.f92 hE hS n hg hn hsz 0 n (Nat.zero_le _) (Nat.le_refl _) _ (by omega) (.inl rfl) (by omega) hQ
theorem S.slices_Sort_inode_Number_nil (hE:Fold E) (a:Option Addr) (hQ:Q (.tuple #[]) H):E.call (E.fid i.f80) [.slice a 0 0] H Q:=by
 apply hE.f80
 have hc:convInt .u64 (vi 0)=some (u64 0#64):=by rw [i64_to_u64]; rfl
 have hd:binInt .sub (vi 0) (vi 0)=some (vi 0):=i64_sub (by decide) (by decide)
 simp [F.f80,hc]
 refine S.f29 hE _ (by decide) ?_
 apply hE.f92
 simp only [F.f92]
 refine LoopL.step fun X _ =>?_
 simp [F.f92_l1,hd]
 apply hE.f84
 have ha:binInt .add (vi 0) (vi 1)=some (vi 1):=i64_add (by decide) (by decide)
 simp [F.f84,ha]
 refine LoopL.step fun X _ =>?_
 simp [F.f84_l1]
 exact hQ
end
end Go.AM
end
section
namespace Go.AM
open Go.Sort (SWO PermIn SortedIn)
theorem sort_unique {α:Type} [Inhabited α] {lt:α->α->Bool} (hS:SWO lt) (htri:∀ a b,lt a b=false->lt b a=false->a=b) {n:Nat} {d d':Array α} (hn:d.size=n) (hp:PermIn 0 n d d') (hs:SortedIn lt 0 n d') {L:List α} (hL:d.toList.Perm L)
  (hR:L.Pairwise fun a b=>lt a b=true):d'.toList=L:=by
 have hsz:d'.size=n:=hp.1.trans hn
 have e1:(d'.extract 0 n).toList=d'.toList:=by rw [<- hsz]; simp
 have e2:(d.extract 0 n).toList=d.toList:=by rw [<- hn]; simp
 have hpp:=hp.2.2
 rw [e1,e2] at hpp
 refine List.Perm.eq_of_pairwise (le:=fun a b=>lt b a=false) (fun a b _ _ h1 h2=>htri a b h2 h1) ?_ ?_ (hpp.trans hL)
 ·rw [List.pairwise_iff_getElem]
  intro i j hi hj hij
  have:=hs i j (Nat.zero_le _) hij (by rw [<- hsz]; simpa using hj)
  have hi':i<d'.size:=by simpa using hi
  have hj':j<d'.size:=by simpa using hj
  simpa [hi',hj'] using this
 ·refine hR.imp fun {a b} hab =>?_
  cases hba:lt b a with
  | false=>rfl
  | true =>
   have:=hS.trans a b a hab hba
   rw [hS.irrefl] at this
   simp at this
theorem Grow.arr {α:Type} [Inhabited α] {enc:α->Value} (hp:∀ x,plain1 (enc x)=true) {H:AH} {v:Value} {xs:List α} (g:Grow zH H 1 v (xs.map fun x=>[enc x])) (hne:xs≠[]) :
  ∃ b f c tail,v=slc b 0 xs.length c/\H.get b=arrO enc xs.toArray tail f/\∀ (ys:List α) (H':AH),ys.length=xs.length->H'.get b=arrO enc ys.toArray tail f->Grow zH H' 1 v (ys.map fun x=>[enc x]):=by
 have fl:∀ l:List α,(l.map fun x=>[enc x]).flatten=l.map enc:=by
  intro l
  induction l with
  | nil=>rfl
  | cons a l ih=>simp [ih]
 rcases g.2 with ⟨h,_⟩ | ⟨b,f,c,cs,g1,rfl,g3,g4,g5,g6,g7⟩
 ·exact (hne (by simpa using h)).elim
 ·rw [fl,Nat.mul_one] at g6
  simp only [List.length_map] at g4 g6 ⊢
  have hcs:cs=xs.map enc++cs.drop xs.length:=by rw [<- g6,List.take_append_drop]
  refine ⟨b,f,c,cs.drop xs.length,rfl,?_,fun ys H' hl hg =>?_⟩
  ·rw [g3,arrO]; congr 1
  ·refine ⟨fun r hr =>?_,.inr ⟨b,f,c,ys.map enc++cs.drop xs.length,g1,by simp [hl],hg,by simpa [hl] using g4,?_,?_,g7⟩⟩
   ·obtain ⟨x,_,rfl⟩:=List.mem_map.1 hr
    exact ⟨rfl,by simp [hp]⟩
   ·have:cs.length=(xs.map enc++cs.drop xs.length).length:=congrArg List.length hcs
    simp at this
    simp [hl]; omega
   ·rw [fl]
    simp [hl]
theorem lt16_htri (a b:BitVec 16) (h:lt16 a b=false) (h':lt16 b a=false):a=b:=by
 simp only [lt16,decide_eq_false_iff_not] at h h'
 exact BitVec.eq_of_toNat_eq (by omega)
def strR (l:List NameL):List (List Value):=l.map fun s=>[str s]
def u16R (l:List (BitVec 16)):List (List Value):=l.map fun s=>[u16 s]
theorem strR_length (l:List NameL):(strR l).length=l.length:=by simp [strR]
theorem u16R_length (l:List (BitVec 16)):(u16R l).length=l.length:=by simp [u16R]
section
variable {E:Sy} {H H' H'':AH} {Q:Value->AH->Prop} {p m:Nat} {L L' L'':LyL} {T T' T'':Tr}
def Tr.nums (T:Tr):List (BitVec 16):=((List.range T.N.length).map (BitVec.ofNat 16)).filter fun n=>decide ((T.node n).kind≠0#8)
theorem Tr.nums_mem (hl:T.N.length<=65536) (n:BitVec 16):n∈T.nums↔(T.node n).kind≠0#8:=by
 unfold Tr.nums
 rw [List.mem_filter]
 simp only [decide_eq_true_eq,List.mem_map,List.mem_range]
 constructor
 ·exact fun h=>h.2
 ·intro h
  exact ⟨⟨n.toNat,Tr.node_lt h,by simp⟩,h⟩
theorem Tr.nums_rise (hl:T.N.length<=65536):T.nums.Pairwise fun a b=>lt16 a b=true:=by
 unfold Tr.nums
 refine List.Pairwise.filter _ ?_
 rw [List.pairwise_map]
 refine List.pairwise_lt_range.imp_of_mem fun {a b} ha hb hab =>?_
 have h1:=List.mem_range.1 ha
 have h2:=List.mem_range.1 hb
 simp only [lt16,decide_eq_true_eq,BitVec.toNat_ofNat]
 rw [Nat.mod_eq_of_lt (by omega),Nat.mod_eq_of_lt (by omega)]
 exact hab
theorem Tr.nums_nodup (hl:T.N.length<=65536):T.nums.Nodup :=
 (Tr.nums_rise hl).imp fun {a b} h e=>by subst e; simp [lt16] at h
theorem Cov.perm (h:Cov L T) (hl:T.N.length<=65536):(L.map Prod.fst).Perm T.nums :=
 List.perm_of_nodup_nodup_toFinset_eq' h.nd (Tr.nums_nodup hl) (fun x hx=>(Tr.nums_mem hl x).2 ((h.mem x).1 hx)) fun x hx=>(h.mem x).2 ((Tr.nums_mem hl x).1 hx)
theorem S.f13 (hE:Fold E) (h:Ino H p m L T) (hl:T.N.length<=65536) (hQ:∀ v H',Ext H H'->Rows H' 1 v (u16R T.nums)->FreshV H.next v->Q v H'):E.call (E.fid i.f13) [ptr p 0] H Q:=by
 apply hE.f13
 have hh:=h.head
 have hm:=h.map
 obtain ⟨o,o1,o2⟩:=IterAt.start hm
 have x1:Ext H (H.new o):=(Ext.refl H).new o
 have hp:=h.cov.perm hl
 have hlen:L.length=T.nums.length:=by simpa using hp.length_eq
 have hnl:T.nums.length<=65536:=by
  unfold Tr.nums
  refine Nat.le_trans (List.length_filter_le _ _) ?_
  simpa using hl
 simp only [F.f13,nilp_some_z,nilCk_p,addOff_ptr,load1_ptr,hh,cell_cells_z,Nat.add_zero,List.getElem?_cons_zero,o1,mk_some,mkPtr_eq,tk_eq,opt_some,ifB_false]
 generalize hl2:(L.map fun e=>(e.1,e.2.blk))=l2 at *
 have hl2l:l2.length=L.length:=by rw [<- hl2]; simp
 have hl2f:l2.map Prod.fst=L.map Prod.fst:=by rw [<- hl2]; simp [Function.comp_def]
 refine LoopL.ind (fun j l H'=>Ext H H'/\∃ done v,l=[v,ptr H.next 0]/\IterAt u16 (fun b=>ptr b 0) H' H.next m l2 done/\Grow zH H' 1 v (u16R (done.map Prod.fst))/\FreshV (H.next+1) v/\(done=[]->v=nilS)/\j+done.length=l2.length) ?_ l2.length ⟨x1,[],nilS,rfl,o2,Grow.nil _ _ _,fun b hb=>by simp [blk] at hb,fun _=>rfl,by simp⟩
 rintro j _ H' X hX ⟨e1,done,v,rfl,it,g,fv,hnil,hj⟩
 simp only [F.f13_l1,nth_0,nth_1]
 refine IterAt.next it (fun e ob he hnd it' hen =>?_) fun hpd =>?_
 ·have hput:Ext H (H'.put H.next ob):=e1.put (Nat.le_refl _) ob
  have hd1:done.length+1<=l2.length:=by
   have:=nodup_le (done++[e]) l2 it'.nodup.1 it'.nodup.2
   simpa using this
  have g':Grow zH (H'.put H.next ob) 1 v (u16R (done.map Prod.fst)):=g.keep fun b hb _=>AH.get_put_ne _ _ (by have:=fv b hb; omega)
  have hb1:buildS 1 1 #[(.int .u16 0)] [(0,u16 e.1)]=some (.cells [u16 e.1] none,mkSlc 1 1):=buildS_one 1 [u16 0#16] [u16 e.1] rfl rfl
  obtain ⟨v',H2,a1,a2,a3⟩:=g'.app1 (Nat.zero_le _) (bytes:=2) [u16 e.1] rfl rfl (by decide) (by decide) (by rw [u16R_length,List.length_map]; omega)
  have hlt1:=it'.map.lt
  have hlt2:=it'.lt
  have hrb:H2.get m=(H'.put H.next ob).get m:=a3.1.get hlt1 fun hb=>by
   have:=fv m (mem_blkL.1 hb)
   have:=hm.lt
   omega
  have hib:H2.get H.next=(H'.put H.next ob).get H.next:=a3.1.get hlt2 fun hb=>by
   have:=fv H.next (mem_blkL.1 hb)
   omega
  simp only [ext_tuple,List.getElem?_cons_zero,List.getElem?_cons_succ,hen,hb1,mk_some,mkSlc_eq,a1,opt2_some,tk_eq,opt_some,ifB_true]
  refine hX (j - 1) (by omega) _ _ ⟨?_,done++[e],v',rfl,it'.keep hrb hib,?_,?_,fun h=>by simp at h,?_⟩
  ·refine a3.1.ext hput fun b hb =>?_
   have:=fv b (mem_blkL.1 hb)
   omega
  ·have:u16R ((done++[e]).map Prod.fst)=u16R (done.map Prod.fst)++[[u16 e.1]]:=by simp [u16R]
   rw [this]; exact a2
  ·intro b hb
   have hp1:(H'.put H.next ob).next=H'.next:=rfl
   rcases a3.2 b hb with h1 | h1
   ·exact fv b h1
   ·have:=it.lt
    omega
  ·simp; omega
 ·have hperm:(done.map Prod.fst).Perm T.nums:=(hpd.map _).trans (by rw [hl2f]; exact hp)
  simp only [ext_tuple,List.getElem?_cons_zero,tk_eq,opt_some,ifB_false]
  by_cases hne:done.map Prod.fst=[]
  ·have hd0:done=[]:=by simpa using hne
   have he:T.nums=[]:=by
    have:=hperm.length_eq
    rw [hd0] at this
    exact List.eq_nil_of_length_eq_zero (by simpa using this.symm)
   rw [hnil hd0]
   refine S.slices_Sort_inode_Number_nil hE none ?_
   refine hQ nilS H' e1 ?_ fun b hb=>by simp [blk] at hb
   rw [he]
   exact Rows.nil _ _ none
  ·obtain ⟨b,f,c,tail,rfl,ha,hb⟩:=Grow.arr (fun x=>rfl) g hne
   refine S.f80 hE swo_lt16 ha (by simp) (by have:=hperm.length_eq; simp at this ⊢; omega) fun d' H2 hp2 hs2 st =>?_
   have hu:=sort_unique swo_lt16 lt16_htri (n:=(done.map Prod.fst).length) (by simp) hp2 hs2 (L:=T.nums) hperm (Tr.nums_rise hl)
   refine hQ _ H2 ?_ ?_ fun x hx=>by have:=fv x hx; omega
   ·exact st.only.ext e1 fun x hx=>by
     simp at hx; subst hx
     have:=fv x (by simp [blk])
     omega
   ·rw [<- hu]
    refine (hb d'.toList H2 ?_ st.get).toRows
    have:=hp2.1
    simpa using this
end
end Go.AM
end
section
namespace Go.AM
section
variable {E:Sy} {H:AH} {Q:Value->AH->Prop}
def cutSl:List UInt8->Option (List UInt8×List UInt8)
 | []=>none
 | c :: s=>if c=47 then some ([],s) else (cutSl s).map fun p=>(c :: p.1,p.2)
theorem splitF_cut:∀ (s cur:List UInt8),splitF cur s=match cutSl s with
  | none=>[cur++s]
  | some p=>(cur++p.1) :: splitF [] p.2
 | [],cur=>by simp [splitF,cutSl]
 | c :: s,cur=>by
  by_cases h:c=47
  ·simp [splitF,cutSl,h]
  ·simp only [splitF,cutSl,h,if_false]
   rw [splitF_cut s (cur++[c])]
   cases cutSl s <;> simp
theorem cutSl_index:∀ s:List UInt8,Lib.indexByte s 47=match cutSl s with | none => -1 | some p=>(p.1.length:Int)
 | []=>rfl
 | c :: s=>by
  have ih:=cutSl_index s
  by_cases h:c=47
  ·subst h; simp [Lib.indexByte,cutSl]
  ·have h':(c == 47)=false:=by simpa using h
   simp only [Lib.indexByte,h',cutSl,h,if_false,ih]
   cases hc:cutSl s with
   | none=>simp
   | some p=>simp
theorem cutSl_eq:∀ {s:List UInt8} {p:List UInt8×List UInt8},cutSl s=some p->s=p.1++47 :: p.2
 | [],p,h=>by simp [cutSl] at h
 | c :: s,p,h=>by
  by_cases k:c=47
  ·subst k; simp [cutSl] at h; subst h; rfl
  ·simp only [cutSl,k,if_false,Option.map_eq_some_iff] at h
   obtain ⟨q,h1,rfl⟩:=h
   simp [cutSl_eq h1]
theorem splitF_count:∀ (s cur:List UInt8),(splitF cur s).length=s.count 47+1
 | [],_=>rfl
 | c :: s,cur=>by
  by_cases h:c=47
  ·subst h; simp [splitF,splitF_count s []]
  ·simp [splitF,h,splitF_count s (cur++[c])]
theorem count_le (s:List UInt8):s.count 47<=s.length:=List.count_le_length
theorem S.f96 (hE:Fold E) (s:List UInt8) (hQ:Q (vi (s.count 47:Nat)) H):E.call (E.fid i.f96) [str s,str [47]] H Q:=by
 apply hE.f96
 have h1:ixStr (str [47]) (.int .i64 0)=some (.int .u8 47):=rfl
 simp [F.f96,h1]
 apply hE.f22
 exact hQ
theorem S.f97 (hE:Fold E) (s:List UInt8) (hQ:Q (vi (Lib.indexByte s 47)) H):E.call (E.fid i.f97) [str s,str [47]] H Q:=by
 apply hE.f97
 simp only [F.f97]
 apply hE.f27
 have h1:ixStr (str [47]) (.int .i64 0)=some (.int .u8 47):=rfl
 by_cases hs:[47]=s
 ·subst hs
  simp [F.f27]
  exact hQ
 ·simp [F.f27,h1,hs]
  apply hE.f28
  simp only [F.f28]
  apply hE.f24
  exact hQ
theorem str_extract (l:List UInt8) (a b:Nat):(⟨l.toArray⟩:ByteArray).extract a b=⟨((l.take b).drop a).toArray⟩:=by
 apply ByteArray.ext
 rw [ByteArray.data_extract]
 simp [List.extract_eq_take_drop,List.drop_take]
theorem slStr_take (l:List UInt8) (n:Nat) (h:n<=l.length):slStr (str l) none (some (vi n))=some (str (l.take n)):=by
 have h':n<=(⟨l.toArray⟩:ByteArray).size:=h
 simp only [str,slStr,bnd]
 rw [if_pos ⟨by omega,by exact_mod_cast h'⟩]
 simp [str_extract]
theorem slStr_drop (l:List UInt8) (n:Nat) (h:n<=l.length):slStr (str l) (some (vi n)) none=some (str (l.drop n)):=by
 have h':n<=(⟨l.toArray⟩:ByteArray).size:=h
 have hz:(⟨l.toArray⟩:ByteArray).size=l.length:=rfl
 simp only [str,slStr,bnd,Option.bind_some]
 rw [if_pos ⟨by omega,by rw [hz]; exact_mod_cast h⟩]
 simp [str_extract,hz]
def fillS (done:List NameL) (n:Nat):List (List Value):=strR done++List.replicate n [str []]
theorem fillS_set (done:List NameL) (n:Nat) (s:NameL):(fillS done (n+1)).set done.length [str s]=fillS (done++[s]) n:=by
 have h:(strR done).length=done.length:=strR_length done
 unfold fillS
 rw [<- h,List.set_append_right _ _ (Nat.le_refl _),Nat.sub_self,List.replicate_succ,List.set_cons_zero]
 simp [strR]
theorem fillS_length (done:List NameL) (n:Nat):(fillS done n).length=done.length+n:=by simp [fillS,strR]
theorem S.f99 (hE:Fold E) (s:List UInt8) (hs:s.length<2 ^ 40) (hQ:∀ v H',Ext H H'->Rows H' 1 v (strR (splitF [] s))->Q v H'):E.call (E.fid i.f99) [str s,str [47]] H Q:=by
 apply hE.f99
 simp only [F.f99]
 apply hE.f101
 have hc:=count_le s
 have hn1:binInt .add (vi (s.count 47:Nat)) (.int .i64 1)=some (vi ((s.count 47+1:Nat):Int)):=i64_inc (by omega)
 have hl1:binInt .add (vi (s.length:Nat)) (.int .i64 1)=some (vi ((s.length+1:Nat):Int)):=i64_inc (by omega)
 simp [F.f101]
 refine S.f96 hE s ?_
 have hcnt:=splitF_count s []
 generalize hN:s.count 47=c at *
 have hmin:fold2 min2 [vi ((c+1:Nat):Int),vi ((s.length+1:Nat):Int)]=some (vi ((c+1:Nat):Int)):=by
  rw [i64_min]
  rw [if_neg (by omega)]
 have hsub:binInt .sub (vi ((c+1:Nat):Int)) (.int .i64 1)=some (vi (c:Nat)):=by
  rw [i64_sub (by omega) (by omega)]; simp
 have hmk:=makeS_all 1 16 (c+1) [str []] rfl (by omega) (by omega)
 simp only [F.f101_j1,hn1,lenStr_s,hl1,hmin,tk_eq,opt_some]
 rw [show (#[(.string ⟨#[]⟩)]:Array Value)=[str []].toArray from rfl,hmk]
 simp only [AM.mk_some,hsub,tk_eq,opt_some]
 have g0:Grow zH (H.new (.cells (List.replicate (c+1) [str []]).flatten none)) 1 (slc H.next 0 (c+1) (c+1)) (fillS [] (c+1)) :=
  Grow.made (f:=none) (zH_get _) (by rw [AH.get_new_self]; simp [fillS,strR]) (.inl rfl) (by simp [fillS,strR]) (by
   intro r hr
   simp [fillS,strR] at hr
   subst hr
   exact ⟨rfl,rfl⟩)
 refine LoopL.count c (fun j ls H'=>∃ done rest,ls=[str rest,str [47],vi 0,vi c,slc H.next 0 (c+1) (c+1),vi j]/\done.length=j/\splitF [] s=done++splitF [] rest/\rest.length<=s.length/\Ext H H'/\Grow zH H' 1 (slc H.next 0 (c+1) (c+1)) (fillS done (c+1 - j))) ?_ ⟨[],s,rfl,rfl,rfl,Nat.le_refl _,(Ext.refl H).new _,g0⟩
 rintro j _ H1 X hj hX ⟨done,rest,rfl,hd,hsp,hrl,e1,g1⟩
 have hrc:rest.count 47+j=c:=by
  have h1:=congrArg List.length hsp
  rw [hcnt,List.length_append,splitF_count,hd] at h1
  omega
 by_cases hjc:j<c
 ·have hX:=hX hjc
  have hjc':(j:Int)<c:=by omega
  have hjj:=i64_inc (i:=j) (by omega)
  have hix:=cutSl_index rest
  have hcut:=splitF_cut rest []
  cases hcs:cutSl rest with
  | none =>
   rw [hcs] at hcut
   have h1:=splitF_count rest []
   rw [hcut] at h1
   simp at h1
   omega
  | some p =>
   rw [hcs] at hix hcut
   have hre:=cutSl_eq hcs
   have hpl:p.1.length+p.2.length+1=rest.length:=by rw [hre]; simp; omega
   have hge:¬ ((p.1.length:Int)<0):=by omega
   have hadd0:binInt .add (vi (p.1.length:Nat)) (vi 0)=some (vi (p.1.length:Nat)):=by rw [i64_add (by omega) (by omega)]; simp
   have hadd1:binInt .add (vi (p.1.length:Nat)) (vi 1)=some (vi ((p.1.length+1:Nat):Int)):=i64_inc (by omega)
   have hsl1:slStr (str rest) none (some (vi (p.1.length:Nat)))=some (str p.1):=by
    rw [slStr_take _ _ (by omega),hre,List.take_left' rfl]
   have hsl2:slStr (str rest) (some (vi ((p.1.length+1:Nat):Int))) none=some (str p.2):=by
    rw [slStr_drop _ _ (by omega),hre]
    congr 2
    rw [show p.1++47 :: p.2=(p.1++[47])++p.2 by simp,show p.1.length+1=(p.1++[47]).length by simp,List.drop_left' rfl]
   obtain ⟨b,o,H2,q1,q2,q3,q4,q5⟩:=g1.store (i:=j) (k:=0) (by rw [fillS_length]; omega) (by omega) (str p.1) rfl
   have hlast:(fillS done (c+1 - j)).set j (((fillS done (c+1 - j))[j]'(by rw [fillS_length]; omega)).set 0 (str p.1))=fillS (done++[p.1]) (c+1 - (j+1)):=by
    have e:c+1 - j=(c+1 - (j+1))+1:=by omega
    have h2:(fillS done (c+1 - j))[j]'(by rw [fillS_length]; omega)=[str []]:=by
     subst hd
     simp [fillS,strR]
    rw [h2]
    subst hd
    rw [e]
    exact fillS_set done _ p.1
   rw [hlast] at q4
   simp [F.f101_l1,hjc']
   refine S.f97 hE rest ?_
   rw [hix]
   have q3':store1 (ptr b o) (str p.1) H1=some H2:=by simpa using q3
   simp [-Int.natCast_add,hge,hadd0,hadd1,hsl1,hsl2,q1,q3',hjj]
   refine hX _ _ ⟨done++[p.1],p.2,rfl,by simp [hd],by rw [hsp,hcut]; simp,by omega,?_,q4⟩
   exact q5.ext e1 fun b hb=>by rw [mem_blkL] at hb; simp [blk] at hb; omega
 ·have hjc':¬ (j:Int)<c:=by omega
  have hje:j=c:=by omega
  have hrest:splitF [] rest=[rest]:=by
   have hcut:=splitF_cut rest []
   cases hcs:cutSl rest with
   | none=>rw [hcs] at hcut; simpa using hcut
   | some p =>
    have:=cutSl_eq hcs
    rw [this] at hrc
    simp at hrc
    omega
  have hjj:binInt .add (vi (j:Nat)) (vi 1)=some (vi ((j+1:Nat):Int)):=i64_inc (by omega)
  obtain ⟨b,o,H2,q1,q2,q3,q4,q5⟩:=g1.store (i:=j) (k:=0) (by rw [fillS_length]; omega) (by omega) (str rest) rfl
  have hlast:(fillS done (c+1 - j)).set j (((fillS done (c+1 - j))[j]'(by rw [fillS_length]; omega)).set 0 (str rest))=fillS (done++[rest]) (c+1 - (j+1)):=by
   have e:c+1 - j=(c+1 - (j+1))+1:=by omega
   have h2:(fillS done (c+1 - j))[j]'(by rw [fillS_length]; omega)=[str []]:=by
    subst hd
    simp [fillS,strR]
   rw [h2]
   subst hd
   rw [e]
   exact fillS_set done _ rest
  rw [hlast] at q4
  have q3':store1 (ptr b o) (str rest) H1=some H2:=by simpa using q3
  have e2:Ext H H2:=q5.ext e1 fun b hb=>by rw [mem_blkL] at hb; simp [blk] at hb; omega
  have hrows:Rows H2 1 (slc H.next 0 (c+1) (c+1)) (strR (splitF [] s)):=by
   have:=q4.toRows
   have h0:c+1 - (j+1)=0:=by omega
   rw [h0] at this
   rw [hsp,hrest]
   simpa [fillS] using this
  have hlen:(strR (splitF [] s)).length=j+1:=by rw [strR_length,hcnt]; omega
  obtain ⟨hsl,hrows2⟩:=hrows.slice' (lo:=none) (hi:=some (vi ((j+1:Nat):Int))) (i:=0) (j:=j+1) (.inr ⟨rfl,rfl⟩) (.inl rfl) (by omega) (by omega)
  rw [List.take_of_length_le (by omega),List.drop_zero] at hrows2
  simp [-Int.natCast_add,F.f101_l1,hjc',F.f101_j2,q1,q3',hjj,hsl]
  exact hQ _ _ e2 hrows2
theorem ix_strR {v:Value} {l:List NameL} (h:Rows H 1 v (strR l)) {i:Nat} (hi:i<l.length):∃ b o,ixSlc 1 v (vi i)=some (ptr b o)/\(H.get b).cell o=some (str l[i])/\(H.get b).row o 1=some [str l[i]]:=by
 obtain ⟨b,o,h1,h2⟩:=h.ix (i:=i) (by rw [strR_length]; exact hi)
 have hrow:(strR l)[i]'(by rw [strR_length]; exact hi)=[str l[i]]:=by simp [strR]
 rw [hrow] at h2
 exact ⟨b,o,h1,by have:=row_at h2 (j:=0) (by omega); simpa using this,h2⟩
theorem strR_lenSlc {v:Value} {l:List NameL} (h:Rows H 1 v (strR l)):AM.lenSlc v=some (vi l.length):=by
 have:=h.lenSlc
 rwa [strR_length] at this
theorem filter_take_succ {α:Type} (P:α->Bool) (l:List α) {j:Nat} (hj:j<l.length):(l.take (j+1)).filter P=(l.take j).filter P++if P l[j] then [l[j]] else []:=by
 rw [List.take_succ_eq_append_getElem hj,List.filter_append]
 congr 1
 by_cases h:P l[j] <;> simp [h]
theorem splitF_len (s:List UInt8):(splitF [] s).length<=s.length+1:=by
 rw [splitF_count]
 have:=count_le s
 omega
theorem partsL_le (s:List UInt8):(partsL s).length<=s.length+1:=Nat.le_trans (List.length_filter_le _ _) (splitF_len s)
theorem S.f116 (hE:Fold E) (s:List UInt8) (hs:s.length<2 ^ 40) (hQ:∀ v H',Ext H H'->Grow zH H' 1 v (strR (partsL s))->(∀ b,blk v=some b->H.next<=b)->Q v H'):E.call (E.fid i.f116) [str s] H Q:=by
 apply hE.f116
 simp only [F.f116]
 refine S.f99 hE s hs fun v H1 e1 r1 =>?_
 have hl:=strR_lenSlc r1
 have hlen:=splitF_len s
 simp only [hl,opt_some]
 unfold partsL at hQ
 generalize splitF [] s=l at *
 refine LoopL.count l.length (fun j ls H'=>∃ w,ls=[w,v,vi l.length,vi j]/\Ext H1 H'/\Grow zH H' 1 w (strR ((l.take j).filter okPart))/\FreshV H1.next w) ?_ ⟨nilS,rfl,Ext.refl _,by simpa [strR] using Grow.nil zH H1 1,by simp [blk,FreshV]⟩
 rintro j _ H2 X hj hX ⟨w,rfl,e2,g2,f2⟩
 by_cases hjl:j<l.length
 ·have hX:=hX hjl
  have hjl':(j:Int)<l.length:=by omega
  have hjj:=i64_inc (i:=j) (by omega)
  obtain ⟨b,o,q1,q2,_⟩:=ix_strR (r1.mono e2) hjl
  have hst:=filter_take_succ okPart l hjl
  have hle:((l.take j).filter okPart).length<=j:=Nat.le_trans (List.length_filter_le _ _) (by rw [List.length_take]; omega)
  generalize hx:l[j]=x at *
  by_cases h1:x=[]
  ·have h2:okPart x=false:=by simp [okPart,h1]
   rw [h2] at hst
   simp [-Int.natCast_add,F.f116_l1,hjl',q1,q2,h1,hjj]
   exact hX _ _ ⟨w,rfl,e2,by rw [hst]; simpa using g2,f2⟩
  ·by_cases h3:x=[46]
   ·have h2:okPart x=false:=by simp [okPart,h3]
    rw [h2] at hst
    simp [-Int.natCast_add,F.f116_l1,hjl',q1,q2,h3,hjj]
    exact hX _ _ ⟨w,rfl,e2,by rw [hst]; simpa using g2,f2⟩
   ·have h2:okPart x=true:=by simp [okPart,h1,h3]
    rw [h2] at hst
    obtain ⟨w',H3,a1,a2,a3⟩:=g2.app1 (Nat.zero_le _) (bytes:=16) [str x] rfl rfl (by decide) (by decide) (by rw [strR_length]; omega)
    have hb:=buildS_val (str []) (str x) rfl rfl
    simp [-Int.natCast_add,-buildS_eq,F.f116_l1,hjl',q1,q2,h1,h3,hb,a1,hjj]
    obtain ⟨k1,k2⟩:=grew_ext a3 e2 (H0:=H1) f2
    refine hX _ _ ⟨w',rfl,k1,by rw [hst]; simpa [strR] using a2,k2⟩
 ·have hjl':¬ (j:Int)<l.length:=by omega
  simp [F.f116_l1,hjl']
  refine hQ w H2 (e1.trans e2) (by rw [List.take_of_length_le (by omega)] at g2; exact g2) fun b hb=>Nat.le_trans e1.1 (f2 b hb)
end
end Go.AM
end
section
namespace Go.AM
structure WkAt (H:AH) (t:Nat) (T:Tr) (M:List MntD):Prop where
 at_:∃ p m L q nx,H.get t = .cells [ptr p 0,ptr q 0] none/\Ino H p m L T/\TabAt H q M nx
 older:Older M
theorem WkAt.mono {H H':AH} {t:Nat} {T:Tr} {M:List MntD} (h:WkAt H t T M) (e:Ext H H'):WkAt H' t T M:=by
 obtain ⟨⟨p,m,L,q,nx,h1,h2,h3⟩,h4⟩:=h
 exact ⟨⟨p,m,L,q,nx,e.cells h1,h2.mono e,h3.mono e⟩,h4⟩
section
variable {E:Sy} {H:AH} {Q:Value->AH->Prop} {t:Nat} {T:Tr} {M:List MntD}
theorem nilp_p (b o:Nat):binNil eqPtr .neq (ptr b o) (.pointer none)=some (.bool true):=rfl
theorem nilq_p (b o:Nat):binNil eqPtr .eql (ptr b o) (.pointer none)=some (.bool false):=rfl
theorem S.f115 (hE:Fold E) (h:WkAt H t T M) (hQ:Q (vb true) H):E.call (E.fid i.f115) [ptr t 0] H Q:=by
 apply hE.f115
 obtain ⟨⟨p,m,L,q,nx,h1,h2,h3⟩,h4⟩:=h
 simp [F.f115,nilp_p,h1]
 exact hQ
theorem S.f111 (hE:Fold E) (h:WkAt H t T M) (c:PlaceD) (hQ:∀ H',Ext H H'->Q (vb (dirP T M c)) H'):E.call (E.fid i.f111) [ptr t 0,c.v] H Q:=by
 apply hE.f111
 have x1:Ext H (H.new (.cells c.cells none)):=(Ext.refl H).new _
 have hb:=AH.get_new_self H (.cells c.cells none)
 generalize hH1:H.new (.cells c.cells none)=H1 at *
 simp [F.f111,hH1]
 refine S.f115 hE (h.mono x1) ?_
 obtain ⟨⟨p,m,L,q,nx,h1,h2,h3⟩,h4⟩:=h.mono x1
 simp [h1,hb,PlaceD.cells]
 refine S.f8 hE h2 c.i ?_
 simp [h1,hb,PlaceD.cells]
 have x2:Ext H1 (H1.new (.cells [vi 0,vi 0,u16 0#16,u16 0#16,vi 0] none)):=(Ext.refl _).new _
 have hb2:=AH.get_new_self H1 (.cells [vi 0,vi 0,u16 0#16,u16 0#16,vi 0] none)
 refine S.f35 hE q M nx c.m (h3.mono x2) fun H5 e5 =>?_
 have hb5:=e5.cells hb2
 refine ⟨by rw [hb5,hb2],?_⟩
 have hst:storeN 5 (ptr H1.next 0) (optM (getT M c.m)).v H5=some (H5.put H1.next (.cells (optM (getT M c.m)).cells none)):=by
  rw [storeN_ptr,hb5]; rfl
 have x3:Ext H (H5.put H1.next (.cells (optM (getT M c.m)).cells none)):=(x1.trans (x2.trans e5)).put (b:=H1.next) x1.1 _
 have hQ:=hQ _ x3
 have hg:∀ b cs,H1.get b = .cells cs none->(H5.put H1.next (.cells (optM (getT M c.m)).cells none)).get b = .cells cs none:=fun b cs hh=>by
  rw [AH.get_put_ne _ _ (Nat.ne_of_lt (AH.lt_cells hh))]; exact (x2.trans e5).cells hh
 generalize H5.put H1.next (.cells (optM (getT M c.m)).cells none)=H6 at *
 unfold dirP at hQ
 cases hs:(getT M c.m).isSome with
 | false =>
  rw [hs] at hQ
  simp at hQ
  simp [hst]
  exact hQ
 | true =>
  rw [hs] at hQ
  rcases h2.get c.i with ⟨k0,_⟩ | ⟨kk,yy,k0,k1,k2,k3,k4⟩
  ·simp [k0] at hQ
   simp [hst,nodeP_none h2.cov k0]
   exact hQ
  ·have hk:=hg _ _ k3
   have he:binInt .eql (u8 (T.node c.i).kind) (.int .u8 2)=some (vb (decide ((T.node c.i).kind=2#8))):=by simp
   simp at hQ
   simp [hst,nodeP_some h2.cov.nd k1,nilp_p,hk,inC,he]
   exact hQ
def belowM (M:List MntD) (p:PlaceD):Nat:=(M.filter fun m=>decide (m.id<=p.m)).length
theorem getT_some {id:Int} {m:MntD} (h:getT M id=some m):m∈M/\m.id=id:=⟨List.mem_of_find?_eq_some h,by simpa using List.find?_some h⟩
theorem downT_some {p q:PlaceD} (h:downT M p=some q):∃ m,getT M p.m=some m/\m.id≠0/\m.root=p.i/\m.at_=q:=by
 unfold downT at h
 split at h
 ·simp at h
 ·rename_i m hm
  split at h
  ·simp at h
  ·rename_i hc
   simp only [not_or,Decidable.not_not] at hc
   exact ⟨m,hm,hc.1,hc.2,by simpa using h⟩
theorem below_step (ho:Older M) {p q:PlaceD} (h:downT M p=some q):belowM M q<belowM M p:=by
 obtain ⟨m,h1,h2,h3,rfl⟩:=downT_some h
 obtain ⟨hm,hi⟩:=getT_some h1
 have:=ho m hm h2
 refine filter_lt _ _ M (fun x _ hx =>?_) m hm (by simpa using this) (by simpa using Int.le_of_eq hi)
 simp only [decide_eq_true_eq] at hx ⊢
 omega
theorem downsN_stable (ho:Older M):∀ (n:Nat) (p:PlaceD),belowM M p<=n->downsN M n p=downsN M (n+1) p
 | 0,p,h=>by
  cases hf:downT M p with
  | none=>simp [downsN,hf]
  | some q=>have:=below_step ho hf; omega
 | n+1,p,h=>by
  cases hf:downT M p with
  | none=>simp [downsN,hf]
  | some q =>
   have:=below_step ho hf
   have ih:=downsN_stable ho n q (by omega)
   rw [downsN,downsN,hf]
   exact ih
theorem below_le (M:List MntD) (p:PlaceD):belowM M p<=M.length:=List.length_filter_le _ _
theorem downs_none {p:PlaceD} (h:downT M p=none):downs M p=p:=by
 unfold downs
 cases M.length <;> simp [downsN,h]
theorem downs_some (ho:Older M) {p q:PlaceD} (h:downT M p=some q):downs M p=downs M q:=by
 have h1:=below_step ho h
 have h2:=below_le M p
 unfold downs
 obtain ⟨n,hn⟩:∃ n,M.length=n+1:=⟨M.length - 1,by omega⟩
 rw [hn,downsN,h]
 exact downsN_stable ho n _ (by omega)
theorem mkPlace (a:Int) (b:BitVec 16):buildV [(0,1),(1,1)] #[(.int .i64 0),(.int .u16 0)] [(0,vi a),(1,u16 b)]=some (PlaceD.v ⟨a,b⟩):=rfl
theorem mkPlace0:buildV [(0,1),(1,1)] #[(.int .i64 0),(.int .u16 0)] []=some PlaceD.zero.v:=rfl
theorem S.f113 (hE:Fold E) (h:WkAt H t T M) (c:PlaceD) (hQ:∀ H',Ext H H'->Q (upP T M c).v H'):E.call (E.fid i.f113) [ptr t 0,c.v] H Q:=by
 apply hE.f113
 simp [F.f113]
 generalize hH2:(H.new _).new _=H2
 have x2:Ext H H2:=by subst hH2; exact ((Ext.refl H).new _).new _
 have k1:H2.get H.next = .cells c.cells none:=by subst hH2; simp [AH.get_new]
 have k2:H2.get (H.next+1) = .cells [vi 0,u16 0#16] none:=by subst hH2; simp [AH.get_new]
 clear hH2
 have hl:loadN 2 (ptr H.next 0) H2=some c.v:=by rw [loadN_ptr,k1]; rfl
 simp [hl]
 refine S.f111 hE (h.mono x2) c fun H3 e3 =>?_
 have st:∀ (z:PlaceD) (H':AH),H'.get (H.next+1) = .cells [vi 0,u16 0#16] none->storeN 2 (ptr (H.next+1) 0) z.v H'=some (H'.put (H.next+1) (.cells z.cells none))/\loadN 2 (ptr (H.next+1) 0) (H'.put (H.next+1) (.cells z.cells none))=some z.v:=by
  intro z H' hh
  constructor
  ·rw [storeN_ptr,hh]; rfl
  ·rw [loadN_ptr,AH.get_put_self _ _ (AH.lt_cells hh)]; rfl
 unfold upP at hQ
 cases hd:dirP T M c with
 | false =>
  rw [hd] at hQ
  simp at hQ
  simp
  refine S.f43 hE fun H4 e4 =>?_
  obtain ⟨s1,s2⟩:=st ⟨0,1#16⟩ H4 (e4.cells (e3.cells k2))
  simp [s1,s2]
  exact hQ _ ((x2.trans (e3.trans e4)).put (b:=H.next+1) (by omega) _)
 | true =>
  rw [hd] at hQ
  simp at hQ
  simp
  refine LoopL.ind (fun n s H'=>∃ r,n=belowM M r/\s=[ptr t 0,ptr H.next 0,ptr (H.next+1) 0]/\Ext H H'/\downs M r=downs M c/\H'.get H.next = .cells r.cells none/\H'.get (H.next+1) = .cells [vi 0,u16 0#16] none) ?_ (belowM M c) ⟨c,rfl,rfl,x2.trans e3,rfl,e3.cells k1,e3.cells k2⟩
  rintro n _ H4 X hX ⟨r,rfl,rfl,e4,hs,m1,m2⟩
  obtain ⟨⟨p,m,L,q,nx,h1,h2,h3⟩,ho⟩:=h.mono e4
  have l1:=AH.lt_cells m1
  have l2:=AH.lt_cells m2
  have hl:loadN 2 (ptr H.next 0) H4=some r.v:=by rw [loadN_ptr,m1]; rfl
  simp [F.f113_l1,h1,hl]
  have x5:Ext H4 (H4.new (.cells [vi 0,u16 0#16] none)):=(Ext.refl _).new _
  have hb5:=AH.get_new_self H4 (.cells [vi 0,u16 0#16] none)
  refine S.f34 hE q M nx r (h3.mono x5) fun H5 e5 =>?_
  have hb5':=e5.cells hb5
  refine ⟨by rw [hb5',hb5],?_⟩
  have hst:storeN 2 (ptr H4.next 0) (optP (downT M r)).v H5=some (H5.put H4.next (.cells (optP (downT M r)).cells none)):=by rw [storeN_ptr,hb5']; rfl
  have hg:∀ b cs,H4.get b = .cells cs none->(H5.put H4.next (.cells (optP (downT M r)).cells none)).get b = .cells cs none:=fun b cs hh=>by
   rw [AH.get_put_ne _ _ (Nat.ne_of_lt (AH.lt_cells hh))]; exact (x5.trans e5).cells hh
  have x6:Ext H4 (H5.put H4.next (.cells (optP (downT M r)).cells none)):=(x5.trans e5).put (b:=H4.next) (Nat.le_refl _) _
  have hb6:(H5.put H4.next (.cells (optP (downT M r)).cells none)).get H4.next = .cells (optP (downT M r)).cells none:=AH.get_put_self _ _ (AH.lt_cells hb5')
  simp [hst]
  generalize H5.put H4.next (.cells (optP (downT M r)).cells none)=H6 at *
  cases hdn:downT M r with
  | none =>
   have hdr:=downs_none hdn
   rw [<- hs,hdr] at hQ
   simp [hg _ _ h1,hg _ _ m1,PlaceD.cells]
   refine S.f8 hE (h2.mono x6) r.i ?_
   rcases (h2.mono x6).get r.i with ⟨k0,_⟩ | ⟨kk,yy,k0,k1,k2,k3,k4⟩
   ·simp [nodeP_none h2.cov k0]
    refine S.f43 hE fun H7 e7 =>?_
    obtain ⟨s1,s2⟩:=st ⟨0,1#16⟩ H7 (e7.cells (hg _ _ m2))
    simp [s1,s2]
    simp [k0] at hQ
    exact hQ _ ((e4.trans (x6.trans e7)).put (b:=H.next+1) (by omega) _)
   ·simp [nodeP_some h2.cov.nd k1,nilq_p,hg _ _ h1,hg _ _ m1,PlaceD.cells,k3,inC,mkPlace]
    refine S.f37 hE q M nx ⟨r.m,(T.node r.i).parent⟩ (h3.mono x6) ho fun H7 e7 =>?_
    obtain ⟨s1,s2⟩:=st (seen M ⟨r.m,(T.node r.i).parent⟩) H7 (e7.cells (hg _ _ m2))
    simp [s1,s2]
    simp [k0] at hQ
    exact hQ _ ((e4.trans (x6.trans e7)).put (b:=H.next+1) (by omega) _)
  | some q' =>
   have hdr:=downs_some ho hdn
   have hlt:=below_step ho hdn
   rw [hdn] at hb6
   have hl6:loadN 2 (ptr H4.next 0) H6=some q'.v:=by rw [loadN_ptr,hb6]; rfl
   have hs6:storeN 2 (ptr H.next 0) q'.v H6=some (H6.put H.next (.cells q'.cells none)):=by rw [storeN_ptr,hg _ _ m1]; rfl
   simp [hl6,hs6]
   refine hX (belowM M q') hlt _ _ ⟨q',rfl,rfl,(e4.trans x6).put (b:=H.next) (Nat.le_refl _) _,by rw [<- hdr]; exact hs,AH.get_put_self _ _ (AH.lt_cells (hg _ _ m1)),?_⟩
   rw [AH.get_put_ne _ _ (by omega)]
   exact hg _ _ m2
end
end Go.AM
end
section
namespace Go.AM
def wayC (t:Nat) (w:WayD) (lv:Value):List Value:=[ptr t 0,vi w.at_.m,u16 w.at_.i,lv,vi (w.links:Nat)]
abbrev wayV (t:Nat) (w:WayD) (lv:Value):Value := .agg (wayC t w lv).toArray
theorem Rows.plainV {H:AH} {v:Value} {rows:List (List Value)} {sz:Nat} (h:Rows H sz v rows):plain1 v=true:=by
 rcases h.at_ with ⟨_,c,rfl⟩ | ⟨b,o,c,rfl,_⟩
 ·cases c <;> rfl
 ·rfl
section
variable {E:Sy} {H H0 Z:AH} {Q:Value->AH->Prop} {t:Nat} {T:Tr} {M:List MntD} {L:List Res}
theorem wayC_plain (t:Nat) (w:WayD) {lv:Value} (h:plain1 lv=true):(wayC t w lv).all plain1=true:=by
 simp only [wayC,List.all_cons,List.all_nil,h]; rfl
theorem way_store (t:Nat) (w:WayD) {lv:Value} (h:plain1 lv=true) {b:Nat} {cs:List Value} (hl:cs.length=5) {H:AH} (hg:H.get b = .cells cs none):storeN 5 (ptr b 0) (wayV t w lv) H=some (H.put b (.cells (wayC t w lv) none)):=by
 rw [storeN_ptr,hg]
 have h5:(wayC t w lv).length=5:=rfl
 have:AM.splice cs 0 (wayC t w lv)=wayC t w lv:=by simp [splice,hl,h5]
 simp only [List.size_toArray,List.toList_toArray,wayC_plain t w h,h5,hl,Nat.zero_add,Nat.le_refl,and_self,if_true,this]
theorem way_load (t:Nat) (w:WayD) {lv:Value} {b:Nat} {H:AH} (hg:H.get b = .cells (wayC t w lv) none):loadN 5 (ptr b 0) H=some (wayV t w lv):=by
 rw [loadN_ptr,hg]; rfl
theorem S.f114 (hE:Fold E) (h:WkAt H t T M) (c:PlaceD) (path:List UInt8) (hp:path.length<2 ^ 63) (hQ:∀ lv H',Ext H H'->Rows H' 1 lv (strR (beginW M c path).1.left)->FreshV H.next lv->Q (.tuple #[wayV t (beginW M c path).1 lv,vi (beginW M c path).2]) H'):E.call (E.fid i.f114) [ptr t 0,c.v,str path] H Q:=by
 apply hE.f114
 have hz:([.pointer none,vi 0,u16 0#16,nilS,vi 0]:List Value).length=5:=rfl
 have hbv:buildV [(0,1),(1,2),(3,1),(4,1)] #[(.pointer none),(.int .i64 0),u16 0#16,(.slice none 0 0),(.int .i64 0)] [(0,ptr t 0),(1,c.v)]=some (wayV t ⟨c,[],0⟩ nilS):=rfl
 simp only [F.f114,boxO_agg_z,AM.mk_some,mkPtr_eq_z,allocW_eq,AH.next_new_z,u16_lit0_z,tk_eq]
 generalize hH2:(H.new _).new _=H2
 have x2:Ext H H2:=by subst hH2; exact ((Ext.refl H).new _).new _
 have k1:H2.get H.next = .cells c.cells none:=by subst hH2; simp [AH.get_new]
 have k2:H2.get (H.next+1) = .cells [.pointer none,vi 0,u16 0#16,nilS,vi 0] none:=by subst hH2; simp [AH.get_new]
 have n2:H2.next=H.next+2:=by subst hH2; simp
 clear hH2
 have hl:loadN 2 (ptr H.next 0) H2=some c.v:=by rw [loadN_ptr,k1]; rfl
 have x3:Ext H2 (H2.new (.cells [.pointer none,vi 0,u16 0#16,nilS,vi 0] none)):=(Ext.refl _).new _
 have k3:=AH.get_new_self H2 (.cells [.pointer none,vi 0,u16 0#16,nilS,vi 0] none)
 have s3:=way_store t ⟨c,[],0⟩ (lv:=nilS) rfl hz k3
 simp only [AH.next_new_z,hl,hbv,allocW_eq,u16_lit0_z,s3,tk_eq,opt_some]
 have x4:Ext H2 ((H2.new (.cells [.pointer none,vi 0,u16 0#16,nilS,vi 0] none)).put H2.next (.cells (wayC t ⟨c,[],0⟩ nilS) none)):=x3.put (b:=H2.next) (Nat.le_refl _) _
 have k4:((H2.new (.cells [.pointer none,vi 0,u16 0#16,nilS,vi 0] none)).put H2.next (.cells (wayC t ⟨c,[],0⟩ nilS) none)).get H2.next = .cells (wayC t ⟨c,[],0⟩ nilS) none:=AH.get_put_self _ _ (AH.lt_cells k3)
 generalize (H2.new (.cells [.pointer none,vi 0,u16 0#16,nilS,vi 0] none)).put H2.next (.cells (wayC t ⟨c,[],0⟩ nilS) none)=H4 at *
 refine S.f115 hE (h.mono (x2.trans x4)) ?_
 have fin:∀ (w:WayD) (lv:Value) (e:Int) (H':AH) (R:Value->AH->Prop),H'.get H2.next = .cells (wayC t w lv) none->H'.get (H.next+1) = .cells [.pointer none,vi 0,u16 0#16,nilS,vi 0] none->plain1 lv=true ->
   R (.tuple #[wayV t w lv,vi e]) (H'.put (H.next+1) (.cells (wayC t w lv) none)) ->
   opt (loadN 5 (ptr H2.next 0) H') fun v8=>opt (storeN 5 (ptr (H.next+1) 0) v8 H') fun H6=>opt (loadN 5 (ptr (H.next+1) 0) H6) fun v9=>R (.tuple #[v9,vi e]) H6:=by
  intro w lv e H' R g1 g2 hpl hR
  simp only [way_load t w g1,way_store t w hpl hz g2,way_load t w (AH.get_put_self _ _ (AH.lt_cells g2)),tk_eq,opt_some]
  exact hR
 simp only [un_not_z,Bool.not_true,tk_eq,opt_some,ifB_false]
 unfold beginW at hQ
 have k24:=x4.cells k2
 have x24:=x2.trans x4
 by_cases h0:path=[]
 ·subst h0
  simp only [show binStr .eql (str []) (.string ⟨#[]⟩)=some (vb true) from binStr_eql [] [],AH.next_new_z,tk_eq,opt_some,ifB_true]
  refine fin ⟨c,[],0⟩ nilS 2 H4 Q k4 k24 rfl (hQ nilS _ (x24.put (b:=H.next+1) (by omega) _) ?_ (by simp [FreshV,blk]))
  simpa [strR] using Rows.nil _ 1 none
 have h0':binStr .eql (str path) (.string ⟨#[]⟩)=some (vb false):=by
  show binStr .eql (str path) (str [])=_
  rw [binStr_eql]; simp [h0]
 by_cases h1:120<path.length
 ·have h1':(120:Int)<path.length:=by omega
  simp only [h0',lenStr_s,i64_gtr,gt_iff_lt,h1',decide_true,tk_eq,opt_some,ifB_true,ifB_false]
  simp only [h0,h1,if_false,if_true] at hQ
  refine fin ⟨c,[],0⟩ nilS 36 H4 Q k4 k24 rfl (hQ nilS _ (x24.put (b:=H.next+1) (by omega) _) ?_ (by simp [FreshV,blk]))
  simpa [strR] using Rows.nil _ 1 none
 have h1':¬ (120:Int)<path.length:=by omega
 simp only [h0,h1,if_false] at hQ
 have join:∀ (a:PlaceD) (H':AH),Ext H H'->H'.get H2.next = .cells (wayC t ⟨a,[],0⟩ nilS) none->H'.get (H.next+1) = .cells [.pointer none,vi 0,u16 0#16,nilS,vi 0] none ->
   (∀ lv H',Ext H H'->Rows H' 1 lv (strR (partsL path))->FreshV H.next lv->Q (.tuple #[wayV t ⟨a,partsL path,0⟩ lv,vi 0]) H')->F.f114_j1 E Q (str path) (ptr (H.next+1) 0) (ptr H2.next 0) H':=by
  intro a H' e g1 g2 hQ'
  simp only [F.f114_j1]
  refine S.f116 hE path (by omega) fun lv H5 e5 g5 f5 =>?_
  have m1:=e5.cells g1
  have m2:=e5.cells g2
  have hpl:=g5.plain
  have hst:store1 (ptr H2.next 3) lv H5=some (H5.put H2.next (.cells (wayC t ⟨a,partsL path,0⟩ lv) none)):=by
   rw [store1_ptr,if_pos hpl,m1]; rfl
  simp only [addOff_ptr,Nat.zero_add,hst,tk_eq,opt_some]
  have l1:=AH.lt_cells m1
  refine fin ⟨a,partsL path,0⟩ lv 0 _ Q (AH.get_put_self _ _ l1) (by rw [AH.get_put_ne _ _ (by omega)]; exact m2) hpl (hQ' lv _ (((e.trans e5).put (b:=H2.next) (by omega) _).put (b:=H.next+1) (by omega) _) ?_ (fun b hb=>Nat.le_trans e.1 (f5 b hb)))
  have hb:∀ b,blk lv=some b->b≠H2.next/\b≠H.next+1:=fun b hb=>by
   have:=f5 b hb
   have:=AH.lt_cells g1
   have:=AH.lt_cells g2
   omega
  exact (g5.keep fun b hb' _=>by rw [AH.get_put_ne _ _ (hb b hb').2,AH.get_put_ne _ _ (hb b hb').1]).toRows
 obtain ⟨ch,tl,rfl⟩:∃ ch tl,path=ch :: tl:=by
  cases path with
  | nil=>exact (h0 rfl).elim
  | cons ch tl=>exact ⟨ch,tl,rfl⟩
 have hix:ixStr (str (ch :: tl)) (.int .i64 0)=some (.int .u8 ch.toNat):=rfl
 by_cases hc:ch=47
 ·subst hc
  have hc':binInt .eql (.int .u8 (UInt8.toNat 47)) (.int .u8 47)=some (vb true):=rfl
  obtain ⟨⟨p,m,L,q,nx,h1,h2,h3⟩,ho⟩:=h.mono x24
  simp only [h0',lenStr_s,i64_gtr,gt_iff_lt,h1',decide_false,hix,hc',nilCk_p,addOff_ptr,load1_ptr,Nat.zero_add,h1,cell_cells_z,List.getElem?_cons_succ,List.getElem?_cons_zero,tk_eq,opt_some,ifB_true,ifB_false]
  refine S.f43 hE fun H5 e5 =>?_
  refine ⟨by rw [load1_ptr,load1_ptr,e5.cells h1,h1],?_⟩
  refine S.f37 hE q M nx ⟨0,1#16⟩ (h3.mono e5) ho fun H6 e6 =>?_
  have m1:=e6.cells (e5.cells k4)
  have hst:storeN 2 (ptr H2.next 1) (seen M ⟨0,1#16⟩).v H6=some (H6.put H2.next (.cells (wayC t ⟨seen M ⟨0,1#16⟩,[],0⟩ nilS) none)):=by
   rw [storeN_ptr,m1]; rfl
  simp only [addOff_ptr,Nat.zero_add,hst,AH.next_new_z,tk_eq,opt_some]
  refine join (seen M ⟨0,1#16⟩) _ ((x24.trans (e5.trans e6)).put (b:=H2.next) (by omega) _) (AH.get_put_self _ _ (AH.lt_cells m1)) (by rw [AH.get_put_ne _ _ (by omega)]; exact e6.cells (e5.cells k24)) ?_
  simpa [topP] using hQ
 ·have hc':binInt .eql (.int .u8 ch.toNat) (.int .u8 47)=some (vb false):=by
   have:¬ ch.toNat=47:=fun e=>hc (UInt8.toNat_inj.1 e)
   show some (vb (((ch.toNat:Int)) == 47))=_
   congr 2
   simp; omega
  simp only [h0',lenStr_s,i64_gtr,gt_iff_lt,h1',decide_false,hix,hc',tk_eq,opt_some,ifB_false]
  refine join c _ x24 k4 k24 ?_
  simpa [hc] using hQ
theorem set_last {α:Type} (L:List α) (r r':α):(L++[r]).set L.length r'=L++[r']:=by
 rw [List.set_append_right _ _ (Nat.le_refl _),Nat.sub_self]; rfl
theorem erase_last {α:Type} (L:List α) (r:α):(L++[r]).eraseIdx L.length=L:=by
 rw [List.eraseIdx_append_of_length_le (Nat.le_refl _),Nat.sub_self]; simp
theorem setL_snoc {α:Type} (L:List α) (r x:α) {k:Nat} (hk:k<L.length):(L++[r]).set k x=L.set k x++[r]:=List.set_append_left _ _ hk
theorem getE_lt {α:Type} {L:List α} {k:Nat} {r:α} (h:L[k]? = some r):k<L.length:=(List.getElem?_eq_some_iff.1 h).1
theorem getE_set {α:Type} {L:List α} {k:Nat} {r:α} (h:L[k]? = some r) (x:α):(L.set k x)[k]? = some x:=by
 have:=getE_lt h
 simp [this]
theorem getE_snoc {α:Type} {L:List α} {k:Nat} {r:α} (h:L[k]? = some r) (x:α):(L++[x])[k]? = some r:=by
 rw [List.getElem?_append_left (getE_lt h)]; exact h
def followY (M:List MntD) (w:WayD) (text:List UInt8):WayD×Int :=
 if 8<w.links+1 then (⟨w.at_,w.left,w.links+1⟩,40) else (⟨if text.head? = some 47 then seen M topP else w.at_,partsL text++w.left,w.links+1⟩,0)
theorem S.f117 (hE:Fold E) (h:WkAt H0 t T M) {w:WayD} {lv:Value} {k b:Nat} (hs:Has H0 Z H L) (hk:L[k]? = some (boxR b (wayC t w lv))) (hl:Rows Z 1 lv (strR w.left)) (hn:w.left.length<2 ^ 40) (hlk:w.links<=100) (text:List UInt8) (ht:text≠[]/\text.length<=120)
  (hQ:∀ lv' Z' H',Fz H0.next Z Z'->Has H0 Z' H' (L.set k (boxR b (wayC t (followY M w text).1 lv')))->Rows Z' 1 lv' (strR (followY M w text).1.left)->Q (vi (followY M w text).2) H'):E.call (E.fid i.f117) [ptr b 0,str text] H Q:=by
 apply hE.f117
 have hb:=hs.box hk
 have hadd:binInt .add (vi (w.links:Nat)) (.int .i64 1)=some (vi ((w.links+1:Nat):Int)):=i64_inc (by omega)
 have hst:store1 (ptr b 4) (vi ((w.links+1:Nat):Int)) H=some (H.put b (.cells (wayC t ⟨w.at_,w.left,w.links+1⟩ lv) none)):=by
  rw [store1_ptr,if_pos (show plain1 (vi ((w.links+1:Nat):Int))=true from rfl),hb]; rfl
 have h1:=hs.put hk (wayC t ⟨w.at_,w.left,w.links+1⟩ lv)
 have hk1:=getE_set hk (boxR b (wayC t ⟨w.at_,w.left,w.links+1⟩ lv))
 have c4:(wayC t w lv)[4]? = some (vi (w.links:Nat)):=rfl
 simp only [F.f117,nilCk_p,addOff_ptr,load1_ptr,Nat.zero_add,hb,cell_cells_z,c4,hadd,hst,tk_eq,opt_some]
 generalize H.put b (.cells (wayC t ⟨w.at_,w.left,w.links+1⟩ lv) none)=H1 at *
 have hb1:=h1.box hk1
 have c41:(wayC t ⟨w.at_,w.left,w.links+1⟩ lv)[4]? = some (vi ((w.links+1:Nat):Int)):=rfl
 unfold followY at hQ
 by_cases h8:8<w.links+1
 ·have h8':(8:Int)<((w.links+1:Nat):Int):=by omega
  simp only [hb1,cell_cells_z,c41,i64_gtr,gt_iff_lt,h8',decide_true,tk_eq,opt_some,ifB_true]
  rw [if_pos h8] at hQ
  exact hQ lv Z H1 (Fz.refl _ _) h1 hl
 rw [if_neg h8] at hQ
 have h8':¬ (8:Int)<((w.links+1:Nat):Int):=by omega
 obtain ⟨ch,tl,rfl⟩:∃ ch tl,text=ch :: tl:=by
  cases text with
  | nil=>exact (ht.1 rfl).elim
  | cons ch tl=>exact ⟨ch,tl,rfl⟩
 have hix:ixStr (str (ch :: tl)) (.int .i64 0)=some (.int .u8 ch.toNat):=rfl
 have join:∀ (a:PlaceD) (H':AH),Has H0 Z H' (L.set k (boxR b (wayC t ⟨a,w.left,w.links+1⟩ lv))) ->
   (∀ lv' Z' H',Fz H0.next Z Z'->Has H0 Z' H' (L.set k (boxR b (wayC t ⟨a,partsL (ch :: tl)++w.left,w.links+1⟩ lv')))->Rows Z' 1 lv' (strR (partsL (ch :: tl)++w.left))->Q (vi 0) H')->F.f117_j1 E Q (ptr b 0) (str (ch :: tl)) H':=by
  intro a H' g hQ'
  have hkk:=getE_set hk (boxR b (wayC t ⟨a,w.left,w.links+1⟩ lv))
  have gb:=g.box hkk
  have c3:(wayC t ⟨a,w.left,w.links+1⟩ lv)[3]? = some lv:=rfl
  simp only [F.f117_j1,nilCk_p,addOff_ptr,load1_ptr,Nat.zero_add,gb,cell_cells_z,c3,tk_eq,opt_some]
  refine S.f116 hE _ (by omega) fun v H5 e5 g5 f5 =>?_
  have hpl:=partsL_le (ch :: tl)
  have g1:Has H0 Z H5 (L.set k (boxR b (wayC t ⟨a,w.left,w.links+1⟩ lv))++[growR 1 v (strR (partsL (ch :: tl)))]) :=
   g.add _ e5 g5 (fun x hx=>⟨f5 x (mem_blkL.1 hx),g5.blk_lt (mem_blkL.1 hx)⟩) (blkL_nodup v)
  generalize hLL:L.set k (boxR b (wayC t ⟨a,w.left,w.links+1⟩ lv))=LL at *
  have gb5:=g1.box (getE_snoc hkk _)
  refine ⟨by rw [load1_ptr,load1_ptr,gb5,gb],?_⟩
  have hx:=hl.sub g1.sub
  have hkl:(LL++[growR 1 v (strR (partsL (ch :: tl)))])[LL.length]? = some (growR 1 v (strR (partsL (ch :: tl)))):=by simp
  simp only [List.length_cons] at ht hpl
  obtain ⟨v',H6,a1,a2,a3⟩:=g1.app hkl (bytes:=16) hx (by intro r hr; simp only [strR,List.mem_map] at hr; obtain ⟨_,_,rfl⟩:=hr; rfl) (by decide) (by decide) (by rw [strR_length,strR_length]; omega) (by rw [strR_length,strR_length]; omega)
  rw [set_last] at a3
  have gb6:=a3.box (getE_snoc hkk _)
  have hst2:store1 (ptr b 3) v' H6=some (H6.put b (.cells (wayC t ⟨a,partsL (ch :: tl)++w.left,w.links+1⟩ v') none)):=by
   rw [store1_ptr,if_pos a2,gb6]; rfl
  have a4:=a3.put (getE_snoc hkk _) (wayC t ⟨a,partsL (ch :: tl)++w.left,w.links+1⟩ v')
  rw [setL_snoc _ _ _ (getE_lt hkk)] at a4
  have hlen:(LL.set k (boxR b (wayC t ⟨a,partsL (ch :: tl)++w.left,w.links+1⟩ v'))).length=LL.length:=by simp
  obtain ⟨Z',z1,z2,z3⟩:=a4.freeze (k:=LL.length) (r:=growR 1 v' (strR (partsL (ch :: tl))++strR w.left)) (by rw [<- hlen]; simp)
  rw [<- hlen,erase_last] at z3
  subst hLL
  rw [List.set_set] at z3
  simp only [a1,nilCk_p,addOff_ptr,Nat.zero_add,hst2,tk_eq,opt2_some,opt_some]
  refine hQ' v' Z' _ z1 z3 ?_
  have:=Grow.toRows z2
  rw [<- show strR (partsL (ch :: tl))++strR w.left=strR (partsL (ch :: tl)++w.left) by simp [strR]]
  exact this
 by_cases hc:ch=47
 ·subst hc
  have hc':binInt .eql (.int .u8 (UInt8.toNat 47)) (.int .u8 47)=some (vb true):=rfl
  obtain ⟨⟨p,m,L',q,nx,q1,q2,q3⟩,ho⟩:=h.mono h1.ext
  have c0:(wayC t ⟨w.at_,w.left,w.links+1⟩ lv)[0]? = some (ptr t 0):=rfl
  simp only [hb1,cell_cells_z,c41,i64_gtr,gt_iff_lt,h8',decide_false,hix,hc',c0,nilCk_p,addOff_ptr,load1_ptr,Nat.zero_add,Nat.add_zero,q1,List.getElem?_cons_succ,List.getElem?_cons_zero,tk_eq,opt_some,ifB_true,ifB_false]
  refine S.f43 hE fun H5 e5 =>?_
  have h5:=h1.grow e5
  refine ⟨by rw [load1_ptr,load1_ptr,e5.cells q1,q1],by rw [load1_ptr,load1_ptr,h5.box hk1,hb1],?_⟩
  refine S.f37 hE q M nx ⟨0,1#16⟩ (q3.mono e5) ho fun H6 e6 =>?_
  have h6:=h5.grow e6
  have hb6:=h6.box hk1
  have hst3:storeN 2 (ptr b 1) (seen M ⟨0,1#16⟩).v H6=some (H6.put b (.cells (wayC t ⟨seen M ⟨0,1#16⟩,w.left,w.links+1⟩ lv) none)):=by
   rw [storeN_ptr,hb6]; rfl
  have h7:=h6.put hk1 (wayC t ⟨seen M ⟨0,1#16⟩,w.left,w.links+1⟩ lv)
  rw [List.set_set] at h7
  simp only [nilCk_p,addOff_ptr,Nat.zero_add,hst3,tk_eq,opt_some]
  refine join _ _ h7 ?_
  simpa [topP] using hQ
 ·have hc':binInt .eql (.int .u8 ch.toNat) (.int .u8 47)=some (vb false):=by
   have:¬ ch.toNat=47:=fun e=>hc (UInt8.toNat_inj.1 e)
   show some (vb (((ch.toNat:Int)) == 47))=_
   congr 2
   simp; omega
  simp only [hb1,cell_cells_z,c41,i64_gtr,gt_iff_lt,h8',decide_false,hix,hc',tk_eq,opt_some,ifB_false]
  refine join _ _ h1 ?_
  simpa [hc] using hQ
end
end Go.AM
end
section
namespace Go.AM
def Tr.LT (T:Tr):Prop:=∀ n,(T.node n).kind=3#8->(T.node n).text≠[]/\(T.node n).text.length<=120
section
variable {E:Sy} {H H0 Z:AH} {Q:Value->AH->Prop} {t:Nat} {T:Tr} {M:List MntD} {L:List Res}
theorem S.f118 (hE:Fold E) (h:WkAt H0 t T M) (wf:T.WF) (lt:T.LT) {w:WayD} {lv:Value} {k b:Nat} (hs:Has H0 Z H L) (hk:L[k]? = some (boxR b (wayC t w lv))) (hl:Rows Z 1 lv (strR w.left)) (hn:w.left.length<2 ^ 40) (hlk:w.links<=100) (hne:w.left≠[]) (follow:Bool)
  (hQ:∀ lv' Z' H',Fz H0.next Z Z'->Has H0 Z' H' (L.set k (boxR b (wayC t (stepY T M w follow).1 lv')))->Rows Z' 1 lv' (strR (stepY T M w follow).1.left)->Q (vi (stepY T M w follow).2) H'):E.call (E.fid i.f118) [ptr b 0,vb follow] H Q:=by
 apply hE.f118
 obtain ⟨a0,left,links⟩:=w
 cases left with
 | nil=>exact (hne rfl).elim
 | cons name left =>
 have hb:=hs.box hk
 have hl1:=hl.sub hs.sub
 obtain ⟨b1,o1,p1,p2,_⟩:=ix_strR hl1 (i:=0) (by simp)
 have p1:ixSlc 1 lv (vi 0)=some (ptr b1 o1):=p1
 have p2:(H.get b1).cell o1=some (str name):=p2
 have hlenL:(strR (name :: left)).length=left.length+1:=by simp [strR]
 obtain ⟨s1,_⟩:=hl1.slice' (lo:=some (vi (1:Nat))) (hi:=none) (i:=1) (j:=left.length+1) (.inl rfl) (.inr ⟨rfl,by rw [hlenL]⟩) (by omega) (by rw [hlenL]; exact Nat.le_refl _)
 obtain ⟨_,s2⟩:=hl.slice' (lo:=some (vi (1:Nat))) (hi:=none) (i:=1) (j:=left.length+1) (.inl rfl) (.inr ⟨rfl,by rw [hlenL]⟩) (by omega) (by rw [hlenL]; exact Nat.le_refl _)
 rw [List.take_of_length_le (by rw [hlenL]; exact Nat.le_refl _)] at s2
 have s2:Rows Z 1 (sliceV 1 lv 1 (left.length+1)) (strR left):=by simpa [strR] using s2
 have s1:slSlc 1 lv (some (vi 1)) none none H=some (sliceV 1 lv 1 (left.length+1)):=s1
 have hpl:=s2.plainV
 generalize sliceV 1 lv 1 (left.length+1)=lv1 at *
 have hst:store1 (ptr b 3) lv1 H=some (H.put b (.cells (wayC t ⟨a0,left,links⟩ lv1) none)):=by
  rw [store1_ptr,if_pos hpl,hb]; rfl
 have h1:=hs.put hk (wayC t ⟨a0,left,links⟩ lv1)
 have hk1:=getE_set hk (boxR b (wayC t ⟨a0,left,links⟩ lv1))
 have c3:(wayC t ⟨a0,name :: left,links⟩ lv)[3]? = some lv:=rfl
 simp only [F.f118,hb,c3,p1,p2,s1,hst,stdZ]
 generalize H.put b (.cells (wayC t ⟨a0,left,links⟩ lv1) none)=H1 at *
 have hb1:=h1.box hk1
 have c0:(wayC t ⟨a0,left,links⟩ lv1)[0]? = some (ptr t 0):=rfl
 have hlo:loadN 2 (ptr b 1) H1=some a0.v:=by rw [loadN_ptr,hb1]; rfl
 simp only [hb1,c0,hlo,stdZ]
 refine S.f111 hE (h.mono h1.ext) a0 fun H2 e2 =>?_
 have h2:=h1.grow e2
 have hb2:=h2.box hk1
 have fin:∀ (a:PlaceD) (e:Int) (H':AH),Has H0 Z H' (L.set k (boxR b (wayC t ⟨a,left,links⟩ lv1)))->(stepY T M ⟨a0,name :: left,links⟩ follow)=(⟨a,left,links⟩,e)->Q (vi e) H':=by
  intro a e H' g he
  rw [he] at hQ
  exact hQ lv1 Z H' (Fz.refl _ _) g s2
 simp only [un_not_z,stdZ]
 cases hd:dirP T M a0 with
 | false =>
  simp only [Bool.not_false,ifB_true]
  refine fin a0 20 _ h2 ?_
  simp [stepY,hd]
 | true =>
 simp only [Bool.not_true,ifB_false]
 by_cases hdd:name=[46,46]
 ·have hdd':binStr .eql (str name) (.string ⟨#[46,46]⟩)=some (vb true):=by
   show binStr .eql (str name) (str [46,46])=_
   rw [binStr_eql]; simp [hdd]
  have hlo2:loadN 2 (ptr b 1) H2=some a0.v:=by rw [loadN_ptr,hb2]; rfl
  simp only [hdd',hb2,c0,hlo2,stdZ]
  refine S.f113 hE (h.mono h2.ext) a0 fun H3 e3 =>?_
  have h3:=h2.grow e3
  have hb3:=h3.box hk1
  have hst3:storeN 2 (ptr b 1) (upP T M a0).v H3=some (H3.put b (.cells (wayC t ⟨upP T M a0,left,links⟩ lv1) none)):=by
   rw [storeN_ptr,hb3]; rfl
  have h4:=h3.put hk1 (wayC t ⟨upP T M a0,left,links⟩ lv1)
  rw [List.set_set] at h4
  have hk4:=getE_set hk (boxR b (wayC t ⟨upP T M a0,left,links⟩ lv1))
  generalize hu:upP T M a0=u at *
  simp only [hst3,stdZ]
  generalize H3.put b (.cells (wayC t ⟨u,left,links⟩ lv1) none)=H4 at *
  have hb4:=h4.box hk4
  obtain ⟨⟨p,m,L',q,nx,q1,q2,q3⟩,ho⟩:=h.mono h4.ext
  have c04:(wayC t ⟨u,left,links⟩ lv1)[0]? = some (ptr t 0):=rfl
  have c24:(wayC t ⟨u,left,links⟩ lv1)[2]? = some (u16 u.i):=rfl
  simp only [hb4,c04,c24,q1,stdZ]
  refine S.f8 hE q2 u.i ?_
  have hlo4:loadN 2 (ptr b 1) H4=some u.v:=by rw [loadN_ptr,hb4]; rfl
  rcases q2.get u.i with ⟨k0,_⟩ | ⟨kk,yy,k0,k1,k2,k3,k4⟩
  ·simp [nodeP_none q2.cov k0]
   refine fin u 0 _ h4 ?_
   simp [stepY,hd,hdd,hu,k0]
  ·simp [-loadN_ptr,nodeP_some q2.cov.nd k1,nilp_p,hb4,c04,hlo4]
   refine S.f111 hE (h.mono h4.ext) u fun H5 e5 =>?_
   have h5:=h4.grow e5
   cases hdu:dirP T M u with
   | false =>
    simp
    refine fin u 2 _ h5 ?_
    simp [stepY,hd,hdd,hu,k0,hdu]
   | true =>
    simp
    refine fin u 0 _ h5 ?_
    simp [stepY,hd,hdd,hu,k0,hdu]
 have hdd':binStr .eql (str name) (.string ⟨#[46,46]⟩)=some (vb false):=by
  show binStr .eql (str name) (str [46,46])=_
  rw [binStr_eql]; simp [hdd]
 by_cases h14:14<name.length
 ·have h14':(14:Int)<name.length:=by omega
  simp only [hdd',lenStr_s,i64_gtr,gt_iff_lt,h14',decide_true,stdZ]
  refine fin a0 36 _ h2 ?_
  simp [stepY,hd,hdd,h14]
 have h14':¬ (14:Int)<name.length:=by omega
 obtain ⟨⟨p,m,L',q,nx,q1',q2',q3'⟩,ho⟩:=id h
 have q1:=h2.ext.cells q1'
 have q2:=q2'.mono h2.ext
 have q3:=q3'.mono h2.ext
 have c2:(wayC t ⟨a0,left,links⟩ lv1)[2]? = some (u16 a0.i):=rfl
 simp only [hdd',lenStr_s,i64_gtr,gt_iff_lt,h14',decide_false,hb2,c0,c2,q1,stdZ]
 refine S.f10 hE q2 a0.i name ?_
 have hstep:stepY T M ⟨a0,name :: left,links⟩ follow=if (T.look a0.i name).2≠0 then (⟨a0,left,links⟩,(T.look a0.i name).2) else
   if (T.node (T.look a0.i name).1).kind=3#8/\(follow=true\/left≠[]) then followY M ⟨a0,left,links⟩ (T.node (T.look a0.i name).1).text
   else if (T.node (T.look a0.i name).1).kind=2#8 then (⟨seen M ⟨a0.m,(T.look a0.i name).1⟩,left,links⟩,0) else (⟨⟨a0.m,(T.look a0.i name).1⟩,left,links⟩,0):=by
  simp [stepY,hd,hdd,h14,followY]
 rw [hstep] at fin hQ
 have hlook:(T.look a0.i name).2=0->(T.node (T.look a0.i name).1).kind≠0#8:=fun e=>(wf.pos (Tr.look_ok e).2).2.2.2.1
 generalize T.look a0.i name=lk at *
 simp only [ext_tuple,i64_neq,stdZ]
 by_cases he:lk.2=0
 rotate_left
 ·simp only [ne_eq,he,not_false_eq_true,decide_true,ifB_true]
  refine fin a0 lk.2 _ h2 ?_
  simp [he]
 rw [if_neg (by simpa using he)] at fin hQ
 simp only [ne_eq,he,not_true,decide_false,hb2,c0,q1,stdZ]
 refine S.f8 hE q2 lk.1 ?_
 rcases q2'.get lk.1 with ⟨k0,_⟩ | ⟨kk,yy,k0,k1,k2,k3',k4⟩
 ·exact (hlook he k0).elim
 have k3:=h2.ext.cells k3'
 simp only [nodeP_some q2.cov.nd k1,k3,inC,stdZ]
 have hl2:=strR_lenSlc (s2.sub h2.sub)
 have c3':(wayC t ⟨a0,left,links⟩ lv1)[3]? = some lv1:=rfl
 have c1':(wayC t ⟨a0,left,links⟩ lv1)[1]? = some (vi a0.m):=rfl
 have hnp:=nodeP_some q2.cov.nd k1
 have hnl:left.length<2 ^ 40:=by simp only [List.length_cons] at hn; omega
 have stay:¬ ((T.node lk.1).kind=3#8/\(follow=true\/left≠[])) -> 
   opt (nilCk (ptr b 0)) fun v94=>opt (addOff v94 1) fun v95=>opt (addOff v95 0) fun v96=>opt (load1 v96 H2) fun v97 =>
    opt (buildV [(0,1),(1,1)] #[(.int .i64 0),(.int .u16 0)] [(0,v97),(1,u16 lk.1)]) fun v98 =>
    opt (nilCk (ptr b 0)) fun v99=>opt (addOff v99 1) fun v100=>opt (storeN 2 v100 v98 H2) fun H28 =>
    opt (nilCk (nodeP L' lk.1)) fun v101=>opt (addOff v101 1) fun v102=>opt (load1 v102 H28) fun v103=>opt (binInt .eql v103 (.int .u8 2)) fun v104 =>
    ifB v104 (opt (nilCk (ptr b 0)) fun v105=>opt (addOff v105 0) fun v106=>opt (load1 v106 H28) fun v107=>opt (nilCk v107) fun v108=>opt (addOff v108 1) fun v109=>opt (load1 v109 H28) fun v110 =>
     opt (nilCk (ptr b 0)) fun v111=>opt (addOff v111 1) fun v112=>opt (loadN 2 v112 H28) fun v113 =>
     E.call (E.fid i.f37) [v110,v113] H28 fun v114 H29=>opt (nilCk (ptr b 0)) fun v115=>opt (addOff v115 1) fun v116=>opt (storeN 2 v116 v114 H29) fun H30=>Q (.int .i64 0) H30) (Q (.int .i64 0) H28):=by
  intro hnf
  rw [if_neg hnf] at fin
  have hst5:storeN 2 (ptr b 1) (PlaceD.v ⟨a0.m,lk.1⟩) H2=some (H2.put b (.cells (wayC t ⟨⟨a0.m,lk.1⟩,left,links⟩ lv1) none)):=by
   rw [storeN_ptr,hb2]; rfl
  have h5:=h2.put hk1 (wayC t ⟨⟨a0.m,lk.1⟩,left,links⟩ lv1)
  rw [List.set_set] at h5
  have hk5:=getE_set hk (boxR b (wayC t ⟨⟨a0.m,lk.1⟩,left,links⟩ lv1))
  simp only [hb2,c1',mkPlace,hst5,stdZ]
  generalize H2.put b (.cells (wayC t ⟨⟨a0.m,lk.1⟩,left,links⟩ lv1) none)=H5 at *
  have hb5:=h5.box hk5
  have w1:=h5.ext.cells q1'
  have w3:=q3'.mono h5.ext
  have c05:(wayC t ⟨⟨a0.m,lk.1⟩,left,links⟩ lv1)[0]? = some (ptr t 0):=rfl
  have hk:load1 (ptr yy.blk 1) H5=some (u8 (T.node lk.1).kind):=by
   rw [load1_ptr,h5.ext.cells k3']; rfl
  simp only [hnp,hk,stdZ]
  by_cases h2k:(T.node lk.1).kind=2#8
  ·have e2:binInt .eql (u8 (T.node lk.1).kind) (.int .u8 2)=some (vb true):=by
    show binInt .eql (u8 (T.node lk.1).kind) (u8 2#8)=_
    rw [u8_eql]; simp [h2k]
   have hlo5:loadN 2 (ptr b 1) H5=some (PlaceD.v ⟨a0.m,lk.1⟩):=by rw [loadN_ptr,hb5]; rfl
   simp only [e2,hb5,c05,w1,hlo5,stdZ]
   refine S.f37 hE q M nx ⟨a0.m,lk.1⟩ w3 ho fun H6 e6 =>?_
   have h6:=h5.grow e6
   have hb6:=h6.box hk5
   have hst6:storeN 2 (ptr b 1) (seen M ⟨a0.m,lk.1⟩).v H6=some (H6.put b (.cells (wayC t ⟨seen M ⟨a0.m,lk.1⟩,left,links⟩ lv1) none)):=by
    rw [storeN_ptr,hb6]; rfl
   have h7:=h6.put hk5 (wayC t ⟨seen M ⟨a0.m,lk.1⟩,left,links⟩ lv1)
   rw [List.set_set] at h7
   simp only [hst6,stdZ]
   exact fin _ 0 _ h7 (by rw [if_pos h2k])
  ·have e2:binInt .eql (u8 (T.node lk.1).kind) (.int .u8 2)=some (vb false):=by
    show binInt .eql (u8 (T.node lk.1).kind) (u8 2#8)=_
    rw [u8_eql]; simp [h2k]
   simp only [e2,stdZ]
   exact fin _ 0 _ h5 (by rw [if_neg h2k])
 by_cases hk3:(T.node lk.1).kind=3#8
 ·have ht:=lt lk.1 hk3
  by_cases hf:follow=true\/left≠[]
  ·rw [if_pos ⟨hk3,hf⟩] at hQ
   have hfol:=S.f117 (Q:=fun v H=>Q v H) hE h h2 hk1 s2 hnl hlk (T.node lk.1).text ht (fun lv' Z' H' z1 z2 z3=>hQ lv' Z' H' z1 (by rwa [List.set_set] at z2) z3)
   cases follow with
   | true =>
    simp [hk3,hnp,k3,inC]
    exact hfol
   | false =>
    have hpos:0<left.length:=List.length_pos_iff.2 (by simpa using hf)
    simp [hk3,hnp,k3,inC,hb2,c3',hl2,hpos]
    exact hfol
  ·have hf1:follow=false:=by cases follow <;> simp_all
   have hf2:left=[]:=by
    refine Classical.byContradiction fun hc=>hf (.inr hc)
   have st2:=stay fun hc=>hf hc.2
   subst hf1
   subst hf2
   have e3:binInt .eql (u8 (T.node lk.1).kind) (.int .u8 3)=some (vb true):=by
    show binInt .eql (u8 (T.node lk.1).kind) (u8 3#8)=_
    rw [u8_eql]; simp [hk3]
   have hl3:AM.lenSlc lv1=some (vi 0):=hl2
   simp only [e3,gd_tt,gd_ff,hb2,c3',hl3,i64_gtr,gt_iff_lt,Int.lt_irrefl,decide_false,pick_true_z,pick_false_z,stdZ]
   simp only [hb2,stdZ] at st2
   exact st2
 ·have st2:=stay fun hc=>hk3 hc.1
  have e3:binInt .eql (u8 (T.node lk.1).kind) (.int .u8 3)=some (vb false):=by
   show binInt .eql (u8 (T.node lk.1).kind) (u8 3#8)=_
   rw [u8_eql]; simp [hk3]
  simp only [e3,gd_ft,gd_skip,pick_false_z,hb2,stdZ]
  simp only [hb2,stdZ] at st2
  exact st2
end
end Go.AM
end
section
namespace Go.AM
section
variable {E:Sy} {H H' H0 Z:AH} {Q:Value->AH->Prop} {t:Nat} {T:Tr} {M:List MntD} {L:List Res}
theorem Has.callee (h:Has H0 Z H L) (e:Ext H H'):∃ Z',Fz H.next Z Z'/\Has H0 Z' H' L/\∀ sz v rows,Rows H' sz v rows->FreshV H.next v->Rows Z' sz v rows:=by
 have hg:∀ b,(AH.mk H'.next fun b=>if b<H.next then Z.get b else H'.get b).get b=if b<H.next then Z.get b else H'.get b:=by
  intro b
  simp only [AH.get]
  by_cases hb:b<H'.next
  ·rw [if_pos hb]
  ·have h1:¬ b<H.next:=fun hb'=>hb (Nat.lt_of_lt_of_le hb' e.1)
   have h2:¬ b<H'.next:=hb
   simp [h1,h2]
 refine ⟨⟨H'.next,fun b=>if b<H.next then Z.get b else H'.get b⟩,⟨⟨Nat.le_trans h.sub.1 e.1,fun b hb =>?_⟩,fun b hb=>by rw [hg,if_pos hb]⟩,?_,?_⟩
 ·rw [hg]
  split
  ·rfl
  ·rename_i hn
   exact (hb (AH.get_ge _ (Nat.le_trans h.sub.1 (by omega)))).elim
 ·refine h.refreeze e ⟨⟨Nat.le_trans h.sub.1 e.1,fun b hb =>?_⟩,fun b hb=>by rw [hg,if_pos hb]⟩ ⟨Nat.le_refl _,fun b hb =>?_⟩
  ·rw [hg]
   split
   ·rfl
   ·rename_i hn
    exact (hb (AH.get_ge _ (Nat.le_trans h.sub.1 (by omega)))).elim
  ·rw [hg] at hb ⊢
   split
   ·rename_i hlt
    rw [if_pos hlt] at hb
    rw [e.get hlt]
    exact h.sub.2 b hb
   ·rfl
 ·intro sz v rows hr hf
  refine ⟨hr.len,?_⟩
  rcases hr.at_ with g | ⟨b,o,c,g1,g2,g3,g4⟩
  ·exact .inl g
  ·by_cases hrn:rows=[]
   ·have hz:¬ b<H.next:=by
     have:=hf b (by rw [g1]; rfl)
     omega
    exact .inr ⟨b,o,c,g1,g2,by rw [hg,if_neg hz]; exact g3,by rw [hg,if_neg hz]; exact g4⟩
   ·have hz:¬ b<H.next:=by
     have:=hf b (by rw [g1]; rfl)
     omega
    exact .inr ⟨b,o,c,g1,g2,by rw [hg,if_neg hz]; exact g3,by rw [hg,if_neg hz]; exact g4⟩
theorem stepY_need (lt:T.LT) {w:WayD} (follow:Bool) (hne:w.left≠[]) (hlk:w.links<=8) (h0:(stepY T M w follow).2=0):(stepY T M w follow).1.need<w.need/\(stepY T M w follow).1.links<=8:=by
 obtain ⟨a,left,links⟩:=w
 cases left with
 | nil=>exact (hne rfl).elim
 | cons name left =>
  have hlk:links<=8:=hlk
  have stay:∀ a':PlaceD,(WayD.mk a' left links).need<(WayD.mk a (name :: left) links).need/\(WayD.mk a' left links).links<=8:=by
   intro a'
   refine ⟨?_,hlk⟩
   simp only [WayD.need,List.length_cons]
   omega
  revert h0
  unfold stepY
  simp only
  split
  ·intro h; simp at h
  split
  ·split
   ·intro h; simp at h
   ·intro _; exact stay _
  split
  ·intro h; simp at h
  split
  ·rename_i h4
   intro h; exact (h4 h).elim
  split
  ·rename_i h5
   split
   ·intro h; simp at h
   ·rename_i h6
    intro _
    have ht:=(lt _ h5.1).2
    have hp:=partsL_le (T.node (T.look a.i name).1).text
    refine ⟨?_,by show links+1<=8; omega⟩
    simp only [WayD.need,List.length_cons,List.length_append]
    omega
  ·split
   ·intro _; exact stay _
   ·intro _; exact stay _
theorem walkN_stable (lt:T.LT) (follow:Bool):∀ (n:Nat) (w:WayD),w.need<=n->w.links<=8->walkN T M follow n w=walkN T M follow (n+1) w
 | 0,w,h,hl=>by
  have:w.left=[]:=List.eq_nil_of_length_eq_zero (by unfold WayD.need at h; omega)
  simp [walkN,this]
 | n+1,w,h,hl=>by
  rw [walkN,walkN]
  split
  ·rfl
  ·rename_i hne
   split
   ·rfl
   ·rename_i h0
    have:=stepY_need (M:=M) lt follow hne hl (by simpa using h0)
    exact walkN_stable lt follow n _ (by omega) this.2
theorem walkN_enough (lt:T.LT) (follow:Bool) (w:WayD) (hl:w.links<=8):∀ (d n:Nat),w.need<=n->walkN T M follow (n+d) w=walkN T M follow n w
 | 0,_,_=>rfl
 | d+1,n,h=>by rw [<- Nat.add_assoc,<- walkN_stable lt follow (n+d) w (by omega) hl,walkN_enough lt follow w hl d n h]
theorem walkW_nil (follow:Bool) {w:WayD} (h:w.left=[]):walkW T M follow w=(w,0):=by
 unfold walkW
 cases w.need <;> simp [walkN,h]
theorem walkW_step (lt:T.LT) (follow:Bool) {w:WayD} (h:w.left≠[]) (hl:w.links<=8):walkW T M follow w=if (stepY T M w follow).2≠0 then stepY T M w follow else walkW T M follow (stepY T M w follow).1:=by
 have hpos:0<w.need:=by
  have:=List.length_pos_iff.2 h
  unfold WayD.need; omega
 unfold walkW
 obtain ⟨n,hn⟩:∃ n,w.need=n+1:=⟨w.need - 1,by omega⟩
 rw [hn,walkN,if_neg h]
 split
 ·rfl
 ·rename_i h0
  have:=stepY_need (M:=M) lt follow h hl (by simpa using h0)
  obtain ⟨d,hd⟩:∃ d,n=(stepY T M w follow).1.need+d:=⟨n - (stepY T M w follow).1.need,by omega⟩
  rw [hd]
  exact walkN_enough lt follow _ this.2 d _ (Nat.le_refl _)
end
end Go.AM
end
section
namespace Go.AM
section
variable {E:Sy} {H H' H0 Z:AH} {Q:Value->AH->Prop} {t:Nat} {T:Tr} {M:List MntD} {L:List Res}
theorem beginW_links (M:List MntD) (c:PlaceD) (path:List UInt8):(beginW M c path).1.links=0/\(beginW M c path).1.left.length<=121:=by
 unfold beginW
 split
 ·exact ⟨rfl,by simp⟩
 ·split
  ·exact ⟨rfl,by simp⟩
  ·exact ⟨rfl,by have:=partsL_le path; show (partsL path).length<=121; omega⟩
theorem answer {rb:Nat} {z:PlaceD} (hz:H.get rb = .cells z.cells none) (p:PlaceD) {R:Value->AH->Prop} (hR:R p.v (H.put rb (.cells p.cells none))) :
  opt (storeN 2 (ptr rb 0) p.v H) fun H3=>opt (loadN 2 (ptr rb 0) H3) fun v10=>R v10 H3:=by
 have h1:storeN 2 (ptr rb 0) p.v H=some (H.put rb (.cells p.cells none)):=by rw [storeN_ptr,hz]; rfl
 have h2:loadN 2 (ptr rb 0) (H.put rb (.cells p.cells none))=some p.v:=by rw [loadN_ptr,AH.get_put_self _ _ (AH.lt_cells hz)]; rfl
 simp only [h1,h2,tk_eq,opt_some]
 exact hR
end
end Go.AM
end
section
namespace Go.AM
section
variable {E:Sy} {H H' H0 Z:AH} {Q:Value->AH->Prop} {t:Nat} {T:Tr} {M:List MntD} {L:List Res}
def cutV (v:Value) (n:Nat):Value:=match v with | .slice a _ _ => .slice a n n | v=>v
theorem Rows.cut {sz:Nat} {v:Value} {rows:List (List Value)} (h:Rows H sz v rows) {n:Nat} (hn:n+1=rows.length):slSlc sz v none (some (vi n)) (some (vi n)) H=some (cutV v n)/\Rows H sz (cutV v n) rows.dropLast:=by
 rcases h.at_ with ⟨rfl,_⟩ | ⟨b,o,c,rfl,h2,h3,h4⟩
 ·simp at hn
 ·have hd:rows.dropLast.length=n:=by rw [List.length_dropLast]; omega
  have e1:bnd (some (vi n)) c c=some n:=by simp only [bnd]; rw [if_pos (by omega)]; simp
  have e2:bnd (some (vi n)) rows.length n=some n:=by simp only [bnd]; rw [if_pos (by omega)]; simp
  have e3:bnd (none:Option Value) 0 n=some 0:=rfl
  refine ⟨?_,fun r hr=>h.len r ((List.dropLast_sublist _).subset hr),.inr ⟨b,o,n,by simp [cutV,hd],by omega,h3,?_⟩⟩
  ·simp only [slSlc,Option.isSome_some,Option.isNone_some,Bool.and_false,h3,Bool.or_true,Bool.not_true,Bool.or_self,Bool.false_eq_true,if_false,e1,e2,e3,Option.bind_some]
   rw [if_pos (Nat.le_refl _)]
   simp only [Nat.sub_zero,cutV]
   congr 2
   split
   ·rfl
   ·simp [Addr.add]
  ·rw [hd]
   have hle:0+n*sz<=rows.length*sz:=by rw [Nat.zero_add]; exact Nat.mul_le_mul_right _ (by omega)
   have:=row_part h4 hle
   rw [Nat.add_zero,List.drop_zero,flatten_take rows h.len] at this
   rw [this,List.dropLast_eq_take]
   congr 3
   omega
theorem S.f112 (hE:Fold E) (h:WkAt H t T M) (wf:T.WF) (lt:T.LT) (c:PlaceD) (path:List UInt8) (hp:path.length<2 ^ 63)
  (hQ:∀ H',Ext H H'->Q (.tuple #[(lastW T M c path).1.v,str (lastW T M c path).2.1,vi (lastW T M c path).2.2]) H'):E.call (E.fid i.f112) [ptr t 0,c.v,str path] H Q:=by
 apply hE.f112
 have g0:Has H H H []:=Has.start (Ext.refl H)
 have g1:=g0.newbox c.cells
 have g2:=g1.newbox PlaceD.zero.cells
 have hz2:([(.int .i64 0),(.int .u16 0)]:List Value)=PlaceD.zero.cells:=rfl
 simp only [F.f112,boxO_agg_z,AM.mk_some,mkPtr_eq_z,allocW_eq,hz2,List.toList_toArray,tk_eq]
 have hb1:=g2.box (k:=0) rfl
 have hl1:loadN 2 (ptr H.next 0) ((H.new (.cells c.cells none)).new (.cells PlaceD.zero.cells none))=some c.v:=by rw [loadN_ptr,hb1]; rfl
 generalize hrb:(H.new (.cells c.cells none)).next=rb at *
 simp only [hl1,stdZ]
 generalize (H.new (.cells c.cells none)).new (.cells PlaceD.zero.cells none)=H2 at *
 refine S.f114 hE (h.mono g2.ext) c path hp fun lv H3 e3 r3 f3 =>?_
 obtain ⟨Z3,z1,g3,z3⟩:=g2.callee e3
 have rz:=z3 1 lv _ r3 f3
 have hlv:=rz.plainV
 have hbg:=beginW_links M c path
 unfold lastW at hQ
 generalize hbw:beginW M c path=bw at *
 have hz5:([(.pointer none),(.int .i64 0),(.int .u16 0),(.slice none 0 0),(.int .i64 0)]:List Value).length=5:=rfl
 have g4:=g3.newbox [(.pointer none),(.int .i64 0),(.int .u16 0),(.slice none 0 0),(.int .i64 0)]
 have hb4:=g4.box (k:=2) (b:=H3.next) rfl
 have hst:=way_store t bw.1 hlv hz5 hb4
 have g5:=g4.put (k:=2) (b:=H3.next) rfl (wayC t bw.1 lv)
 simp only [ext_tuple,allocW_eq,hst,stdZ]
 generalize hwb:H3.next=wb at *
 generalize (H3.new (.cells [(.pointer none),(.int .i64 0),(.int .u16 0),(.slice none 0 0),(.int .i64 0)] none)).put wb (.cells (wayC t bw.1 lv) none)=H5 at *
 have g5:Has H Z3 H5 [boxR H.next c.cells,boxR rb PlaceD.zero.cells,boxR wb (wayC t bw.1 lv)]:=g5
 simp only [i64_neq,stdZ]
 by_cases he:bw.2=0
 rotate_left
 ·simp only [ne_eq,he,not_false_eq_true,decide_true,mkPlace0,stdZ]
  rw [if_pos (by simpa using he)] at hQ
  refine answer (R:=fun v H=>Q (.tuple #[v,str [],vi bw.2]) H) (g5.box (k:=1) rfl) PlaceD.zero ?_
  exact hQ _ (g5.put (k:=1) (b:=rb) rfl PlaceD.zero.cells).ext
 rw [if_neg (by simpa using he)] at hQ
 have hb5:=g5.box (k:=2) (b:=wb) rfl
 have hz6:=g5.box (k:=1) (b:=rb) rfl
 obtain ⟨⟨a0,left,links⟩,e0⟩:=bw
 have c3:(wayC t ⟨a0,left,links⟩ lv)[3]? = some lv:=rfl
 have hl5:=strR_lenSlc (rz.sub g5.sub)
 simp only at he hbg hl5 hQ
 simp only [ne_eq,he,not_true,decide_false,hb5,c3,hl5,i64_eql,stdZ]
 by_cases hnil:left=[]
 ·subst hnil
  simp only [List.length_nil,decide_true,mkPlace0,show ((0:Nat):Int)=0 from rfl,stdZ]
  simp only [List.getLast?_nil] at hQ
  refine answer (R:=fun v H=>Q (.tuple #[v,str [],vi 16]) H) hz6 PlaceD.zero ?_
  exact hQ _ (g5.put (k:=1) (b:=rb) rfl PlaceD.zero.cells).ext
 obtain ⟨ini,name,rfl⟩:∃ ini name,left=ini++[name]:=by
  rcases List.eq_nil_or_concat left with h | ⟨ini,name,h⟩
  ·exact (hnil h).elim
  ·exact ⟨ini,name,by rw [h,List.concat_eq_append]⟩
 have hlen:(ini++[name]).length=ini.length+1:=by simp
 rw [hlen] at hl5 hbg
 have hne:((((ini.length+1:Nat)):Int)=0)=False:=by simp; omega
 have hsub:binInt .sub (vi ((ini.length+1:Nat):Int)) (.int .i64 1)=some (vi (ini.length:Nat)):=by
  rw [i64_sub (by omega) (by omega)]; simp
 have r5:=rz.sub g5.sub
 obtain ⟨b1,o1,p1,p2,_⟩:=ix_strR r5 (i:=ini.length) (by simp)
 have p2:(H5.get b1).cell o1=some (str name):=by simpa using p2
 rw [hlen]
 simp only [hne,decide_false,hb5,c3,hl5,hsub,p1,p2,stdZ]
 have hQ:∀ H',Ext H H'->Q (.tuple #[(if name=[46,46] then (PlaceD.zero,([]:NameL),(16:Int)) else
   if (walkW T M true ⟨a0,ini,links⟩).2≠0 then (PlaceD.zero,[],(walkW T M true ⟨a0,ini,links⟩).2)
    else if dirP T M (walkW T M true ⟨a0,ini,links⟩).1.at_=false then (PlaceD.zero,[],20)
    else if 14<name.length then (PlaceD.zero,[],36)
    else if okName name=false then (PlaceD.zero,[],22)
    else ((walkW T M true ⟨a0,ini,links⟩).1.at_,name,0)).1.v,str (if name=[46,46] then (PlaceD.zero,([]:NameL),(16:Int)) else
   if (walkW T M true ⟨a0,ini,links⟩).2≠0 then (PlaceD.zero,[],(walkW T M true ⟨a0,ini,links⟩).2)
    else if dirP T M (walkW T M true ⟨a0,ini,links⟩).1.at_=false then (PlaceD.zero,[],20)
    else if 14<name.length then (PlaceD.zero,[],36)
    else if okName name=false then (PlaceD.zero,[],22)
    else ((walkW T M true ⟨a0,ini,links⟩).1.at_,name,0)).2.1,vi (if name=[46,46] then (PlaceD.zero,([]:NameL),(16:Int)) else
   if (walkW T M true ⟨a0,ini,links⟩).2≠0 then (PlaceD.zero,[],(walkW T M true ⟨a0,ini,links⟩).2)
    else if dirP T M (walkW T M true ⟨a0,ini,links⟩).1.at_=false then (PlaceD.zero,[],20)
    else if 14<name.length then (PlaceD.zero,[],36)
    else if okName name=false then (PlaceD.zero,[],22)
    else ((walkW T M true ⟨a0,ini,links⟩).1.at_,name,0)).2.2]) H':=by
  simpa using hQ
 by_cases hdd:name=[46,46]
 ·rw [if_pos hdd] at hQ
  have hdd':binStr .eql (str name) (.string ⟨#[46,46]⟩)=some (vb true):=by
   show binStr .eql (str name) (str [46,46])=_
   rw [binStr_eql]; simp [hdd]
  simp only [hdd',hne,decide_false,mkPlace0,stdZ]
  refine answer (R:=fun v H=>Q (.tuple #[v,str [],vi 16]) H) hz6 PlaceD.zero ?_
  exact hQ _ (g5.put (k:=1) (b:=rb) rfl PlaceD.zero.cells).ext
 rw [if_neg hdd] at hQ
 have hdd':binStr .eql (str name) (.string ⟨#[46,46]⟩)=some (vb false):=by
  show binStr .eql (str name) (str [46,46])=_
  rw [binStr_eql]; simp [hdd]
 have hn1:ini.length+1=(strR (ini++[name])).length:=by simp [strR]
 obtain ⟨cut1,_⟩:=Rows.cut r5 hn1
 obtain ⟨_,cut2⟩:=Rows.cut rz hn1
 have cut2:Rows Z3 1 (cutV lv ini.length) (strR ini):=by simpa [strR] using cut2
 have hpl:=cut2.plainV
 generalize cutV lv ini.length=lv1 at *
 have hst2:store1 (ptr wb 3) lv1 H5=some (H5.put wb (.cells (wayC t ⟨a0,ini,links⟩ lv1) none)):=by
  rw [store1_ptr,if_pos hpl,hb5]; rfl
 have g6:=g5.put (k:=2) (b:=wb) rfl (wayC t ⟨a0,ini,links⟩ lv1)
 simp only [hdd',hne,decide_false,hb5,c3,hl5,hsub,p1,p2,cut1,hst2,stdZ]
 generalize H5.put wb (.cells (wayC t ⟨a0,ini,links⟩ lv1) none)=H6 at *
 have g6:Has H Z3 H6 [boxR H.next c.cells,boxR rb PlaceD.zero.cells,boxR wb (wayC t ⟨a0,ini,links⟩ lv1)]:=g6
 refine LoopL.ind (fun n ls H'=>∃ w lv Z',n=w.need/\ls=[ptr t 0,ptr rb 0,ptr wb 0,str name]/\Has H Z' H' [boxR H.next c.cells,boxR rb PlaceD.zero.cells,boxR wb (wayC t w lv)]/\Rows Z' 1 lv (strR w.left)/\w.links<=8/\w.need<=5000/\walkW T M true w=walkW T M true ⟨a0,ini,links⟩) ?_ (WayD.mk a0 ini links).need ⟨⟨a0,ini,links⟩,lv1,Z3,rfl,rfl,g6,cut2,by show links<=8; omega,by unfold WayD.need; simp only; omega,rfl⟩
 rintro n _ H7 X hX ⟨w,lw,Z',rfl,rfl,g7,r7,hlk,hnd,hww⟩
 have hb7:=g7.box (k:=2) (b:=wb) rfl
 have hz7:=g7.box (k:=1) (b:=rb) rfl
 have c37:(wayC t w lw)[3]? = some lw:=rfl
 have hl7:=strR_lenSlc (r7.sub g7.sub)
 have hneed:w.left.length<=w.need:=by unfold WayD.need; omega
 by_cases hne7:w.left=[]
 ·rw [<- hww,walkW_nil _ hne7] at hQ
  simp only [ne_eq,not_true,if_false] at hQ
  have hl0:AM.lenSlc lw=some (vi 0):=by rw [hl7,hne7]; rfl
  have hlo7:loadN 2 (ptr wb 1) H7=some w.at_.v:=by rw [loadN_ptr,hb7]; rfl
  simp only [F.f112_l1,hb7,c37,hl0,i64_gtr,gt_iff_lt,Int.lt_irrefl,decide_false,hlo7,stdZ]
  refine S.f111 hE (h.mono g7.ext) w.at_ fun H8 e8 =>?_
  have g8:=g7.grow e8
  have hz8:=g8.box (k:=1) (b:=rb) rfl
  have hlo8:loadN 2 (ptr wb 1) H8=some w.at_.v:=by rw [loadN_ptr,g8.box (k:=2) (b:=wb) rfl]; rfl
  cases hd:dirP T M w.at_ with
  | false =>
   simp only [hd,if_true] at hQ
   simp only [mkPlace0,stdZ]
   refine answer (R:=fun v H=>Q (.tuple #[v,str [],vi 20]) H) hz8 PlaceD.zero ?_
   exact hQ _ (g8.put (k:=1) (b:=rb) rfl PlaceD.zero.cells).ext
  | true =>
   simp only [hd,Bool.true_eq_false,if_false] at hQ
   by_cases h14:14<name.length
   ·rw [if_pos h14] at hQ
    have h14':(14:Int)<name.length:=by omega
    simp only [lenStr_s,i64_gtr,gt_iff_lt,h14',decide_true,mkPlace0,stdZ]
    refine answer (R:=fun v H=>Q (.tuple #[v,str [],vi 36]) H) hz8 PlaceD.zero ?_
    exact hQ _ (g8.put (k:=1) (b:=rb) rfl PlaceD.zero.cells).ext
   rw [if_neg h14] at hQ
   have h14':¬ (14:Int)<name.length:=by omega
   simp only [lenStr_s,i64_gtr,gt_iff_lt,h14',decide_false,stdZ]
   refine S.f2 hE name (by omega) fun H9 e9 =>?_
   have g9:=g8.grow e9
   have hz9:=g9.box (k:=1) (b:=rb) rfl
   have hlo9:loadN 2 (ptr wb 1) H9=some w.at_.v:=by rw [loadN_ptr,g9.box (k:=2) (b:=wb) rfl]; rfl
   cases hok:okName name with
   | false =>
    rw [if_pos hok] at hQ
    simp only [mkPlace0,stdZ]
    refine answer (R:=fun v H=>Q (.tuple #[v,str [],vi 22]) H) hz9 PlaceD.zero ?_
    exact hQ _ (g9.put (k:=1) (b:=rb) rfl PlaceD.zero.cells).ext
   | true =>
    rw [if_neg (by rw [hok]; simp)] at hQ
    simp only [hlo9,stdZ]
    refine answer (R:=fun v H=>Q (.tuple #[v,str name,vi 0]) H) hz9 w.at_ ?_
    exact hQ _ (g9.put (k:=1) (b:=rb) rfl w.at_.cells).ext
 ·have hpos:(0:Int)<(w.left.length:Nat):=by have:=List.length_pos_iff.2 hne7; omega
  simp only [F.f112_l1,hb7,c37,hl7,i64_gtr,gt_iff_lt,hpos,decide_true,stdZ]
  refine S.f118 hE h wf lt (k:=2) (b:=wb) g7 rfl r7 (by omega) (by omega) hne7 true fun lv' Z7 H7 y1 y2 y3 =>?_
  have hst7:=walkW_step (M:=M) lt true hne7 hlk
  have hnd7:=stepY_need (M:=M) lt true hne7 hlk
  have y2:Has H Z7 H7 [boxR H.next c.cells,boxR rb PlaceD.zero.cells,boxR wb (wayC t (stepY T M w true).1 lv')]:=y2
  generalize stepY T M w true=st at *
  simp only [i64_neq,stdZ]
  by_cases h0:st.2=0
  ·rw [if_neg (by simpa using h0)] at hst7
   obtain ⟨n1,n2⟩:=hnd7 h0
   simp only [ne_eq,h0,not_true,decide_false,stdZ]
   exact hX _ n1 _ _ ⟨st.1,lv',Z7,rfl,rfl,y2,y3,n2,by omega,by rw [<- hww,hst7]⟩
  ·rw [if_pos (by simpa using h0)] at hst7
   rw [<- hww,hst7,if_pos (by simpa using h0)] at hQ
   simp only [ne_eq,h0,not_false_eq_true,decide_true,mkPlace0,stdZ]
   refine answer (R:=fun v H=>Q (.tuple #[v,str [],vi st.2]) H) (y2.box (k:=1) rfl) PlaceD.zero ?_
   exact hQ _ (y2.put (k:=1) (b:=rb) rfl PlaceD.zero.cells).ext
end
end Go.AM
end
section
namespace Go.AM
structure InoX (H0 H:AH) (p m:Nat) (L:LyL) (T:Tr):Prop where
 ext:Ext H0 H
 ino:Ino H p m L T
 own:∀ b∈(inoR p m L T).fp,H0.next<=b
section
variable {E:Sy} {H0 H H' H'':AH} {Q:Value->AH->Prop} {p m:Nat} {L L' L'':LyL} {T T' T'':Tr}
theorem S.f4' (hE:Fold E) (limit:Int) (hQ:∀ p m L H',InoX H H' p m L (Tr.new limit)->Q (ptr p 0) H'):E.call (E.fid i.f4) [vi limit] H Q :=
 S.f4 hE limit fun p m L H' e h hf=>hQ p m L H' ⟨e,h,hf⟩
end
end Go.AM
end
section
namespace Go.AM
structure PlaceI where
 mount:Int
 inode:Int
 deriving DecidableEq
def PlaceI.cells (x:PlaceI):List Value:=[vi x.mount,vi x.inode]
abbrev PlaceI.v (x:PlaceI):Value := .agg x.cells.toArray
def PlaceI.zero:PlaceI:=⟨0,0⟩
@[simp high] theorem PlaceI.cells_length (x:PlaceI):x.cells.length=2:=nrf rfl
@[simp high] theorem PlaceI.splice (a0 a1:Value) (x:PlaceI):AM.splice [a0,a1] 0 x.cells=x.cells:=nrf rfl
@[simp high] theorem PlaceI.splice_cells (y x:PlaceI):AM.splice y.cells 0 x.cells=x.cells:=nrf rfl
@[simp high] theorem PlaceI.take (x:PlaceI):x.cells.take 2=x.cells:=nrf rfl
@[simp high] theorem PlaceI.plain (x:PlaceI):x.cells.all plain1=true:=nrf rfl
@[simp high] theorem PlaceI.at0 (x:PlaceI):x.cells[0]? = some (vi x.mount):=nrf rfl
@[simp high] theorem PlaceI.build (p0:Int) (p1:Int)  : buildV [(0,1),(1,1)] [vi 0,vi 0].toArray [(0,vi p0),(1,vi p1)]=some (PlaceI.v ⟨p0,p1⟩):=by
 simp [PlaceI.cells,AM.splice]
theorem PlaceI.ext_iff (x y:PlaceI):x=y↔x.mount=y.mount/\x.inode=y.inode:=by
 cases x; cases y; simp
theorem PlaceI.same (x y:PlaceI):sameCells [0,0] x.cells y.cells=some (decide (x=y)):=by
 simp only [PlaceI.ext_iff,Bool.decide_and,PlaceI.cells,List.cons_append,List.nil_append,sameCells_cons,sameCells_nil,same_i64,same_str,same_bool,same_u8,same_u16,same_u32,same_u64,Option.bind_some,Option.map_some,Bool.and_true,Bool.and_assoc]
@[simp high] theorem PlaceI.eql (x y:PlaceI):binAgg [0,0] .eql (.agg x.cells.toArray) (.agg y.cells.toArray)=some (vb (decide (x=y))):=by rw [binAgg_eql,PlaceI.same]; rfl
@[simp high] theorem PlaceI.neq (x y:PlaceI):binAgg [0,0] .neq (.agg x.cells.toArray) (.agg y.cells.toArray)=some (vb (decide (x≠y))):=by rw [binAgg_neq,PlaceI.same]; simp
structure MntI where
 id:Int
 root:Int
 at_:PlaceI
 held:Int
 deriving DecidableEq
def MntI.cells (x:MntI):List Value:=[vi x.id,vi x.root]++x.at_.cells++[vi x.held]
abbrev MntI.v (x:MntI):Value := .agg x.cells.toArray
def MntI.zero:MntI:=⟨0,0,PlaceI.zero,0⟩
@[simp high] theorem MntI.at0 (x:MntI):x.cells[0]? = some (vi x.id):=nrf rfl
@[simp high] theorem MntI.at1 (x:MntI):x.cells[1]? = some (vi x.root):=nrf rfl
@[simp high] theorem MntI.at2 (x:MntI):x.cells[2]? = some (vi x.at_.mount):=nrf rfl
@[simp high] theorem MntI.at3 (x:MntI):x.cells[3]? = some (vi x.at_.inode):=nrf rfl
@[simp high] theorem MntI.at4 (x:MntI):x.cells[4]? = some (vi x.held):=nrf rfl
@[simp high] theorem MntI.part2 (x:MntI):(x.cells.drop 2).take 2=x.at_.cells:=nrf rfl
theorem MntI.elem {H:AH} {v:Value} {l:List MntI} (h:Rows H 5 v (l.map MntI.cells)) {i:Nat} (hi:i<l.length):∃ b o,ixSlc 5 v (vi i)=some (ptr b o)/\(H.get b).row o 5=some l[i].cells/\(H.get b).cell o=some (vi l[i].id)/\(H.get b).cell (o+1)=some (vi l[i].root)/\(H.get b).cell (o+2)=some (vi l[i].at_.mount)/\(H.get b).cell (o+3)=some (vi l[i].at_.inode)/\(H.get b).cell (o+4)=some (vi l[i].held)/\(H.get b).row (o+2) 2=some l[i].at_.cells:=by
 obtain ⟨b,o,f1,f2⟩:=h.ix (i:=i) (by simpa using hi)
 simp only [List.getElem_map] at f2
 exact ⟨b,o,f1,f2,by have:=row_at f2 (j:=0) (by omega); simpa using this,by have:=row_at f2 (j:=1) (by omega); simpa using this,by have:=row_at f2 (j:=2) (by omega); simpa using this,by have:=row_at f2 (j:=3) (by omega); simpa using this,by have:=row_at f2 (j:=4) (by omega); simpa using this,by have:=row_part f2 (j:=2) (m:=2) (by omega); simpa using this⟩
@[simp high] theorem MntI.build_0_1_2 (p0:Int) (p1:Int) (p2:PlaceI)  : buildV [(0,1),(1,1),(2,2),(4,1)] [vi 0,vi 0,vi 0,vi 0,vi 0].toArray [(0,vi p0),(1,vi p1),(2,.agg (p2).cells.toArray)]=some (MntI.v ⟨p0,p1,p2,0⟩):=by
 simp [MntI.cells,MntI.zero,AM.splice,PlaceI.cells,PlaceI.zero]
@[simp high] theorem MntI.build1 (x:MntI):buildS 1 5 [vi 0,vi 0,vi 0,vi 0,vi 0].toArray [(0,.agg x.cells.toArray)]=some (.cells x.cells none,mkSlc 1 1):=buildS_one 5 [vi 0,vi 0,vi 0,vi 0,vi 0] x.cells rfl rfl
structure EntryI where
 name_:List UInt8
 inode:Int
 deriving DecidableEq
def EntryI.cells (x:EntryI):List Value:=[str x.name_,vi x.inode]
abbrev EntryI.v (x:EntryI):Value := .agg x.cells.toArray
@[simp high] theorem EntryI.at0 (x:EntryI):x.cells[0]? = some (str x.name_):=nrf rfl
@[simp high] theorem EntryI.build (p0:List UInt8) (p1:Int)  : buildV [(0,1),(1,1)] [str [],vi 0].toArray [(0,str p0),(1,vi p1)]=some (EntryI.v ⟨p0,p1⟩):=by
 simp [EntryI.cells,AM.splice]
@[simp high] theorem EntryI.build1 (x:EntryI):buildS 1 2 [str [],vi 0].toArray [(0,.agg x.cells.toArray)]=some (.cells x.cells none,mkSlc 1 1):=buildS_one 2 [str [],vi 0] x.cells rfl rfl
structure NodeI where
 kind:Int
 data_:Value
 l:Value
 parent:Int
 text:List UInt8
 links:Int
 held:Int
def NodeI.cells (x:NodeI):List Value:=[vi x.kind,x.data_,x.l,vi x.parent,str x.text,vi x.links,vi x.held]
abbrev NodeI.v (x:NodeI):Value := .agg x.cells.toArray
def NodeI.zero:NodeI:=⟨0,nilS,nilS,0,[],0,0⟩
@[simp high] theorem NodeI.cells_length (x:NodeI):x.cells.length=7:=nrf rfl
@[simp high] theorem NodeI.splice_cells (y x:NodeI):AM.splice y.cells 0 x.cells=x.cells:=nrf rfl
@[simp high] theorem NodeI.at0 (x:NodeI):x.cells[0]? = some (vi x.kind):=nrf rfl
@[simp high] theorem NodeI.at1 (x:NodeI):x.cells[1]? = some (x.data_):=nrf rfl
@[simp high] theorem NodeI.at2 (x:NodeI):x.cells[2]? = some (x.l):=nrf rfl
@[simp high] theorem NodeI.at3 (x:NodeI):x.cells[3]? = some (vi x.parent):=nrf rfl
@[simp high] theorem NodeI.at4 (x:NodeI):x.cells[4]? = some (str x.text):=nrf rfl
@[simp high] theorem NodeI.at5 (x:NodeI):x.cells[5]? = some (vi x.links):=nrf rfl
@[simp high] theorem NodeI.at6 (x:NodeI):x.cells[6]? = some (vi x.held):=nrf rfl
@[simp high] theorem NodeI.set3 (x:NodeI) (p:Int):x.cells.set 3 (vi p)=({ x with parent:=p }:NodeI).cells:=nrf rfl
@[simp high] theorem NodeI.set4 (x:NodeI) (p:List UInt8):x.cells.set 4 (str p)=({ x with text:=p }:NodeI).cells:=nrf rfl
@[simp high] theorem NodeI.build0:buildV [(0,1),(1,1),(2,1),(3,1),(4,1),(5,1),(6,1)] [vi 0,nilS,nilS,vi 0,str [],vi 0,vi 0].toArray []=some (NodeI.v NodeI.zero):=by
 simp [NodeI.zero,NodeI.cells]
@[simp high] theorem NodeI.build1 (x:NodeI):buildS 1 7 [vi 0,nilS,nilS,vi 0,str [],vi 0,vi 0].toArray [(0,.agg x.cells.toArray)]=some (.cells x.cells none,mkSlc 1 1):=buildS_one 7 [vi 0,nilS,nilS,vi 0,str [],vi 0,vi 0] x.cells rfl rfl
theorem NodeI.buildS (xs:List NodeI):AM.buildS xs.length 7 [vi 0,nilS,nilS,vi 0,str [],vi 0,vi 0].toArray ((List.range' 0 xs.length).zip (xs.map NodeI.v))=some (.cells (xs.map NodeI.cells).flatten none,mkSlc xs.length xs.length):=by
 have:=buildS_full xs.length 7 [vi 0,nilS,nilS,vi 0,str [],vi 0,vi 0] ((List.range' 0 xs.length).zip (xs.map NodeI.v)) (xs.map NodeI.v) rfl (by simp) (by simp) (by rw [List.all_eq_true]; intro v hv; obtain ⟨x,_,rfl⟩:=List.mem_map.1 hv; rfl) (by intro v hv; obtain ⟨x,_,rfl⟩:=List.mem_map.1 hv; rfl)
 rw [this,List.flatMap_map]; rfl
structure TreeI where
 n:Value
 limit:Int
 m:Value
 next:Int
 change:Int
def TreeI.cells (x:TreeI):List Value:=[x.n,vi x.limit,x.m,vi x.next,vi x.change]
abbrev TreeI.v (x:TreeI):Value := .agg x.cells.toArray
@[simp high] theorem TreeI.cells_length (x:TreeI):x.cells.length=5:=nrf rfl
@[simp high] theorem TreeI.at0 (x:TreeI):x.cells[0]? = some (x.n):=nrf rfl
@[simp high] theorem TreeI.at1 (x:TreeI):x.cells[1]? = some (vi x.limit):=nrf rfl
@[simp high] theorem TreeI.at2 (x:TreeI):x.cells[2]? = some (x.m):=nrf rfl
@[simp high] theorem TreeI.at3 (x:TreeI):x.cells[3]? = some (vi x.next):=nrf rfl
@[simp high] theorem TreeI.at4 (x:TreeI):x.cells[4]? = some (vi x.change):=nrf rfl
@[simp high] theorem TreeI.set0 (x:TreeI) (p:Value):x.cells.set 0 (p)=({ x with n:=p }:TreeI).cells:=nrf rfl
@[simp high] theorem TreeI.set2 (x:TreeI) (p:Value):x.cells.set 2 (p)=({ x with m:=p }:TreeI).cells:=nrf rfl
@[simp high] theorem TreeI.set3 (x:TreeI) (p:Int):x.cells.set 3 (vi p)=({ x with next:=p }:TreeI).cells:=nrf rfl
@[simp high] theorem TreeI.set4 (x:TreeI) (p:Int):x.cells.set 4 (vi p)=({ x with change:=p }:TreeI).cells:=nrf rfl
end Go.AM
end
section
namespace Go.AM
structure RLy where
 data:Value
 l:Value
def refI (x:Nd) (y:RLy):NodeI:=⟨(x.kind.toNat:Int),y.data,y.l,(x.parent.toNat:Int),x.text,x.links,x.held⟩
def entR (l:List (NameL×BitVec 16)):List (List Value):=l.map fun e=>[str e.1,vi (e.2.toNat:Int)]
theorem entR_length (l:List (NameL×BitVec 16)):(entR l).length=l.length:=by simp [entR]
def nodeRR (x:Nd) (y:RLy):Res:=joinR [growR 1 y.data (byteR x.data),growR 2 y.l (entR x.ents)]
def nodeRows (T:Tr) (Y:List RLy):List (List Value):=(T.N.zip Y).map fun p=>(refI p.1 p.2).cells
def refRs (t:Nat) (nv mv:Value) (nx:Int) (mr:List (List Value)) (Y:List RLy) (T:Tr):List Res :=
 boxR t (TreeI.cells ⟨nv,T.limit,mv,nx,T.change⟩) :: growR 7 nv (nodeRows T Y) :: growR 5 mv mr :: (T.N.zip Y).map fun p=>nodeRR p.1 p.2
def refR (t:Nat) (nv mv:Value) (nx:Int) (mr:List (List Value)) (Y:List RLy) (T:Tr):Res:=joinR (refRs t nv mv nx mr Y T)
structure RefT (H:AH) (t:Nat) (nv mv:Value) (nx:Int) (mr:List (List Value)) (Y:List RLy) (T:Tr):Prop where
 ow:Ow (refR t nv mv nx mr Y T) H
 len:Y.length=T.N.length
 fit:T.N.length<=60000
structure UpdR (t:Nat) (nv mv:Value) (nx:Int) (mr:List (List Value)) (Y:List RLy) (T:Tr) (nv':Value) (Y':List RLy) (T':Tr) (H H':AH):Prop where
 upd:Upd (refR t nv mv nx mr Y T) (refR t nv' mv nx mr Y' T') H H'
 len:Y'.length=T'.N.length
 fit:T'.N.length<=60000
def NdAt (H:AH) (b o:Nat) (x:Nd) (y:RLy):Prop:=(H.get b).row o 7=some (refI x y).cells/\Rows H 1 y.data (byteR x.data)/\Rows H 2 y.l (entR x.ents)
section
variable {E:Sy} {H H' H'':AH} {Q:Value->AH->Prop} {t:Nat} {nv nv' nv'' mv:Value} {nx:Int} {mr:List (List Value)} {Y Y' Y'':List RLy} {T T' T'':Tr}
theorem UpdR.ref (u:UpdR t nv mv nx mr Y T nv' Y' T' H H') (h:RefT H t nv mv nx mr Y T):RefT H' t nv' mv nx mr Y' T':=⟨h.ow.upd u.upd,u.len,u.fit⟩
theorem UpdR.trans (u:UpdR t nv mv nx mr Y T nv' Y' T' H H') (u':UpdR t nv' mv nx mr Y' T' nv'' Y'' T'' H' H''):UpdR t nv mv nx mr Y T nv'' Y'' T'' H H'':=⟨u.upd.trans u'.upd,u'.len,u'.fit⟩
theorem UpdR.after (e:Ext H H') (u:UpdR t nv mv nx mr Y T nv' Y' T' H' H''):UpdR t nv mv nx mr Y T nv' Y' T' H H'':=⟨u.upd.after e,u.len,u.fit⟩
theorem RefT.same (h:RefT H t nv mv nx mr Y T) (e:Ext H H'):UpdR t nv mv nx mr Y T nv Y T H H':=⟨h.ow.ext e,h.len,h.fit⟩
theorem RefT.mono (h:RefT H t nv mv nx mr Y T) (e:Ext H H'):RefT H' t nv mv nx mr Y T:=(h.same e).ref h
theorem RefT.head (h:RefT H t nv mv nx mr Y T):H.get t = .cells (TreeI.cells ⟨nv,T.limit,mv,nx,T.change⟩) none:=h.ow.holds (boxR t (TreeI.cells ⟨nv,T.limit,mv,nx,T.change⟩)) (by simp [refRs])
theorem RefT.rows (h:RefT H t nv mv nx mr Y T):Grow zH H 7 nv (nodeRows T Y):=h.ow.holds (growR 7 nv (nodeRows T Y)) (by simp [refRs])
theorem RefT.rows_len (h:RefT H t nv mv nx mr Y T):(nodeRows T Y).length=T.N.length:=by simp [nodeRows,h.len]
theorem RefT.lenSlc (h:RefT H t nv mv nx mr Y T):AM.lenSlc nv=some (vi T.N.length):=by
 have:=h.rows.toRows.lenSlc
 rwa [h.rows_len] at this
theorem RefT.part (h:RefT H t nv mv nx mr Y T) {k:Nat} {x:Nd} {y:RLy} (hx:T.N[k]? = some x) (hy:Y[k]? = some y):Ow (nodeRR x y) H :=
 h.ow.part (rs:=refRs t nv mv nx mr Y T) (k:=k+3) (by simp [refRs,List.zip,List.getElem?_zipWith,hx,hy])
theorem nodeRR.data {x:Nd} {y:RLy} (h:Ow (nodeRR x y) H):Grow zH H 1 y.data (byteR x.data):=h.holds (growR 1 y.data (byteR x.data)) (by simp)
theorem nodeRR.l {x:Nd} {y:RLy} (h:Ow (nodeRR x y) H):Grow zH H 2 y.l (entR x.ents):=h.holds (growR 2 y.l (entR x.ents)) (by simp)
theorem Tr.node_get {n:BitVec 16} (h:n.toNat<T.N.length):T.N[n.toNat]? = some (T.node n):=by
 simp [Tr.node,List.getD_eq_getElem?_getD,h]
theorem Tr.node_ge {n:BitVec 16} (h:T.N.length<=n.toNat):T.node n=Nd.none:=by
 simp [Tr.node,List.getD_eq_getElem?_getD,h]
theorem RefT.at_ (h:RefT H t nv mv nx mr Y T) {n:BitVec 16} (hn:n.toNat<T.N.length):∃ y b o,Y[n.toNat]? = some y/\ixSlc 7 nv (vi (n.toNat:Int))=some (ptr b o)/\NdAt H b o (T.node n) y:=by
 have hx:=Tr.node_get hn
 have hy:Y[n.toNat]? = some (Y[n.toNat]'(by rw [h.len]; exact hn)):=List.getElem?_eq_getElem _
 have hp:=h.part hx hy
 obtain ⟨b,o,f1,f2⟩:=h.rows.toRows.ix (i:=n.toNat) (by rw [h.rows_len]; exact hn)
 refine ⟨_,b,o,hy,f1,?_,(nodeRR.data hp).toRows,(nodeRR.l hp).toRows⟩
 rw [f2]
 have:(nodeRows T Y)[n.toNat]? = some (refI (T.node n) (Y[n.toNat]'(by rw [h.len]; exact hn))).cells:=by
  simp only [nodeRows,List.getElem?_map,List.zip,List.getElem?_zipWith,hx,hy]
  rfl
 rw [List.getElem?_eq_getElem] at this
 exact this
theorem NdAt.mono {b o:Nat} {x:Nd} {y:RLy} (h:NdAt H b o x y) (e:Ext H H'):NdAt H' b o x y :=
 ⟨by rw [e.get (AH.lt_of_get (row_notdead h.1))]; exact h.1,h.2.1.mono e,h.2.2.mono e⟩
theorem NdAt.cell {b o:Nat} {x:Nd} {y:RLy} (h:NdAt H b o x y):(H.get b).cell o=some (vi (x.kind.toNat:Int))/\(H.get b).cell (o+1)=some y.data/\(H.get b).cell (o+2)=some y.l/\(H.get b).cell (o+3)=some (vi (x.parent.toNat:Int)) /\
  (H.get b).cell (o+4)=some (str x.text)/\(H.get b).cell (o+5)=some (vi x.links)/\(H.get b).cell (o+6)=some (vi x.held):=by
 have f:=h.1
 refine ⟨?_,?_,?_,?_,?_,?_,?_⟩
 ·have:=row_at f (j:=0) (by omega); simpa [refI] using this
 ·have:=row_at f (j:=1) (by omega); simpa [refI] using this
 ·have:=row_at f (j:=2) (by omega); simpa [refI] using this
 ·have:=row_at f (j:=3) (by omega); simpa [refI] using this
 ·have:=row_at f (j:=4) (by omega); simpa [refI] using this
 ·have:=row_at f (j:=5) (by omega); simpa [refI] using this
 ·have:=row_at f (j:=6) (by omega); simpa [refI] using this
theorem NdAt.lenL {b o:Nat} {x:Nd} {y:RLy} (h:NdAt H b o x y):AM.lenSlc y.l=some (vi x.ents.length):=by
 have:=h.2.2.lenSlc
 rwa [entR_length] at this
theorem S.f64 (hE:Fold E) (h:RefT H t nv mv nx mr Y T) (n:BitVec 16)
  (hQ:∀ b o y H',Ext H H'->NdAt H' b o (T.node n) y->(n.toNat<T.N.length->H'=H/\Y[n.toNat]? = some y/\ixSlc 7 nv (vi (n.toNat:Int))=some (ptr b o))->Q (ptr b o) H'):E.call (E.fid i.f64) [ptr t 0,vi (n.toNat:Int)] H Q:=by
 apply hE.f64
 have hh:=h.head
 have hl:=h.lenSlc
 have h0:¬ ((n.toNat:Int)<0):=by omega
 by_cases hn:n.toNat<T.N.length
 ·obtain ⟨y,b,o,h1,h2,h3⟩:=h.at_ hn
  have hn':¬ (T.N.length:Int)<=n.toNat:=by omega
  simp [F.f64,h0,hh,hl,hn',h2]
  exact hQ b o y H (Ext.refl H) h3 fun _=>⟨rfl,h1,h2⟩
 ·have hn':(T.N.length:Int)<=n.toNat:=by omega
  simp [F.f64,h0,hh,hl,hn']
  refine hQ H.next 0 ⟨nilS,nilS⟩ _ ((Ext.refl H).new _) ?_ fun h=>(hn h).elim
  rw [Tr.node_ge (by omega)]
  refine ⟨?_,Rows.nil _ _ none,Rows.nil _ _ none⟩
  rw [AH.get_new_self]
  rfl
theorem toNat_kind (k:BitVec 8) (j:Nat) (hj:j<256):((k.toNat:Int)=(j:Int))↔k=BitVec.ofNat 8 j:=by
 constructor
 ·intro h
  apply BitVec.eq_of_toNat_eq
  rw [BitVec.toNat_ofNat,Nat.mod_eq_of_lt hj]
  omega
 ·rintro rfl
  rw [BitVec.toNat_ofNat,Nat.mod_eq_of_lt hj]
theorem kind0 (k:BitVec 8):((k.toNat:Int)=0)=(k=0#8):=propext (toNat_kind k 0 (by omega))
theorem kind1 (k:BitVec 8):((k.toNat:Int)=1)=(k=1#8):=propext (toNat_kind k 1 (by omega))
theorem kind2 (k:BitVec 8):((k.toNat:Int)=2)=(k=2#8):=propext (toNat_kind k 2 (by omega))
theorem kind3 (k:BitVec 8):((k.toNat:Int)=3)=(k=3#8):=propext (toNat_kind k 3 (by omega))
theorem num_eq (a b:BitVec 16):((a.toNat:Int)=(b.toNat:Int))=(a=b):=by
 rw [eq_iff_iff]
 constructor
 ·intro h; exact BitVec.eq_of_toNat_eq (by omega)
 ·rintro rfl; rfl
theorem num_1 (a:BitVec 16):((a.toNat:Int)=1)=(a=1#16):=num_eq a 1#16
theorem S.f69 (hE:Fold E) (h:RefT H t nv mv nx mr Y T) (n:BitVec 16) (hQ:∀ H',Ext H H'->Q (vi (T.dir n)) H'):E.call (E.fid i.f69) [ptr t 0,vi (n.toNat:Int)] H Q:=by
 apply hE.f69
 simp only [F.f69]
 refine S.f64 hE h n fun b o y H' e hn _ =>?_
 obtain ⟨c0,_⟩:=hn.cell
 unfold Tr.dir at hQ
 by_cases h0:(T.node n).kind=0#8
 ·simp [h0] at hQ c0
  simp [c0]
  exact hQ _ e
 ·have h0':¬ (T.node n).kind.toNat=0:=fun k=>h0 (BitVec.eq_of_toNat_eq (by simpa using k))
  by_cases h2:(T.node n).kind=2#8
  ·simp [h2] at hQ c0
   simp [c0]
   exact hQ _ e
  ·have h2':¬ ((T.node n).kind.toNat:Int)=2:=by rw [kind2]; exact h2
   simp [h0,h2] at hQ
   simp [c0,h0',h2']
   exact hQ _ e
def nameIx (s:NameL) (l:List (NameL×BitVec 16)):Int:=ixOf (fun e:NameL×BitVec 16=>decide (e.1=s)) l
theorem nameIx_none (s:NameL) (l:List (NameL×BitVec 16)) (h:alook s l=none):nameIx s l = -1:=by
 have:l.findIdx? (fun e:NameL×BitVec 16=>decide (e.1=s))=none:=by
  rw [List.findIdx?_eq_none_iff]
  intro x hx
  have:=lookup_none.1 h
  simp only [decide_eq_false_iff_not]
  rintro rfl
  exact this (List.mem_map.2 ⟨x,hx,rfl⟩)
 simp [nameIx,ixOf,this]
theorem nameIx_some (s:NameL):∀ (l:List (NameL×BitVec 16)) (k:BitVec 16),alook s l=some k->∃ (j:Nat) (hj:j<l.length),nameIx s l=j/\l[j]=(s,k)/\adel s l=l.eraseIdx j
 | [],k,h=>by simp [alook] at h
 | e :: l,k,h=>by
  rw [alook_cons] at h
  by_cases he:e.1=s
  ·rw [if_pos he.symm] at h
   simp only [Option.some.injEq] at h
   refine ⟨0,by simp,?_,?_,?_⟩
   ·simp [nameIx,ixOf,List.findIdx?_cons,he]
   ·rw [List.getElem_cons_zero,<- he,<- h]
   ·simp [adel,he]
  ·rw [if_neg fun k=>he k.symm] at h
   obtain ⟨j,hj,h1,h2,h3⟩:=nameIx_some s l k h
   refine ⟨j+1,by simpa using hj,?_,by simpa using h2,by simp [adel,he,h3]⟩
   unfold nameIx ixOf at h1 ⊢
   simp only [List.findIdx?_cons,he,decide_false,Bool.false_eq_true,if_false]
   cases hf:l.findIdx? (fun e:NameL×BitVec 16=>decide (e.1=s)) with
   | none=>rw [hf] at h1; simp at h1
   | some i =>
    rw [hf] at h1
    simp at h1 ⊢
    exact h1
theorem S.f74 (hE:Fold E) {b o:Nat} {x:Nd} {y:RLy} (h:NdAt H b o x y) (s:NameL) (hlen:x.ents.length<2 ^ 40) (hQ:Q (vi (nameIx s x.ents)) H):E.call (E.fid i.f74) [ptr b o,str s] H Q:=by
 apply hE.f74
 obtain ⟨_,_,c2,_⟩:=h.cell
 have hl:=h.lenL
 simp [F.f74]
 refine LoopL.count x.ents.length (fun j l H'=>l=[ptr b o,str s,vi j]/\H=H'/\∀ i (hi:i<x.ents.length),i<j->¬ x.ents[i].1=s) ?_ ⟨rfl,rfl,fun i _ h=>by omega⟩
 rintro j _ _ X hj hX ⟨rfl,rfl,hn⟩
 by_cases hjl:j<x.ents.length
 ·have hjl':(j:Int)<x.ents.length:=by omega
  obtain ⟨b',o',f1,f2⟩:=h.2.2.ix (i:=j) (by rw [entR_length]; exact hjl)
  have hrow:(entR x.ents)[j]'(by rw [entR_length]; exact hjl)=[str x.ents[j].1,vi (x.ents[j].2.toNat:Int)]:=by simp [entR]
  rw [hrow] at f2
  have f3:(H.get b').cell o'=some (str x.ents[j].1):=by have:=row_at f2 (j:=0) (by omega); simpa using this
  by_cases hs:x.ents[j].1=s
  ·simp [F.f74_l1,c2,hl,hjl',f1,f3,hs]
   have:nameIx s x.ents=(j:Int):=by
    have:x.ents.findIdx? (fun e:NameL×BitVec 16=>decide (e.1=s))=some j:=List.findIdx?_eq_some_iff_getElem.2 ⟨hjl,by simpa using hs,fun i hi=>by simpa using hn i (by omega) hi⟩
    simp [nameIx,ixOf,this]
   rw [<- this]
   exact hQ
  ·simp [F.f74_l1,c2,hl,hjl',f1,f3,hs]
   rw [i64_inc (by omega),opt_some]
   refine hX hjl _ _ ⟨rfl,rfl,fun i hi hij =>?_⟩
   by_cases e:i=j
   ·subst e; exact hs
   ·exact hn i hi (by omega)
 ·have hjl':¬ (j:Int)<x.ents.length:=by omega
  simp [F.f74_l1,c2,hl,hjl']
  have:nameIx s x.ents = -1:=by
   have:x.ents.findIdx? (fun e:NameL×BitVec 16=>decide (e.1=s))=none:=by
    rw [List.findIdx?_eq_none_iff]
    intro e he
    obtain ⟨i,hi,rfl⟩:=List.getElem_of_mem he
    simpa using hn i hi (by omega)
   simp [nameIx,ixOf,this]
  rw [<- this]
  exact hQ
def Tr.small (T:Tr):Prop:=∀ n,(T.node n).ents.length<2 ^ 40
theorem S.f61 (hE:Fold E) (h:RefT H t nv mv nx mr Y T) (hs:T.small) (n:BitVec 16) (s:NameL) (hQ:∀ H',Ext H H'->Q (.tuple #[vi ((T.look n s).1.toNat:Int),vi (T.look n s).2]) H'):E.call (E.fid i.f61) [ptr t 0,vi (n.toNat:Int),str s] H Q:=by
 apply hE.f61
 simp only [F.f61]
 refine S.f69 hE h n fun H1 e1 =>?_
 unfold Tr.look at hQ
 by_cases hd:T.dir n=0
 ·simp [hd]
  refine S.f64 hE (h.mono e1) n fun b o y H2 e2 hn _ =>?_
  refine S.f74 hE hn s (hs n) ?_
  cases hl:alook s (T.node n).ents with
  | none =>
   simp [hd,hl] at hQ
   simp [nameIx_none s _ hl]
   exact hQ _ (e1.trans e2)
  | some k =>
   simp [hd,hl] at hQ
   obtain ⟨j,hj,g1,g2,_⟩:=nameIx_some s _ k hl
   obtain ⟨_,_,c2,_⟩:=hn.cell
   obtain ⟨b',o',f1,f2⟩:=hn.2.2.ix (i:=j) (by rw [entR_length]; exact hj)
   have hrow:(entR (T.node n).ents)[j]'(by rw [entR_length]; exact hj)=[str s,vi (k.toNat:Int)]:=by simp [entR,g2]
   rw [hrow] at f2
   have f3:(H2.get b').cell (o'+1)=some (vi (k.toNat:Int)):=by have:=row_at f2 (j:=1) (by omega); simpa using this
   have hj0:¬ ((j:Int)<0):=by omega
   simp [g1,hj0,c2,f1,f3]
   exact hQ _ (e1.trans e2)
 ·simp [hd] at hQ
  simp [hd]
  exact hQ _ e1
end
end Go.AM
end
section
namespace Go.AM
section
variable {E:Sy} {H H' H'':AH} {Q:Value->AH->Prop} {t:Nat} {nv nv' nv'' mv:Value} {nx:Int} {mr:List (List Value)} {Y Y' Y'':List RLy} {T T' T'':Tr}
theorem u8_of (n:Nat) (c:UInt8) (hn:n<256):(c.toBitVec.toNat<n↔c<UInt8.ofNat n)/\(n<c.toBitVec.toNat↔UInt8.ofNat n<c)/\(c.toBitVec=BitVec.ofNat 8 n↔c=UInt8.ofNat n):=by
 refine ⟨?_,?_,?_⟩
 ·rw [UInt8.lt_iff_toNat_lt,UInt8.toNat_ofNat_of_lt' hn]; rfl
 ·rw [UInt8.lt_iff_toNat_lt,UInt8.toNat_ofNat_of_lt' hn]; rfl
 ·rw [<- UInt8.toBitVec_inj]; rfl
theorem S.f53 (hE:Fold E) (s:NameL) (hs:s.length<2 ^ 63) (hQ:Q (vb (okName s)) H):E.call (E.fid i.f53) [str s] H Q:=by
 apply hE.f53
 simp only [F.f53]
 refine LoopL.count s.length (fun j l H'=>l=[str s,vi j]/\H=H'/\∀ i (hi:i<s.length),i<j->badByte s[i]=false) ?_ ⟨rfl,rfl,fun i _ h=>by omega⟩
 rintro j _ _ X hj hX ⟨rfl,rfl,hn⟩
 by_cases hjl:j<s.length
 ·have hjl':(j:Int)<s.length:=by omega
  have hix:=ixStr_s s j hjl
  obtain ⟨g1,_,_⟩:=u8_of 33 s[j] (by omega)
  obtain ⟨_,g2,_⟩:=u8_of 126 s[j] (by omega)
  obtain ⟨_,_,g3⟩:=u8_of 47 s[j] (by omega)
  obtain ⟨_,_,g4⟩:=u8_of 35 s[j] (by omega)
  have bad:badByte s[j]=true->Q (vb false) H:=by
   intro hb
   have:okName s=false:=by
    have:(s.all fun c => !badByte c)=false:=by
     rw [List.all_eq_false]
     exact ⟨s[j],List.getElem_mem hjl,by simp [hb]⟩
    simp [okName,this]
   rw [<- this]; exact hQ
  have good:badByte s[j]=false->X [str s,vi ((j+1:Nat):Int)] H:=fun hb=>hX hjl _ _ ⟨rfl,rfl,fun i hi hij=>by
   by_cases e:i=j
   ·subst e; exact hb
   ·exact hn i hi (by omega)⟩
  have hjj:=i64_inc (i:=j) (by omega)
  have b33:(.int .u8 33:Value)=u8 33#8:=rfl
  have b126:(.int .u8 126:Value)=u8 126#8:=rfl
  have b47:(.int .u8 47:Value)=u8 47#8:=rfl
  have b35:(.int .u8 35:Value)=u8 35#8:=rfl
  unfold badByte at bad good
  generalize s[j]=c at *
  generalize hk:j+1=k at *
  by_cases c1:c.toBitVec.toNat<33
  ·have c1':=g1.1 c1
   have c1n:c.toNat<33:=c1
   simp [F.f53_l1,hjl',hix,b33,c1,c1n]
   exact bad (by simp only [Bool.or_eq_true,decide_eq_true_eq]; exact .inl (.inl (.inl c1')))
  have c1n:¬ c.toNat<33:=c1
  by_cases c2:126<c.toBitVec.toNat
  ·have c2':=g2.1 c2
   have c2n:126<c.toNat:=c2
   simp [F.f53_l1,hjl',hix,b33,b126,c1,c2,c1n,c2n]
   exact bad (by simp only [Bool.or_eq_true,decide_eq_true_eq]; exact .inl (.inl (.inr c2')))
  have c2n:¬ 126<c.toNat:=c2
  by_cases c3:c.toBitVec=47#8
  ·have c3':=g3.1 c3
   simp [F.f53_l1,hjl',hix,b33,b126,b47,c1,c2,c3,c1n,c2n]
   exact bad (by simp only [Bool.or_eq_true,decide_eq_true_eq]; exact .inl (.inr c3'))
  by_cases c4:c.toBitVec=35#8
  ·have c4':=g4.1 c4
   simp [F.f53_l1,hjl',hix,b33,b126,b47,b35,c1,c2,c3,c4,c1n,c2n]
   exact bad (by simp only [Bool.or_eq_true,decide_eq_true_eq]; exact .inr c4')
  ·simp [F.f53_l1,hjl',hix,b33,b126,b47,b35,c1,c2,c3,c4,hjj,c1n,c2n]
   refine good ?_
   simp only [Bool.or_eq_false_iff,decide_eq_false_iff_not]
   exact ⟨⟨⟨fun h=>c1 (g1.2 h),fun h=>c2 (g2.2 h)⟩,fun h=>c3 (g3.2 h)⟩,fun h=>c4 (g4.2 h)⟩
 ·have hjl':¬ (j:Int)<s.length:=by omega
  have hall:(s.all fun c => !badByte c)=true:=by
   rw [List.all_eq_true]
   intro c hc
   obtain ⟨i,hi,rfl⟩:=List.getElem_of_mem hc
   simpa using hn i hi (by omega)
  have l1:(.string ⟨#[46]⟩:Value)=str [46]:=rfl
  have l2:(.string ⟨#[46,46]⟩:Value)=str [46,46]:=rfl
  unfold okName at hQ
  rw [hall] at hQ
  by_cases c1:1<=s.length
  ·have c1':(1:Int)<=s.length:=by omega
   by_cases c2:s.length<=14
   ·have c2':(s.length:Int)<=14:=by omega
    by_cases c3:s=[46]
    ·subst c3
     have hj1:j=1:=by simp at hjl hj; omega
     subst hj1
     simp [F.f53_l1,l1,l2]
     simpa using hQ
    ·by_cases c4:s=[46,46]
     ·subst c4
      have hj2:j=2:=by simp at hjl hj; omega
      subst hj2
      simp [F.f53_l1,l1,l2]
      simpa using hQ
     ·simp only [c1,c2,c3,c4,ne_eq,not_false_eq_true,decide_true,Bool.and_self] at hQ
      simp [F.f53_l1,hjl',c1',c2',l1,l2,c3,c4]
      exact hQ
   ·have c2':¬ (s.length:Int)<=14:=by omega
    simp only [c1,c2,decide_true,decide_false,Bool.and_false,Bool.false_and] at hQ
    simp [F.f53_l1,hjl',c1',c2']
    exact hQ
  ·have c1':¬ (1:Int)<=s.length:=by omega
   simp only [c1,decide_false,Bool.and_false,Bool.false_and] at hQ
   simp [F.f53_l1,hjl',c1']
   exact hQ
theorem S.f71 (hE:Fold E) (h:RefT H t nv mv nx mr Y T) (hs:T.small) (n:BitVec 16) (s:NameL) (hsl:s.length<2 ^ 63) (hQ:∀ H',Ext H H'->Q (vi (T.room n s)) H'):E.call (E.fid i.f71) [ptr t 0,vi (n.toNat:Int),str s] H Q:=by
 apply hE.f71
 simp only [F.f71]
 refine S.f69 hE h n fun H1 e1 =>?_
 unfold Tr.room at hQ
 by_cases hd:T.dir n=0
 ·simp [hd]
  refine S.f64 hE (h.mono e1) n fun b o y H2 e2 hn _ =>?_
  refine S.f53 hE s hsl ?_
  have e12:=e1.trans e2
  obtain ⟨_,_,c2,_,_,c5,_⟩:=hn.cell
  have hl:=hn.lenL
  by_cases c1:okName s=true
  ·simp only [hd,c1,ne_eq,not_true,if_false,Bool.true_eq_false] at hQ
   simp [c1]
   refine S.f74 hE hn s (hs n) ?_
   cases hlk:alook s (T.node n).ents with
   | some k =>
    obtain ⟨j,hj,g1,_,_⟩:=nameIx_some s _ k hlk
    have hj0:(0:Int)<=j:=by omega
    simp only [hlk,Option.isSome_some,if_true] at hQ
    simp [g1,hj0]
    exact hQ _ e12
   | none =>
    simp only [hlk,Option.isSome_none,Bool.false_eq_true,if_false] at hQ
    simp [nameIx_none s _ hlk,c5]
    by_cases c3:(T.node n).links=0
    ·simp only [c3,if_true] at hQ
     simp [c3]
     exact hQ _ e12
    ·simp only [c3,if_false] at hQ
     simp [c3,c2,hl]
     by_cases c4:32<=(T.node n).ents.length
     ·have c4':(32:Int)<=(T.node n).ents.length:=by omega
      simp only [c4,if_true] at hQ
      simp [c4']
      exact hQ _ e12
     ·have c4':¬ (32:Int)<=(T.node n).ents.length:=by omega
      simp only [c4,if_false] at hQ
      simp [c4']
      exact hQ _ e12
  ·have c1:okName s=false:=by simpa using c1
   simp [hd,c1] at hQ
   simp [c1]
   exact hQ _ e12
 ·simp [hd] at hQ
  simp [hd]
  exact hQ _ e1
theorem S.f60 (hE:Fold E) (h:RefT H t nv mv nx mr Y T) (hQ:Q (vi T.len) H):E.call (E.fid i.f60) [ptr t 0] H Q:=by
 apply hE.f60
 simp only [F.f60]
 have hh:=h.head
 have hl:=h.lenSlc
 have hf:=h.fit
 refine LoopL.count T.N.length (fun j l H'=>l=[ptr t 0,vi (((T.N.take j).countP fun x=>decide (x.kind≠0#8):Nat):Int),vi j]/\H=H') ?_ ⟨rfl,rfl⟩
 rintro j _ _ X hj hX ⟨rfl,rfl⟩
 have hcl:(T.N.take j).countP (fun x=>decide (x.kind≠0#8))<=j:=Nat.le_trans List.countP_le_length (by simp; omega)
 by_cases hjl:j<T.N.length
 ·have hjl':(j:Int)<T.N.length:=by omega
  have hnj:(BitVec.ofNat 16 j).toNat=j:=by rw [BitVec.toNat_ofNat,Nat.mod_eq_of_lt (by omega)]
  obtain ⟨y,b,o,h1,h2,h3⟩:=h.at_ (n:=BitVec.ofNat 16 j) (by rw [hnj]; exact hjl)
  rw [hnj] at h2
  obtain ⟨c0,_⟩:=h3.cell
  have hx:T.node (BitVec.ofNat 16 j)=T.N[j]:=by
   unfold Tr.node; rw [hnj]; simp [List.getD_eq_getElem?_getD,hjl]
  rw [hx] at c0
  have hstep:(T.N.take (j+1)).countP (fun x=>decide (x.kind≠0#8))=(T.N.take j).countP (fun x=>decide (x.kind≠0#8))+if T.N[j].kind=0#8 then 0 else 1:=by
   rw [List.take_succ_eq_append_getElem hjl,List.countP_append]
   by_cases hk:T.N[j].kind=0#8 <;> simp [hk]
  have hjj:=i64_succ j (by omega)
  have hX:=hX hjl [ptr t 0,vi (((T.N.take (j+1)).countP fun x=>decide (x.kind≠0#8):Nat):Int),vi ((j+1:Nat):Int)] H ⟨rfl,rfl⟩
  rw [hstep] at hX
  generalize (T.N.take j).countP (fun x=>decide (x.kind≠0#8))=c at *
  have hcc:=i64_succ c (by omega)
  by_cases hk:T.N[j].kind=0#8
  ·rw [if_pos hk,Nat.add_zero] at hX
   have hk':¬ (0:Int)<(T.N[j].kind.toNat:Int):=by rw [hk]; simp
   generalize hj1:j+1=j1 at *
   simp [F.f60_l1,hh,hl,hjl',h2,c0,hjj,hk]
   exact hX
  ·rw [if_neg hk] at hX
   have hk':0<T.N[j].kind.toNat:=by
    apply Nat.pos_of_ne_zero
    intro e
    exact hk (BitVec.eq_of_toNat_eq (by simpa using e))
   generalize hj1:j+1=j1 at *
   generalize hc1:c+1=c1 at *
   simp [F.f60_l1,hh,hl,hjl',h2,c0,hjj,hk',hcc]
   exact hX
 ·have hjl':¬ (j:Int)<T.N.length:=by omega
  have:j=T.N.length:=by omega
  subst this
  have e:(T.N.take T.N.length).countP (fun x=>decide (x.kind≠0#8))=T.len:=by rw [List.take_length]; rfl
  rw [e]
  simp [F.f60_l1,hh,hl]
  exact hQ
theorem S.f68 (hE:Fold E) (h:RefT H t nv mv nx mr Y T) (n:BitVec 16) (hQ:∀ H',Ext H H'->Q (vi (T.deepF 20 n)) H'):E.call (E.fid i.f68) [ptr t 0,vi (n.toNat:Int)] H Q:=by
 apply hE.f68
 simp only [F.f68]
 obtain ⟨D,hD⟩:∃ D,D=T.deepF 20 n:=⟨_,rfl⟩
 rw [<- hD] at hQ
 refine LoopL.count 20 (fun j l H'=>Ext H H'/\∃ k:BitVec 16,l=[ptr t 0,vi (k.toNat:Int),vi j]/\D=j+T.deepF (20 - j) k) ?_ ⟨Ext.refl H,n,rfl,by rw [hD]; exact (Nat.zero_add _).symm⟩
 clear hD
 rintro j _ H1 X hj hX ⟨e1,k,rfl,h1⟩
 have hk1:=num_1 k
 by_cases hj':j=20
 ·subst hj'
  have:D=20:=by rw [h1]; rfl
  rw [this] at hQ
  by_cases hk:k=1#16
  ·simp [F.f68_l1,hk]
   exact hQ _ e1
  ·rw [eq_false hk] at hk1
   simp [F.f68_l1,hk1]
   exact hQ _ e1
 ·obtain ⟨f,hf⟩:∃ f,20 - j=f+1:=⟨19 - j,by omega⟩
  have hf':20 - (j+1)=f:=by omega
  rw [hf] at h1
  simp only [Tr.deepF] at h1
  have hji:(j:Int)<20:=by omega
  by_cases hk:k=1#16
  ·rw [if_pos hk] at h1
   simp [F.f68_l1,hk]
   rw [h1] at hQ
   exact hQ _ e1
  ·rw [if_neg hk] at h1
   rw [eq_false hk] at hk1
   simp [F.f68_l1,hk1,hji]
   refine S.f64 hE (h.mono e1) k fun b o y H2 e2 hn _ =>?_
   obtain ⟨_,_,_,c3,_⟩:=hn.cell
   have hjj:=i64_succ j (by omega)
   simp [c3,hjj]
   exact hX (by omega) _ _ ⟨e1.trans e2,_,rfl,by rw [hf']; omega⟩
theorem S.f66 (hE:Fold E) (h:RefT H t nv mv nx mr Y T) (n out:BitVec 16) (hQ:∀ H',Ext H H'->Q (vb (T.withinF out 20 n)) H'):E.call (E.fid i.f66) [ptr t 0,vi (n.toNat:Int),vi (out.toNat:Int)] H Q:=by
 apply hE.f66
 simp only [F.f66]
 obtain ⟨D,hD⟩:∃ D,D=T.withinF out 20 n:=⟨_,rfl⟩
 rw [<- hD] at hQ
 refine LoopL.count 20 (fun j l H'=>Ext H H'/\∃ k:BitVec 16,l=[ptr t 0,vi (k.toNat:Int),vi (out.toNat:Int),vi j]/\D=T.withinF out (20 - j) k) ?_ ⟨Ext.refl H,n,rfl,hD⟩
 clear hD
 rintro j _ H1 X hj hX ⟨e1,k,rfl,h1⟩
 by_cases hj':j=20
 ·subst hj'
  rw [h1] at hQ
  simp [F.f66_l1]
  exact hQ _ e1
 ·obtain ⟨f,hf⟩:∃ f,20 - j=f+1:=⟨19 - j,by omega⟩
  have hf':20 - (j+1)=f:=by omega
  rw [hf] at h1
  simp only [Tr.withinF] at h1
  have hji:(j:Int)<20:=by omega
  have hko:=num_eq k out
  have hkp:=num_eq k (T.node k).parent
  have hk2:=kind2 (T.node k).kind
  simp [F.f66_l1,hji]
  refine S.f64 hE (h.mono e1) k fun b o y H2 e2 hn _ =>?_
  obtain ⟨c0,_,_,c3,_⟩:=hn.cell
  by_cases g1:(T.node k).kind=2#8
  ·rw [if_neg (by simpa using g1)] at h1
   by_cases g2:k=out
   ·rw [if_pos g2] at h1
    rw [h1] at hQ
    rw [eq_true g1] at hk2
    rw [eq_true g2] at hko
    simp only [nilCk_p,tk_eq,opt_some,addOff_ptr,load1_ptr,c0,Nat.add_zero,i64_neq,i64_eql,hk2,hko,ne_eq,not_true,decide_true,decide_false,ifB_true,ifB_false,nth_0,nth_1,nth_2,nth_3]
    exact hQ _ (e1.trans e2)
   ·rw [if_neg g2] at h1
    rw [eq_false g2] at hko
    rw [eq_true g1] at hk2
    simp [c0,hk2,hko]
    refine S.f64 hE (h.mono (e1.trans e2)) k fun b' o' y' H3 e3 hn' _ =>?_
    obtain ⟨c0',_,_,c3',_⟩:=hn'.cell
    have e13:=(e1.trans e2).trans e3
    by_cases g3:k=(T.node k).parent
    ·rw [if_pos g3] at h1
     rw [h1] at hQ
     rw [eq_true g3] at hkp
     simp only [nilCk_p,tk_eq,opt_some,addOff_ptr,load1_ptr,c3',i64_eql,hkp,decide_true,ifB_true,nth_0,nth_1,nth_2,nth_3]
     exact hQ _ e13
    ·rw [if_neg g3] at h1
     rw [eq_false g3] at hkp
     simp only [nilCk_p,tk_eq,opt_some,addOff_ptr,load1_ptr,c3',i64_eql,hkp,decide_false,ifB_false,nth_0,nth_1,nth_2,nth_3]
     refine S.f64 hE (h.mono e13) k fun b'' o'' y'' H4 e4 hn'' _ =>?_
     obtain ⟨_,_,_,c3'',_⟩:=hn''.cell
     have hjj:=i64_succ j (by omega)
     simp only [nilCk_p,tk_eq,opt_some,addOff_ptr,load1_ptr,c3'',hjj,nth_0,nth_1,nth_2,nth_3]
     exact hX (by omega) _ _ ⟨e13.trans e4,_,rfl,by rw [hf']; exact h1⟩
  ·rw [if_pos g1] at h1
   rw [h1] at hQ
   rw [eq_false g1] at hk2
   simp [c0,hk2]
   exact hQ _ (e1.trans e2)
end
end Go.AM
end
section
namespace Go.AM
theorem insertE_split (x:NameL×BitVec 16):∀ (l:List (NameL×BitVec 16)) (p:Nat),p<=l.length->(∀ i (h:i<l.length),i<p->Op.bytesLess l[i].1 x.1=true)->(∀ h:p<l.length,Op.bytesLess l[p].1 x.1=false)->insertE x l=l.take p++[x]++l.drop p
 | [],p,hp,_,_=>by simp [insertE]
 | y :: l,0,hp,_,h2=>by
  have:=h2 (by simp)
  simp only [List.getElem_cons_zero] at this
  simp [insertE,this]
 | y :: l,p+1,hp,h1,h2=>by
  have h0:=h1 0 (by simp) (by omega)
  simp only [List.getElem_cons_zero] at h0
  have ih:=insertE_split x l p (by simpa using hp) (fun i h hi=>by have:=h1 (i+1) (by simpa using h) (by omega); rwa [List.getElem_cons_succ] at this) (fun h=>by have:=h2 (by simpa using h); rwa [List.getElem_cons_succ] at this)
  simp [insertE,h0,ih]
theorem entR_take (l:List (NameL×BitVec 16)) (k:Nat):(entR l).take k=entR (l.take k):=by simp [entR,List.map_take]
theorem entR_drop (l:List (NameL×BitVec 16)) (k:Nat):(entR l).drop k=entR (l.drop k):=by simp [entR,List.map_drop]
theorem entR_append (a b:List (NameL×BitVec 16)):entR (a++b)=entR a++entR b:=by simp [entR]
theorem entR_plain (l:List (NameL×BitVec 16)):∀ r∈entR l,r.all plain1=true:=by
 intro r hr
 obtain ⟨b,_,rfl⟩:=List.mem_map.1 hr
 rfl
section
variable {E:Sy} {H H' H'':AH} {Q:Value->AH->Prop} {t:Nat} {nv nv' nv'' mv:Value} {nx:Int} {mr:List (List Value)} {Y Y' Y'':List RLy} {T T' T'':Tr}
theorem buildS0 (sz:Nat) (z:List Value) (hz:z.length=sz):buildS 0 sz z.toArray []=some (.cells [] none,mkSlc 0 0):=by
 rw [buildS_eq _ _ _ _ hz]; simp; rfl
theorem S.f75 (hE:Fold E) (v:Value) (l:List (NameL×BitVec 16)) (hv:Rows H 2 v (entR l)) (hl:l.length<2 ^ 36) (s:NameL) (k:BitVec 16)
    (hQ:∀ v' H',Ext H H'->Grow zH H' 2 v' (entR (insertE (s,k) l))->FreshV H.next v'->Q v' H'):E.call (E.fid i.f75) [v,.agg (EntryI.cells ⟨s,(k.toNat:Int)⟩).toArray] H Q:=by
  apply hE.f75
  have x1:Ext H (H.new (.cells (EntryI.cells ⟨s,(k.toNat:Int)⟩) none)):=(Ext.refl H).new _
  have hx:=AH.get_new_self H (.cells (EntryI.cells ⟨s,(k.toNat:Int)⟩) none)
  simp [F.f75]
  refine LoopL.count l.length (fun j ls H'=>ls=[v,ptr H.next 0,vi j]/\H.new (.cells (EntryI.cells ⟨s,(k.toNat:Int)⟩) none)=H'/\∀ i (h:i<l.length),i<j->Op.bytesLess l[i].1 s=true) ?_ ⟨rfl,rfl,fun i _ h=>by omega⟩
  rintro j _ _ X hj hX ⟨rfl,rfl,hn⟩
  generalize hH1:H.new (.cells (EntryI.cells ⟨s,(k.toNat:Int)⟩) none)=H1 at *
  have hv1:=hv.mono x1
  have hlv:=hv1.lenSlc
  rw [entR_length] at hlv
  have hjj:=i64_succ j (by omega)
  have hj0:(EntryI.cells ⟨s,(k.toNat:Int)⟩)[0]? = some (str s):=EntryI.at0 _
  have fin:(∀ h:j<l.length,Op.bytesLess l[j].1 s=false) ->
     (AM.mk (buildS 0 2 #[(.string ⟨#[]⟩),(.int .i64 0)] []) H1 fun v13 H9 =>
       opt (slSlc 2 v none (some (vi j)) none H9) fun v14 =>
       opt (loadN 2 (ptr H.next 0) H9) fun v15 =>
       AM.mk (buildS 1 2 #[(.string ⟨#[]⟩),(.int .i64 0)] [(0,v15)]) H9 fun v16 H10 =>
       opt (slSlc 2 v (some (vi j)) none none H10) fun v17 =>
       opt2 (app 2 24 v13 v14 H10) fun v18 H11 =>
       slSlc 2 v (some (vi j)) none none H11=slSlc 2 v (some (vi j)) none none H10 /\
       H11.get H9.next=H10.get H9.next /\
       loadN 2 (ptr H.next 0) H11=loadN 2 (ptr H.next 0) H9 /\
       opt2 (app 2 24 v18 v16 H11) fun v19 H12 =>
       slSlc 2 v (some (vi j)) none none H12=slSlc 2 v (some (vi j)) none none H10 /\
       opt2 (app 2 24 v19 v17 H12) fun v20 H13 =>
       Q v20 H13):=by
    intro hlast
    have hb0:buildS 0 2 #[(.string ⟨#[]⟩),(.int .i64 0)] []=some (.cells [] none,mkSlc 0 0):=buildS0 2 [str [],vi 0] rfl
    have hb1:buildS 1 2 #[(.string ⟨#[]⟩),(.int .i64 0)] [(0,.agg (EntryI.cells ⟨s,(k.toNat:Int)⟩).toArray)]=some (.cells (EntryI.cells ⟨s,(k.toNat:Int)⟩) none,mkSlc 1 1):=EntryI.build1 ⟨s,(k.toNat:Int)⟩
    have e9:Ext H1 (H1.new (.cells [] none)):=(Ext.refl H1).new _
    have e10:Ext H1 ((H1.new (.cells [] none)).new (.cells (EntryI.cells ⟨s,(k.toNat:Int)⟩) none)):=e9.new _
    have g9:Grow zH (H1.new (.cells [] none)) 2 (slc H1.next 0 0 0) []:=Grow.room (zH_get _) (AH.get_new_self _ _) rfl
    have g10:=g9.ext ((Ext.refl _).new (.cells (EntryI.cells ⟨s,(k.toNat:Int)⟩) none))
    have lo:∀ {Hx},Ext H1 Hx->loadN 2 (ptr H.next 0) Hx=some (.agg (EntryI.cells ⟨s,(k.toNat:Int)⟩).toArray):=fun e=>by
      rw [loadN_ptr,e.cells hx,row_all _ _ 2 rfl]; rfl
    have hlo:∀ {Hx},Ext H1 Hx->∃ v14,slSlc 2 v none (some (vi j)) none Hx=some v14/\Rows Hx 2 v14 (entR (l.take j)):=fun e=>by
      obtain ⟨w,w1,w2⟩:=(hv1.mono e).slice (lo:=none) (hi:=some (vi j)) (i:=0) (j:=j) (.inr ⟨rfl,rfl⟩) (.inl rfl) (Nat.zero_le _) (by rw [entR_length]; exact hj)
      refine ⟨w,w1,?_⟩
      rwa [List.drop_zero,entR_take] at w2
    have hhi:∀ {Hx},Ext H1 Hx->slSlc 2 v (some (vi j)) none none Hx=some (sliceV 2 v j l.length)/\Rows Hx 2 (sliceV 2 v j l.length) (entR (l.drop j)):=fun {Hx} e=>by
      have w:=(hv1.mono e).slice' (lo:=some (vi j)) (hi:=none) (i:=j) (j:=l.length) (.inl rfl) (.inr ⟨rfl,by rw [entR_length]⟩) hj (by rw [entR_length]; exact Nat.le_refl _)
      refine ⟨w.1,?_⟩
      have w2:=w.2
      rwa [<- entR_length l,List.take_length,entR_drop,entR_length] at w2
    obtain ⟨v14,q1,q2⟩:=hlo e9
    simp only [hb0,AM.mk_some,mkSlc_eq,tk_eq,q1,lo e9,opt_some,hb1,(hhi e10).1]
    obtain ⟨v18,H11,a1,a2,a3⟩:=g10.app (bytes:=24) (Nat.zero_le _) (q2.mono ((Ext.refl _).new (.cells (EntryI.cells ⟨s,(k.toNat:Int)⟩) none))) (entR_plain _) (by decide) (by decide) (by simp [entR_length]; omega) (by simp [entR_length]; omega)
    obtain ⟨e11,f11⟩:=grew_ext a3 e10 (fun b hb=>by simp [blk] at hb; omega)
    have hk11:H11.get (H1.next+1) = .cells (EntryI.cells ⟨s,(k.toNat:Int)⟩) none:=by
      rw [a3.1.get (by simp) (by simp [blkL,blk])]
      exact AH.get_new_self _ _
    have hxr:Rows H11 2 (slc (H1.next+1) 0 1 1) [EntryI.cells ⟨s,(k.toNat:Int)⟩]:=Rows.made (f:=none) (by rw [hk11]; simp) (.inl rfl) rfl (by intro r hr; simp at hr; subst hr; rfl)
    have a1':app 2 24 (slc H1.next 0 0 0) v14 ((H1.new (.cells [] none)).new (.cells (EntryI.cells ⟨s,(k.toNat:Int)⟩) none))=some (v18,H11):=a1
    simp only [a1',opt2_some,tk_eq]
    refine ⟨by rw [(hhi e11).1],?_,by rw [lo e11],?_⟩
    · show H11.get (H1.next+1)=_
      rw [hk11]
      exact (AH.get_new_self _ _).symm
    obtain ⟨v19,H12,b1,b2,b3⟩:=a2.app (bytes:=24) (Nat.zero_le _) hxr (by intro r hr; simp at hr; subst hr; rfl) (by decide) (by decide) (by simp [entR_length]; omega) (by simp [entR_length]; omega)
    obtain ⟨e12,f12⟩:=grew_ext b3 e11 f11
    have b1':app 2 24 v18 (slc (H1.new (.cells [] none)).next 0 1 1) H11=some (v19,H12):=b1
    simp only [b1',opt2_some,tk_eq]
    refine ⟨by rw [(hhi e12).1],?_⟩
    obtain ⟨v20,H13,c1,c2,c3⟩:=b2.app (bytes:=24) (Nat.zero_le _) (hhi e12).2 (entR_plain _) (by decide) (by decide) (by simp [entR_length]; omega) (by simp [entR_length]; omega)
    obtain ⟨e13,f13⟩:=grew_ext c3 e12 f12
    simp only [c1,opt2_some,tk_eq]
    refine hQ v20 H13 (x1.trans e13) ?_ fun b hb=>Nat.le_trans x1.1 (f13 b hb)
    rw [insertE_split (s,k) l j hj hn hlast,entR_append,entR_append]
    have he1:entR [(s,k)]=[EntryI.cells ⟨s,(k.toNat:Int)⟩]:=rfl
    rw [he1]
    simpa using c2
  by_cases hjl:j<l.length
  · have hjl':(j:Int)<l.length:=by omega
    obtain ⟨b',o',f1,f2⟩:=hv1.ix (i:=j) (by rw [entR_length]; exact hjl)
    have hrow:(entR l)[j]'(by rw [entR_length]; exact hjl)=[str l[j].1,vi (l[j].2.toNat:Int)]:=by simp [entR]
    rw [hrow] at f2
    have f3:(H1.get b').cell o'=some (str l[j].1):=by have:=row_at f2 (j:=0) (by omega); simpa using this
    by_cases hlt:Op.bytesLess l[j].1 s=true
    · have hX:=hX hjl [v,ptr H.next 0,vi ((j+1:Nat):Int)] H1 ⟨rfl,rfl,fun i hi hij=>by
        by_cases e:i=j
        · subst e; exact hlt
        · exact hn i hi (by omega)⟩
      generalize hj1:j+1=j1 at *
      simp [F.f75_l1,hlv,hjl',f1,f3,hx,hj0,hlt,hjj]
      exact hX
    · have hlt:Op.bytesLess l[j].1 s=false:=by simpa using hlt
      simp only [F.f75_l1,nth_0,nth_1,nth_2,hlv,i64_lss,hjl',decide_true,gd_tt,f1,addOff_ptr,load1_ptr,Nat.add_zero,f3,hx,cell_cells_z,hj0,binStr_lss,hlt,pick_true_z,tk_eq,opt_some,ifB_false]
      exact fin fun _=>hlt
  · have hjl':¬ (j:Int)<l.length:=by omega
    simp only [F.f75_l1,nth_0,nth_1,nth_2,hlv,i64_lss,hjl',decide_false,gd_ft,pick_false_z,tk_eq,opt_some,ifB_false]
    exact fin fun h=>(hjl h).elim
theorem S.f76 (hE:Fold E) (v:Value) (l:List (NameL×BitVec 16)) (hv:Rows H 2 v (entR l)) (hl:l.length<2 ^ 36) (j:Nat) (hj:j<l.length)
  (hQ:∀ v' H',Ext H H'->Grow zH H' 2 v' (entR (l.eraseIdx j))->FreshV H.next v'->Q v' H'):E.call (E.fid i.f76) [v,vi j] H Q:=by
 apply hE.f76
 have hb0:buildS 0 2 #[(.string ⟨#[]⟩),(.int .i64 0)] []=some (.cells [] none,mkSlc 0 0):=buildS0 2 [str [],vi 0] rfl
 have e9:Ext H (H.new (.cells [] none)):=(Ext.refl H).new _
 have g9:Grow zH (H.new (.cells [] none)) 2 (slc H.next 0 0 0) []:=Grow.room (zH_get _) (AH.get_new_self _ _) rfl
 have hjj:=i64_succ j (by omega)
 have hlo:∃ v14,slSlc 2 v none (some (vi j)) none (H.new (.cells [] none))=some v14/\Rows (H.new (.cells [] none)) 2 v14 (entR (l.take j)):=by
  obtain ⟨w,w1,w2⟩:=(hv.mono e9).slice (lo:=none) (hi:=some (vi j)) (i:=0) (j:=j) (.inr ⟨rfl,rfl⟩) (.inl rfl) (Nat.zero_le _) (by rw [entR_length]; omega)
  refine ⟨w,w1,?_⟩
  rwa [List.drop_zero,entR_take] at w2
 have hhi:∀ {Hx},Ext H Hx->slSlc 2 v (some (vi ((j+1:Nat):Int))) none none Hx=some (sliceV 2 v (j+1) l.length)/\Rows Hx 2 (sliceV 2 v (j+1) l.length) (entR (l.drop (j+1))):=fun {Hx} e=>by
  have w:=(hv.mono e).slice' (lo:=some (vi ((j+1:Nat):Int))) (hi:=none) (i:=j+1) (j:=l.length) (.inl rfl) (.inr ⟨rfl,by rw [entR_length]⟩) hj (by rw [entR_length]; exact Nat.le_refl _)
  refine ⟨w.1,?_⟩
  have w2:=w.2
  rwa [<- entR_length l,List.take_length,entR_drop,entR_length] at w2
 obtain ⟨v14,q1,q2⟩:=hlo
 simp only [F.f76,hb0,AM.mk_some,mkSlc_eq,tk_eq,q1,opt_some,hjj,(hhi e9).1]
 obtain ⟨v18,H11,a1,a2,a3⟩:=g9.app (bytes:=24) (Nat.zero_le _) q2 (entR_plain _) (by decide) (by decide) (by simp [entR_length]; omega) (by simp [entR_length]; omega)
 obtain ⟨e11,f11⟩:=grew_ext a3 e9 (fun b hb=>by simp [blk] at hb; omega)
 have a1':app 2 24 (slc H.next 0 0 0) v14 (H.new (.cells [] none))=some (v18,H11):=a1
 simp only [a1',opt2_some,tk_eq]
 refine ⟨by rw [(hhi e11).1],?_⟩
 obtain ⟨v20,H13,c1,c2,c3⟩:=a2.app (bytes:=24) (Nat.zero_le _) (hhi e11).2 (entR_plain _) (by decide) (by decide) (by simp [entR_length]; omega) (by simp [entR_length]; omega)
 obtain ⟨e13,f13⟩:=grew_ext c3 e11 f11
 simp only [c1,opt2_some,tk_eq]
 refine hQ v20 H13 e13 ?_ f13
 rw [List.eraseIdx_eq_take_drop_succ,entR_append]
 simpa using c2
theorem S.f72 (hE:Fold E) (hs:T.small):∀ (f:Nat) {H:AH} {Q:Value->AH->Prop} (_:RefT H t nv mv nx mr Y T) (n:BitVec 16) (_:T.fitsF f n) (_:f<=20) (_:∀ H',Ext H H'->Q (vi (T.tall n)) H'),E.call (E.fid i.f72) [ptr t 0,vi (n.toNat:Int)] H Q
 | 0,_,_,_,_,hf,_,_=>hf.elim
 | f+1,H,Q,h,n,hf0,hle,hQ=>by
  apply hE.f72
  obtain ⟨hd,hf⟩:=hf0
  simp only [F.f72]
  refine S.f64 hE h n fun b o y H1 e1 hn _ =>?_
  obtain ⟨_,_,c2,_⟩:=hn.cell
  have hl:=hn.lenL
  have hsn:=hs n
  let g:Nat->NameL×BitVec 16->Nat:=fun b e=>if (T.node e.2).kind=2#8 then max b (T.tallF 20 e.2) else b
  have hg:∀ b e,b<=20->g b e<=20:=by
   intro b e hb
   simp only [g]
   split
   ·have:=Tr.tallF_le T 20 e.2
    omega
   ·exact hb
  refine LoopL.count (T.node n).ents.length (fun j ls H'=>∃ w:Nat,ls=[ptr t 0,vi w,ptr b o,vi j]/\Ext H1 H'/\w=((T.node n).ents.take j).foldl g 0/\w<=20) ?_ ⟨0,rfl,Ext.refl _,rfl,by omega⟩
  rintro j _ H2 X hj hX ⟨w,rfl,e2,hw,hw20⟩
  have hn2:=hn.mono e2
  obtain ⟨_,_,c2',_⟩:=hn2.cell
  by_cases hjl:j<(T.node n).ents.length
  ·have hjl':(j:Int)<(T.node n).ents.length:=by omega
   obtain ⟨b',o',f1,f2⟩:=hn2.2.2.ix (i:=j) (by rw [entR_length]; exact hjl)
   have hrow:(entR (T.node n).ents)[j]'(by rw [entR_length]; exact hjl)=[str (T.node n).ents[j].1,vi ((T.node n).ents[j].2.toNat:Int)]:=by simp [entR]
   rw [hrow] at f2
   have f3:(H2.get b').cell (o'+1)=some (vi ((T.node n).ents[j].2.toNat:Int)):=by have:=row_at f2 (j:=1) (by omega); simpa using this
   have hfj:=hf (T.node n).ents[j] (List.getElem_mem hjl)
   have hstep:((T.node n).ents.take (j+1)).foldl g 0=g w (T.node n).ents[j]:=by
    rw [List.take_succ_eq_append_getElem hjl,List.foldl_append,<- hw]; rfl
   have hgw:=hg w (T.node n).ents[j] hw20
   generalize (T.node n).ents[j]=en at *
   have hjj:=i64_succ j (by omega)
   simp only [F.f72_l1,nth_0,nth_1,nth_2,nth_3,nilCk_p,addOff_ptr,load1_ptr,c2',hl,i64_lss,hjl',decide_true,f1,f3,tk_eq,opt_some,ifB_true]
   refine S.f64 hE (h.mono (e1.trans e2)) en.2 fun b2 o2 y2 H3 e3 hn3 _ =>?_
   obtain ⟨c0,_⟩:=hn3.cell
   have hk2:=kind2 (T.node en.2).kind
   have e13:=e2.trans e3
   by_cases c:(T.node en.2).kind=2#8
   ·rw [eq_true c] at hk2
    simp only [nilCk_p,addOff_ptr,load1_ptr,Nat.add_zero,c0,i64_eql,hk2,decide_true,tk_eq,opt_some,ifB_true]
    refine S.f72 hE hs f (h.mono (e1.trans e13)) en.2 (hfj.2 c) (by omega) fun H4 e4 =>?_
    unfold Tr.tall
    have hmx:(if (T.tallF 20 en.2:Int) > (w:Int) then (T.tallF 20 en.2:Int) else (w:Int))=((max w (T.tallF 20 en.2):Nat):Int):=by
     split <;> omega
    simp only [i64_max_z,hmx,nth_0,nth_1,nth_2,nth_3,hjj,tk_eq,opt_some]
    refine hX hjl _ _ ⟨_,rfl,e13.trans e4,?_,?_⟩
    ·rw [hstep]; simp [g,c]
    ·simpa [g,c] using hgw
   ·rw [eq_false c] at hk2
    simp only [nilCk_p,addOff_ptr,load1_ptr,Nat.add_zero,c0,i64_eql,hk2,decide_false,nth_0,nth_1,nth_2,nth_3,hjj,tk_eq,opt_some,ifB_false]
    refine hX hjl _ _ ⟨w,rfl,e13,?_,hw20⟩
    rw [hstep]; simp [g,c]
  ·have hjl':¬ (j:Int)<(T.node n).ents.length:=by omega
   have hje:j=(T.node n).ents.length:=by omega
   have:T.tall n=w+1:=by
    unfold Tr.tall
    rw [Tr.tallF_eq T (f+1) n ⟨hd,hf⟩ 20 hle]
    simp only [Tr.tallF,Nat.add_right_cancel_iff]
    rw [hw,hje,List.take_length]
    have:∀ (l:List (NameL×BitVec 16)) (b:Nat),(∀ e∈l,e∈(T.node n).ents)->l.foldl (fun b e=>if (T.node e.2).kind=2#8 then max b (T.tallF f e.2) else b) b=l.foldl g b:=by
     intro l
     induction l with
     | nil=>intro b _; rfl
     | cons e l ih =>
      intro b hbb
      simp only [List.foldl_cons]
      rw [ih _ fun x hx=>hbb x (by simp [hx])]
      congr 1
      simp only [g]
      split
      ·rename_i hk
       rw [Tr.tallF_eq T f e.2 ((hf e (hbb e (by simp))).2 hk) 20 (by omega)]
      ·rfl
    exact this _ _ fun _ h=>h
   have hww:=i64_succ w (by omega)
   rw [this] at hQ
   simp only [F.f72_l1,nth_0,nth_1,nth_2,nth_3,nilCk_p,addOff_ptr,load1_ptr,c2',hl,i64_lss,hjl',decide_false,hww,tk_eq,opt_some,ifB_false]
   exact hQ _ (e1.trans e2)
end
end Go.AM
end
section
namespace Go.AM
theorem zip_modify (f:Nd->Nd):∀ {N:List Nd} {Y:List RLy} {k:Nat} {x:Nd} (y':RLy),N[k]? = some x->k<Y.length->(N.modify k f).zip (Y.set k y')=(N.zip Y).set k (f x,y')
 | [],_,k,_,_,h,_=>by simp at h
 | _ :: _,[],k,_,_,_,h=>by simp at h
 | x0 :: N,y0 :: Y,0,x,y',h,_=>by
  simp at h; subst h; simp
 | x0 :: N,y0 :: Y,k+1,x,y',h,hk=>by
  have:=zip_modify f (N:=N) (Y:=Y) (k:=k) (x:=x) y' (by simpa using h) (by simpa using hk)
  simp [this]
section
variable {E:Sy} {H0 H H' H'' H1:AH} {Q:Value->AH->Prop} {t:Nat} {nv nv' nv'' mv:Value} {nx:Int} {mr:List (List Value)} {Y Y' Y'':List RLy} {T T' T'':Tr}
theorem Upd.fresh {sz:Nat} {v v':Value} {rows rows':List (List Value)} (e:Ext H H') (g:Grow zH H' sz v' rows') (f:FreshV H.next v'):Upd (growR sz v rows) (growR sz v' rows') H H' :=
 Grow.upd ⟨e.only,fun b hb => .inr (f b hb)⟩ g
theorem nodeRR.setL {x x':Nd} {y:RLy} {v':Value} (h:Ow (nodeRR x y) H) (hd:x'.data=x.data) (e:Ext H H') (g:Grow zH H' 2 v' (entR x'.ents)) (f:FreshV H.next v'):Upd (nodeRR x y) (nodeRR x' { y with l:=v' }) H H':=by
 have u:=Ow.set (rs:=[growR 1 y.data (byteR x.data),growR 2 y.l (entR x.ents)]) h (k:=1) rfl (Upd.fresh (rows:=entR x.ents) (v:=y.l) e g f)
 unfold nodeRR
 rw [hd]
 exact u
theorem nodeRR.setD {x x':Nd} {y:RLy} {v':Value} (h:Ow (nodeRR x y) H) (hd:x'.ents=x.ents) (e:Ext H H') (g:Grow zH H' 1 v' (byteR x'.data)) (f:FreshV H.next v'):Upd (nodeRR x y) (nodeRR x' { y with data:=v' }) H H':=by
 have u:=Ow.set (rs:=[growR 1 y.data (byteR x.data),growR 2 y.l (entR x.ents)]) h (k:=0) rfl (Upd.fresh (rows:=byteR x.data) (v:=y.data) e g f)
 unfold nodeRR
 rw [hd]
 exact u
theorem nodeRR.same {x x':Nd} {y:RLy} (hd:x'.data=x.data) (he:x'.ents=x.ents):nodeRR x' y=nodeRR x y:=by
 unfold nodeRR; rw [hd,he]
theorem RefT.node_y (h:RefT H t nv mv nx mr Y T) {n:BitVec 16} (hn:n.toNat<T.N.length) {y:RLy} (hy:Y[n.toNat]? = some y):Ow (nodeRR (T.node n) y) H:=h.part (Tr.node_get hn) hy
theorem RefT.cell (h:RefT H t nv mv nx mr Y T) {n:BitVec 16} (hn:n.toNat<T.N.length) {y:RLy} (hy:Y[n.toNat]? = some y) {b o:Nat} (hp:ixSlc 7 nv (vi (n.toNat:Int))=some (ptr b o)) (f:Nd->Nd) (y':RLy)
  (u:Upd (nodeRR (T.node n) y) (nodeRR (f (T.node n)) y') H H1) {k:Nat} (hk:k<7) {v:Value} (hv:plain1 v=true) (hc:(refI (f (T.node n)) y').cells=(refI (T.node n) y).cells.set k v) :
  ∃ H',store1 (ptr b (o+k)) v H1=some H'/\UpdR t nv mv nx mr Y T nv (Y.set n.toNat y') (T.upd n f) H H':=by
 have hx:=Tr.node_get hn
 have hylt:n.toNat<Y.length:=by rw [h.len]; exact hn
 have hz:(T.N.zip Y)[n.toNat]? = some (T.node n,y):=by simp [List.zip,List.getElem?_zipWith,hx,hy]
 have hk3:(refRs t nv mv nx mr Y T)[n.toNat+3]? = some (nodeRR (T.node n) y):=by simp [refRs,hz]
 have u1:=h.ow.set (rs:=refRs t nv mv nx mr Y T) hk3 u
 have o1:=h.ow.upd u1
 have g1:Grow zH H1 7 nv (nodeRows T Y):=o1.holds (growR 7 nv (nodeRows T Y)) (by simp [refRs])
 have hi:n.toNat<(nodeRows T Y).length:=by rw [h.rows_len]; exact hn
 obtain ⟨b',o',H',q1,q2,q3,q4,q5⟩:=g1.store (i:=n.toNat) (k:=k) hi hk v hv
 rw [hp] at q1
 simp only [Option.some.injEq,Value.pointer.injEq,Addr.mk.injEq,and_true] at q1
 obtain ⟨rfl,rfl⟩:=q1
 have hrow:(nodeRows T Y)[n.toNat]=(refI (T.node n) y).cells:=by
  have:(nodeRows T Y)[n.toNat]? = some (refI (T.node n) y).cells:=by simp only [nodeRows,List.getElem?_map,hz]; rfl
  rw [List.getElem?_eq_getElem hi] at this
  exact Option.some.inj this
 rw [hrow,<- hc] at q4
 have u2:=o1.set (rs:=(refRs t nv mv nx mr Y T).set (n.toNat+3) (nodeRR (f (T.node n)) y')) (k:=1) (r:=growR 7 nv (nodeRows T Y)) (by simp [refRs]) (Grow.upd (v:=nv) (rows:=nodeRows T Y) ⟨q5,fun b hb => .inl hb⟩ q4)
 have hzz:=zip_modify f y' hx hylt
 have he:((refRs t nv mv nx mr Y T).set (n.toNat+3) (nodeRR (f (T.node n)) y')).set 1 (growR 7 nv ((nodeRows T Y).set n.toNat (refI (f (T.node n)) y').cells))=refRs t nv mv nx mr (Y.set n.toNat y') (T.upd n f):=by
  simp only [refRs,nodeRows,Tr.upd,hzz,List.map_set,List.set_cons_succ,List.set_cons_zero]
 refine ⟨H',q3,?_,by simp [Tr.upd,h.len],by simpa [Tr.upd] using h.fit⟩
 have:=u1.trans u2
 rw [he] at this
 exact this
theorem RefT.num (h:RefT H t nv mv nx mr Y T) {n:BitVec 16} (hn:n.toNat<T.N.length) {y:RLy} (hy:Y[n.toNat]? = some y) {b o:Nat} (hp:ixSlc 7 nv (vi (n.toNat:Int))=some (ptr b o)) (f:Nd->Nd)
  (hf:∀ x:Nd,(f x).data=x.data/\(f x).ents=x.ents) {k:Nat} (hk:k<7) {v:Int} (hc:(refI (f (T.node n)) y).cells=(refI (T.node n) y).cells.set k (vi v)) :
  ∃ H',store1 (ptr b (o+k)) (vi v) H=some H'/\UpdR t nv mv nx mr Y T nv Y (T.upd n f) H H':=by
 obtain ⟨H',q1,q2⟩:=h.cell hn hy hp f y (by rw [nodeRR.same (hf _).1 (hf _).2]; exact (h.node_y hn hy).refl) hk (v:=vi v) rfl hc
 refine ⟨H',q1,?_⟩
 have:Y.set n.toNat y=Y:=by
  apply List.ext_getElem?
  intro i
  by_cases e:n.toNat=i
  ·subst e
   rw [List.getElem?_set_self (by rw [h.len]; exact hn),hy]
  ·rw [List.getElem?_set_ne e]
 rwa [this] at q2
theorem RefT.tick (h:RefT H t nv mv nx mr Y T):∃ H',store1 (ptr t 4) (vi (T.change+1)) H=some H'/\UpdR t nv mv nx mr Y T nv Y T.bump H H':=by
 have hh:=h.head
 refine ⟨H.put t (.cells (TreeI.cells ⟨nv,T.limit,mv,nx,T.change+1⟩) none),?_,?_,h.len,h.fit⟩
 ·rw [store1_ptr]
  simp [hh,plain1]
 ·exact h.ow.set (rs:=refRs t nv mv nx mr Y T) (k:=0) rfl (boxR.put hh _)
theorem noneV:buildV [(0,1),(1,1),(2,1),(3,1),(4,1),(5,1),(6,1)] #[(.int .i64 0),(.slice none 0 0),(.slice none 0 0),(.int .i64 0),(.string ⟨#[]⟩),(.int .i64 0),(.int .i64 0)] []=some (.agg (refI Nd.none ⟨nilS,nilS⟩).cells.toArray):=rfl
theorem node_kind_lt {n:BitVec 16} (h:(T.node n).kind≠0#8):n.toNat<T.N.length:=by
 by_cases hn:n.toNat<T.N.length
 ·exact hn
 ·exact (h (by rw [Tr.node_ge (by omega)]; rfl)).elim
theorem S.f73 (hE:Fold E) (h:RefT H t nv mv nx mr Y T) (n:BitVec 16) (hn:n.toNat<T.N.length) (hQ:∀ Y' H',UpdR t nv mv nx mr Y T nv Y' (T.tidy n) H H'->Q (.tuple #[]) H'):E.call (E.fid i.f73) [ptr t 0,vi (n.toNat:Int)] H Q:=by
 apply hE.f73
 have hh:=h.head
 obtain ⟨y,b,o,h1,h2,h3⟩:=h.at_ hn
 obtain ⟨_,_,_,_,_,c5,c6⟩:=h3.cell
 unfold Tr.tidy at hQ
 by_cases e1:(T.node n).links=0
 ·by_cases e2:(T.node n).held=0
  ·rw [if_pos ⟨e1,e2⟩] at hQ
   have hx:=Tr.node_get hn
   have hylt:n.toNat<Y.length:=by rw [h.len]; exact hn
   have hz:(T.N.zip Y)[n.toNat]? = some (T.node n,y):=by simp [List.zip,List.getElem?_zipWith,hx,h1]
   have hi:n.toNat<(nodeRows T Y).length:=by rw [h.rows_len]; exact hn
   obtain ⟨b',o',H',q1,q2,q3,q4⟩:=h.rows.storeN (i:=n.toNat) hi (refI Nd.none ⟨nilS,nilS⟩).cells rfl rfl
   rw [h2] at q1
   simp only [Option.some.injEq,Value.pointer.injEq,Addr.mk.injEq,and_true] at q1
   obtain ⟨rfl,rfl⟩:=q1
   have u1:=h.ow.set (rs:=refRs t nv mv nx mr Y T) (k:=1) (r:=growR 7 nv (nodeRows T Y)) (by simp [refRs]) (Grow.upd (v:=nv) (rows:=nodeRows T Y) ⟨q4,fun b hb => .inl hb⟩ q3)
   have o1:=h.ow.upd u1
   have hk3:((refRs t nv mv nx mr Y T).set 1 (growR 7 nv ((nodeRows T Y).set n.toNat (refI Nd.none ⟨nilS,nilS⟩).cells)))[n.toNat+3]? = some (nodeRR (T.node n) y):=by simp [refRs,hz]
   have ho:=o1.part hk3
   have ue:Upd (nodeRR (T.node n) y) (nodeRR Nd.none ⟨nilS,nilS⟩) H' H':=by
    refine ⟨Only.refl _ _,?_,?_,?_⟩
    ·intro r hr
     simp only [List.mem_cons,List.not_mem_nil,or_false] at hr
     rcases hr with rfl | rfl
     ·exact Grow.nil _ _ _
     ·exact Grow.nil _ _ _
    ·intro b hb
     simp [nodeRR,joinR,growR,blkL,blk] at hb
    ·simp [nodeRR,joinR,growR,blkL,blk]
   have u2:=o1.set hk3 ue
   have hzz:=zip_modify (fun _=>Nd.none) (⟨nilS,nilS⟩:RLy) hx hylt
   have he:((refRs t nv mv nx mr Y T).set 1 (growR 7 nv ((nodeRows T Y).set n.toNat (refI Nd.none ⟨nilS,nilS⟩).cells))).set (n.toNat+3) (nodeRR Nd.none ⟨nilS,nilS⟩)=refRs t nv mv nx mr (Y.set n.toNat ⟨nilS,nilS⟩) (T.upd n fun _=>Nd.none):=by
    simp only [refRs,nodeRows,Tr.upd,hzz,List.map_set,List.set_cons_succ,List.set_cons_zero]
   have u3:=u1.trans u2
   rw [he] at u3
   simp only [F.f73,nilCk_p,addOff_ptr,load1_ptr,Nat.add_zero,Nat.zero_add,hh,cell_cells_z,TreeI.at0,h2,c5,e1,i64_eql,decide_true,gd_tt,c6,e2,pick_true_z,noneV,q2,tk_eq,opt_some,ifB_true]
   exact hQ _ H' ⟨u3,by simp [Tr.upd,h.len],by simpa [Tr.upd] using h.fit⟩
  ·rw [if_neg fun k=>e2 k.2] at hQ
   simp only [F.f73,nilCk_p,addOff_ptr,load1_ptr,Nat.add_zero,Nat.zero_add,hh,cell_cells_z,TreeI.at0,h2,c5,e1,i64_eql,decide_true,gd_tt,c6,e2,decide_false,pick_true_z,tk_eq,opt_some,ifB_false]
   exact hQ Y H (h.same (Ext.refl _))
 ·rw [if_neg fun k=>e1 k.1] at hQ
  simp only [F.f73,nilCk_p,addOff_ptr,load1_ptr,Nat.add_zero,Nat.zero_add,hh,cell_cells_z,TreeI.at0,h2,c5,e1,i64_eql,decide_false,gd_ft,pick_false_z,tk_eq,opt_some,ifB_false]
  exact hQ Y H (h.same (Ext.refl _))
theorem S.f59 (hE:Fold E) (h:RefT H t nv mv nx mr Y T) (n:BitVec 16) (more:Bool) (hb:0<=(T.node n).held/\(T.node n).held<9223372036854775807)
  (hQ:∀ Y' H',UpdR t nv mv nx mr Y T nv Y' (T.hold n more).1 H H'->Q (vi (T.hold n more).2) H'):E.call (E.fid i.f59) [ptr t 0,vi (n.toNat:Int),vb more] H Q:=by
 apply hE.f59
 simp only [F.f59]
 refine S.f64 hE h n fun b o y H1 e1 hn hat =>?_
 obtain ⟨c0,_,_,_,_,_,c6⟩:=hn.cell
 unfold Tr.hold at hQ
 by_cases k0:(T.node n).kind=0#8
 ·simp [k0] at hQ
  have:((T.node n).kind.toNat:Int)=0:=by rw [k0]; rfl
  simp only [nilCk_p,addOff_ptr,load1_ptr,Nat.add_zero,c0,this,i64_eql,decide_true,tk_eq,opt_some,ifB_true]
  exact hQ _ _ (h.same e1)
 ·have hk:¬ ((T.node n).kind.toNat:Int)=0:=by rw [kind0]; exact k0
  have hlt:=node_kind_lt k0
  obtain ⟨rfl,hy,hp⟩:=hat hlt
  simp only [nilCk_p,addOff_ptr,load1_ptr,Nat.add_zero,c0,hk,i64_eql,decide_false,tk_eq,opt_some,ifB_false]
  cases more with
  | true =>
   simp [k0] at hQ
   obtain ⟨H2,q1,q2⟩:=h.num hlt hy hp (Nd.addH 1) (fun _=>⟨rfl,rfl⟩) (k:=6) (by omega) (v:=(T.node n).held+1) rfl
   simp only [ifB_true,nilCk_p,addOff_ptr,load1_ptr,c6,i64_add (a:=(T.node n).held) (b:=1) (by omega) (by omega),q1,tk_eq,opt_some]
   exact hQ _ _ q2
  | false =>
   by_cases k1:(T.node n).held=0
   ·simp [k0,k1] at hQ
    simp only [ifB_false,nilCk_p,addOff_ptr,load1_ptr,i64_eql,c6,k1,decide_true,ifB_true,tk_eq,opt_some]
    exact hQ _ _ (h.same e1)
   ·simp [k0,k1] at hQ
    obtain ⟨H2,q1,q2⟩:=h.num hlt hy hp (Nd.addH (-1)) (fun _=>⟨rfl,rfl⟩) (k:=6) (by omega) (v:=(T.node n).held - 1) rfl
    simp only [ifB_false,nilCk_p,addOff_ptr,load1_ptr,i64_eql,c6,k1,decide_false,i64_sub (a:=(T.node n).held) (b:=1) (by omega) (by omega),q1,tk_eq,opt_some]
    refine S.f73 hE (q2.ref h) n (by simpa [Tr.upd] using hlt) fun Y' H3 u =>?_
    exact hQ _ _ (q2.trans u)
end
end Go.AM
end
section
namespace Go.AM
section
variable {E:Sy} {H0 H H' H'' H1:AH} {Q:Value->AH->Prop} {t:Nat} {nv nv' nv'' mv:Value} {nx:Int} {mr:List (List Value)} {Y Y' Y'':List RLy} {T T' T'':Tr}
theorem RefT.newL (h:RefT H t nv mv nx mr Y T) {n:BitVec 16} (hn:n.toNat<T.N.length) {y:RLy} (hy:Y[n.toNat]? = some y) {b o:Nat} (hp:ixSlc 7 nv (vi (n.toNat:Int))=some (ptr b o)) (f:Nd->Nd)
  (hf:∀ x:Nd,(f x).data=x.data) {v':Value} (e:Ext H H1) (g:Grow zH H1 2 v' (entR (f (T.node n)).ents)) (fr:FreshV H.next v') (hc:(refI (f (T.node n)) { y with l:=v' }).cells=(refI (T.node n) y).cells.set 2 v') :
  ∃ H',store1 (ptr b (o+2)) v' H1=some H'/\UpdR t nv mv nx mr Y T nv (Y.set n.toNat { y with l:=v' }) (T.upd n f) H H' :=
 h.cell hn hy hp f _ (nodeRR.setL (h.node_y hn hy) (hf _) e g fr) (by omega) g.plain hc
theorem entryV (s:NameL) (k:BitVec 16):buildV [(0,1),(1,1)] #[(.string ⟨#[]⟩),(.int .i64 0)] [(0,str s),(1,vi (k.toNat:Int))]=some (.agg (EntryI.cells ⟨s,(k.toNat:Int)⟩).toArray):=EntryI.build s (k.toNat:Int)
theorem Tr.room_zero {n:BitVec 16} {s:NameL} (h:T.room n s=0):(T.node n).kind=2#8/\alook s (T.node n).ents=none/\(T.node n).links≠0/\okName s=true/\(T.node n).ents.length<32:=by
 unfold Tr.room at h
 by_cases d1:T.dir n=0
 ·have hk:(T.node n).kind=2#8:=by
   unfold Tr.dir at d1
   split at d1
   ·simp at d1
   ·split at d1
    ·assumption
    ·simp at d1
  simp only [d1,ne_eq,not_true,if_false] at h
  by_cases ok:okName s=false
  ·simp [ok] at h
  ·simp only [ok,Bool.false_eq_true,if_false] at h
   cases hl:alook s (T.node n).ents with
   | some x=>rw [hl] at h; simp at h
   | none =>
    rw [hl] at h
    simp only [Option.isSome_none,Bool.false_eq_true,if_false] at h
    split at h
    ·simp at h
    ·split at h
     ·simp at h
     ·exact ⟨hk,rfl,by assumption,by simpa using ok,by omega⟩
 ·simp [d1] at h
theorem S.f55 (hE:Fold E) (h:RefT H t nv mv nx mr Y T) (hs:T.small) (n:BitVec 16) (s:NameL) (hsl:s.length<2 ^ 63) (v:BitVec 16) (hc : -9223372036854775808<=T.change/\T.change<9223372036854775807)
  (hl:0<=(T.node v).links) (hQ:∀ Y' H',UpdR t nv mv nx mr Y T nv Y' (T.add n s v).1 H H'->Q (vi (T.add n s v).2) H'):E.call (E.fid i.f55) [ptr t 0,vi (n.toNat:Int),str s,vi (v.toNat:Int)] H Q:=by
 apply hE.f55
 simp only [F.f55]
 refine S.f64 hE h v fun b o y H1 e1 hn hat =>?_
 obtain ⟨c0,_,_,_,_,c5,_⟩:=hn.cell
 unfold Tr.add at hQ
 by_cases k0:(T.node v).kind=0#8
 ·simp [k0] at hQ
  have:((T.node v).kind.toNat:Int)=0:=by rw [k0]; rfl
  simp only [nilCk_p,addOff_ptr,load1_ptr,Nat.add_zero,c0,this,i64_eql,decide_true,tk_eq,opt_some,ifB_true]
  exact hQ _ _ (h.same e1)
 have hk:¬ ((T.node v).kind.toNat:Int)=0:=by rw [kind0]; exact k0
 have hlt:=node_kind_lt k0
 obtain ⟨rfl,hy,hp⟩:=hat hlt
 by_cases k2:(T.node v).kind=2#8
 ·simp [k0,k2] at hQ
  have:((T.node v).kind.toNat:Int)=2:=by rw [k2]; rfl
  simp only [nilCk_p,addOff_ptr,load1_ptr,Nat.add_zero,c0,this,show decide ((2:Int)=0)=false from rfl,i64_eql,decide_true,decide_false,tk_eq,opt_some,ifB_true,ifB_false]
  exact hQ _ _ (h.same e1)
 have hk2:¬ ((T.node v).kind.toNat:Int)=2:=by rw [kind2]; exact k2
 simp only [nilCk_p,addOff_ptr,load1_ptr,Nat.add_zero,c0,hk,hk2,i64_eql,decide_false,tk_eq,opt_some,ifB_false]
 refine S.f71 hE h hs n s hsl fun H2 e2 =>?_
 have hn2:=hn.mono e2
 obtain ⟨_,_,_,_,_,c5,_⟩:=hn2.cell
 by_cases r0:T.room n s=0
 ·by_cases l0:(T.node v).links=0
  ·simp [k0,k2,r0,l0] at hQ
   simp only [i64_neq,r0,ne_eq,not_true,decide_false,decide_true,nilCk_p,addOff_ptr,load1_ptr,c5,l0,i64_eql,tk_eq,opt_some,ifB_true,ifB_false]
   exact hQ _ _ (h.same e2)
  by_cases l1:256<=(T.node v).links
  ·simp [k0,k2,r0,l0,l1] at hQ
   simp only [i64_neq,r0,ne_eq,not_true,decide_false,decide_true,nilCk_p,addOff_ptr,load1_ptr,c5,l0,l1,i64_eql,i64_geq,tk_eq,opt_some,ifB_true,ifB_false]
   exact hQ _ _ (h.same e2)
  simp [k0,k2,r0,l0,l1] at hQ
  obtain ⟨hd,hno,_⟩:=Tr.room_zero r0
  have hdlt:n.toNat<T.N.length:=node_kind_lt (by rw [hd]; decide)
  have h2:=h.mono e2
  obtain ⟨yn,bn,on,y1,p1,nd1⟩:=h2.at_ hdlt
  obtain ⟨_,_,c2,_⟩:=nd1.cell
  have hh:=h2.head
  simp only [i64_neq,r0,ne_eq,not_true,decide_false,nilCk_p,addOff_ptr,load1_ptr,Nat.add_zero,Nat.zero_add,c5,l0,l1,i64_eql,i64_geq,hh,cell_cells_z,TreeI.at0,p1,c2,entryV,tk_eq,opt_some,ifB_false]
  refine S.f75 hE yn.l (T.node n).ents nd1.2.2 (by have:=(Tr.room_zero r0).2.2.2.2; omega) s v fun v' H3 e3 g3 f3 =>?_
  have hh3:=(h2.mono e3).head
  obtain ⟨H4,s4,u4⟩:=h2.newL hdlt y1 p1 (Nd.addE s v) (fun _=>rfl) e3 g3 f3 rfl
  have h4:=u4.ref h2
  have hvn:v≠n:=by rintro rfl; exact k2 hd
  have hnode:(T.upd n (Nd.addE s v)).node v=T.node v:=by rw [Tr.node_upd (by rw [hd]; decide),if_neg hvn]
  have hlt4:v.toNat<(T.upd n (Nd.addE s v)).N.length:=by simpa [Tr.upd] using hlt
  obtain ⟨y4,b4,o4,q1,q2,q3⟩:=h4.at_ hlt4
  rw [hp] at q2
  simp only [Option.some.injEq,Value.pointer.injEq,Addr.mk.injEq,and_true] at q2
  obtain ⟨rfl,rfl⟩:=q2
  obtain ⟨_,_,_,_,_,d5,_⟩:=q3.cell
  rw [hnode] at d5
  obtain ⟨H5,s5,u5⟩:=h4.num hlt4 q1 hp (Nd.addL 1) (fun _=>⟨rfl,rfl⟩) (k:=5) (by omega) (v:=(T.node v).links+1) (by rw [hnode]; rfl)
  have h5:=u5.ref h4
  obtain ⟨H6,s6,u6⟩:=h5.tick
  have hh5:=h5.head
  refine ⟨by simp only [load1_ptr,hh3,hh],?_⟩
  have hcc:((T.upd n (Nd.addE s v)).upd v (Nd.addL 1)).change=T.change:=rfl
  rw [hcc] at s6 hh5
  simp only [p1,addOff_ptr,s4,nilCk_p,load1_ptr,d5,i64_add (a:=(T.node v).links) (b:=1) (by omega) (by omega),s5,hh5,cell_cells_z,Nat.zero_add,TreeI.at4,i64_add (a:=T.change) (b:=1) (by omega) (by omega),s6,tk_eq,opt_some]
  exact hQ _ _ ((UpdR.after e2 u4).trans (u5.trans u6))
 ·simp [k0,k2,r0] at hQ
  simp only [i64_neq,r0,ne_eq,not_false_iff,decide_true,tk_eq,opt_some,ifB_true]
  exact hQ _ _ (h.same e2)
theorem S.f58 (hE:Fold E) (h:RefT H t nv mv nx mr Y T) (hs:T.small) (n:BitVec 16) (s:NameL) (dir:Bool) (hc : -9223372036854775808<=T.change/\T.change<9223372036854775807)
    (hk:(T.look n s).2=0->(T.node (T.look n s).1).kind≠0#8 /\ -9223372036854775807<=(T.node (T.look n s).1).links/\(T.node (T.look n s).1).links<9223372036854775807) (hel:(T.node n).ents.length<2 ^ 36)
    (hQ:∀ Y' H',UpdR t nv mv nx mr Y T nv Y' (T.drop n s dir).1 H H'->Q (vi (T.drop n s dir).2) H'):E.call (E.fid i.f58) [ptr t 0,vi (n.toNat:Int),str s,vb dir] H Q:=by
  apply hE.f58
  simp only [F.f58]
  refine S.f61 hE h hs n s fun H1 e1 =>?_
  unfold Tr.drop at hQ
  by_cases l0:(T.look n s).2=0
  · obtain ⟨hd,hlk⟩:=Tr.look_ok l0
    obtain ⟨k0,k1,k2⟩:=hk l0
    simp only [l0,ne_eq,not_true,if_false] at hQ
    generalize hv:(T.look n s).1=v at *
    simp only [tk_eq,ext_tuple,List.getElem?_cons_zero,List.getElem?_cons_succ,l0,i64_neq,ne_eq,not_true,decide_false,opt_some,ifB_false]
    refine S.f64 hE (h.mono e1) v fun b o y H2 e2 hn hat =>?_
    obtain ⟨rfl,hy,hp⟩:=hat (node_kind_lt k0)
    obtain ⟨c0,_,c2,_,_,c5,_⟩:=hn.cell
    have hl:=hn.lenL
    have hvlt:=node_kind_lt k0
    have hnlt:n.toNat<T.N.length:=node_kind_lt (by rw [hd]; decide)
    have fin:¬ (dir=true/\(T.node v).kind≠2#8)->¬ (dir=false/\(T.node v).kind=2#8)->¬ (dir=true/\0<(T.node v).ents.length) ->
       (opt (nilCk (ptr t 0)) fun v26=>opt (addOff v26 0) fun v27=>opt (load1 v27 H2) fun v28=>opt (nilCk (ptr t 0)) fun v29=>opt (addOff v29 0) fun v30=>opt (load1 v30 H2) fun v31 =>
         opt (ixSlc 7 v31 (vi (n.toNat:Int))) fun v32=>opt (addOff v32 2) fun v33=>opt (load1 v33 H2) fun v34 =>
         E.call (E.fid i.f64) [ptr t 0,vi (n.toNat:Int)] H2 fun v35 H19 =>
         load1 v33 H19=load1 v33 H2/\load1 v30 H19=load1 v30 H2/\load1 v27 H19=load1 v27 H2 /\
         E.call (E.fid i.f74) [v35,str s] H19 fun v36 H20 =>
         load1 v33 H20=load1 v33 H2/\load1 v30 H20=load1 v30 H2/\load1 v27 H20=load1 v27 H2 /\
         E.call (E.fid i.f76) [v34,v36] H20 fun v37 H21 =>
         load1 v27 H21=load1 v27 H2 /\
         opt (ixSlc 7 v28 (vi (n.toNat:Int))) fun v38=>opt (addOff v38 2) fun v39=>opt (store1 v39 v37 H21) fun H22 =>
         opt (nilCk (ptr b o)) fun v40=>opt (addOff v40 5) fun v41=>opt (load1 v41 H22) fun v42=>opt (binInt .sub v42 (.int .i64 1)) fun v43 =>
         opt (nilCk (ptr b o)) fun v44=>opt (addOff v44 5) fun v45=>opt (store1 v45 v43 H22) fun H23 =>
         opt (nilCk (ptr t 0)) fun v46=>opt (addOff v46 4) fun v47=>opt (load1 v47 H23) fun v48=>opt (binInt .add v48 (.int .i64 1)) fun v49 =>
         opt (nilCk (ptr t 0)) fun v50=>opt (addOff v50 4) fun v51=>opt (store1 v51 v49 H23) fun H24 =>
         E.call (E.fid i.f73) [ptr t 0,vi (v.toNat:Int)] H24 fun v52 H25=>Q (.int .i64 0) H25):=by
      intro n1 n2 n3
      rw [if_neg n1,if_neg n2,if_neg n3] at hQ
      have h2:=h.mono e1
      obtain ⟨yn,bn,on,y1,p1,nd1⟩:=h2.at_ hnlt
      obtain ⟨_,_,c2n,_⟩:=nd1.cell
      have hh:=h2.head
      simp only [nilCk_p,addOff_ptr,load1_ptr,Nat.add_zero,Nat.zero_add,hh,cell_cells_z,TreeI.at0,p1,c2n,tk_eq,opt_some]
      refine S.f64 hE h2 n fun bz oz yz H3 e3 hnz hatz =>?_
      obtain ⟨rfl,hyz,hpz⟩:=hatz hnlt
      refine ⟨rfl,rfl,rfl,?_⟩
      refine S.f74 hE hnz s (hs n) ?_
      refine ⟨rfl,rfl,rfl,?_⟩
      obtain ⟨j,hj,j1,j2,j3⟩:=nameIx_some s _ v hlk
      rw [j1]
      refine S.f76 hE yn.l (T.node n).ents nd1.2.2 hel j hj fun v' H4 e4 g4 f4 =>?_
      rw [<- j3] at g4
      have hh4:=(h2.mono e4).head
      obtain ⟨H5,s5,u5⟩:=h2.newL hnlt y1 p1 (Nd.delE s) (fun _=>rfl) e4 g4 f4 rfl
      have h5:=u5.ref h2
      have hnode:((T.upd n (Nd.delE s)).node v).links=(T.node v).links:=by
        rw [Tr.node_upd (by rw [hd]; decide)]
        split
        · rename_i e; rw [e]; rfl
        · rfl
      have hlt5:v.toNat<(T.upd n (Nd.delE s)).N.length:=by simpa [Tr.upd] using hvlt
      obtain ⟨y5,b5,o5,q1,q2,q3⟩:=h5.at_ hlt5
      rw [hp] at q2
      simp only [Option.some.injEq,Value.pointer.injEq,Addr.mk.injEq,and_true] at q2
      obtain ⟨rfl,rfl⟩:=q2
      obtain ⟨_,_,_,_,_,d5,_⟩:=q3.cell
      rw [hnode] at d5
      obtain ⟨H6,s6,u6⟩:=h5.num hlt5 q1 hp (Nd.addL (-1)) (fun _=>⟨rfl,rfl⟩) (k:=5) (by omega) (v:=(T.node v).links - 1) (by rw [<- hnode]; rfl)
      have h6:=u6.ref h5
      obtain ⟨H7,s7,u7⟩:=h6.tick
      have hh6:=h6.head
      have hcc:((T.upd n (Nd.delE s)).upd v (Nd.addL (-1))).change=T.change:=rfl
      rw [hcc] at s7 hh6
      refine ⟨by simp only [load1_ptr,hh4,hh],?_⟩
      simp only [p1,addOff_ptr,s5,nilCk_p,load1_ptr,d5,i64_sub (a:=(T.node v).links) (b:=1) (by omega) (by omega),s6,hh6,cell_cells_z,Nat.zero_add,TreeI.at4,i64_add (a:=T.change) (b:=1) (by omega) (by omega),s7,tk_eq,opt_some]
      refine S.f73 hE (u7.ref h6) v (by simpa [Tr.upd,Tr.bump] using hvlt) fun Y' H8 u8 =>?_
      exact hQ _ _ ((UpdR.after e1 u5).trans ((u6.trans u7).trans u8))
    cases dir with
    | true =>
      by_cases k3:(T.node v).kind=2#8
      · have hk3:((T.node v).kind.toNat:Int)=2:=by rw [k3]; rfl
        by_cases z0:0<(T.node v).ents.length
        · have z0':(0:Int)<(T.node v).ents.length:=by omega
          simp [k3,z0] at hQ
          simp only [gd_tt,gd_ft,un_not_z,nilCk_p,addOff_ptr,load1_ptr,Nat.add_zero,c0,hk3,i64_neq,i64_gtr,gt_iff_lt,ne_eq,not_true,decide_false,decide_true,Bool.not_true,c2,hl,z0',pick_true_z,pick_false_z,tk_eq,opt_some,ifB_true,ifB_false]
          exact hQ _ _ (h.same e1)
        · have z0':¬ (0:Int)<(T.node v).ents.length:=by omega
          simp only [gd_tt,gd_ft,un_not_z,nilCk_p,addOff_ptr,load1_ptr,Nat.add_zero,c0,hk3,i64_neq,i64_gtr,gt_iff_lt,ne_eq,not_true,decide_false,decide_true,Bool.not_true,c2,hl,z0',pick_true_z,pick_false_z,tk_eq,opt_some,ifB_true,ifB_false]
          exact fin (by simp [k3]) (by simp) (by simp [z0])
      · have hk3:¬ ((T.node v).kind.toNat:Int)=2:=by rw [kind2]; exact k3
        simp [k3] at hQ
        simp only [gd_tt,gd_ft,un_not_z,nilCk_p,addOff_ptr,load1_ptr,Nat.add_zero,c0,hk3,i64_neq,ne_eq,not_false_iff,decide_true,pick_true_z,tk_eq,opt_some,ifB_true]
        exact hQ _ _ (h.same e1)
    | false =>
      by_cases k3:(T.node v).kind=2#8
      · have hk3:((T.node v).kind.toNat:Int)=2:=by rw [k3]; rfl
        simp [k3] at hQ
        simp only [gd_tt,gd_ft,un_not_z,nilCk_p,addOff_ptr,load1_ptr,Nat.add_zero,c0,hk3,i64_eql,decide_false,decide_true,Bool.not_false,pick_true_z,pick_false_z,tk_eq,opt_some,ifB_true,ifB_false]
        exact hQ _ _ (h.same e1)
      · have hk3:¬ ((T.node v).kind.toNat:Int)=2:=by rw [kind2]; exact k3
        simp only [gd_tt,gd_ft,un_not_z,nilCk_p,addOff_ptr,load1_ptr,Nat.add_zero,c0,hk3,i64_eql,decide_false,decide_true,Bool.not_false,pick_true_z,pick_false_z,tk_eq,opt_some,ifB_true,ifB_false]
        exact fin (by simp) (by simp [k3]) (by simp)
  · simp [l0] at hQ
    simp only [tk_eq,ext_tuple,List.getElem?_cons_zero,List.getElem?_cons_succ,l0,i64_neq,ne_eq,not_false_iff,decide_true,opt_some,ifB_true]
    exact hQ _ _ (h.same e1)
end
end Go.AM
end
section
namespace Go.AM
section
variable {E:Sy} {H0 H H' H'' H1:AH} {Q:Value->AH->Prop} {t:Nat} {nv nv' nv'' mv:Value} {nx:Int} {mr:List (List Value)} {Y Y' Y'':List RLy} {T T' T'':Tr}
theorem RefT.setRow (h:RefT H t nv mv nx mr Y T) {n:BitVec 16} (hn:n.toNat<T.N.length) (x':Nd) (hd:x'.data=[]) (he:x'.ents=[]) :
  ∃ b o H',ixSlc 7 nv (vi (n.toNat:Int))=some (ptr b o)/\storeN 7 (ptr b o) (.agg (refI x' ⟨nilS,nilS⟩).cells.toArray) H=some H'/\UpdR t nv mv nx mr Y T nv (Y.set n.toNat ⟨nilS,nilS⟩) (T.upd n fun _=>x') H H':=by
 obtain ⟨y,b,o,h1,h2,h3⟩:=h.at_ hn
 have hx:=Tr.node_get hn
 have hylt:n.toNat<Y.length:=by rw [h.len]; exact hn
 have hz:(T.N.zip Y)[n.toNat]? = some (T.node n,y):=by simp [List.zip,List.getElem?_zipWith,hx,h1]
 have hi:n.toNat<(nodeRows T Y).length:=by rw [h.rows_len]; exact hn
 obtain ⟨b',o',H',q1,q2,q3,q4⟩:=h.rows.storeN (i:=n.toNat) hi (refI x' ⟨nilS,nilS⟩).cells rfl rfl
 have u1:=h.ow.set (rs:=refRs t nv mv nx mr Y T) (k:=1) (r:=growR 7 nv (nodeRows T Y)) (by simp [refRs]) (Grow.upd (v:=nv) (rows:=nodeRows T Y) ⟨q4,fun b hb => .inl hb⟩ q3)
 have o1:=h.ow.upd u1
 have hk3:((refRs t nv mv nx mr Y T).set 1 (growR 7 nv ((nodeRows T Y).set n.toNat (refI x' ⟨nilS,nilS⟩).cells)))[n.toNat+3]? = some (nodeRR (T.node n) y):=by simp [refRs,hz]
 have ue:Upd (nodeRR (T.node n) y) (nodeRR x' ⟨nilS,nilS⟩) H' H':=by
  refine ⟨Only.refl _ _,?_,?_,?_⟩
  ·intro r hr
   simp only [List.mem_cons,List.not_mem_nil,or_false] at hr
   rcases hr with rfl | rfl
   ·rw [hd]; exact Grow.nil _ _ _
   ·rw [he]; exact Grow.nil _ _ _
  ·intro b hb
   simp [nodeRR,joinR,growR,blkL,blk] at hb
  ·simp [nodeRR,joinR,growR,blkL,blk]
 have u2:=o1.set hk3 ue
 have hzz:=zip_modify (fun _=>x') (⟨nilS,nilS⟩:RLy) hx hylt
 have he:((refRs t nv mv nx mr Y T).set 1 (growR 7 nv ((nodeRows T Y).set n.toNat (refI x' ⟨nilS,nilS⟩).cells))).set (n.toNat+3) (nodeRR x' ⟨nilS,nilS⟩)=refRs t nv mv nx mr (Y.set n.toNat ⟨nilS,nilS⟩) (T.upd n fun _=>x'):=by
  simp only [refRs,nodeRows,Tr.upd,hzz,List.map_set,List.set_cons_succ,List.set_cons_zero]
 have u3:=u1.trans u2
 rw [he] at u3
 exact ⟨b',o',H',q1,q2,u3,by simp [Tr.upd,h.len],by simpa [Tr.upd] using h.fit⟩
theorem RefT.push (h:RefT H t nv mv nx mr Y T) (hfit:T.N.length<60000) :
  ∃ v' H2 H3,AM.app 7 96 nv (slc H.next 0 1 1) (H.new (.cells (refI Nd.none ⟨nilS,nilS⟩).cells none))=some (v',H2)/\store1 (ptr t 0) v' H2=some H3/\UpdR t nv mv nx mr Y T v' (Y++[⟨nilS,nilS⟩]) { T with N:=T.N++[Nd.none] } H H3:=by
 obtain ⟨v',H2,a1,a2,a3⟩:=h.rows.app1 (Nat.zero_le _) (bytes:=96) (refI Nd.none ⟨nilS,nilS⟩).cells rfl rfl (by decide) (by decide) (by rw [h.rows_len]; omega)
 have u1:=h.ow.set (rs:=refRs t nv mv nx mr Y T) (k:=1) (r:=growR 7 nv (nodeRows T Y)) (by simp [refRs]) (Grow.upd (v:=nv) (rows:=nodeRows T Y) a3 a2)
 have o1:=h.ow.upd u1
 have hh:H2.get t = .cells (TreeI.cells ⟨nv,T.limit,mv,nx,T.change⟩) none:=o1.holds (boxR t (TreeI.cells ⟨nv,T.limit,mv,nx,T.change⟩)) (by simp [refRs])
 have u2:=o1.set (rs:=(refRs t nv mv nx mr Y T).set 1 (growR 7 v' (nodeRows T Y++[(refI Nd.none ⟨nilS,nilS⟩).cells]))) (k:=0) (by simp [refRs]) (boxR.put hh (TreeI.cells ⟨v',T.limit,mv,nx,T.change⟩))
 have o2:=o1.upd u2
 have u3:=o2.add (nodeRR Nd.none ⟨nilS,nilS⟩) (Ext.refl _) (by
  intro r hr
  simp only [List.mem_cons,List.not_mem_nil,or_false] at hr
  rcases hr with rfl | rfl
  ·exact Grow.nil _ _ _
  ·exact Grow.nil _ _ _) (by intro b hb; simp [nodeRR,joinR,growR,blkL,blk] at hb) (by simp [nodeRR,joinR,growR,blkL,blk])
 have he:(((refRs t nv mv nx mr Y T).set 1 (growR 7 v' (nodeRows T Y++[(refI Nd.none ⟨nilS,nilS⟩).cells]))).set 0 (boxR t (TreeI.cells ⟨v',T.limit,mv,nx,T.change⟩)))++[nodeRR Nd.none ⟨nilS,nilS⟩]=refRs t v' mv nx mr (Y++[⟨nilS,nilS⟩]) { T with N:=T.N++[Nd.none] }:=by
  have hz:(T.N++[Nd.none]).zip (Y++[(⟨nilS,nilS⟩:RLy)])=T.N.zip Y++[(Nd.none,⟨nilS,nilS⟩)]:=by
   rw [List.zip_append h.len.symm]; rfl
  simp [refRs,nodeRows,hz]
 have u4:=u1.trans (u2.trans u3)
 rw [he] at u4
 refine ⟨v',H2,_,a1,?_,u4,by simp [h.len],by simp; omega⟩
 rw [store1_ptr,if_pos a2.plain,hh]
 simp
theorem madeV (k:Int):buildV [(0,1),(1,1),(2,1),(3,1),(4,1),(5,1),(6,1)] #[(.int .i64 0),(.slice none 0 0),(.slice none 0 0),(.int .i64 0),(.string ⟨#[]⟩),(.int .i64 0),(.int .i64 0)] [(0,vi k),(5,vi 1)]=some (.agg (NodeI.cells ⟨k,nilS,nilS,0,[],1,0⟩).toArray):=rfl
theorem Tr.put_same {a:Nat} (x:Nd) (h:a<T.N.length) (hlt:a<65536):T.upd (BitVec.ofNat 16 a) (fun _=>x)=T.put a x:=by
 have e:(BitVec.ofNat 16 a).toNat=a:=by rw [BitVec.toNat_ofNat,Nat.mod_eq_of_lt (by omega)]
 unfold Tr.upd Tr.put
 rw [if_pos h,e]
 congr 1
 apply List.ext_getElem?
 intro i
 rw [List.getElem?_modify,List.getElem?_set]
 by_cases hi:a=i
 ·subst hi
  simp [h]
 ·simp [hi]
theorem Tr.put_push (x:Nd) (hlt:T.N.length<65536):Tr.upd { T with N:=T.N++[Nd.none] } (BitVec.ofNat 16 T.N.length) (fun _=>x)=T.put T.N.length x:=by
 rw [Tr.put_same x (by simp) hlt]
 unfold Tr.put
 simp
theorem zeroN:([(.int .i64 0),(.slice none 0 0),(.slice none 0 0),(.int .i64 0),(.string ⟨#[]⟩),(.int .i64 0),(.int .i64 0)]:List Value)=NodeI.zero.cells:=rfl
theorem S.f62 (hE:Fold E) (h:RefT H t nv mv nx mr Y T) (hs:T.small) (n:BitVec 16) (s:NameL) (hsl:s.length<2 ^ 63) (k:BitVec 8) (text:List UInt8) (hc : -9223372036854775808<=T.change/\T.change<9223372036854775807)
    (hN:1<=T.N.length/\T.N.length<60000) (hdp:k=2#8->T.room n s=0->T.deepF 20 n=T.deep n)
    (hQ:∀ nv' Y' H',UpdR t nv mv nx mr Y T nv' Y' (T.make n s k text).1 H H'->Q (.tuple #[vi ((T.make n s k text).2.1.toNat:Int),vi (T.make n s k text).2.2]) H'):E.call (E.fid i.f62) [ptr t 0,vi (n.toNat:Int),str s,vi (k.toNat:Int),str text] H Q:=by
  apply hE.f62
  simp only [F.f62]
  refine S.f71 hE h hs n s hsl fun H1 e1 =>?_
  unfold Tr.make at hQ
  by_cases r0:T.room n s=0
  rotate_left
  · simp [r0] at hQ
    simp only [i64_neq,r0,ne_eq,not_false_iff,decide_true,tk_eq,opt_some,ifB_true]
    exact hQ _ _ _ (h.same e1)
  have h1:=h.mono e1
  obtain ⟨hd,hno,_,_,hel⟩:=Tr.room_zero r0
  have hnlt:n.toNat<T.N.length:=node_kind_lt (by rw [hd]; decide)
  simp only [r0,ne_eq,not_true,if_false] at hQ
  simp only [i64_neq,r0,ne_eq,not_true,decide_false,tk_eq,opt_some,ifB_false]
  have hfree:=Tr.free_ok hN.1 (by omega:T.N.length<=60000)
  have hft:(BitVec.ofNat 16 T.free).toNat=T.free:=by rw [BitVec.toNat_ofNat,Nat.mod_eq_of_lt (by have:=hfree.lt; omega)]
  have last:(¬ (k=0#8\/3#8<k\/(k=3#8/\(text.length<1\/120<text.length))))->¬ (T.limit<=T.len\/(k=2#8/\16<=T.deep n))->∀ H2,Ext H1 H2 ->
      LoopL (fun l H X0=>F.f62_l1 E Q (nth l 0) (nth l 1) (nth l 2) (nth l 3) (nth l 4) (nth l 5) H X0) [ptr t 0,vi (n.toNat:Int),str s,vi (k.toNat:Int),str text,(.int .i64 1)] H2:=by
    intro g1 g2 H2 e2
    rw [if_neg g1,if_neg g2] at hQ
    have h2:=h1.mono e2
    have hh2:=h2.head
    have fin:∀ nv2 Y2 T2 H3,UpdR t nv mv nx mr Y T nv2 Y2 T2 H2 H3->T.free<T2.N.length->(∀ x,T2.upd (BitVec.ofNat 16 T.free) (fun _=>x)=T.put T.free x)->F.f62_j1 E Q (ptr t 0) (vi (n.toNat:Int)) (str s) (vi (k.toNat:Int)) (str text) (vi ((BitVec.ofNat 16 T.free).toNat:Int)) H3:=by
      intro nv2 Y2 T2 H3 u3 hlt3 hput
      have h3:=u3.ref h2
      have last2:∀ H4,H4=H3.new (.cells (refI (Nd.made n k text) ⟨nilS,nilS⟩).cells none)->F.f62_j3 E Q (ptr t 0) (vi (n.toNat:Int)) (str s) (vi ((BitVec.ofNat 16 T.free).toNat:Int)) (ptr H3.next 0) H4:=by
        rintro H4 rfl
        have h4:=h3.mono ((Ext.refl H3).new (.cells (refI (Nd.made n k text) ⟨nilS,nilS⟩).cells none))
        have hh4:=h4.head
        have lo:loadN 7 (ptr H3.next 0) (H3.new (.cells (refI (Nd.made n k text) ⟨nilS,nilS⟩).cells none))=some (.agg (refI (Nd.made n k text) ⟨nilS,nilS⟩).cells.toArray):=by
          rw [loadN_ptr,AH.get_new_self,row_all _ _ 7 rfl]; rfl
        have hlt4:(BitVec.ofNat 16 T.free).toNat<T2.N.length:=by rw [hft]; exact hlt3
        obtain ⟨b,o,H5,q1,q2,u5⟩:=h4.setRow hlt4 (Nd.made n k text) rfl rfl
        rw [hput] at u5
        have h5:=u5.ref h4
        have hh5:=h5.head
        have hnf:n≠BitVec.ofNat 16 T.free:=by rintro e; have:=hfree.zero; rw [<- e,hd] at this; simp at this
        have hnode:(T.put T.free (Nd.made n k text)).node n=T.node n:=by rw [Tr.node_put hfree.le hfree.lt,if_neg hnf]
        have hnlt5:n.toNat<(T.put T.free (Nd.made n k text)).N.length:=node_kind_lt (by rw [hnode,hd]; decide)
        obtain ⟨yn,bn,on,y1,p1,nd1⟩:=h5.at_ hnlt5
        rw [hnode] at nd1
        obtain ⟨_,_,c2,_⟩:=nd1.cell
        have hen:=entryV s (BitVec.ofNat 16 T.free)
        simp only [F.f62_j3,nilCk_p,addOff_ptr,load1_ptr,Nat.add_zero,Nat.zero_add,hh4,cell_cells_z,TreeI.at0,lo,q1,q2,hh5,p1,c2,hen,tk_eq,opt_some]
        refine S.f75 hE yn.l (T.node n).ents nd1.2.2 (by omega) s (BitVec.ofNat 16 T.free) fun v' H6 e6 g6 f6 =>?_
        have hh6:=(h5.mono e6).head
        obtain ⟨H7,s7,u7⟩:=h5.newL hnlt5 y1 p1 (Nd.addE s (BitVec.ofNat 16 T.free)) (fun _=>rfl) e6 (by rw [hnode]; exact g6) f6 (by rw [hnode]; rfl)
        have h7:=u7.ref h5
        obtain ⟨H8,s8,u8⟩:=h7.tick
        have hh7:=h7.head
        have hcc:((T.put T.free (Nd.made n k text)).upd n (Nd.addE s (BitVec.ofNat 16 T.free))).change=T.change:=rfl
        rw [hcc] at s8 hh7
        refine ⟨by simp only [load1_ptr,hh6,hh5],?_⟩
        simp only [p1,addOff_ptr,s7,nilCk_p,load1_ptr,hh7,cell_cells_z,Nat.zero_add,TreeI.at4,i64_add (a:=T.change) (b:=1) (by omega) (by omega),s8,tk_eq,opt_some]
        have hfin:=hQ _ _ _ (UpdR.after (e1.trans e2) (u3.trans (UpdR.after ((Ext.refl H3).new _) (u5.trans (u7.trans u8)))))
        exact hfin
      have k2:=kind2 k
      have k3:=kind3 k
      simp only [F.f62_j1,madeV (k.toNat:Int),tk_eq,opt_some]
      simp only [allocW_eq,zeroN,storeN_ptr,AH.get_new_self,NodeI.cells_length,NodeI.splice_cells,AH.new_put,List.size_toArray,Nat.zero_add,Nat.le_refl,show (NodeI.cells ⟨(k.toNat:Int),nilS,nilS,0,[],1,0⟩).all plain1=true from rfl,and_self,if_true,tk_eq,opt_some,i64_eql,k2,addOff_ptr,store1_ptr,plain1_int_z,F.f62_j2,k3]
      by_cases c2:k=2#8
      · have c3:¬ k=3#8:=by rw [c2]; decide
        simp only [ifB_true,ifB_false,F.f62_j2,i64_eql,k3,eq_true c2,eq_false c3,decide_true,decide_false,ifB_true,ifB_false,addOff_ptr,Nat.zero_add,store1_ptr,plain1_int_z,if_true,AH.get_new_self,NodeI.cells_length,show (3<7)=True from by simp,AH.new_put,NodeI.set3,tk_eq,opt_some]
        refine last2 _ ?_
        congr 2
        subst c2
        rfl
      · by_cases c3:k=3#8
        · simp only [F.f62_j2,i64_eql,k3,eq_false c2,eq_true c3,decide_true,decide_false,ifB_true,ifB_false,addOff_ptr,Nat.zero_add,store1_ptr,plain1_str_z,if_true,AH.get_new_self,NodeI.cells_length,show (4<7)=True from by simp,AH.new_put,NodeI.set4,tk_eq,opt_some]
          refine last2 _ ?_
          congr 2
          subst c3
          rfl
        · simp only [F.f62_j2,i64_eql,k3,eq_false c2,eq_false c3,decide_false,ifB_false,tk_eq,opt_some]
          refine last2 _ ?_
          congr 2
          simp [refI,Nd.made,c2,c3]
    refine LoopL.ind (fun i l H'=>H2=H'/\∃ a:Nat,l=[ptr t 0,vi (n.toNat:Int),str s,vi (k.toNat:Int),str text,vi a]/\1<=a/\i+a=T.free) ?_ (T.free - 1) ⟨rfl,1,rfl,by omega,by have:=hfree.pos; omega⟩
    rintro i _ _ X hX ⟨rfl,a,rfl,ha,hia⟩
    have hls:=h2.lenSlc
    have hflt:=hfree.lt
    have hfle:=hfree.le
    have hat:(BitVec.ofNat 16 a).toNat=a:=by rw [BitVec.toNat_ofNat,Nat.mod_eq_of_lt (by omega)]
    by_cases hlt:a<T.free
    · have hu:=hfree.used a ha hlt
      have hal:(a:Int)<T.N.length:=by omega
      obtain ⟨y,b,o,q1,q2,q3⟩:=h2.at_ (n:=BitVec.ofNat 16 a) (by rw [hat]; omega)
      rw [hat] at q2
      obtain ⟨c0,_⟩:=q3.cell
      have hk:(0:Int)<((T.node (BitVec.ofNat 16 a)).kind.toNat:Int):=by
        have:¬ ((T.node (BitVec.ofNat 16 a)).kind.toNat:Int)=0:=by rw [kind0]; exact hu
        omega
      simp only [F.f62_l1,nth_0,nth_1,nth_2,nth_3,nth_4,nth_5,nilCk_p,addOff_ptr,load1_ptr,Nat.add_zero,Nat.zero_add,hh2,cell_cells_z,TreeI.at0,hls,i64_lss,hal,decide_true,gd_tt,q2,c0,i64_gtr,gt_iff_lt,hk,pick_true_z,i64_succ a (by omega),tk_eq,opt_some,ifB_true]
      exact hX (i - 1) (by omega) _ _ ⟨rfl,a+1,rfl,by omega,by omega⟩
    · have:a=T.free:=by omega
      subst this
      by_cases hlen:T.free<T.N.length
      · have hal:(T.free:Int)<T.N.length:=by omega
        have hne:¬ (T.free:Int)=T.N.length:=by omega
        obtain ⟨y,b,o,q1,q2,q3⟩:=h2.at_ (n:=BitVec.ofNat 16 T.free) (by rw [hat]; omega)
        rw [hat] at q2
        obtain ⟨c0,_⟩:=q3.cell
        have hk:¬ (0:Int)<((T.node (BitVec.ofNat 16 T.free)).kind.toNat:Int):=by rw [hfree.zero]; decide
        have hf:=fin _ _ _ _ (h2.same (Ext.refl _)) hlen fun x=>Tr.put_same x hlen hflt
        rw [hft] at hf
        simp only [F.f62_l1,nth_0,nth_1,nth_2,nth_3,nth_4,nth_5,nilCk_p,addOff_ptr,load1_ptr,Nat.add_zero,Nat.zero_add,hh2,cell_cells_z,TreeI.at0,hls,i64_lss,hal,decide_true,gd_tt,q2,c0,i64_gtr,gt_iff_lt,hk,decide_false,pick_true_z,i64_eql,hne,tk_eq,opt_some,ifB_false]
        exact hf
      · have hal:¬ (T.free:Int)<T.N.length:=by omega
        have heq:T.free=T.N.length:=by omega
        have hne:(T.free:Int)=T.N.length:=by omega
        obtain ⟨v',H4,H5,a1,a2,u5⟩:=h2.push hN.2
        have hf:=fin _ _ _ _ u5 (by simp; omega) fun x=>by rw [heq]; exact Tr.put_push x (by omega)
        rw [hft] at hf
        have hb1:buildS 1 7 #[(.int .i64 0),(.slice none 0 0),(.slice none 0 0),(.int .i64 0),(.string ⟨#[]⟩),(.int .i64 0),(.int .i64 0)] [(0,.agg (refI Nd.none ⟨nilS,nilS⟩).cells.toArray)]=some (.cells (refI Nd.none ⟨nilS,nilS⟩).cells none,mkSlc 1 1):=NodeI.build1 _
        simp only [F.f62_l1,nth_0,nth_1,nth_2,nth_3,nth_4,nth_5,nilCk_p,addOff_ptr,load1_ptr,Nat.add_zero,Nat.zero_add,hh2,cell_cells_z,TreeI.at0,hls,i64_lss,hal,Int.lt_irrefl,decide_false,gd_ft,pick_false_z,i64_eql,hne,decide_true,noneV,hb1,AM.mk_some,mkSlc_eq,a1,opt2_some,a2,tk_eq,opt_some,ifB_false,ifB_true]
        rw [hne] at hf
        exact hf
  have hkn:∀ j:Nat,j<256->(((k.toNat:Int)=(j:Int))=(k=BitVec.ofNat 8 j)):=fun j hj=>propext (toNat_kind k j hj)
  have hk0:((k.toNat:Int)<1)=(k=0#8):=by
    rw [<- kind0,eq_iff_iff]; omega
  have hk3l:((3:Int)<k.toNat)=(3#8<k):=by
    rw [eq_iff_iff,BitVec.lt_def]
    show (3:Int)<k.toNat↔3<k.toNat
    omega
  have k3:=kind3 k
  have k2:=kind2 k
  have rest:(¬ (k=0#8\/3#8<k\/(k=3#8/\(text.length<1\/120<text.length)))) ->
      (opt (nilCk (ptr t 0)) fun v20=>opt (addOff v20 1) fun v21=>opt (load1 v21 H1) fun v22=>E.call (E.fid i.f60) [ptr t 0] H1 fun v23 H16=>load1 v21 H16=load1 v21 H1 /\
       opt (binInt .geq v23 v22) fun v24 =>
       gd v24 false (fun k'=>k' (vi (k.toNat:Int)) H16) H16 fun v25 H17 =>
       gd v24 false (fun k=>opt (binInt .eql v25 (.int .i64 2)) fun v=>k v H17) H17 fun v26 H18 =>
       gd v24 false (fun k=>k v26 H18) H18 fun v27 H19 =>
       gd v27 true (fun k=>k (ptr t 0) H19) H19 fun v28 H20 =>
       gd v27 true (fun k=>k (vi (n.toNat:Int)) H20) H20 fun v29 H21 =>
       gd v27 true (fun k=>E.call (E.fid i.f68) [v28,v29] H21 fun v h=>k v h) H21 fun v30 H22 =>
       gd v27 true (fun k=>opt (binInt .geq v30 (.int .i64 16)) fun v=>k v H22) H22 fun v31 H23 =>
       gd v24 false (fun k=>opt (pick v27 v31 (.bool false)) fun v=>k v H23) H23 fun v32 H24 =>
       opt (pick v24 (.bool true) v32) fun v33 =>
       ifB v33 (Q (.tuple #[(.int .i64 0),(.int .i64 28)]) H24) (
       LoopL (fun l H X0=>F.f62_l1 E Q (nth l 0) (nth l 1) (nth l 2) (nth l 3) (nth l 4) (nth l 5) H X0) [ptr t 0,vi (n.toNat:Int),str s,vi (k.toNat:Int),str text,(.int .i64 1)] H24)):=by
    intro g1
    have last:=last g1
    simp only [g1,if_false] at hQ
    have hh:=h1.head
    simp only [nilCk_p,addOff_ptr,load1_ptr,Nat.zero_add,hh,cell_cells_z,TreeI.at1,tk_eq,opt_some]
    refine S.f60 hE h1 ?_
    refine ⟨rfl,?_⟩
    by_cases t4:T.limit<=T.len
    · simp [t4] at hQ
      simp only [i64_geq,ge_iff_le,t4,decide_true,gd_tf,pick_true_z,tk_eq,opt_some,ifB_true]
      exact hQ _ _ _ (h.same e1)
    by_cases t5:k=2#8
    · simp only [i64_geq,ge_iff_le,t4,decide_false,gd_ff,i64_eql,k2,eq_true t5,decide_true,gd_tt,tk_eq,opt_some]
      refine S.f68 hE h1 n fun H2 e2 =>?_
      rw [hdp t5 r0]
      by_cases t6:16<=T.deep n
      · have t6':(16:Int)<=T.deep n:=by omega
        simp [t4,t5,t6] at hQ
        simp only [gd_tt,gd_ff,i64_geq,ge_iff_le,t6',decide_true,pick_true_z,pick_false_z,tk_eq,opt_some,ifB_true]
        exact hQ _ _ _ (h.same (e1.trans e2))
      · have t6':¬ (16:Int)<=T.deep n:=by omega
        simp only [gd_tt,gd_ff,i64_geq,ge_iff_le,t6',decide_false,pick_true_z,pick_false_z,tk_eq,opt_some,ifB_false]
        exact last (by simp only [t4,t6,and_false,or_self,not_false_eq_true]) _ e2
    · simp only [i64_geq,ge_iff_le,t4,decide_false,gd_ff,gd_ft,i64_eql,k2,eq_false t5,pick_true_z,pick_false_z,tk_eq,opt_some,ifB_false]
      exact last (by simp [t4,t5]) _ (Ext.refl _)
  by_cases t1:k=0#8
  · simp [t1] at hQ
    simp only [i64_lss,hk0,eq_true t1,decide_true,gd_tf,pick_true_z,tk_eq,opt_some,ifB_true]
    exact hQ _ _ _ (h.same e1)
  by_cases t2:3#8<k
  · simp [t2] at hQ
    simp only [i64_lss,hk0,eq_false t1,decide_false,gd_ff,i64_gtr,gt_iff_lt,hk3l,eq_true t2,decide_true,gd_tf,pick_true_z,pick_false_z,tk_eq,opt_some,ifB_true]
    exact hQ _ _ _ (h.same e1)
  by_cases t3:k=3#8
  · by_cases t7:text.length<1
    · have:(text.length:Int)<1:=by omega
      simp [t3,t7] at hQ
      simp only [i64_lss,hk0,eq_false t1,decide_false,gd_ff,i64_gtr,gt_iff_lt,hk3l,eq_false t2,i64_eql,k3,eq_true t3,decide_true,gd_tt,gd_tf,lenStr_s,this,pick_true_z,pick_false_z,tk_eq,opt_some,ifB_true]
      exact hQ _ _ _ (h.same e1)
    have t7':¬ (text.length:Int)<1:=by omega
    by_cases t8:120<text.length
    · have:(120:Int)<text.length:=by omega
      simp [t3,t8] at hQ
      simp only [i64_lss,hk0,eq_false t1,decide_false,gd_ff,i64_gtr,gt_iff_lt,hk3l,eq_false t2,i64_eql,k3,eq_true t3,decide_true,gd_tt,gd_tf,lenStr_s,t7',this,pick_true_z,pick_false_z,tk_eq,opt_some,ifB_true]
      exact hQ _ _ _ (h.same e1)
    have t8':¬ (120:Int)<text.length:=by omega
    have:=rest (by simp [t1,t2,t7,t8])
    simp only [i64_lss,hk0,eq_false t1,decide_false,gd_ff,i64_gtr,gt_iff_lt,hk3l,eq_false t2,i64_eql,k3,eq_true t3,decide_true,gd_tt,gd_tf,lenStr_s,t7',t8',pick_true_z,pick_false_z,tk_eq,opt_some,ifB_false]
    exact this
  · have:=rest (by simp [t1,t2,t3])
    simp only [i64_lss,hk0,eq_false t1,decide_false,gd_ff,gd_ft,i64_gtr,gt_iff_lt,hk3l,eq_false t2,i64_eql,k3,eq_false t3,pick_true_z,pick_false_z,tk_eq,opt_some,ifB_false]
    exact this
end
end Go.AM
end
section
namespace Go.AM
section
variable {E:Sy} {H0 H H' H'' H1:AH} {Q:Value->AH->Prop} {t:Nat} {nv nv' nv'' mv:Value} {nx:Int} {mr:List (List Value)} {Y Y' Y'':List RLy} {T T' T'':Tr}
theorem Tr.deepF_le (T:Tr):∀ (f:Nat) (n:BitVec 16),T.deepF f n<=f
 | 0,_=>Nat.le_refl _
 | f+1,n=>by
  have:=Tr.deepF_le T f (T.node n).parent
  simp only [Tr.deepF]
  split <;> omega
theorem refT_move_fin (hE:Fold E) (h:RefT H t nv mv nx mr Y T) (fr to n:BitVec 16) (s other:NameL) (hn:(T.node n).kind≠0#8) (T1:Tr) (Y1:List RLy) (H1:AH) (u1:UpdR t nv mv nx mr Y T nv Y1 T1 H H1) (hc1 : -9223372036854775808<=T1.change/\T1.change<9223372036854775807) (a1:(T1.node fr).kind=2#8) (a2:(T1.node to).kind=2#8) (a3:(T1.node n).kind=(T.node n).kind)
  (a4:alook s (T1.node fr).ents=some n) (a5:(T1.node fr).ents.length<2 ^ 35) (a6:(T1.node to).ents.length<2 ^ 35) (hQ:∀ Y' H',UpdR t nv mv nx mr Y T nv Y' (Tr.moved T1 fr s to other n) H H'->Q (vi 0) H') :
  F.f63_j1 E Q (ptr t 0) (vi (fr.toNat:Int)) (str s) (vi (to.toNat:Int)) (str other) (vi (n.toNat:Int)) (vb (decide ((T.node n).kind=2#8))) H1:=by
 have h1:=u1.ref h
 have frlt1:fr.toNat<T1.N.length:=node_kind_lt (by rw [a1]; decide)
 have tolt1:to.toNat<T1.N.length:=node_kind_lt (by rw [a2]; decide)
 have nlt1:n.toNat<T1.N.length:=node_kind_lt (by rw [a3]; exact hn)
 have b1:(T1.node fr).kind≠0#8:=by rw [a1]; decide
 have hh:=h1.head
 obtain ⟨yn,bn,on,y1,p1,nd1⟩:=h1.at_ frlt1
 obtain ⟨_,_,c2n,_⟩:=nd1.cell
 obtain ⟨j,hj,j1,j2,j3⟩:=nameIx_some s _ n a4
 simp only [F.f63_j1,nilCk_p,addOff_ptr,load1_ptr,Nat.add_zero,Nat.zero_add,hh,cell_cells_z,TreeI.at0,p1,c2n,tk_eq,opt_some]
 refine S.f64 hE h1 fr fun bz oz yz H3 e3 hnz hatz =>?_
 obtain ⟨rfl,hyz,hpz⟩:=hatz frlt1
 refine ⟨rfl,rfl,rfl,?_⟩
 refine S.f74 hE hnz s (by omega) ?_
 refine ⟨rfl,rfl,rfl,?_⟩
 rw [j1]
 refine S.f76 hE yn.l (T1.node fr).ents nd1.2.2 (by omega) j hj fun v' H4 e4 g4 f4 =>?_
 rw [<- j3] at g4
 have hh4:=(h1.mono e4).head
 obtain ⟨H5,s5,u5⟩:=h1.newL frlt1 y1 p1 (Nd.delE s) (fun _=>rfl) e4 g4 f4 rfl
 have h5:=u5.ref h1
 have hh5:=h5.head
 have hc5:(T1.upd fr (Nd.delE s)).change=T1.change:=rfl
 have hnode5:=fun w=>Tr.node_upd b1 (Nd.delE s) w
 have tolt5:to.toNat<(T1.upd fr (Nd.delE s)).N.length:=by simpa [Tr.upd] using tolt1
 have hlen5:((T1.upd fr (Nd.delE s)).node to).ents.length<2 ^ 35:=by
  rw [hnode5]
  split
  ·show (adel s (T1.node fr).ents).length<_
   exact Nat.lt_of_le_of_lt (adel_sub _ _).length_le a5
  ·exact a6
 have hkind5:∀ w,((T1.upd fr (Nd.delE s)).node w).kind=(T1.node w).kind:=by
  intro w
  rw [hnode5]
  split
  ·rename_i e; rw [e]; rfl
  ·rfl
 obtain ⟨yt,bt,ot,y5,p5,nd5⟩:=h5.at_ tolt5
 obtain ⟨_,_,c5,_⟩:=nd5.cell
 refine ⟨by simp only [load1_ptr,hh4,hh],?_⟩
 simp only [p1,addOff_ptr,s5,nilCk_p,load1_ptr,hh5,cell_cells_z,Nat.zero_add,TreeI.at0,p5,c5,entryV,tk_eq,opt_some]
 refine S.f75 hE yt.l _ nd5.2.2 (by omega) other n fun v6 H6 e6 g6 f6 =>?_
 have hh6:=(h5.mono e6).head
 obtain ⟨H7,s7,u7⟩:=h5.newL tolt5 y5 p5 (Nd.addE other n) (fun _=>rfl) e6 g6 f6 rfl
 have h7:=u7.ref h5
 have hh7:=h7.head
 have b5:((T1.upd fr (Nd.delE s)).node to).kind≠0#8:=by rw [hkind5,a2]; decide
 have nlt7:n.toNat<((T1.upd fr (Nd.delE s)).upd to (Nd.addE other n)).N.length:=by simpa [Tr.upd] using nlt1
 refine ⟨by simp only [load1_ptr,hh6,hh5],?_⟩
 simp only [p5,addOff_ptr,s7,tk_eq,opt_some]
 have hcc:((T1.upd fr (Nd.delE s)).upd to (Nd.addE other n)).change=T1.change:=rfl
 unfold Tr.moved at hQ
 by_cases d1:(T.node n).kind=2#8
 ·simp only [a3,d1,if_true] at hQ
  obtain ⟨y8,b8,o8,q8,p8,nd8⟩:=h7.at_ nlt7
  obtain ⟨H8,s8,u8⟩:=h7.num nlt7 q8 p8 (fun x=>{ x with parent:=to }) (fun _=>⟨rfl,rfl⟩) (k:=3) (by omega) (v:=(to.toNat:Int)) rfl
  have h8:=u8.ref h7
  have hh8:=h8.head
  obtain ⟨H9,s9,u9⟩:=h8.tick
  have hc8:(((T1.upd fr (Nd.delE s)).upd to (Nd.addE other n)).upd n (fun x=>{ x with parent:=to })).change=T1.change:=rfl
  rw [hc8] at s9 hh8
  simp only [eq_true d1,decide_true,ifB_true,nilCk_p,addOff_ptr,load1_ptr,hh7,cell_cells_z,Nat.zero_add,TreeI.at0,p8,s8,F.f63_j2,hh8,TreeI.at4,i64_add (a:=T1.change) (b:=1) (by omega) (by omega),s9,tk_eq,opt_some]
  exact hQ _ _ (u1.trans (u5.trans (u7.trans (u8.trans u9))))
 ·simp only [a3,d1,if_false] at hQ
  obtain ⟨H9,s9,u9⟩:=h7.tick
  rw [hcc] at s9 hh7
  simp only [eq_false d1,decide_false,ifB_false,F.f63_j2,nilCk_p,addOff_ptr,load1_ptr,hh7,cell_cells_z,Nat.zero_add,TreeI.at4,i64_add (a:=T1.change) (b:=1) (by omega) (by omega),s9,tk_eq,opt_some]
  exact hQ _ _ (u1.trans (u5.trans (u7.trans u9)))
theorem refT_move_drop (hE:Fold E) (h:RefT H t nv mv nx mr Y T) (hs:T.small) (fr to n:BitVec 16) (s other:NameL) (hc : -9223372036854775808<=T.change/\T.change<9223372036854775806)
  (hn:(T.node n).kind≠0#8) (k1:(T.node fr).kind=2#8) (k2:alook s (T.node fr).ents=some n) (c2:T.dir to=0) (k3:(T.node to).kind=2#8)
  (hold:∀ y,(T.node to).kind=2#8->alook other (T.node to).ents=some y->(T.node y).kind≠0#8/\0<=(T.node y).links/\(T.node y).links<9223372036854775807)
  (hnd:(T.node to).kind=2#8->((T.node to).ents.map Prod.fst).Nodup) (hel:(T.node fr).ents.length<2 ^ 35/\(T.node to).ents.length<2 ^ 35)
  (o:BitVec 16) (ho:alook other (T.node to).ents=some o) (hon:o≠n) (hpos0:0<(T.node to).ents.length) (H4:AH) (ex4:Ext H H4) (dm:T.mayOld n (some o)=0)
  (hQ:∀ Y' H',UpdR t nv mv nx mr Y T nv Y' (Tr.moved (T.drop to other (decide ((T.node n).kind=2#8))).1 fr s to other n) H H'->Q (vi 0) H') :
  (E.call (E.fid i.f58) [(ptr t 0),(vi (to.toNat:Int)),(str other),(vb (decide ((T.node n).kind=2#8)))] H4 fun v92 H61 =>
    F.f63_j1 E Q (ptr t 0) (vi (fr.toNat:Int)) (str s) (vi (to.toNat:Int)) (str other) (vi (n.toNat:Int)) (vb (decide ((T.node n).kind=2#8))) H61):=by
 obtain ⟨o1,o2,o3⟩:=hold o k3 ho
 have hlk:T.look to other=(o,0):=by
  unfold Tr.look
  simp [c2,ho]
 obtain ⟨g1,g2⟩:=Tr.drop_ok k3 ho dm o1
 refine S.f58 hE (h.mono ex4) hs to other _ ⟨hc.1,by omega⟩ (fun _=>by rw [hlk]; exact ⟨o1,by show -9223372036854775807<=(T.node o).links; omega,o3⟩) (by omega) fun Y5 H5 u5 =>?_
 have hm:=dm
 unfold Tr.mayOld at hm
 have of:fr≠o:=by
  rintro rfl
  have hpos:0<(T.node fr).ents.length:=by
   cases he:(T.node fr).ents with
   | nil=>rw [he] at k2; simp [alook] at k2
   | cons a b=>simp
  simp only [k1] at hm
  by_cases d1:(T.node n).kind=2#8
  ·simp [d1,hpos] at hm
  ·simp [d1] at hm
 have ot:to≠o:=by
  rintro rfl
  have hpos:0<(T.node to).ents.length:=by omega
  simp only [k3] at hm
  by_cases d1:(T.node n).kind=2#8
  ·simp [d1,hpos] at hm
  ·simp [d1] at hm
 have hchg:=Tr.drop_change (T:=T) to other (decide ((T.node n).kind=2#8))
 have hkk:∀ w,w≠o->((T.drop to other (decide ((T.node n).kind=2#8))).1.node w).kind=(T.node w).kind:=by
  intro w hw
  rw [g2 w hw]
  split
  ·rename_i e; rw [e]; rfl
  ·rfl
 have hso:other≠s\/fr≠to:=by
  by_cases e:fr=to
  ·refine .inl ?_
   rintro rfl
   rw [e,ho] at k2
   exact hon (Option.some.inj k2)
  ·exact .inr e
 refine refT_move_fin hE h fr to n s other hn _ Y5 H5 (UpdR.after ex4 u5) ⟨by omega,by omega⟩ (by rw [hkk fr of]; exact k1) (by rw [hkk to ot]; exact k3) (hkk n (fun e=>hon e.symm)) ?_ ?_ ?_ hQ
 ·rw [g2 fr of]
  split
  ·rename_i e
   show alook s (adel other (T.node to).ents)=some n
   rw [alook_adel _ _ (hnd k3),if_neg,<- e,k2]
   rcases hso with g | g
   ·exact fun e=>g e.symm
   ·exact (g e).elim
  ·exact k2
 ·rw [g2 fr of]
  split
  ·exact Nat.lt_of_le_of_lt (adel_sub _ _).length_le hel.2
  ·exact hel.1
 ·rw [g2 to ot,if_pos rfl]
  exact Nat.lt_of_le_of_lt (adel_sub _ _).length_le hel.2
theorem refT_move_tail (hE:Fold E) (h:RefT H t nv mv nx mr Y T) (hs:T.small) (fr to n:BitVec 16) (s other:NameL) (hc : -9223372036854775808<=T.change/\T.change<9223372036854775806)
    (hn:(T.node n).kind≠0#8) (k1:(T.node fr).kind=2#8) (k2:alook s (T.node fr).ents=some n) (c2:T.dir to=0) (k3:(T.node to).kind=2#8)
    (hold:∀ y,(T.node to).kind=2#8->alook other (T.node to).ents=some y->(T.node y).kind≠0#8/\0<=(T.node y).links/\(T.node y).links<9223372036854775807)
    (hnd:(T.node to).kind=2#8->((T.node to).ents.map Prod.fst).Nodup) (hel:(T.node fr).ents.length<2 ^ 35/\(T.node to).ents.length<2 ^ 35)
    (i8:Int) (old:Option (BitVec 16)) (d:Bool) (Hx:AH) (ex:Ext H Hx) (hd:d=decide ((T.node n).kind=2#8)) (ho:alook other (T.node to).ents=old) (hcase:((i8 = -1/\old=none)\/∃ (j:Nat) (hj:j<(T.node to).ents.length) (o:BitVec 16),i8=j/\old=some o/\(T.node to).ents[j]=(other,o)/\o≠n))
    (hQ:∀ Y' H',UpdR t nv mv nx mr Y T nv Y' (if T.mayOld n old≠0 then (T,T.mayOld n old) else (Tr.moved (if old.isSome then (T.drop to other (decide ((T.node n).kind=2#8))).1 else T) fr s to other n,0)).1 H H'->Q (vi (if T.mayOld n old≠0 then (T,T.mayOld n old) else (Tr.moved (if old.isSome then (T.drop to other (decide ((T.node n).kind=2#8))).1 else T) fr s to other n,0)).2) H') :
      (
       opt (binInt .geq (vi i8) (.int .i64 0)) fun v63 =>
       ifB v63 (
       E.call (E.fid i.f64) [(ptr t 0),(vi (to.toNat:Int))] Hx fun v64 H43 =>
       opt (nilCk v64) fun v65 =>
       opt (addOff v65 2) fun v66 =>
       opt (load1 v66 H43) fun v67 =>
       opt (ixSlc 2 v67 (vi i8)) fun v68 =>
       opt (addOff v68 1) fun v69 =>
       opt (load1 v69 H43) fun v70 =>
       E.call (E.fid i.f64) [(ptr t 0),v70] H43 fun v71 H44 =>
       gd (vb d) true (fun k=>k v71 H44) H44 fun v72 H45 =>
       gd (vb d) true (fun k=>opt (nilCk v72) fun v=>k v H45) H45 fun v73 H46 =>
       gd (vb d) true (fun k=>opt (addOff v73 0) fun v=>k v H46) H46 fun v74 H47 =>
       gd (vb d) true (fun k=>opt (load1 v74 H47) fun v=>k v H47) H47 fun v75 H48 =>
       gd (vb d) true (fun k=>opt (binInt .neq v75 (.int .i64 2)) fun v=>k v H48) H48 fun v76 H49 =>
       opt (pick (vb d) v76 (.bool false)) fun v77 =>
       ifB v77 (
       Q (.int .i64 20) H49) (
       opt (un .not (vb d)) fun v78 =>
       gd v78 true (fun k=>k v71 H49) H49 fun v79 H50 =>
       gd v78 true (fun k=>opt (nilCk v79) fun v=>k v H50) H50 fun v80 H51 =>
       gd v78 true (fun k=>opt (addOff v80 0) fun v=>k v H51) H51 fun v81 H52 =>
       gd v78 true (fun k=>opt (load1 v81 H52) fun v=>k v H52) H52 fun v82 H53 =>
       gd v78 true (fun k=>opt (binInt .eql v82 (.int .i64 2)) fun v=>k v H53) H53 fun v83 H54 =>
       opt (pick v78 v83 (.bool false)) fun v84 =>
       ifB v84 (
       Q (.int .i64 21) H54) (
       gd (vb d) true (fun k=>k v71 H54) H54 fun v85 H55 =>
       gd (vb d) true (fun k=>opt (nilCk v85) fun v=>k v H55) H55 fun v86 H56 =>
       gd (vb d) true (fun k=>opt (addOff v86 2) fun v=>k v H56) H56 fun v87 H57 =>
       gd (vb d) true (fun k=>opt (load1 v87 H57) fun v=>k v H57) H57 fun v88 H58 =>
       gd (vb d) true (fun k=>opt (lenSlc v88) fun v=>k v H58) H58 fun v89 H59 =>
       gd (vb d) true (fun k=>opt (binInt .gtr v89 (.int .i64 0)) fun v=>k v H59) H59 fun v90 H60 =>
       opt (pick (vb d) v90 (.bool false)) fun v91 =>
       ifB v91 (
       Q (.int .i64 39) H60) (
       E.call (E.fid i.f58) [(ptr t 0),(vi (to.toNat:Int)),(str other),(vb d)] H60 fun v92 H61 =>
       F.f63_j1 E Q (ptr t 0) (vi (fr.toNat:Int)) (str s) (vi (to.toNat:Int)) (str other) (vi (n.toNat:Int)) (vb d) H61)))) (
       F.f63_j1 E Q (ptr t 0) (vi (fr.toNat:Int)) (str s) (vi (to.toNat:Int)) (str other) (vi (n.toNat:Int)) (vb d) Hx)):=by
  subst hd
  rcases hcase with ⟨rfl,rfl⟩ | ⟨j,hj,o,rfl,rfl,hjo,hon⟩
  · simp [Tr.mayOld] at hQ
    simp only [i64_geq,ge_iff_le,show ¬ (0:Int) <= -1 from by omega,decide_false,tk_eq,opt_some,ifB_false]
    exact refT_move_fin hE h fr to n s other hn T Y Hx (h.same ex) ⟨hc.1,by omega⟩ k1 k3 rfl k2 hel.1 hel.2 hQ
  · have hj0:(0:Int)<=j:=by omega
    obtain ⟨o1,o2,o3⟩:=hold o k3 ho
    have olt:=node_kind_lt o1
    simp only [i64_geq,ge_iff_le,hj0,decide_true,tk_eq,opt_some,ifB_true]
    refine S.f64 hE (h.mono ex) to fun b1 q1 y1 H3 e3 n3 hat3 =>?_
    obtain ⟨_,_,c3,_⟩:=n3.cell
    obtain ⟨b',o',f1,f2⟩:=n3.2.2.ix (i:=j) (by rw [entR_length]; exact hj)
    have hrow:(entR (T.node to).ents)[j]'(by rw [entR_length]; exact hj)=[str other,vi (o.toNat:Int)]:=by simp [entR,hjo]
    rw [hrow] at f2
    have f3:(H3.get b').cell (o'+1)=some (vi (o.toNat:Int)):=by have:=row_at f2 (j:=1) (by omega); simpa using this
    simp only [nilCk_p,addOff_ptr,load1_ptr,c3,f1,f3,tk_eq,opt_some]
    refine S.f64 hE (h.mono (ex.trans e3)) o fun b2 q2 y2 H4 e4 n4 hat4 =>?_
    obtain ⟨d0,_,d2,_⟩:=n4.cell
    have dl:=n4.lenL
    have ex4:=ex.trans (e3.trans e4)
    have hko:=kind2 (T.node o).kind
    have drop:=fun dm=>refT_move_drop (Q:=Q) hE h hs fr to n s other hc hn k1 k2 c2 k3 hold hnd hel o ho hon (by omega) H4 ex4 dm
    by_cases d1:(T.node n).kind=2#8
    · by_cases d2':(T.node o).kind=2#8
      · by_cases d3:0<(T.node o).ents.length
        · have d3':(0:Int)<(T.node o).ents.length:=by omega
          have hm:T.mayOld n (some o)=39:=by simp [Tr.mayOld,d1,d2',d3]
          simp [hm] at hQ
          simp only [eq_true d1,decide_true,Bool.not_true,un_not_z,gd_tt,gd_ft,nilCk_p,addOff_ptr,load1_ptr,Nat.add_zero,d0,i64_neq,i64_gtr,gt_iff_lt,ne_eq,hko,eq_true d2',not_true,decide_false,d2,dl,d3',pick_true_z,pick_false_z,tk_eq,opt_some,ifB_true,ifB_false]
          exact hQ _ _ (h.same ex4)
        · have d3':¬ (0:Int)<(T.node o).ents.length:=by omega
          have hm:T.mayOld n (some o)=0:=by simp [Tr.mayOld,d1,d2',d3]
          have:=drop hm (by simpa [hm] using hQ)
          rw [show decide ((T.node n).kind=2#8)=true by simp [d1]] at this
          simp only [eq_true d1,decide_true,Bool.not_true,un_not_z,gd_tt,gd_ft,nilCk_p,addOff_ptr,load1_ptr,Nat.add_zero,d0,i64_neq,i64_gtr,gt_iff_lt,ne_eq,hko,eq_true d2',not_true,decide_false,d2,dl,d3',pick_true_z,pick_false_z,tk_eq,opt_some,ifB_true,ifB_false]
          rw [show decide ((T.node n).kind=2#8)=true by simp [d1]]
          exact this
      · have hm:T.mayOld n (some o)=20:=by simp [Tr.mayOld,d1,d2']
        simp [hm] at hQ
        simp only [eq_true d1,decide_true,Bool.not_true,un_not_z,gd_tt,gd_ft,nilCk_p,addOff_ptr,load1_ptr,Nat.add_zero,d0,i64_neq,i64_gtr,gt_iff_lt,ne_eq,hko,eq_false d2',not_false_iff,decide_false,pick_true_z,pick_false_z,tk_eq,opt_some,ifB_true,ifB_false]
        exact hQ _ _ (h.same ex4)
    · by_cases d2':(T.node o).kind=2#8
      · have hm:T.mayOld n (some o)=21:=by simp [Tr.mayOld,d1,d2']
        simp [hm] at hQ
        simp only [eq_false d1,decide_false,Bool.not_false,un_not_z,gd_tt,gd_ft,nilCk_p,addOff_ptr,load1_ptr,Nat.add_zero,d0,i64_eql,hko,eq_true d2',decide_true,pick_true_z,pick_false_z,tk_eq,opt_some,ifB_true,ifB_false]
        exact hQ _ _ (h.same ex4)
      · have hm:T.mayOld n (some o)=0:=by simp [Tr.mayOld,d1,d2']
        have:=drop hm (by simpa [hm] using hQ)
        rw [show decide ((T.node n).kind=2#8)=false by simp [d1]] at this
        simp only [eq_false d1,decide_false,Bool.not_false,un_not_z,gd_tt,gd_ft,nilCk_p,addOff_ptr,load1_ptr,Nat.add_zero,d0,i64_eql,hko,eq_false d2',pick_true_z,pick_false_z,tk_eq,opt_some,ifB_true,ifB_false]
        rw [show decide ((T.node n).kind=2#8)=false by simp [d1]]
        exact this
theorem refT_move_key (hE:Fold E) (h:RefT H t nv mv nx mr Y T) (hs:T.small) (fr to n:BitVec 16) (s other:NameL) (hc : -9223372036854775808<=T.change/\T.change<9223372036854775806)
    (hn:(T.node n).kind≠0#8) (k1:(T.node fr).kind=2#8) (k2:alook s (T.node fr).ents=some n) (c2:T.dir to=0) (k3:(T.node to).kind=2#8)
    (hold:∀ y,(T.node to).kind=2#8->alook other (T.node to).ents=some y->(T.node y).kind≠0#8/\0<=(T.node y).links/\(T.node y).links<9223372036854775807)
    (hnd:(T.node to).kind=2#8->((T.node to).ents.map Prod.fst).Nodup) (hel:(T.node fr).ents.length<2 ^ 35/\(T.node to).ents.length<2 ^ 35)
    (hsl:other.length<2 ^ 63) (hdp:(T.node n).kind=2#8->(T.node to).links≠0->(T.node to).kind=2#8->T.deepF 20 to=T.deep to/\T.withinF n 20 to=T.within n to) {f:Nat} (hf:(T.node n).kind=2#8->T.fitsF f n) (hf20:f<=20)
    (i8:Int) (old:Option (BitVec 16)) (Hx:AH) (ex:Ext H Hx) (ho:alook other (T.node to).ents=old) (hcase:((i8 = -1/\old=none)\/∃ (j:Nat) (hj:j<(T.node to).ents.length) (o:BitVec 16),i8=j/\old=some o/\(T.node to).ents[j]=(other,o)/\o≠n))
    (hQ:∀ Y' H',UpdR t nv mv nx mr Y T nv Y' (if T.may n to other old≠0 then (T,T.may n to other old) else (Tr.moved (if old.isSome then (T.drop to other (decide ((T.node n).kind=2#8))).1 else T) fr s to other n,0)).1 H H'->Q (vi (if T.may n to other old≠0 then (T,T.may n to other old) else (Tr.moved (if old.isSome then (T.drop to other (decide ((T.node n).kind=2#8))).1 else T) fr s to other n,0)).2) H') :
      (
       E.call (E.fid i.f53) [(str other)] Hx fun v37 H28 =>
       opt (un .not v37) fun v38 =>
       ifB v38 (
       Q (.int .i64 22) H28) (
       E.call (E.fid i.f64) [(ptr t 0),(vi (to.toNat:Int))] H28 fun v39 H29 =>
       opt (nilCk v39) fun v40 =>
       opt (addOff v40 5) fun v41 =>
       opt (load1 v41 H29) fun v42 =>
       opt (binInt .eql v42 (.int .i64 0)) fun v43 =>
       ifB v43 (
       Q (.int .i64 2) H29) (
       E.call (E.fid i.f64) [(ptr t 0),(vi (n.toNat:Int))] H29 fun v44 H30 =>
       opt (nilCk v44) fun v45 =>
       opt (addOff v45 0) fun v46 =>
       opt (load1 v46 H30) fun v47 =>
       opt (binInt .eql v47 (.int .i64 2)) fun v48 =>
       gd v48 true (fun k=>k (ptr t 0) H30) H30 fun v49 H31 =>
       gd v48 true (fun k=>k (vi (to.toNat:Int)) H31) H31 fun v50 H32 =>
       gd v48 true (fun k=>k (vi (n.toNat:Int)) H32) H32 fun v51 H33 =>
       gd v48 true (fun k=>E.call (E.fid i.f66) [v49,v50,v51] H33 fun v h=>k v h) H33 fun v52 H34 =>
       opt (pick v48 v52 (.bool false)) fun v53 =>
       ifB v53 (
       Q (.int .i64 22) H34) (
       gd v48 true (fun k=>k (ptr t 0) H34) H34 fun v54 H35 =>
       gd v48 true (fun k=>k (vi (to.toNat:Int)) H35) H35 fun v55 H36 =>
       gd v48 true (fun k=>E.call (E.fid i.f68) [v54,v55] H36 fun v h=>k v h) H36 fun v56 H37 =>
       gd v48 true (fun k=>k (ptr t 0) H37) H37 fun v57 H38 =>
       gd v48 true (fun k=>k (vi (n.toNat:Int)) H38) H38 fun v58 H39 =>
       gd v48 true (fun k=>E.call (E.fid i.f72) [v57,v58] H39 fun v h=>k v h) H39 fun v59 H40 =>
       gd v48 true (fun k=>opt (binInt .add v56 v59) fun v=>k v H40) H40 fun v60 H41 =>
       gd v48 true (fun k=>opt (binInt .gtr v60 (.int .i64 16)) fun v=>k v H41) H41 fun v61 H42 =>
       opt (pick v48 v61 (.bool false)) fun v62 =>
       ifB v62 (
       Q (.int .i64 28) H42) (
       opt (binInt .geq (vi i8) (.int .i64 0)) fun v63 =>
       ifB v63 (
       E.call (E.fid i.f64) [(ptr t 0),(vi (to.toNat:Int))] H42 fun v64 H43 =>
       opt (nilCk v64) fun v65 =>
       opt (addOff v65 2) fun v66 =>
       opt (load1 v66 H43) fun v67 =>
       opt (ixSlc 2 v67 (vi i8)) fun v68 =>
       opt (addOff v68 1) fun v69 =>
       opt (load1 v69 H43) fun v70 =>
       E.call (E.fid i.f64) [(ptr t 0),v70] H43 fun v71 H44 =>
       gd v48 true (fun k=>k v71 H44) H44 fun v72 H45 =>
       gd v48 true (fun k=>opt (nilCk v72) fun v=>k v H45) H45 fun v73 H46 =>
       gd v48 true (fun k=>opt (addOff v73 0) fun v=>k v H46) H46 fun v74 H47 =>
       gd v48 true (fun k=>opt (load1 v74 H47) fun v=>k v H47) H47 fun v75 H48 =>
       gd v48 true (fun k=>opt (binInt .neq v75 (.int .i64 2)) fun v=>k v H48) H48 fun v76 H49 =>
       opt (pick v48 v76 (.bool false)) fun v77 =>
       ifB v77 (
       Q (.int .i64 20) H49) (
       opt (un .not v48) fun v78 =>
       gd v78 true (fun k=>k v71 H49) H49 fun v79 H50 =>
       gd v78 true (fun k=>opt (nilCk v79) fun v=>k v H50) H50 fun v80 H51 =>
       gd v78 true (fun k=>opt (addOff v80 0) fun v=>k v H51) H51 fun v81 H52 =>
       gd v78 true (fun k=>opt (load1 v81 H52) fun v=>k v H52) H52 fun v82 H53 =>
       gd v78 true (fun k=>opt (binInt .eql v82 (.int .i64 2)) fun v=>k v H53) H53 fun v83 H54 =>
       opt (pick v78 v83 (.bool false)) fun v84 =>
       ifB v84 (
       Q (.int .i64 21) H54) (
       gd v48 true (fun k=>k v71 H54) H54 fun v85 H55 =>
       gd v48 true (fun k=>opt (nilCk v85) fun v=>k v H55) H55 fun v86 H56 =>
       gd v48 true (fun k=>opt (addOff v86 2) fun v=>k v H56) H56 fun v87 H57 =>
       gd v48 true (fun k=>opt (load1 v87 H57) fun v=>k v H57) H57 fun v88 H58 =>
       gd v48 true (fun k=>opt (lenSlc v88) fun v=>k v H58) H58 fun v89 H59 =>
       gd v48 true (fun k=>opt (binInt .gtr v89 (.int .i64 0)) fun v=>k v H59) H59 fun v90 H60 =>
       opt (pick v48 v90 (.bool false)) fun v91 =>
       ifB v91 (
       Q (.int .i64 39) H60) (
       E.call (E.fid i.f58) [(ptr t 0),(vi (to.toNat:Int)),(str other),v48] H60 fun v92 H61 =>
       F.f63_j1 E Q (ptr t 0) (vi (fr.toNat:Int)) (str s) (vi (to.toNat:Int)) (str other) (vi (n.toNat:Int)) v48 H61)))) (
       F.f63_j1 E Q (ptr t 0) (vi (fr.toNat:Int)) (str s) (vi (to.toNat:Int)) (str other) (vi (n.toNat:Int)) v48 H42)))))):=by
  have tail:=fun Hx ex=>refT_move_tail (Q:=Q) hE h hs fr to n s other hc hn k1 k2 c2 k3 hold hnd hel i8 old (decide ((T.node n).kind=2#8)) Hx ex
  unfold Tr.may at hQ
  refine S.f53 hE other hsl ?_
  by_cases p1:okName other=false
  · simp [p1] at hQ
    simp only [p1,un_not_z,Bool.not_false,tk_eq,opt_some,ifB_true]
    exact hQ _ _ (h.same ex)
  have p1:okName other=true:=by simpa using p1
  simp only [p1,un_not_z,Bool.not_true,tk_eq,opt_some,ifB_false]
  refine S.f64 hE (h.mono ex) to fun b1 q1 y1 H3 e3 n3 _ =>?_
  obtain ⟨_,_,_,_,_,c5,_⟩:=n3.cell
  have ex3:=ex.trans e3
  by_cases p2:(T.node to).links=0
  · simp [p1,p2] at hQ
    simp only [nilCk_p,addOff_ptr,load1_ptr,c5,p2,i64_eql,decide_true,tk_eq,opt_some,ifB_true]
    exact hQ _ _ (h.same ex3)
  simp only [nilCk_p,addOff_ptr,load1_ptr,c5,p2,i64_eql,decide_false,tk_eq,opt_some,ifB_false]
  refine S.f64 hE (h.mono ex3) n fun b2 q2 y2 H4 e4 n4 _ =>?_
  obtain ⟨d0,_⟩:=n4.cell
  have ex4:=ex3.trans e4
  have hkn:=kind2 (T.node n).kind
  simp only [p1,p2,Bool.true_eq_false,if_false] at hQ
  by_cases d1:(T.node n).kind=2#8
  · obtain ⟨hdp1,hdp2⟩:=hdp d1 p2 k3
    simp only [nilCk_p,addOff_ptr,load1_ptr,Nat.add_zero,d0,i64_eql,hkn,eq_true d1,decide_true,gd_tt,tk_eq,opt_some]
    refine S.f66 hE (h.mono ex4) to n fun H5 e5 =>?_
    have ex5:=ex4.trans e5
    rw [hdp2]
    by_cases p3:T.within n to=true
    · simp only [d1,p3,and_self,if_true] at hQ
      simp only [p3,pick_true_z,tk_eq,opt_some,ifB_true]
      exact hQ _ _ (h.same ex5)
    have p3:T.within n to=false:=by simpa using p3
    simp only [p3,pick_true_z,tk_eq,opt_some,ifB_false,gd_tt]
    refine S.f68 hE (h.mono ex5) to fun H6 e6 =>?_
    have ex6:=ex5.trans e6
    rw [hdp1]
    simp only [gd_tt,tk_eq]
    refine S.f72 hE hs f (h.mono ex6) n (hf d1) hf20 fun H7 e7 =>?_
    have ex7:=ex6.trans e7
    have hdle:T.deep to<=17:=Tr.deepF_le T 17 to
    have htle:T.tall n<=20:=Tr.tallF_le T 20 n
    by_cases p4:16<T.deep to+T.tall n
    · have p4':(16:Int)<(T.deep to:Int)+(T.tall n:Int):=by omega
      simp only [d1,p3,p4,Bool.false_eq_true,and_false,and_self,if_true,if_false] at hQ
      simp only [gd_tt,i64_add (a:=(T.deep to:Int)) (b:=(T.tall n:Int)) (by omega) (by omega),i64_gtr,gt_iff_lt,p4',decide_true,pick_true_z,tk_eq,opt_some,ifB_true]
      exact hQ _ _ (h.same ex7)
    · have p4':¬ (16:Int)<(T.deep to:Int)+(T.tall n:Int):=by omega
      simp only [d1,p3,p4,Bool.false_eq_true,and_false,if_false] at hQ
      simp only [gd_tt,i64_add (a:=(T.deep to:Int)) (b:=(T.tall n:Int)) (by omega) (by omega),i64_gtr,gt_iff_lt,p4',decide_false,pick_true_z,tk_eq,opt_some,ifB_false]
      have:=tail H7 ex7 rfl ho hcase (by simpa only [d1] using hQ)
      simp only [eq_true d1,decide_true] at this
      exact this
  · simp only [d1,false_and,if_false] at hQ
    simp only [nilCk_p,addOff_ptr,load1_ptr,Nat.add_zero,d0,i64_eql,hkn,eq_false d1,decide_false,gd_ft,pick_false_z,tk_eq,opt_some,ifB_false]
    have:=tail H4 ex4 rfl ho hcase (by simpa only [d1] using hQ)
    simp only [eq_false d1,decide_false] at this
    exact this
theorem S.f63 (hE:Fold E) (h:RefT H t nv mv nx mr Y T) (hs:T.small) (fr to:BitVec 16) (s other:NameL) (hsl:other.length<2 ^ 63)
  (hc : -9223372036854775808<=T.change/\T.change<9223372036854775806)
  (hn:(T.look fr s).2=0->(T.node (T.look fr s).1).kind≠0#8)
  (hdp:(T.node (T.look fr s).1).kind=2#8->(T.node to).links≠0->(T.node to).kind=2#8->T.deepF 20 to=T.deep to/\T.withinF (T.look fr s).1 20 to=T.within (T.look fr s).1 to)
  {f:Nat} (hf:(T.look fr s).2=0->(T.node (T.look fr s).1).kind=2#8->T.fitsF f (T.look fr s).1) (hf20:f<=20)
  (hold:∀ y,(T.node to).kind=2#8->alook other (T.node to).ents=some y->(T.node y).kind≠0#8/\0<=(T.node y).links/\(T.node y).links<9223372036854775807)
  (hnd:(T.node to).kind=2#8->((T.node to).ents.map Prod.fst).Nodup) (hel:(T.node fr).ents.length<2 ^ 35/\(T.node to).ents.length<2 ^ 35)
  (hQ:∀ Y' H',UpdR t nv mv nx mr Y T nv Y' (T.move fr s to other).1 H H'->Q (vi (T.move fr s to other).2) H') :
  E.call (E.fid i.f63) [ptr t 0,vi (fr.toNat:Int),str s,vi (to.toNat:Int),str other] H Q:=by
 apply hE.f63
 simp only [F.f63]
 refine S.f61 hE h hs fr s fun H1 e1 =>?_
 unfold Tr.move at hQ
 by_cases c1:(T.look fr s).2=0
 rotate_left
 ·simp [c1] at hQ
  simp only [tk_eq,ext_tuple,List.getElem?_cons_zero,List.getElem?_cons_succ,c1,i64_neq,ne_eq,not_false_iff,decide_true,opt_some,ifB_true]
  exact hQ _ _ (h.same e1)
 obtain ⟨k1,k2⟩:=Tr.look_ok c1
 have hn:=hn c1
 have hf:=hf c1
 simp only [c1,ne_eq,not_true,if_false] at hQ
 simp only [tk_eq,ext_tuple,List.getElem?_cons_zero,List.getElem?_cons_succ,c1,i64_neq,ne_eq,not_true,decide_false,opt_some,ifB_false]
 generalize hnn:(T.look fr s).1=n at *
 refine S.f69 hE (h.mono e1) to fun H2 e2 =>?_
 have x2:=e1.trans e2
 by_cases c2:T.dir to=0
 rotate_left
 ·simp only [c2,ne_eq,not_false_eq_true,if_true] at hQ
  simp only [c2,i64_neq,ne_eq,not_false_iff,decide_true,tk_eq,opt_some,ifB_true]
  exact hQ _ _ (h.same x2)
 have k3:=Tr.dir_zero.1 c2
 have tolt:to.toNat<T.N.length:=node_kind_lt (by rw [k3]; decide)
 have frlt:fr.toNat<T.N.length:=node_kind_lt (by rw [k1]; decide)
 simp only [c2,ne_eq,not_true,if_false] at hQ
 simp only [c2,i64_neq,ne_eq,not_true,decide_false,tk_eq,opt_some,ifB_false]
 refine S.f64 hE (h.mono x2) to fun bt ot yt H3 e3 n3 hat3 =>?_
 have x3:=x2.trans e3
 obtain ⟨_,_,t2,_⟩:=n3.cell
 have tl:=n3.lenL
 refine S.f74 hE n3 other (by omega) ?_
 cases c3:alook other (T.node to).ents with
 | none =>
  rw [nameIx_none _ _ c3]
  have key:=fun Hx ex=>refT_move_key (Q:=Q) hE h hs fr to n s other hc hn k1 k2 c2 k3 hold hnd hel hsl hdp hf hf20 (-1) none Hx ex
  simp only [c3] at hQ
  simp only [i64_geq,ge_iff_le,show ¬ (0:Int) <= -1 from by omega,decide_false,gd_ft,pick_false_z,tk_eq,opt_some,ifB_false,i64_lss,show ((-1:Int)<0)=True from by simp,decide_true,gd_tt,i64_neq,ne_eq,num_eq,pick_true_z]
  by_cases c4:fr=to
  ·subst c4
   simp [c3] at hQ
   simp only [not_true,decide_false,gd_ft,pick_false_z,tk_eq,opt_some,ifB_false]
   exact key H3 x3 c3 (.inl ⟨rfl,rfl⟩) (by simpa using hQ)
  ·simp only [c4,not_false_iff,decide_true,gd_tt,tk_eq]
   refine S.f64 hE (h.mono x3) to fun b4 o4 y4 H4 e4 n4 _ =>?_
   obtain ⟨_,_,u2,_⟩:=n4.cell
   have ul:=n4.lenL
   have x4:=x3.trans e4
   by_cases c5:32<=(T.node to).ents.length
   ·have c5':(32:Int)<=(T.node to).ents.length:=by omega
    simp [c4,c5] at hQ
    simp only [c4,not_false_iff,not_false_eq_true,decide_true,gd_tt,nilCk_p,addOff_ptr,load1_ptr,u2,ul,i64_geq,ge_iff_le,c5',decide_true,pick_true_z,tk_eq,opt_some,ifB_true]
    exact hQ _ _ (h.same x4)
   ·have c5':¬ (32:Int)<=(T.node to).ents.length:=by omega
    simp [c4,c5] at hQ
    simp only [c4,not_false_iff,not_false_eq_true,decide_true,gd_tt,nilCk_p,addOff_ptr,load1_ptr,u2,ul,i64_geq,ge_iff_le,c5',decide_false,pick_true_z,tk_eq,opt_some,ifB_false]
    exact key H4 x4 c3 (.inl ⟨rfl,rfl⟩) (by simpa using hQ)
 | some o =>
  obtain ⟨j,hj,j1,j2,_⟩:=nameIx_some other _ o c3
  rw [j1]
  have hj0:(0:Int)<=j:=by omega
  have hj1:¬ (j:Int)<0:=by omega
  simp only [i64_geq,ge_iff_le,hj0,decide_true,gd_tt,tk_eq,opt_some]
  refine S.f64 hE (h.mono x3) to fun b4 o4 y4 H4 e4 n4 _ =>?_
  have x4:=x3.trans e4
  obtain ⟨_,_,u2,_⟩:=n4.cell
  obtain ⟨b',o',f1,f2⟩:=n4.2.2.ix (i:=j) (by rw [entR_length]; exact hj)
  have hrow:(entR (T.node to).ents)[j]'(by rw [entR_length]; exact hj)=[str other,vi (o.toNat:Int)]:=by simp [entR,j2]
  rw [hrow] at f2
  have f3:(H4.get b').cell (o'+1)=some (vi (o.toNat:Int)):=by have:=row_at f2 (j:=1) (by omega); simpa using this
  by_cases c4:o=n
  ·simp [c3,c4] at hQ
   simp only [gd_tt,nilCk_p,addOff_ptr,load1_ptr,u2,f1,f3,i64_eql,num_eq,eq_true c4,decide_true,pick_true_z,tk_eq,opt_some,ifB_true]
   exact hQ _ _ (h.same x4)
  ·simp [c3,c4] at hQ
   simp only [gd_tt,gd_ft,nilCk_p,addOff_ptr,load1_ptr,u2,f1,f3,i64_eql,i64_lss,hj1,num_eq,eq_false c4,decide_false,pick_true_z,pick_false_z,tk_eq,opt_some,ifB_false]
   exact refT_move_key (Q:=Q) hE h hs fr to n s other hc hn k1 k2 c2 k3 hold hnd hel hsl hdp hf hf20 j (some o) H4 x4 c3 (.inr ⟨j,hj,o,rfl,rfl,j2,c4⟩) (by simpa using hQ)
end
end Go.AM
end
