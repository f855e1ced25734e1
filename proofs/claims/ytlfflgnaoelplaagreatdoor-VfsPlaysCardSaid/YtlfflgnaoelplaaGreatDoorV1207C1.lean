/- CONTRACTS ON THE PRINTED FUNCTIONS. -/
import Derived.Test.YtlfflgnaoelplaaGreatDoorV1207C0
set_option linter.all false
namespace Go.AM
section
def bT:aG:=⟨0,1#16⟩
def gK(T:Tr)(M:List aX)(p:aG):Bool:=(lC M p.m).isSome&&decide ((T.node p.i).kind=2#8)
def iZ(M:List aX):Nat->aG->aG
 | 0,p=>p
 | n+1,p=>match gW M p with
  | none=>p
  | some q=>iZ M n q
def nJ(M:List aX)(p:aG):aG:=iZ M M.length p
def upP(T:Tr)(M:List aX)(p:aG):aG :=
 if gK T M p=true then if(T.node (nJ M p).i).kind=0#8 then bT else seen M ⟨(nJ M p).m,(T.node (nJ M p).i).parent⟩ else bT
def eV(cur:aK):List UInt8->List aK
 | []=>[cur]
 | c :: s=>if c=47 then cur :: eV [] s else eV (cur++[c]) s
def fB(x:aK):Bool:=decide (x≠[])&&decide (x≠[46])
def dR(s:List UInt8):List aK:=(eV [] s).filter fB
structure fV where
 at_:aG
 left:List aK
 links:Nat
 deriving DecidableEq
def dI(T:Tr)(M:List aX)(w:fV)(follow:Bool):fV×Int :=
 match w.left with
 | []=>(w,0)
 | name :: left =>
  if gK T M w.at_=false then(⟨w.at_,left,w.links⟩,20)
  else if name=[46,46] then
   if(T.node (upP T M w.at_).i).kind≠0#8/\gK T M (upP T M w.at_)=false then(⟨upP T M w.at_,left,w.links⟩,2) else(⟨upP T M w.at_,left,w.links⟩,0)
  else if 14<name.length then(⟨w.at_,left,w.links⟩,36)
  else if(T.look w.at_.i name).2≠0 then(⟨w.at_,left,w.links⟩,(T.look w.at_.i name).2)
  else
   let n:=(T.look w.at_.i name).1
   if(T.node n).kind=3#8/\(follow=true\/left≠[]) then
    if 8<w.links+1 then(⟨w.at_,left,w.links+1⟩,40)
    else(⟨if(T.node n).text.head? = some 47 then seen M bT else w.at_,dR (T.node n).text++left,w.links+1⟩,0)
   else if(T.node n).kind=2#8 then(⟨seen M ⟨w.at_.m,n⟩,left,w.links⟩,0)
   else(⟨⟨w.at_.m,n⟩,left,w.links⟩,0)
def mN(T:Tr)(M:List aX)(follow:Bool):Nat->fV->fV×Int
 | 0,w=>(w,0)
 | f+1,w=>if w.left=[] then(w,0) else if(dI T M w follow).2≠0 then dI T M w follow else mN T M follow f (dI T M w follow).1
def fV.need(w:fV):Nat:=w.left.length+(9 - w.links)*121
def eE(T:Tr)(M:List aX)(follow:Bool)(w:fV):fV×Int:=mN T M follow w.need w
def eL(M:List aX)(cwd:aG)(path:List UInt8):fV×Int :=
 if path=[] then(⟨cwd,[],0⟩,2) else if 120<path.length then(⟨cwd,[],0⟩,36)
 else(⟨if path.head? = some 47 then seen M bT else cwd,dR path,0⟩,0)
def dS(path:List UInt8):Bool:=decide (path.getLast? = some 47)
def iT(T:Tr)(M:List aX)(cwd:aG)(path:List UInt8)(follow:Bool):aG×Int :=
 if(eL M cwd path).2≠0 then(aG.zero,(eL M cwd path).2)
 else
  let r:=eE T M (follow||dS path) (eL M cwd path).1
  if r.2≠0 then(aG.zero,r.2)
  else if(T.node r.1.at_.i).kind=0#8 then(aG.zero,2)
  else if dS path=true/\gK T M r.1.at_=false then(aG.zero,20)
  else(r.1.at_,0)
def bW(T:Tr)(M:List aX)(cwd:aG)(path:List UInt8):aG×aK×Int :=
 if(eL M cwd path).2≠0 then(aG.zero,[],(eL M cwd path).2)
 else
  let w:=(eL M cwd path).1
  match w.left.getLast? with
  | none=>(aG.zero,[],16)
  | some name =>
   if name=[46,46] then(aG.zero,[],16)
   else
    let r:=eE T M true ⟨w.at_,w.left.dropLast,w.links⟩
    if r.2≠0 then(aG.zero,[],r.2)
    else if gK T M r.1.at_=false then(aG.zero,[],20)
    else if 14<name.length then(aG.zero,[],36)
    else if cP name=false then(aG.zero,[],22)
    else(r.1.at_,name,0)
end
section
open Go.Sort
section
variable {E:Sy}{H H':AH}{Q:Value->AH->Prop}
theorem rJ(x k:Nat)(h:2 ^ k<=x):bitsLen x=bitsLen (x / 2 ^ k)+k:=by
 have hp:=Nat.two_pow_pos k;apply Nat.le_antisymm
 ·rw[bitsLen_le_iff,Nat.pow_add]
  have:=lt_two_pow_bitsLen (x / 2 ^ k);rw[Nat.div_lt_iff_lt_mul hp]at this;exact this
 ·have h1:k<=bitsLen x:=by
   apply Classical.byContradiction;intro hc;have:bitsLen x<=k:=by omega
   rw[bitsLen_le_iff]at this;omega
  have:bitsLen (x / 2 ^ k)<=bitsLen x - k:=by
   rw[bitsLen_le_iff,Nat.div_lt_iff_lt_mul hp,<- Nat.pow_add,Nat.sub_add_cancel h1];exact lt_two_pow_bitsLen x
  omega
def mK:List UInt8:=(List.range 256).map λn=>UInt8.ofNat (bitsLen n)
theorem aCV:∀ n<256,mK[n]? = some (UInt8.ofNat (bitsLen n)):=by decide +kernel
theorem aBw:∀ n<256,bitsLen n<=8:=by decide +kernel
theorem aIg(x:BitVec 8):eZ (str mK) (u8 x)=some (u8 (BitVec.ofNat 8 (bitsLen x.toNat))):=by
 rw[aFz];have hx:=x.isLt;have hl:mK.length=256:=by decide +kernel
 have hlt:x.toNat<mK.length:=by omega
 rw[qQ mK x.toNat hlt];have:=aCV x.toNat (by omega)
 rw[List.getElem?_eq_getElem hlt]at this;simp only[Option.some.injEq]at this;rw[this]
 rfl
theorem aG8(l:List UInt8)(hl:l=mK)(x:BitVec 64)(hx:x.toNat<256)(k:Nat)(hk:k<1000)(hQ:Q (vi ((bitsLen x.toNat+k:Nat):Int)) H):
  (opt (bI .u8 (u64 x)) λv1=>opt (eZ (.string ⟨l.toArray⟩) v1) λv2=>opt (bI .i64 v2) λv3=>opt (aA .add (vi k) v3) λv4=>Q v4 H):=by
 subst hl;have e1:(x.setWidth 8).toNat=x.toNat:=by rw[BitVec.toNat_setWidth,Nat.mod_eq_of_lt (by omega)]
 have e2:=aBw x.toNat hx;simp only[aDU,aL,aD];rw[show(Value.string ⟨mK.toArray⟩)=str mK from rfl,aIg,e1];simp only[aD,kO,aL,BitVec.toNat_ofNat];rw[Nat.mod_eq_of_lt (by omega),cV _ _ (by omega),aD,Nat.add_comm]
 exact hQ
set_option maxRecDepth 100000
theorem S.f30(hE:bF E)(x:BitVec 64)(hx:x.toNat<2 ^ 32)(hQ:Q (vi (bitsLen x.toNat:Nat)) H):E.call 110 [u64 x] H Q:=by
 apply hE.f30;simp only[F.f30,aM];apply hE.f32;have c0:¬ 4294967296<=x.toNat:=by omega
 have t3:∀ (y:BitVec 64) (k:Nat),y.toNat<256->k<1000->bitsLen x.toNat=bitsLen y.toNat+k->F.f32_j3 E Q (u64 y) (vi k) H:=by
  intro y k hy hk e;unfold F.f32_j3;refine aG8 _ ?_ y hy k hk ?_
  ·decide +kernel
  ·rw[<- e];exact hQ
 have t2:∀ (y:BitVec 64) (k:Nat),y.toNat<65536->k<900->bitsLen x.toNat=bitsLen y.toNat+k->F.f32_j2 E Q (u64 y) (vi k) H:=by
  intro y k hy hk e
  by_cases h:256<=y.toNat
  ·have h8:(y >>> 8).toNat=y.toNat / 256:=by rw[BitVec.toNat_ushiftRight,Nat.shiftRight_eq_div_pow]
   have hs:=rJ y.toNat 8 (by omega)
   rw[show(2:Nat) ^ 8=256 from rfl]at hs;have hk8:aA .add (vi k) (vi 8)=some (vi ((k+8:Nat):Int)):=cV k 8 (by omega)
   simp only[F.f32_j2,aDz 256 (by decide),aDv,aL,aD]
   simp[h,hk8];have:=t3 (y >>> 8) (k+8) (by omega) (by omega) (by rw[e,hs,h8];omega)
   simpa using this
  ·simp only[F.f32_j2,aDz 256 (by decide),aDv,aL,aD]
   simp[h];exact t3 y k (by omega) (by omega) e
 by_cases h:65536<=x.toNat
 ·have h8:(x >>> 16).toNat=x.toNat / 65536:=by rw[BitVec.toNat_ushiftRight,Nat.shiftRight_eq_div_pow]
  have hs:=rJ x.toNat 16 (by omega)
  rw[show(2:Nat) ^ 16=65536 from rfl]at hs;have hk8:aA .add (vi 0) (vi 16)=some (vi ((16:Nat):Int)):=cV 0 16 (by omega)
  simp[F.f32,F.f32_j1,c0,h,hk8];exact t2 (x >>> 16) 16 (by omega) (by omega) (by rw[hs,h8])
 ·simp[F.f32,F.f32_j1,c0,h]
  exact t2 x 0 (by omega) (by omega) rfl
theorem S.f100(hE:bF E)(x:Nat)(hx:x<2 ^ 32)(hQ:Q (u64 (BitVec.ofNat 64 (2 ^ bitsLen x))) H):E.call 128 [vi x] H Q:=by
 apply hE.f100;have e1:(BitVec.ofNat 64 x).toNat=x:=by rw[BitVec.toNat_ofNat,Nat.mod_eq_of_lt (by omega)]
 have hc:bI .u64 (vi x)=some (u64 (BitVec.ofNat 64 x)):=by
  rw[oV,BitVec.ofInt_natCast]
 simp only[F.f100,hc,aL,aD];refine S.f30 hE _ (by rw[e1];exact hx) ?_
 rw[e1];have:=aDP 1#64 .i64 (bitsLen x);have l1:(.int .u64 1:Value)=u64 1#64:=rfl
 have e2:(1#64 <<< bitsLen x)=BitVec.ofNat 64 (2 ^ bitsLen x):=by
  apply BitVec.eq_of_toNat_eq;rw[BitVec.toNat_shiftLeft,Nat.shiftLeft_eq];simp
 rw[l1,this,aD,e2];exact hQ
theorem S.f108(hE:bF E)(r:Nat)(x:BitVec 64)(hr:H.get r = .cells [u64 x] none)(hQ:∀ y,Q (u64 y) (H.put r (.cells [u64 y] none))):E.call 129 [ptr r 0] H Q:=by
 apply hE.f108;have hlt:=AH.lt_cells hr;have l1:(.int .u64 13:Value)=u64 13#64:=rfl;have l2:(.int .u64 7:Value)=u64 7#64:=rfl;have l3:(.int .u64 17:Value)=u64 17#64:=rfl;simp[F.f108,hr,l1,l2,l3,AH.get_put,hlt];exact hQ _
end
end
section
open Go.Sort
section
variable {E:Sy}{H H':AH}{Q:Value->AH->Prop}{b c n:Nat}{d:Array (BitVec 16)}{tail:List Value}{f:Option Nat}
theorem bK:∀ x:BitVec 16,plain1 (u16 x)=true:=λ_=>rfl
theorem S.f0(hE:bF E)(x y:BitVec 16)(hQ:Q (vb (cF x y)) H):E.call 119 [u16 x,u16 y] H Q:=by
 apply hE.f0;simp only[F.f0];apply hE.f1;simp[F.f1];exact hQ
theorem S.f97(hE:bF E)(hg:H.get b=iA u16 d tail f)(hn:d.size=n)(hsz:n<2 ^ 60)(a e:Nat)(hae:a<=e)(he:e<=n)(hQ:∀ H',cW H b u16 tail f (insertionSort cF d a e) H'->Q (.tuple #[]) H'):E.call 113 [slc b 0 n c,vi a,vi e] H Q:=by
 apply hE.f97;simp only[F.f97,aL];rw[cK a (by omega),aD]
 unfold insertionSort at hQ;obtain⟨R,hR⟩:∃ R,R=insOuter cF a e (a+1) d:=⟨_,rfl⟩;rw[<- hR]at hQ;refine bY.ind (λm l H'=>∃ (j:Nat) (d':Array (BitVec 16)),l=[slc b 0 n c,vi a,vi e,vi j]/\cW H b u16 tail f d' H'/\d'.size=n/\R=insOuter cF a e j d'/\a<j/\m=e - j) ?_ (e - (a+1)) ⟨a+1,d,rfl,.refl hg,hn,hR,by omega,rfl⟩
 rintro m _ H1 X hX ⟨j,d1,rfl,s1,n1,r1,haj,rfl⟩;unfold insOuter at r1
 by_cases hj:j<e
 ·rw[if_pos hj]at r1
  have hj':(j:Int)<e:=by omega
  simp[F.f97_l1,hj'];refine bY.ind (λm l H2=>∃ (k:Nat) (d2:Array (BitVec 16)),l=[slc b 0 n c,vi a,vi e,vi j,vi k]/\cW H b u16 tail f d2 H2/\d2.size=n/\insInner cF a j d1=insInner cF a k d2/\k<=j/\m=k) ?_ j ⟨j,d1,rfl,s1,n1,rfl,Nat.le_refl _,rfl⟩;rintro m _ H2 X1 hX1 ⟨k,d2,rfl,s2,n2,r2,hkj,rfl⟩
  have done:insInner cF a m d2=d2->∀ l,l=[slc b 0 n c,vi a,vi e,vi ((j+1:Nat):Int)]->X l H2:=by
   rintro e2 l rfl;rw[e2]at r2;rw[r2]at r1;exact hX (e - (j+1)) (by omega) _ _ ⟨j+1,d2,rfl,s2,n2,r1,by omega,rfl⟩
  by_cases hka:a<m
  ·obtain⟨k,rfl⟩:∃ k,m=k+1:=⟨m - 1,by omega⟩
   have hka':(a:Int)<((k+1:Nat):Int):=by omega
   have f1:=cU (b:=b) (c:=c) (n:=n) (i:=k+1) (by omega)
   have f2:=cU (b:=b) (c:=c) (n:=n) (i:=k) (by omega)
   have g1:=bH s2.get (i:=k+1) (by omega)
   have g2:=bH s2.get (i:=k) (by omega)
   have hd:aA .sub (vi ((k+1:Nat):Int)) (vi 1)=some (vi (k:Int)):=eS (k+1) (by omega) (by omega)
   obtain⟨w1,w2⟩:=fO bK s2.get (i:=k+1) (j:=k) (by omega) (by omega)
   have hjj:=cK j (by omega)
   simp only[insInner,hka,decide_true,Bool.true_and]at r2 done;generalize hk1:k+1=k1 at *;simp[-aO,-aE,F.f97_l2,hka',f1,f2,g1,g2,hd];refine S.f0 hE _ _ ?_
   by_cases hl:cF d2[k1]! d2[k]! = true
   ·simp only[hl,if_true]at r2
    simp[-aO,-aE,hl,f1,f2,g1,g2,hd,w1,w2];exact hX1 k (by omega) _ _ ⟨k,_,rfl,s2.put _,by rw[size_swp];exact n2,r2,by omega,rfl⟩
   ·simp only[hl,if_false]at done
    simp[-aO,-aE,hl,hjj];exact done rfl _ rfl
  ·have hka':¬ (a:Int)<(m:Int):=by omega
   have hjj:=cK j (by omega)
   simp[-aO,-aE,F.f97_l2,hka',hjj];refine done ?_ _ rfl;cases m with
   | zero=>rfl
   | succ k=>simp[insInner,hka]
 ·rw[if_neg hj]at r1
  subst r1;have hj':¬ (j:Int)<e:=by omega
  simp[F.f97_l1,hj'];exact hQ _ s1
theorem S.f107(hE:bF E)(hg:H.get b=iA u16 d tail f)(hn:d.size=n)(hsz:n<2 ^ 60)(lo hi first:Nat)(hlo:lo<=n)(hf:first+hi<=n)(hQ:∀ H',cW H b u16 tail f (siftDown cF hi first lo d) H'->Q (.tuple #[]) H'):E.call 127 [slc b 0 n c,vi lo,vi hi,vi first] H Q:=by
 apply hE.f107;simp only[F.f107,aL];obtain⟨R,hR⟩:∃ R,R=siftDown cF hi first lo d:=⟨_,rfl⟩
 rw[<- hR]at hQ;refine bY.ind (λm l H'=>∃ (r:Nat) (d':Array (BitVec 16)),l=[slc b 0 n c,vi hi,vi first,vi r]/\cW H b u16 tail f d' H'/\d'.size=n/\R=siftDown cF hi first r d'/\r<=n/\m=hi - r) ?_ (hi - lo) ⟨lo,d,rfl,.refl hg,hn,hR,hlo,rfl⟩
 rintro m _ H1 X hX ⟨r,d1,rfl,s1,n1,r1,hr,rfl⟩;have a1:=aIb r (by omega)
 have a2:=cK (2*r) (by omega)
 have a3:=cK (2*r+1) (by omega)
 have step:∀ ch:Nat,r<ch->ch<hi->R=(if !cF d1[first+r]! d1[first+ch]! then d1 else siftDown cF hi first ch (swp d1 (first+r) (first+ch)))->F.f107_j1 E Q X (slc b 0 n c) (vi hi) (vi first) (vi r) (vi ch) H1:=by
  intro ch h1 h2 hR';have b1:=cV first r (by omega)
  have b2:=cV first ch (by omega)
  have f1:=cU (b:=b) (c:=c) (n:=n) (i:=first+r) (by omega)
  have f2:=cU (b:=b) (c:=c) (n:=n) (i:=first+ch) (by omega)
  have g1:=bH s1.get (i:=first+r) (by omega)
  have g2:=bH s1.get (i:=first+ch) (by omega)
  obtain⟨w1,w2⟩:=fO bK s1.get (i:=first+r) (j:=first+ch) (by omega) (by omega)
  generalize hp:first+r=p at *
  generalize hq:first+ch=q at *
  simp[-aO,-aE,F.f107_j1,b1,b2,f1,f2,g1,g2];refine S.f0 hE _ _ ?_
  by_cases hl:cF d1[p]! d1[q]! = true
  ·simp only[hl,Bool.not_true,Bool.false_eq_true,if_false]at hR'
   simp[-aO,-aE,hl,b1,b2,f1,f2,g1,g2,w1,w2];exact hX (hi - ch) (by omega) _ _ ⟨ch,_,rfl,s1.put _,by rw[size_swp];exact n1,hR',by omega,rfl⟩
  ·have hl:cF d1[p]! d1[q]! = false:=by simpa using hl
   simp only[hl,Bool.not_false,if_true]at hR';subst hR';simp[-aO,-aE,hl];exact hQ _ s1
 rw[siftDown]at r1
 by_cases c1:2*r+1>=hi
 ·rw[dif_pos c1]at r1
  subst r1;have c1':(hi:Int)<=((2*r+1:Nat):Int):=by omega
  generalize 2*r+1=ch at *;generalize 2*r=rr at *;simp[F.f107_l1,a1,a2,c1'];exact hQ _ s1
 rw[dif_neg c1]at r1;have c1':¬ (hi:Int)<=((2*r+1:Nat):Int):=by omega
 have b1:=cV first (2*r+1) (by omega)
 have b2:=cK (first+(2*r+1)) (by omega)
 by_cases c2:2*r+1+1<hi
 ·have c2':((2*r+1+1:Nat):Int)<hi:=by omega
  have f1:=cU (b:=b) (c:=c) (n:=n) (i:=first+(2*r+1)) (by omega)
  have f2:=cU (b:=b) (c:=c) (n:=n) (i:=first+(2*r+1)+1) (by omega)
  have g1:=bH s1.get (i:=first+(2*r+1)) (by omega)
  have g2:=bH s1.get (i:=first+(2*r+1)+1) (by omega)
  have st1:=step (2*r+1) (by omega) (by omega)
  have st2:=step (2*r+1+1) (by omega) c2
  rw[dif_pos (by omega:2*r+2<hi)]at r1
  simp only[c2,decide_true,Bool.true_and]at r1;rw[show 2*r+2=2*r+1+1 by omega]at r1
  generalize hq2:first+(2*r+1)+1=q2 at *
  generalize hq:first+(2*r+1)=q at *
  generalize hc2:2*r+1+1=ch2 at *;generalize hc1:2*r+1=ch at *;generalize 2*r=rr at *;simp[-aO,-aE,F.f107_l1,a1,a2,a3,c1',c2',b1,b2,f1,f2,g1,g2];refine S.f0 hE _ _ ?_
  by_cases hl:cF d1[q]! d1[q2]! = true
  ·simp only[hl,if_true]at r1
   simp[hl,a3];exact st2 r1
  ·simp only[hl,if_false]at r1
   simp[hl];exact st1 r1
 ·have c2':¬ ((2*r+1+1:Nat):Int)<hi:=by omega
  have st1:=step (2*r+1) (by omega) (by omega)
  simp only[c2,decide_false,Bool.false_and,Bool.false_eq_true,if_false]at r1;generalize hc2:2*r+1+1=ch2 at *;generalize hc1:2*r+1=ch at *;generalize 2*r=rr at *;simp[-aO,-aE,F.f107_l1,a1,a2,a3,c1',c2'];exact st1 r1
theorem iC(hi first r:Nat)(d:Array (BitVec 16)):(siftDown cF hi first r d).size=d.size:=by
 obtain⟨m,hm⟩:∃ m,hi - r<=m:=⟨_,Nat.le_refl _⟩
 induction m generalizing r d with
 | zero =>
  rw[siftDown,dif_pos (by omega)]
 | succ m ih =>
  rw[siftDown]
  split
  ·rfl
  ·split
   ·split
    ·rfl
    ·split
     ·rw[ih _ _ (by omega),size_swp]
     ·rfl
   ·split
    ·rfl
    ·rw[ih _ _ (by omega),size_swp]
theorem S.f96(hE:bF E)(hg:H.get b=iA u16 d tail f)(hn:d.size=n)(hsz:n<2 ^ 60)(a e:Nat)(hae:a<e)(he:e<=n)(hQ:∀ H',cW H b u16 tail f (heapSort cF d a e) H'->Q (.tuple #[]) H'):E.call 114 [slc b 0 n c,vi a,vi e] H Q:=by
 apply hE.f96;have a1:=eC e a (by omega) (by omega)
 have a2:=eS (e - a) (by omega) (by omega)
 have a3:=mL (e - a - 1) 2 (by decide) (by omega)
 unfold heapSort at hQ;have a1':aA .sub (vi e) (vi a)=some (vi ((e - a:Nat):Int)):=a1;generalize hw:e - a=w at *;have a3':aA .quo (vi ((w - 1:Nat):Int)) (vi 2)=some (vi (((w - 1) / 2:Nat):Int)):=a3;generalize hw1:w - 1=w1 at *;generalize hh:w1 / 2=h2 at *;have hh2:h2<=w1:=by rw[<- hh];exact Nat.div_le_self _ _
 simp only[F.f96,a1',a2,a3',aL,aD];obtain⟨R,hR⟩:∃ R,R=heapPop cF a w (heapBuild cF w a (h2+1) d):=⟨_,rfl⟩;rw[<- hR]at hQ;refine bY.ind (λm l H'=>∃ (k:Nat) (d':Array (BitVec 16)),l=[slc b 0 n c,vi a,vi 0,vi w,vi ((k:Int) - 1)]/\cW H b u16 tail f d' H'/\d'.size=n/\R=heapPop cF a w (heapBuild cF w a k d')/\k<=w/\m=k) ?_ (h2+1) ⟨h2+1,d,by simp,.refl hg,hn,hR,by omega,rfl⟩
 rintro m _ H1 X hX ⟨k,d1,rfl,s1,n1,r1,hk,rfl⟩;cases m with
 | succ k =>
  have e1:((k+1:Nat):Int) - 1=(k:Int):=by omega
  have hd:aA .sub (vi k) (vi 1)=some (vi ((k:Int) - 1)):=fZ (by omega) (by omega)
  rw[e1];simp[F.f96_l1];refine S.f107 hE s1.get n1 hsz k w a (by omega) (by omega) λH2 s2 =>?_
  simp only[hd,aL,aD];exact hX k (by omega) _ _ ⟨k,_,rfl,s1.trans s2,by rw[iC];exact n1,by rw[r1];rfl,by omega,rfl⟩
 | zero =>
  have hd:aA .sub (vi w) (vi 1)=some (vi ((w:Int) - 1)):=fZ (by omega) (by omega)
  simp[F.f96_l1,hd];clear hX;refine bY.ind (λm l H'=>∃ (k:Nat) (d':Array (BitVec 16)),l=[slc b 0 n c,vi a,vi 0,vi ((k:Int) - 1)]/\cW H b u16 tail f d' H'/\d'.size=n/\R=heapPop cF a k d'/\k<=w/\m=k) ?_ w ⟨w,d1,rfl,s1,n1,r1,Nat.le_refl _,rfl⟩;rintro m _ H2 X hX ⟨k,d2,rfl,s2,n2,r2,hk,rfl⟩;cases m with
  | succ k =>
   have e1:((k+1:Nat):Int) - 1=(k:Int):=by omega
   have hd:aA .sub (vi k) (vi 1)=some (vi ((k:Int) - 1)):=fZ (by omega) (by omega)
   have b1:=cV a k (by omega)
   have f1:=cU (b:=b) (c:=c) (n:=n) (i:=a) (by omega)
   have f2:=cU (b:=b) (c:=c) (n:=n) (i:=a+k) (by omega)
   have g1:=bH s2.get (i:=a) (by omega)
   have g2:=bH s2.get (i:=a+k) (by omega)
   obtain⟨w1,w2⟩:=fO bK s2.get (i:=a) (j:=a+k) (by omega) (by omega)
   rw[e1];rw[heapPop]at r2;generalize hq:a+k=q at *;simp[-aO,-aE,F.f96_l2,b1,f1,f2,g1,g2,w1,w2];have s3:=s2.put (swp d2 a q);refine S.f107 hE s3.get (by rw[size_swp];exact n2) hsz 0 k a (by omega) (by omega) λH3 s4 =>?_
   simp only[hd,aL,aD];exact hX k (by omega) _ _ ⟨k,_,rfl,s3.trans s4,by rw[iC,size_swp];exact n2,r2,by omega,rfl⟩
  | zero =>
   simp[F.f96_l2];rw[heapPop]at r2;subst r2;exact hQ _ s2
theorem S.f106(hE:bF E)(hg:H.get b=iA u16 d tail f)(hn:d.size=n)(hsz:n<2 ^ 60)(a e:Nat)(hae:a<e)(he:e<=n)(hQ:∀ H',cW H b u16 tail f (reverseRange d a e) H'->Q (.tuple #[]) H'):E.call 117 [slc b 0 n c,vi a,vi e] H Q:=by
 apply hE.f106;have a1:=eS e (by omega) (by omega)
 unfold reverseRange at hQ;simp only[F.f106,a1,aL,aD];obtain⟨R,hR⟩:∃ R,R=reverseLoop a (e - 1) d:=⟨_,rfl⟩;rw[<- hR]at hQ;refine bY.ind (λm l H'=>∃ (p q:Nat) (d':Array (BitVec 16)),l=[slc b 0 n c,vi p,vi q]/\cW H b u16 tail f d' H'/\d'.size=n/\R=reverseLoop p q d'/\p<=n/\q<n/\m=q - p) ?_ (e - 1 - a) ⟨a,e - 1,d,rfl,.refl hg,hn,hR,by omega,by omega,rfl⟩
 rintro m _ H1 X hX ⟨p,q,d1,rfl,s1,n1,r1,hp,hq,rfl⟩;rw[reverseLoop]at r1
 by_cases h:p<q
 ·rw[if_pos h]at r1
  have h':(p:Int)<q:=by omega
  have f1:=cU (b:=b) (c:=c) (n:=n) (i:=p) (by omega)
  have f2:=cU (b:=b) (c:=c) (n:=n) (i:=q) (by omega)
  have g1:=bH s1.get (i:=p) (by omega)
  have g2:=bH s1.get (i:=q) (by omega)
  obtain⟨w1,w2⟩:=fO bK s1.get (i:=p) (j:=q) (by omega) (by omega)
  have b1:=cK p (by omega)
  have b2:=eS q (by omega) (by omega)
  simp[-aO,-aE,F.f106_l1,h',f1,f2,g1,g2,w1,w2,b1,b2];exact hX (q - 1 - (p+1)) (by omega) _ _ ⟨p+1,q - 1,_,rfl,s1.put _,by rw[size_swp];exact n1,r1,by omega,by omega,rfl⟩
 ·rw[if_neg h]at r1
  subst r1;have h':¬ (p:Int)<q:=by omega
  simp[F.f106_l1,h'];exact hQ _ s1
theorem S.f104(hE:bF E)(hg:H.get b=iA u16 d tail f)(hn:d.size=n)(hsz:n<2 ^ 60)(a e pivot:Nat)(h1:a<=pivot)(h2:pivot<e)(he:e<=n)(hQ:∀ H',cW H b u16 tail f (partition cF d a e pivot).2.2 H'->Q (.tuple #[vi (partition cF d a e pivot).1,vb (partition cF d a e pivot).2.1]) H'):E.call 121 [slc b 0 n c,vi a,vi e,vi pivot] H Q:=by
 apply hE.f104;have f1:=cU (b:=b) (c:=c) (n:=n) (i:=a) (by omega)
 have f2:=cU (b:=b) (c:=c) (n:=n) (i:=pivot) (by omega)
 have g1:=bH hg (i:=a) (by omega)
 have g2:=bH hg (i:=pivot) (by omega)
 obtain⟨w1,w2⟩:=fO bK hg (i:=a) (j:=pivot) (by omega) (by omega)
 have b1:=cK a (by omega)
 have b2:=eS e (by omega) (by omega)
 simp only[F.f104,f1,f2,g1,g2,w1,w2,b1,b2,aL,aD];have s0:=(cW.refl hg).put (swp d a pivot);have n0:(swp d a pivot).size=n:=by rw[size_swp];exact hn
 unfold partition at hQ;generalize hd0:swp d a pivot=d0 at *;generalize hH0:H.put b (iA u16 d0 tail f)=H0 at *;simp only at hQ;obtain⟨I,hI⟩:∃ I,I=scanUp (λx=>cF x d0[a]!) d0 (e - 1) (a+1):=⟨_,rfl⟩;rw[<- hI]at hQ;obtain⟨J,hJ⟩:∃ J,J=scanDown (λx => !cF x d0[a]!) d0 I (e - 1):=⟨_,rfl⟩;rw[<- hJ]at hQ;have hIl:=aAp (λx=>cF x d0[a]!) d0 (e - 1) _ (a+1) (Nat.le_refl _);rw[<- hI]at hIl;have hJl:=lT (λx => !cF x d0[a]!) d0 I (e - 1);rw[<- hJ]at hJl;refine bY.ind (λm l H'=>H0=H'/\∃ p:Nat,l=[slc b 0 n c,vi a,vi p,vi ((e - 1:Nat):Int)]/\I=scanUp (λx=>cF x d0[a]!) d0 (e - 1) p/\a+1<=p/\p<=e/\m=e - p) ?_ (e - (a+1)) ⟨rfl,a+1,rfl,hI,Nat.le_refl _,by omega,rfl⟩
 rintro m _ _ X hX ⟨rfl,p,rfl,r1,hp1,hp2,rfl⟩;rw[scanUp]at r1
 have exit1:I=p->lp4 (F.f104_l2 E Q) [slc b 0 n c,vi a,vi p,vi ((e - 1:Nat):Int)] H0:=by
  rintro rfl;clear hX r1;refine bY.ind (λm l H'=>H0=H'/\∃ q:Nat,l=[slc b 0 n c,vi a,vi I,vi q]/\J=scanDown (λx => !cF x d0[a]!) d0 I q/\q<=e - 1/\I<=q+1/\m=q) ?_ (e - 1) ⟨rfl,e - 1,rfl,hJ,Nat.le_refl _,by omega,rfl⟩
  rintro m _ _ X hX ⟨rfl,q,rfl,r1,hq1,hq2,rfl⟩
  have exit2:J=m->F.f104_l2 E Q (slc b 0 n c) (vi a) (vi I) (vi m) H0 X:=by
   rintro rfl;clear hX;have f1:=cU (b:=b) (c:=c) (n:=n) (i:=a) (by omega)
   have f2:=cU (b:=b) (c:=c) (n:=n) (i:=J) (by omega)
   have g1:=bH s0.get (i:=a) (by omega)
   have g2:=bH s0.get (i:=J) (by omega)
   obtain⟨w1,w2⟩:=fO bK s0.get (i:=J) (j:=a) (by omega) (by omega)
   by_cases hij:I<=J
   ·have hij':(I:Int)<=J:=by omega
    have hij'':¬ (J:Int)<I:=by omega
    have hnl:cF d0[J]! d0[a]! = true:=by
     cases J with
     | zero=>omega
     | succ q =>
      rw[scanDown]at r1
      split at r1
      ·have:=lT (λx => !cF x d0[a]!) d0 I q
       omega
      ·rename_i hc
       simp at hc;exact hc (by omega)
    have f3:=cU (b:=b) (c:=c) (n:=n) (i:=I) (by omega)
    have g3:=bH s0.get (i:=I) (by omega)
    obtain⟨w3,w4⟩:=fO bK s0.get (i:=I) (j:=J) (by omega) (by omega)
    have b3:=cK I (by omega)
    have b4:=eS J (by omega) (by omega)
    simp[-aO,-aE,F.f104_l2,hij',f1,f2,g1,g2];refine S.f0 hE _ _ ?_;simp[-aO,-aE,hnl,hij'',f1,f2,f3,g1,g2,g3,w3,w4,b3,b4];rw[if_neg (by omega)]at hQ
    have s1:=s0.put (swp d0 I J);have n1:(swp d0 I J).size=n:=by rw[size_swp];exact n0
    generalize hd1:swp d0 I J=d1 at *;simp only at hQ;obtain⟨R,hR⟩:∃ R,R=partLoop cF a (I+1) (J - 1) d1:=⟨_,rfl⟩;rw[<- hR]at hQ;refine bY.ind (λm l H'=>∃ (p q:Nat) (d2:Array (BitVec 16)),l=[slc b 0 n c,vi a,vi p,vi q]/\cW H b u16 tail f d2 H'/\d2.size=n/\R=partLoop cF a p q d2/\a+1<=p/\p<=q+1+1/\p<=e/\q<=e - 1/\a<=q/\m=q+1 - p) ?_ (J - 1+1 - (I+1)) ⟨I+1,J - 1,d1,rfl,s1,n1,hR,by omega,by omega,by omega,by omega,by omega,rfl⟩
    clear hR s1 n1 hd1 w1 w2 w3 w4;rintro m _ H2 X3 hX3 ⟨p,q,d2,rfl,s2,n2,r2,hp1,hp2,hpe,hq1,hqa,rfl⟩;rw[partLoop]at r2;simp only[F.f104_l3,eF,eR,eW,fR];obtain⟨I2,hI2⟩:∃ I,I=scanUp (λx=>cF x d2[a]!) d2 q p:=⟨_,rfl⟩;obtain⟨J2,hJ2⟩:∃ J,J=scanDown (λx => !cF x d2[a]!) d2 I2 q:=⟨_,rfl⟩;rw[<- hI2]at r2
    try simp only at r2
    rw[<- hJ2]at r2;have hIl2:=aAp (λx=>cF x d2[a]!) d2 q _ p (Nat.le_refl _);rw[<- hI2]at hIl2;have hJl2:=lT (λx => !cF x d2[a]!) d2 I2 q;rw[<- hJ2]at hJl2
    have hI2e:I2<=q+1\/(I2=p/\q+1<p):=by
     by_cases h:p<=q+1
     ·exact .inl (hIl2.2 h)
     ·refine .inr ⟨?_,by omega⟩
      rw[hI2,scanUp,if_neg (by simp;omega)]
    have hJ2e:I2<=q+1\/J2=q:=by
     rcases hI2e with h | ⟨h,h'⟩
     ·exact .inl h
     ·right
      rw[hJ2];cases q with
      | zero=>rfl
      | succ q=>rw[scanDown,if_neg (by simp;omega)]
    refine bY.ind (λm l H'=>H2=H'/\∃ p':Nat,l=[slc b 0 n c,vi a,vi p',vi q]/\I2=scanUp (λx=>cF x d2[a]!) d2 q p'/\p<=p'/\p'<=e/\m=q+1 - p') ?_ (q+1 - p) ⟨rfl,p,rfl,hI2,Nat.le_refl _,by omega,rfl⟩
    rintro m _ _ X4 hX4 ⟨rfl,p',rfl,r4,hp3,hp4,rfl⟩;rw[scanUp]at r4
    have exit4:I2=p'->lp4 (F.f104_l5 E Q X3) [slc b 0 n c,vi a,vi p',vi q] H2:=by
     rintro rfl;clear hX4 r4;refine bY.ind (λm l H'=>H2=H'/\∃ q':Nat,l=[slc b 0 n c,vi a,vi I2,vi q']/\J2=scanDown (λx => !cF x d2[a]!) d2 I2 q'/\q'<=q/\m=q') ?_ q ⟨rfl,q,rfl,hJ2,Nat.le_refl _,rfl⟩;rintro m _ _ X5 hX5 ⟨rfl,q',rfl,r5,hq3,rfl⟩
     have exit5:J2=m->F.f104_l5 E Q X3 (slc b 0 n c) (vi a) (vi I2) (vi m) H2 X5:=by
      rintro rfl;clear hX5;have f2:=cU (b:=b) (c:=c) (n:=n) (i:=J2) (by omega)
      have g1:=bH s2.get (i:=a) (by omega)
      have g2:=bH s2.get (i:=J2) (by omega)
      by_cases hij:I2<=J2
      ·have hij':(I2:Int)<=J2:=by omega
       have hij'':¬ (J2:Int)<I2:=by omega
       have hnl:cF d2[J2]! d2[a]! = true:=by
        cases J2 with
        | zero=>omega
        | succ q' =>
         rw[scanDown]at r5
         split at r5
         ·have:=lT (λx => !cF x d2[a]!) d2 I2 q'
          omega
         ·rename_i hc
          simp at hc;exact hc (by omega)
       have f3:=cU (b:=b) (c:=c) (n:=n) (i:=I2) (by omega)
       have g3:=bH s2.get (i:=I2) (by omega)
       obtain⟨w3,w4⟩:=fO bK s2.get (i:=I2) (j:=J2) (by omega) (by omega)
       have b3:=cK I2 (by omega)
       have b4:=eS J2 (by omega) (by omega)
       simp[-aO,-aE,F.f104_l5,hij',f1,f2,g1,g2];refine S.f0 hE _ _ ?_;simp[-aO,-aE,hnl,hij'',f1,f2,f3,g1,g2,g3,w3,w4,b3,b4];rw[if_neg (by omega),dif_pos (by omega)]at r2
       exact hX3 (J2 - 1+1 - (I2+1)) (by omega) _ _ ⟨I2+1,J2 - 1,_,rfl,s2.put _,by rw[size_swp];exact n2,r2,by omega,by omega,by omega,by omega,by omega,rfl⟩
      ·have hij':¬ (I2:Int)<=J2:=by omega
       have hij'':(J2:Int)<I2:=by omega
       rw[if_pos (by omega)]at r2
       subst r2;obtain⟨w1,w2⟩:=fO bK s2.get (i:=J2) (j:=a) (by omega) (by omega)
       simp[-aO,-aE,F.f104_l5,hij',hij'',f1,f2,g1,g2,w1,w2];exact hQ _ (s2.put _)
     cases m with
     | zero=>exact exit5 r5
     | succ q' =>
      by_cases hc:I2<=q'+1/\cF d2[q'+1]! d2[a]! = false
      ·rw[scanDown,if_pos (by simp[hc.1,hc.2])]at r5
       have hc':(I2:Int)<=((q'+1:Nat):Int):=by omega
       have f2:=cU (b:=b) (c:=c) (n:=n) (i:=q'+1) (by omega)
       have g1:=bH s2.get (i:=a) (by omega)
       have g2:=bH s2.get (i:=q'+1) (by omega)
       have b4:aA .sub (vi ((q'+1:Nat):Int)) (vi 1)=some (vi (q':Int)):=eS (q'+1) (by omega) (by omega)
       have hlt:=hc.2;generalize hqq:q'+1=qq at *;simp[-aO,-aE,F.f104_l5,hc',f1,f2,g1,g2];refine S.f0 hE _ _ ?_;simp[-aO,-aE,hlt,b4];exact hX5 q' (by omega) _ _ ⟨rfl,q',rfl,r5,by omega,rfl⟩
      ·rw[scanDown,if_neg (by simpa using hc)]at r5
       exact exit5 r5
    by_cases hc:p'<=q/\cF d2[p']! d2[a]! = true
    ·rw[if_pos (by simp[hc.1,hc.2])]at r4
     have hc':(p':Int)<=q:=by omega
     have f2:=cU (b:=b) (c:=c) (n:=n) (i:=p') (by omega)
     have g1:=bH s2.get (i:=a) (by omega)
     have g2:=bH s2.get (i:=p') (by omega)
     have b3:=cK p' (by omega)
     simp[-aO,-aE,F.f104_l4,hc',f1,f2,g1,g2];refine S.f0 hE _ _ ?_;simp[-aO,-aE,hc.2,b3];exact hX4 (q+1 - (p'+1)) (by omega) _ _ ⟨rfl,p'+1,rfl,r4,by omega,by omega,rfl⟩
    ·rw[if_neg (by simpa using hc)]at r4
     by_cases hpq:p'<=q
     ·have hc':(p':Int)<=q:=by omega
      have hlt:cF d2[p']! d2[a]! = false:=by simpa using λh=>hc ⟨hpq,h⟩
      have f2:=cU (b:=b) (c:=c) (n:=n) (i:=p') (by omega)
      have g1:=bH s2.get (i:=a) (by omega)
      have g2:=bH s2.get (i:=p') (by omega)
      simp[-aO,-aE,F.f104_l4,hc',f1,f2,g1,g2];refine S.f0 hE _ _ ?_;simp[-aO,-aE,hlt];exact exit4 r4
     ·have hc':¬ (p':Int)<=q:=by omega
      simp[-aO,-aE,F.f104_l4,hc'];exact exit4 r4
   ·have hij':¬ (I:Int)<=J:=by omega
    have hij'':(J:Int)<I:=by omega
    simp[-aO,-aE,F.f104_l2,hij',hij'',f1,f2,g1,g2,w1,w2];rw[if_pos (by omega)]at hQ
    exact hQ _ (s0.put _)
  cases m with
  | zero=>exact exit2 r1
  | succ q =>
   by_cases hc:I<=q+1/\cF d0[q+1]! d0[a]! = false
   ·rw[scanDown,if_pos (by simp[hc.1,hc.2])]at r1
    have hc':(I:Int)<=((q+1:Nat):Int):=by omega
    have f2:=cU (b:=b) (c:=c) (n:=n) (i:=q+1) (by omega)
    have g1:=bH s0.get (i:=a) (by omega)
    have g2:=bH s0.get (i:=q+1) (by omega)
    have b4:aA .sub (vi ((q+1:Nat):Int)) (vi 1)=some (vi (q:Int)):=eS (q+1) (by omega) (by omega)
    have hlt:=hc.2;generalize hqq:q+1=qq at *;simp[-aO,-aE,F.f104_l2,hc',f1,f2,g1,g2];refine S.f0 hE _ _ ?_;simp[-aO,-aE,hlt,b4];exact hX q (by omega) _ _ ⟨rfl,q,rfl,r1,by omega,by omega,rfl⟩
   ·rw[scanDown,if_neg (by simpa using hc)]at r1
    exact exit2 r1
 by_cases hc:p<=e - 1/\cF d0[p]! d0[a]! = true
 ·rw[if_pos (by simp[hc.1,hc.2])]at r1
  have hc':(p:Int)<=((e - 1:Nat):Int):=by omega
  have f2:=cU (b:=b) (c:=c) (n:=n) (i:=p) (by omega)
  have g1:=bH s0.get (i:=a) (by omega)
  have g2:=bH s0.get (i:=p) (by omega)
  have b3:=cK p (by omega)
  generalize he1:e - 1=e1 at *;simp[-aO,-aE,F.f104_l1,hc',f1,f2,g1,g2];refine S.f0 hE _ _ ?_;simp[-aO,-aE,hc.2,b3];exact hX (e - (p+1)) (by omega) _ _ ⟨rfl,p+1,rfl,r1,by omega,by omega,rfl⟩
 ·rw[if_neg (by simpa using hc)]at r1
  have exit1:=exit1 r1
  by_cases hpq:p<=e - 1
  ·have hc':(p:Int)<=((e - 1:Nat):Int):=by omega
   have hlt:cF d0[p]! d0[a]! = false:=by simpa using λh=>hc ⟨hpq,h⟩
   have f2:=cU (b:=b) (c:=c) (n:=n) (i:=p) (by omega)
   have g1:=bH s0.get (i:=a) (by omega)
   have g2:=bH s0.get (i:=p) (by omega)
   generalize he1:e - 1=e1 at *;simp[-aO,-aE,F.f104_l1,hc',f1,f2,g1,g2];refine S.f0 hE _ _ ?_;simp[-aO,-aE,hlt];exact exit1
  ·have hc':¬ (p:Int)<=((e - 1:Nat):Int):=by omega
   generalize he1:e - 1=e1 at *;simp[-aO,-aE,F.f104_l1,hc'];exact exit1
theorem S.f103(hE:bF E)(hg:H.get b=iA u16 d tail f)(hn:d.size=n)(hsz:n<2 ^ 60)(a e pivot:Nat)(h1:a<=pivot)(h2:pivot<e)(he:e<=n)(hQ:∀ H',cW H b u16 tail f (partitionEqual cF d a e pivot).2 H'->Q (vi (partitionEqual cF d a e pivot).1) H'):E.call 120 [slc b 0 n c,vi a,vi e,vi pivot] H Q:=by
 apply hE.f103;have f1:=cU (b:=b) (c:=c) (n:=n) (i:=a) (by omega)
 have f2:=cU (b:=b) (c:=c) (n:=n) (i:=pivot) (by omega)
 have g1:=bH hg (i:=a) (by omega)
 have g2:=bH hg (i:=pivot) (by omega)
 obtain⟨w1,w2⟩:=fO bK hg (i:=a) (j:=pivot) (by omega) (by omega)
 have b1:=cK a (by omega)
 have b2:=eS e (by omega) (by omega)
 simp only[F.f103,f1,f2,g1,g2,w1,w2,b1,b2,aL,aD];have s0:=(cW.refl hg).put (swp d a pivot);have n0:(swp d a pivot).size=n:=by rw[size_swp];exact hn
 unfold partitionEqual at hQ;generalize hd0:swp d a pivot=d0 at *;generalize hH0:H.put b (iA u16 d0 tail f)=H0 at *;clear w1 w2 f2 g1 g2;obtain⟨R,hR⟩:∃ R,R=partEqLoop cF a (a+1) (e - 1) d0:=⟨_,rfl⟩;rw[<- hR]at hQ;refine bY.ind (λm l H'=>∃ (p q:Nat) (d2:Array (BitVec 16)),l=[slc b 0 n c,vi a,vi p,vi q]/\cW H b u16 tail f d2 H'/\d2.size=n/\R=partEqLoop cF a p q d2/\a+1<=p/\p<=q+1+1/\p<=e/\q<=e - 1/\a<=q/\m=q+1 - p) ?_ (e - 1+1 - (a+1)) ⟨a+1,e - 1,d0,rfl,s0,n0,hR,by omega,by omega,by omega,by omega,by omega,rfl⟩
 clear hR s0 n0 hd0;rintro m _ H2 X3 hX3 ⟨p,q,d2,rfl,s2,n2,r2,hp1,hp2,hpe,hq1,hqa,rfl⟩;rw[partEqLoop]at r2;simp only[F.f103_l1,eF,eR,eW,fR];obtain⟨I2,hI2⟩:∃ I,I=scanUp (λx => !cF d2[a]! x) d2 q p:=⟨_,rfl⟩;obtain⟨J2,hJ2⟩:∃ J,J=scanDown (λx=>cF d2[a]! x) d2 I2 q:=⟨_,rfl⟩;rw[<- hI2]at r2
 try simp only at r2
 rw[<- hJ2]at r2;have hIl2:=aAp (λx => !cF d2[a]! x) d2 q _ p (Nat.le_refl _);rw[<- hI2]at hIl2;have hJl2:=lT (λx=>cF d2[a]! x) d2 I2 q;rw[<- hJ2]at hJl2
 have hI2e:I2<=q+1\/(I2=p/\q+1<p):=by
  by_cases h:p<=q+1
  ·exact .inl (hIl2.2 h)
  ·refine .inr ⟨?_,by omega⟩
   rw[hI2,scanUp,if_neg (by simp;omega)]
 have hJ2e:I2<=q+1\/J2=q:=by
  rcases hI2e with h | ⟨h,h'⟩
  ·exact .inl h
  ·right
   rw[hJ2];cases q with
   | zero=>rfl
   | succ q=>rw[scanDown,if_neg (by simp;omega)]
 refine bY.ind (λm l H'=>H2=H'/\∃ p':Nat,l=[slc b 0 n c,vi a,vi p',vi q]/\I2=scanUp (λx => !cF d2[a]! x) d2 q p'/\p<=p'/\p'<=e/\m=q+1 - p') ?_ (q+1 - p) ⟨rfl,p,rfl,hI2,Nat.le_refl _,by omega,rfl⟩
 rintro m _ _ X4 hX4 ⟨rfl,p',rfl,r4,hp3,hp4,rfl⟩;rw[scanUp]at r4
 have exit4:I2=p'->lp4 (F.f103_l3 E Q X3) [slc b 0 n c,vi a,vi p',vi q] H2:=by
  rintro rfl;clear hX4 r4;refine bY.ind (λm l H'=>H2=H'/\∃ q':Nat,l=[slc b 0 n c,vi a,vi I2,vi q']/\J2=scanDown (λx=>cF d2[a]! x) d2 I2 q'/\q'<=q/\m=q') ?_ q ⟨rfl,q,rfl,hJ2,Nat.le_refl _,rfl⟩;rintro m _ _ X5 hX5 ⟨rfl,q',rfl,r5,hq3,rfl⟩
  have exit5:J2=m->F.f103_l3 E Q X3 (slc b 0 n c) (vi a) (vi I2) (vi m) H2 X5:=by
   rintro rfl;clear hX5;have f2:=cU (b:=b) (c:=c) (n:=n) (i:=J2) (by omega)
   have g1:=bH s2.get (i:=a) (by omega)
   have g2:=bH s2.get (i:=J2) (by omega)
   by_cases hij:I2<=J2
   ·have hij':(I2:Int)<=J2:=by omega
    have hij'':¬ (J2:Int)<I2:=by omega
    have hnl:cF d2[a]! d2[J2]! = false:=by
     cases J2 with
     | zero=>omega
     | succ q' =>
      rw[scanDown]at r5
      split at r5
      ·have:=lT (λx=>cF d2[a]! x) d2 I2 q'
       omega
      ·rename_i hc
       simp at hc;exact hc (by omega)
    have f3:=cU (b:=b) (c:=c) (n:=n) (i:=I2) (by omega)
    have g3:=bH s2.get (i:=I2) (by omega)
    obtain⟨w3,w4⟩:=fO bK s2.get (i:=I2) (j:=J2) (by omega) (by omega)
    have b3:=cK I2 (by omega)
    have b4:=eS J2 (by omega) (by omega)
    simp[-aO,-aE,F.f103_l3,hij',f1,f2,g1,g2];refine S.f0 hE _ _ ?_;simp[-aO,-aE,hnl,hij'',f1,f2,f3,g1,g2,g3,w3,w4,b3,b4];rw[if_neg (by omega),dif_pos (by omega)]at r2
    exact hX3 (J2 - 1+1 - (I2+1)) (by omega) _ _ ⟨I2+1,J2 - 1,_,rfl,s2.put _,by rw[size_swp];exact n2,r2,by omega,by omega,by omega,by omega,by omega,rfl⟩
   ·have hij':¬ (I2:Int)<=J2:=by omega
    have hij'':(J2:Int)<I2:=by omega
    rw[if_pos (by omega)]at r2
    subst r2;simp[-aO,-aE,F.f103_l3,hij',hij''];exact hQ _ s2
  cases m with
  | zero=>exact exit5 r5
  | succ q' =>
   by_cases hc:I2<=q'+1/\cF d2[a]! d2[q'+1]! = true
   ·rw[scanDown,if_pos (by simp[hc.1,hc.2])]at r5
    have hc':(I2:Int)<=((q'+1:Nat):Int):=by omega
    have f2:=cU (b:=b) (c:=c) (n:=n) (i:=q'+1) (by omega)
    have g1:=bH s2.get (i:=a) (by omega)
    have g2:=bH s2.get (i:=q'+1) (by omega)
    have b4:aA .sub (vi ((q'+1:Nat):Int)) (vi 1)=some (vi (q':Int)):=eS (q'+1) (by omega) (by omega)
    have hlt:=hc.2;generalize hqq:q'+1=qq at *;simp[-aO,-aE,F.f103_l3,hc',f1,f2,g1,g2];refine S.f0 hE _ _ ?_;simp[-aO,-aE,hlt,b4];exact hX5 q' (by omega) _ _ ⟨rfl,q',rfl,r5,by omega,rfl⟩
   ·rw[scanDown,if_neg (by simpa using hc)]at r5
    exact exit5 r5
 by_cases hc:p'<=q/\cF d2[a]! d2[p']! = false
 ·rw[if_pos (by simp[hc.1,hc.2])]at r4
  have hc':(p':Int)<=q:=by omega
  have f2:=cU (b:=b) (c:=c) (n:=n) (i:=p') (by omega)
  have g1:=bH s2.get (i:=a) (by omega)
  have g2:=bH s2.get (i:=p') (by omega)
  have b3:=cK p' (by omega)
  simp[-aO,-aE,F.f103_l2,hc',f1,f2,g1,g2];refine S.f0 hE _ _ ?_;simp[-aO,-aE,hc.2,b3];exact hX4 (q+1 - (p'+1)) (by omega) _ _ ⟨rfl,p'+1,rfl,r4,by omega,by omega,rfl⟩
 ·rw[if_neg (by simpa using hc)]at r4
  by_cases hpq:p'<=q
  ·have hc':(p':Int)<=q:=by omega
   have hlt:cF d2[a]! d2[p']! = true:=by simpa using λh=>hc ⟨hpq,h⟩
   have f2:=cU (b:=b) (c:=c) (n:=n) (i:=p') (by omega)
   have g1:=bH s2.get (i:=a) (by omega)
   have g2:=bH s2.get (i:=p') (by omega)
   simp[-aO,-aE,F.f103_l2,hc',f1,f2,g1,g2];refine S.f0 hE _ _ ?_;simp[-aO,-aE,hlt];exact exit4 r4
  ·have hc':¬ (p':Int)<=q:=by omega
   simp[-aO,-aE,F.f103_l2,hc'];exact exit4 r4
theorem S.f102(hE:bF E)(hg:H.get b=iA u16 d tail f)(hn:d.size=n)(hsz:n<2 ^ 60)(a e:Nat)(hae:a<e)(he:e<=n)(hQ:∀ H',cW H b u16 tail f (partialInsertionSort cF d a e).1 H'->Q (vb (partialInsertionSort cF d a e).2) H'):E.call 118 [slc b 0 n c,vi a,vi e] H Q:=by
  apply hE.f102;have b1:=cK a (by omega)
  simp only[F.f102,b1,aL,aD];unfold partialInsertionSort at hQ;obtain⟨R,hR⟩:∃ R,R=partialIns cF a e 5 (a+1) d:=⟨_,rfl⟩;rw[<- hR]at hQ;refine bY.ind (λm l H'=>∃ (i:Nat) (d1:Array (BitVec 16)),l=[slc b 0 n c,vi a,vi e,vi i,vi ((5 - m:Nat):Int)]/\cW H b u16 tail f d1 H'/\d1.size=n/\R=partialIns cF a e m i d1/\a+1<=i/\i<=e/\m<=5) ?_ 5 ⟨a+1,d,rfl,.refl hg,hn,hR,Nat.le_refl _,by omega,Nat.le_refl _⟩
  rintro m _ H1 X hX ⟨i0,d1,rfl,s1,n1,r1,hi1,hi2,hm⟩;cases m with
  | zero =>
    simp[F.f102_l1];rw[partialIns]at r1;subst r1;exact hQ _ s1
  | succ m =>
    have hms:((5 - (m+1):Nat):Int)<5:=by omega
    have hmi:aA .add (vi ((5 - (m+1):Nat):Int)) (vi 1)=some (vi ((5 - m:Nat):Int)):=by
      rw[cK _ (by omega)];congr 3;omega
    have hX:∀ (i:Nat) (d2:Array (BitVec 16)) H2,cW H b u16 tail f d2 H2->d2.size=n->R=partialIns cF a e m i d2->a+1<=i->i<=e->X [slc b 0 n c,vi a,vi e,vi i,vi ((5 - m:Nat):Int)] H2:=λi d2 H2 q1 q2 q3 q4 q5=>hX m (by omega) _ _ ⟨i,d2,rfl,q1,q2,q3,q4,q5,by omega⟩
    generalize hk:5 - (m+1)=k at *;generalize hk':5 - m=k' at *;simp[F.f102_l1,hms];rw[partialIns_succ]at r1;obtain⟨I,hI⟩:∃ I,I=scanSorted cF d1 e i0:=⟨_,rfl⟩;rw[<- hI]at r1;refine bY.ind (λm l H'=>H1=H'/\∃ i':Nat,l=[slc b 0 n c,vi a,vi e,vi i',vi k]/\I=scanSorted cF d1 e i'/\a+1<=i'/\i'<=e/\m=e - i') ?_ (e - i0) ⟨rfl,i0,rfl,hI,hi1,hi2,rfl⟩;rintro mm _ _ X1 hX1 ⟨rfl,i',rfl,r2,hi3,hi4,rfl⟩;rw[scanSorted]at r2;have b2:=eC e a (by omega) (by omega)
    have b2':aA .sub (vi e) (vi a)=some (vi ((e - a:Nat):Int)):=b2
    have exit:I=i' ->
        (opt (aA .eql (vi i') (vi e)) λv15 =>
         ifB v15 (Q (.bool true) H1) (
         opt (aA .sub (vi e) (vi a)) λv16 =>
         opt (aA .lss v16 (vi 50)) λv17 =>
         ifB v17 (Q (.bool false) H1) (
         opt (aA .sub (vi i') (vi 1)) λv18 =>
         opt (aA .sub (vi i') (vi 1)) λv19 =>
         opt (aP 1 (slc b 0 n c) v19) λv20 =>
         opt (aC v20 H1) λv21 =>
         opt (aP 1 (slc b 0 n c) (vi i')) λv22 =>
         opt (aC v22 H1) λv23 =>
         opt (aP 1 (slc b 0 n c) (vi i')) λv24 =>
         opt (aR v24 v21 H1) λH12 =>
         opt (aP 1 (slc b 0 n c) v18) λv25 =>
         opt (aR v25 v23 H12) λH13 =>
         opt (aA .sub (vi i') (vi a)) λv26 =>
         opt (aA .geq v26 (vi 2)) λv27 =>
         ifB v27 (
         opt (aA .sub (vi i') (vi 1)) λv28 =>
         bY (λl H X1=>F.f102_l4 E Q X (nth l 0) (nth l 1) (nth l 2) (nth l 3) (nth l 4) (nth l 5) H X1) [slc b 0 n c,vi a,vi e,vi i',vi k,v28] H13) (
         F.f102_j1 E Q X (slc b 0 n c) (vi a) (vi e) (vi i') (vi k) H13)))):=by
      rintro rfl;clear hX1
      by_cases c1:I=e
      · rw[if_pos c1]at r1
        subst r1;simp[c1];exact hQ _ s1
      rw[if_neg c1]at r1;have c1':¬ (I:Int)=e:=by omega
      by_cases c2:e - a<50
      · rw[if_pos c2]at r1
        subst r1;have c2':((e - a:Nat):Int)<50:=by omega
        generalize e - a=w at *;simp[c1',b2',c2'];exact hQ _ s1
      rw[if_neg c2]at r1;have c2':¬ ((e - a:Nat):Int)<50:=by omega
      have b3:=eS I (by omega) (by omega)
      have b4:=eC I a (by omega) (by omega)
      have b4':aA .sub (vi I) (vi a)=some (vi ((I - a:Nat):Int)):=b4;have f1:=cU (b:=b) (c:=c) (n:=n) (i:=I) (by omega)
      have f2:=cU (b:=b) (c:=c) (n:=n) (i:=I - 1) (by omega)
      have g1:=bH s1.get (i:=I) (by omega)
      have g2:=bH s1.get (i:=I - 1) (by omega)
      obtain⟨w1,w2⟩:=fO bK s1.get (i:=I) (j:=I - 1) (by omega) (by omega)
      have s2:=s1.put (swp d1 I (I - 1));have n2:(swp d1 I (I - 1)).size=n:=by rw[size_swp];exact n1
      have hkk:aA .add (vi k) (vi 1)=some (vi k'):=hmi
      have j1:∀ (d3:Array (BitVec 16)) H3,cW H b u16 tail f d3 H3->d3.size=n->R=partialIns cF a e m I (fixUp cF e I d3)->F.f102_j1 E Q X (slc b 0 n c) (vi a) (vi e) (vi I) (vi k) H3:=by
        intro d3 H3 s3 n3 r3;unfold fixUp at r3;have b5:=eC e I (by omega) (by omega)
        have b5':aA .sub (vi e) (vi I)=some (vi ((e - I:Nat):Int)):=b5
        by_cases c3:e - I>=2
        · rw[if_pos c3]at r3
          have c3':(2:Int)<=((e - I:Nat):Int):=by omega
          have b6:=cK I (by omega)
          generalize hw:e - I=w at *;simp[F.f102_j1,b5',c3',b6];obtain⟨D,hD⟩:∃ D,D=shiftUp cF e (I+1) d3:=⟨_,rfl⟩;rw[<- hD]at r3;refine bY.ind (λmm l H'=>∃ (q:Nat) (d4:Array (BitVec 16)),l=[slc b 0 n c,vi a,vi e,vi I,vi k,vi q]/\cW H b u16 tail f d4 H'/\d4.size=n/\D=shiftUp cF e q d4/\1<=q/\q<=e/\mm=e - q) ?_ (e - (I+1)) ⟨I+1,d3,by simp,s3,n3,hD,by omega,by omega,rfl⟩
          rintro mm _ H4 X5 hX5 ⟨q,d4,rfl,s4,n4,r4,hq1,hq2,rfl⟩;rw[shiftUp]at r4
          have done:D=d4->X [slc b 0 n c,vi a,vi e,vi I,vi k'] H4:=by
            rintro rfl;exact hX I D H4 s4 n4 r3 hi3 (by omega)
          by_cases c4:q<e
          · have c4':(q:Int)<e:=by omega
            rw[if_pos c4]at r4;have b7:=eS q (by omega) (by omega)
            have b8:=cK q (by omega)
            have f1:=cU (b:=b) (c:=c) (n:=n) (i:=q) (by omega)
            have f2:=cU (b:=b) (c:=c) (n:=n) (i:=q - 1) (by omega)
            have g1:=bH s4.get (i:=q) (by omega)
            have g2:=bH s4.get (i:=q - 1) (by omega)
            obtain⟨w1,w2⟩:=fO bK s4.get (i:=q) (j:=q - 1) (by omega) (by omega)
            have hY:=λ(d5:Array (BitVec 16)) H5 q1 q2 q3=>hX5 (e - (q+1)) (by omega) [slc b 0 n c,vi a,vi e,vi I,vi k,vi ((q+1:Nat):Int)] H5 ⟨q+1,d5,rfl,q1,q2,q3,by omega,by omega,rfl⟩
            generalize hq':q - 1=q' at *;generalize hq'':q+1=q'' at *;simp[-aO,-aE,F.f102_l3,c4',b7,f1,f2,g1,g2];refine S.f0 hE _ _ ?_
            by_cases hl:cF d4[q]! d4[q']! = true
            · simp only[hl,Bool.not_true,Bool.false_eq_true,if_false]at r4
              simp[-aO,-aE,hl,b7,b8,f1,f2,g1,g2,w1,w2];exact hY _ _ (s4.put _) (by rw[size_swp];exact n4) r4
            · have hl:cF d4[q]! d4[q']! = false:=by simpa using hl
              simp only[hl,Bool.not_false,if_true]at r4;simp[hl,hkk];exact done r4
          · have c4':¬ (q:Int)<e:=by omega
            rw[if_neg c4]at r4;simp[F.f102_l3,c4',hkk];exact done r4
        · rw[if_neg c3]at r3
          have c3':¬ (2:Int)<=((e - I:Nat):Int):=by omega
          generalize hw:e - I=w at *;simp[F.f102_j1,b5',c3',hkk];exact hX I d3 H3 s3 n3 r3 hi3 hi4
      unfold fixDown at r1
      by_cases c3:I - a>=2
      · rw[if_pos c3]at r1
        have c3':(2:Int)<=((I - a:Nat):Int):=by omega
        obtain⟨D,hD⟩:∃ D,D=shiftDown cF (I - 1) (swp d1 I (I - 1)):=⟨_,rfl⟩;rw[<- hD]at r1
        have goal4:bY (λl H X1=>F.f102_l4 E Q X (nth l 0) (nth l 1) (nth l 2) (nth l 3) (nth l 4) (nth l 5) H X1) [slc b 0 n c,vi a,vi e,vi I,vi k,vi ((I - 1:Nat):Int)] (H1.put b (iA u16 (swp d1 I (I - 1)) tail f)):=by
          refine bY.ind (λmm l H'=>∃ (q:Nat) (d4:Array (BitVec 16)),l=[slc b 0 n c,vi a,vi e,vi I,vi k,vi q]/\cW H b u16 tail f d4 H'/\d4.size=n/\D=shiftDown cF q d4/\q<n/\mm=q) ?_ (I - 1) ⟨I - 1,_,rfl,s2,n2,hD,by omega,rfl⟩
          rintro mm _ H4 X5 hX5 ⟨q,d4,rfl,s4,n4,r4,hq1,rfl⟩;cases mm with
          | zero =>
            simp[F.f102_l4];rw[shiftDown]at r4;subst r4;exact j1 _ _ s4 n4 r1
          | succ q =>
            have c4':(1:Int)<=((q+1:Nat):Int):=by omega
            rw[shiftDown]at r4;have b7:aA .sub (vi ((q+1:Nat):Int)) (vi 1)=some (vi (q:Int)):=eS (q+1) (by omega) (by omega)
            have f1:=cU (b:=b) (c:=c) (n:=n) (i:=q+1) (by omega)
            have f2:=cU (b:=b) (c:=c) (n:=n) (i:=q) (by omega)
            have g1:=bH s4.get (i:=q+1) (by omega)
            have g2:=bH s4.get (i:=q) (by omega)
            obtain⟨w1,w2⟩:=fO bK s4.get (i:=q+1) (j:=q) (by omega) (by omega)
            have hY:=λ(d5:Array (BitVec 16)) H5 q1 q2 q3=>hX5 q (by omega) [slc b 0 n c,vi a,vi e,vi I,vi k,vi (q:Int)] H5 ⟨q,d5,rfl,q1,q2,q3,by omega,rfl⟩
            generalize hq':q+1=q' at *;simp[-aO,-aE,F.f102_l4,c4',b7,f1,f2,g1,g2];refine S.f0 hE _ _ ?_
            by_cases hl:cF d4[q']! d4[q]! = true
            · simp only[hl,Bool.not_true,Bool.false_eq_true,if_false]at r4
              simp[-aO,-aE,hl,b7,f1,f2,g1,g2,w1,w2];exact hY _ _ (s4.put _) (by rw[size_swp];exact n4) r4
            · have hl:cF d4[q']! d4[q]! = false:=by simpa using hl
              simp only[hl,Bool.not_false,if_true]at r4;simp[hl];subst r4;exact j1 _ _ s4 n4 r1
        generalize hI':I - 1=I' at *;generalize hw:e - a=w at *;generalize hw2:I - a=w2' at *;simp[-aO,-aE,c1',b2',c2',b3,b4',f1,f2,g1,g2,w1,w2,c3'];exact goal4
      · rw[if_neg c3]at r1
        have c3':¬ (2:Int)<=((I - a:Nat):Int):=by omega
        have:=j1 _ _ s2 n2 r1;generalize hI':I - 1=I' at *;generalize hw:e - a=w at *;generalize hw2:I - a=w2' at *;simp[-aO,-aE,c1',b2',c2',b3,b4',f1,f2,g1,g2,w1,w2,c3'];exact this
    have b7:=cK i' (by omega)
    by_cases c4:i'<e
    · have c4':(i':Int)<e:=by omega
      have b6:=eS i' (by omega) (by omega)
      have f1:=cU (b:=b) (c:=c) (n:=n) (i:=i') (by omega)
      have f2:=cU (b:=b) (c:=c) (n:=n) (i:=i' - 1) (by omega)
      have g1:=bH s1.get (i:=i') (by omega)
      have g2:=bH s1.get (i:=i' - 1) (by omega)
      by_cases hl:cF d1[i']! d1[i' - 1]! = true
      · rw[if_neg (by simp[hl])]at r2
        have:=exit r2;clear exit hX1;generalize hI':i' - 1=I' at *;simp[-aO,-aE,F.f102_l2,c4',b6,f1,f2,g1,g2];refine S.f0 hE _ _ ?_;simp only[hl];simp only[dV,Bool.not_true,aL,aD,dT,aU,aM];exact this
      · have hl:cF d1[i']! d1[i' - 1]! = false:=by simpa using hl
        rw[if_pos (by simp[hl,c4])]at r2
        clear exit;have hX1:=hX1 (e - (i'+1)) (by omega) [slc b 0 n c,vi a,vi e,vi ((i'+1:Nat):Int),vi k] H1 ⟨rfl,i'+1,rfl,r2,by omega,by omega,rfl⟩
        generalize hI':i' - 1=I' at *;generalize hI'':i'+1=I'' at *;simp[-aO,-aE,F.f102_l2,c4',b6,f1,f2,g1,g2];refine S.f0 hE _ _ ?_;simp[hl,b7];exact hX1
    · have c4':¬ (i':Int)<e:=by omega
      rw[if_neg (by simp[c4])]at r2
      have:=exit r2;clear exit hX1;simp only[F.f102_l2,eF,eR,eW,fR,jZ,bS,c4',decide_false,aL,aD,gM,bC,aM];exact this
theorem S.f101(hE:bF E)(hg:H.get b=iA u16 d tail f)(hn:d.size=n)(p q:Nat)(hp:p<n)(hq:q<n)(s k:Nat)(hs:H.get s = .cells [vi k] none)(hk:k<1000)(hsb:s≠b)(hQ:∀ r1 r2 k' H',((r1=p/\r2=q)\/(r1=q/\r2=p))->dK [s] H H'->H'.get s = .cells [vi (k':Nat)] none->k'<=k+1->Q (.tuple #[vi (r1:Nat),vi (r2:Nat)]) H'):
  E.call 137 [slc b 0 n c,vi p,vi q,ptr s 0] H Q:=by
 apply hE.f101;have f1:=cU (b:=b) (c:=c) (n:=n) (i:=p) hp;have f2:=cU (b:=b) (c:=c) (n:=n) (i:=q) hq;have g1:=bH hg (i:=p) (by omega)
 have g2:=bH hg (i:=q) (by omega)
 have hlt:=AH.lt_cells hs;have b1:=cK k (by omega)
 simp[-aE,F.f101,f1,f2,g1,g2];refine S.f0 hE _ _ ?_
 by_cases hl:cF d[q]! d[p]! = true
 ·simp only[hl,aS,aY,aE,hs,bB,List.getElem?_cons_zero,aL,aD,b1,aO,aC5,if_true,List.length_cons,List.length_nil,List.set_cons_zero]
  rw[if_pos (by omega),aD]
  exact hQ q p (k+1) _ (.inr ⟨rfl,rfl⟩) ((dK.refl _ _).put (.inl (by simp)) _) (AH.get_put_self _ _ hlt) (Nat.le_refl _)
 ·simp[hl]
  exact hQ p q k _ (.inl ⟨rfl,rfl⟩) (dK.refl _ _) hs (by omega)
theorem S.f99(hE:bF E)(hg:H.get b=iA u16 d tail f)(hn:d.size=n)(p q r:Nat)(hp:p<n)(hq:q<n)(hr:r<n)(s k:Nat)(hs:H.get s = .cells [vi k] none)(hk:k<900)(hsb:s≠b)(hQ:∀ m k' H',(m=p\/m=q\/m=r)->dK [s] H H'->H'.get s = .cells [vi (k':Nat)] none->k'<=k+3->Q (vi (m:Nat)) H'):
  E.call 131 [slc b 0 n c,vi p,vi q,vi r,ptr s 0] H Q:=by
 apply hE.f99;have keep:∀ {H'},dK [s] H H'->H'.get b=iA u16 d tail f:=λo=>by rw[o.get (sD hg) (by simpa using Ne.symm hsb)];exact hg
 simp only[F.f99];refine S.f101 hE hg hn p q hp hq s k hs (by omega) hsb λa1 a2 k1 H1 e1 o1 s1 l1 =>?_
 simp;refine S.f101 hE (keep o1) hn a2 r (by omega) hr s k1 s1 (by omega) hsb λa3 a4 k2 H2 e2 o2 s2 l2 =>?_
 have o12:=o1.trans' o2;simp;refine S.f101 hE (keep o12) hn a1 a3 (by omega) (by omega) s k2 s2 (by omega) hsb λa5 a6 k3 H3 e3 o3 s3 l3 =>?_
 simp;exact hQ a6 k3 H3 (by omega) (o12.trans' o3) s3 (by omega)
theorem S.f98(hE:bF E)(hg:H.get b=iA u16 d tail f)(hn:d.size=n)(hsz:n<2 ^ 60)(p:Nat)(hp0:1<=p)(hp:p+1<n)(s k:Nat)(hs:H.get s = .cells [vi k] none)(hk:k<900)(hsb:s≠b)(hQ:∀ m k' H',(p - 1<=m/\m<=p+1)->dK [s] H H'->H'.get s = .cells [vi (k':Nat)] none->k'<=k+3->Q (vi (m:Nat)) H'):
  E.call 130 [slc b 0 n c,vi p,ptr s 0] H Q:=by
 apply hE.f98;have b1:=eS p hp0 (by omega)
 have b2:=cK p (by omega)
 simp only[F.f98,b1,b2,aL,aD];refine S.f99 hE hg hn (p - 1) p (p+1) (by omega) (by omega) hp s k hs hk hsb λm k' H' e1 o1 s1 l1=>hQ m k' H' (by omega) o1 s1 l1
theorem S.f95(hE:bF E)(hg:H.get b=iA u16 d tail f)(hn:d.size=n)(hsz:n<2 ^ 60)(a e:Nat)(hae:a+8<=e)(he:e<=n)(hQ:∀ (m:Nat) (h:Int) H',a<=m->m<e->Ext H H'->Q (.tuple #[vi m,vi h]) H'):E.call 116 [slc b 0 n c,vi a,vi e] H Q:=by
 apply hE.f95;have a1:aA .sub (vi e) (vi a)=some (vi ((e - a:Nat):Int)):=eC e a (by omega) (by omega)
 have hbl:=sD hg;generalize hw:e - a=w at *;have a2:aA .quo (vi (w:Int)) (vi 4)=some (vi ((w / 4:Nat):Int)):=mL w 4 (by decide) (by omega)
 have hq4:w / 4*4<=w:=Nat.div_mul_le_self _ _;have hq4':1<=w / 4:=by omega
 have hq50:50<=w->12<=w / 4:=λh=>by omega
 generalize hq:w / 4=q at *;have m1:aA .mul (vi (q:Int)) (vi 1)=some (vi ((q*1:Nat):Int)):=by rw[sT (by omega) (by omega)];congr 2
 have m2:aA .mul (vi (q:Int)) (vi 2)=some (vi ((q*2:Nat):Int)):=by rw[sT (by omega) (by omega)];congr 2
 have m3:aA .mul (vi (q:Int)) (vi 3)=some (vi ((q*3:Nat):Int)):=by rw[sT (by omega) (by omega)];congr 2
 have p1:=cV a (q*1) (by omega)
 have p2:=cV a (q*2) (by omega)
 have p3:=cV a (q*3) (by omega)
 have c8:(8:Int)<=w:=by omega
 have hg1:(H.new (.cells [vi 0] none)).get b=iA u16 d tail f:=by rw[AH.get_new_lt _ _ hbl];exact hg
 have hs1:(H.new (.cells [vi 0] none)).get H.next = .cells [vi ((0:Nat):Int)] none:=AH.get_new_self _ _;have hsb:H.next≠b:=by omega
 have x1:Ext H (H.new (.cells [vi 0] none)):=(Ext.refl H).new _;have ext_of:∀ {H'},dK [H.next] (H.new (.cells [vi 0] none)) H'->Ext H H':=λo=>o.ext x1 (by simp)
 have keep:∀ {H'},dK [H.next] (H.new (.cells [vi 0] none)) H'->H'.get b=iA u16 d tail f:=λo=>by rw[o.get (sD hg1) (by simpa using Ne.symm hsb)];exact hg1
 have last:∀ (m k:Nat) H',a<=m->m<e->Ext H H'->H'.get H.next = .cells [vi (k:Nat)] none->F.f95_j1 E Q (ptr H.next 0) (vi m) H':=by
  intro m k H' h1 h2 e1 s1
  by_cases k0:(k:Int)=0
  ·simp[F.f95_j1,s1,k0]
   exact hQ m _ H' h1 h2 e1
  ·by_cases k12:(k:Int)=12
   ·simp[F.f95_j1,s1,k12]
    exact hQ m _ H' h1 h2 e1
   ·have k0':¬ k=0:=by omega
    simp[F.f95_j1,s1,k0',k12];exact hQ m _ H' h1 h2 e1
 have wQ:∀ (x y z k:Nat) H',a<=x->x<e->a<=y->y<e->a<=z->z<e->dK [H.next] (H.new (.cells [vi 0] none)) H'->H'.get H.next = .cells [vi (k:Nat)] none->k<900->F.f95_j2 E Q (slc b 0 n c) (ptr H.next 0) (vi x) (vi y) (vi z) H':=by
  intro x y z k H' h1 h2 h3 h4 h5 h6 o1 s1 hk;simp only[F.f95_j2];refine S.f99 hE (keep o1) hn x y z (by omega) (by omega) (by omega) H.next k s1 hk hsb λm k' H2 hm o2 s2 _ =>?_
  exact last m k' H2 (by omega) (by omega) (ext_of (o1.trans' o2)) s2
 by_cases c50:50<=w
 ·have c50':(50:Int)<=w:=by omega
  have hq50:=hq50 c50;have g1:a+1<=a+q*1/\a+q*1+1<e:=by omega
  have g2:a+1<=a+q*2/\a+q*2+1<e:=by omega
  have g3:a+1<=a+q*3/\a+q*3+1<e:=by omega
  generalize hx:a+q*1=x at *;generalize hy:a+q*2=y at *;generalize hz:a+q*3=z at *;generalize q*1=q1 at *;generalize q*2=q2 at *;generalize q*3=q3 at *;simp[F.f95,a1,a2,m1,m2,m3,p1,p2,p3,c8,c50'];refine S.f98 hE hg1 hn hsz x (by omega) (by omega) H.next 0 hs1 (by omega) hsb λr1 k1 H1 e1 o1 s1 l1 =>?_
  refine S.f98 hE (keep o1) hn hsz y (by omega) (by omega) H.next k1 s1 (by omega) hsb λr2 k2 H2 e2 o2 s2 l2 =>?_
  refine S.f98 hE (keep (o1.trans' o2)) hn hsz z (by omega) (by omega) H.next k2 s2 (by omega) hsb λr3 k3 H3 e3 o3 s3 l3 =>?_
  exact wQ r1 r2 r3 k3 H3 (by omega) (by omega) (by omega) (by omega) (by omega) (by omega) ((o1.trans' o2).trans' o3) s3 (by omega)
 ·have c50':¬ (50:Int)<=w:=by omega
  have g1:a+q*1<e:=by omega
  have g2:a+q*2<e:=by omega
  have g3:a+q*3<e:=by omega
  have g0:a<=a+q*1/\a<=a+q*2/\a<=a+q*3:=by omega
  generalize hx:a+q*1=x at *;generalize hy:a+q*2=y at *;generalize hz:a+q*3=z at *;generalize q*1=q1 at *;generalize q*2=q2 at *;generalize q*3=q3 at *;simp[F.f95,a1,a2,m1,m2,m3,p1,p2,p3,c8,c50'];exact wQ x y z 0 _ g0.1 g1 g0.2.1 g2 g0.2.2 g3 (dK.refl _ _) hs1 (by omega)
theorem S.f94(hE:bF E)(hg:H.get b=iA u16 d tail f)(hn:d.size=n)(hsz:n<2 ^ 31)(a e:Nat)(hae:a+8<=e)(he:e<=n)(hQ:∀ d' H',PermIn a e d d'->cW H b u16 tail f d' H'->Q (.tuple #[]) H'):E.call 115 [slc b 0 n c,vi a,vi e] H Q:=by
 apply hE.f94;have a1:aA .sub (vi e) (vi a)=some (vi ((e - a:Nat):Int)):=eC e a (by omega) (by omega)
 have hbl:=sD hg;generalize hw:e - a=w at *;have a2:aA .quo (vi (w:Int)) (vi 4)=some (vi ((w / 4:Nat):Int)):=mL w 4 (by decide) (by omega)
 have hq4:w / 4*4<=w:=Nat.div_mul_le_self _ _;have hq4':2<=w / 4:=by omega
 generalize hq:w / 4=q at *;have m2:aA .mul (vi (q:Int)) (vi 2)=some (vi ((q*2:Nat):Int)):=by rw[sT (by omega) (by omega)];congr 2
 have p2:=cV a (q*2) (by omega)
 have p3:=eS (a+q*2) (by omega) (by omega)
 have p4:=cK (a+q*2) (by omega)
 have c8:(8:Int)<=w:=by omega
 have hc:bI .u64 (vi (w:Int))=some (u64 (BitVec.ofNat 64 w)):=by rw[oV,BitVec.ofInt_natCast]
 have hm2:2 ^ bitsLen w<=2*w:=two_pow_bitsLen_le (by omega)
 have hm1:=Nat.two_pow_pos (bitsLen w);generalize hM:2 ^ bitsLen w=M at *;have gx:a+1<=a+q*2/\a+q*2+1<e:=by omega
 generalize hx:a+q*2=x at *;generalize q*2=q2 at *;have x1:Ext H (H.new (.cells [u64 (BitVec.ofNat 64 w)] none)):=(Ext.refl H).new _;simp[F.f94,a1,a2,m2,p2,p3,c8,hc];refine S.f100 hE w (by omega) ?_
 rw[hM];simp[a2,m2,p2,p3]
 refine bY.ind (λm l H'=>∃ (j:Nat) (d1:Array (BitVec 16)) (y:BitVec 64),l=[slc b 0 n c,vi a,vi w,ptr H.next 0,u64 (BitVec.ofNat 64 M),vi j]/\cW H b u16 tail f d1 H'/\d1.size=n/\PermIn a e d d1/\H'.get H.next = .cells [u64 y] none/\a<=j/\j<=x+2/\m=x+2 - j) ?_ (x+2 - (x - 1))
  ⟨x - 1,d,_,by simp,⟨x1.only,by rw[AH.get_new_lt _ _ hbl];exact hg⟩,hn,permIn_refl _ _ _,AH.get_new_self _ _,by omega,by omega,rfl⟩
 rintro m _ H1 X hX ⟨j,d1,y,rfl,s1,n1,pp,hb1,hj1,hj2,rfl⟩
 by_cases cj:j<=x+1
 ·have cj':(j:Int)<=((x+1:Nat):Int):=by omega
  have pj:=cK j (by omega)
  have fin:∀ (o:Nat) (y':BitVec 64),o<w->F.f94_j1 E Q X (slc b 0 n c) (vi a) (vi w) (ptr H.next 0) (u64 (BitVec.ofNat 64 M)) (vi j) (vi o) (H1.put H.next (.cells [u64 y'] none)):=by
   intro o y' ho;have hnb:b≠H.next:=by omega
   have s2:cW H b u16 tail f d1 (H1.put H.next (.cells [u64 y'] none)):=⟨s1.only.put (.inr (Nat.le_refl _)) _,by rw[AH.get_put_ne _ _ hnb];exact s1.get⟩
   have pa:=cV a o (by omega)
   have f1:=cU (b:=b) (c:=c) (n:=n) (i:=j) (by omega)
   have f2:=cU (b:=b) (c:=c) (n:=n) (i:=a+o) (by omega)
   have g1:=bH s2.get (i:=j) (by omega)
   have g2:=bH s2.get (i:=a+o) (by omega)
   obtain⟨w1,w2⟩:=fO bK s2.get (i:=j) (j:=a+o) (by omega) (by omega)
   have hpp:=swp_permIn d1 a e j (a+o) hj1 (by omega) (by omega) (by omega) (by omega)
   have hX:=hX (x+2 - (j+1)) (by omega) [slc b 0 n c,vi a,vi w,ptr H.next 0,u64 (BitVec.ofNat 64 M),vi ((j+1:Nat):Int)] _ ⟨j+1,_,y',rfl,s2.put (swp d1 j (a+o)),by rw[size_swp];exact n1,permIn_trans _ _ _ _ _ pp hpp,by rw[AH.get_put_ne _ _ (Ne.symm hnb),AH.get_put_self _ _ (AH.lt_cells hb1)],by omega,by omega,rfl⟩
   generalize a+o=ao at *;generalize hj'':j+1=j' at *;simp[-aO,-aE,F.f94_j1,pa,f1,f2,g1,g2,w1,w2,pj];exact hX
  generalize hx1:x+1=x' at *;simp[F.f94_l1,a2,m2,p2,p4,cj'];refine S.f108 hE H.next y hb1 λy' =>?_;have l1:(.int .u64 1:Value)=u64 1#64:=rfl
  have hsub:BitVec.ofNat 64 M - 1#64=BitVec.ofNat 64 (M - 1):=by
   apply BitVec.eq_of_toNat_eq;rw[BitVec.toNat_sub,BitVec.toNat_ofNat,BitVec.toNat_ofNat,BitVec.toNat_ofNat];omega
  have hand:(y'&&&BitVec.ofNat 64 (M - 1)).toNat<=M - 1:=by
   rw[BitVec.toNat_and];refine Nat.le_trans Nat.and_le_right ?_;rw[BitVec.toNat_ofNat];exact Nat.mod_le _ _
  have hcv:∀ z:BitVec 64,z.toNat<2 ^ 62->bI .i64 (u64 z)=some (vi (z.toNat:Int)):=by
   intro z hz;rw[jF,gN,kT (by omega) (by omega)]
  have hcv':=hcv _ (by omega:(y'&&&BitVec.ofNat 64 (M - 1)).toNat<2 ^ 62)
  simp only[l1,aHA,hsub,aIa,hcv',aL,aD,dL,eF,eR,eW,fR,jZ,nQ];generalize (y'&&&BitVec.ofNat 64 (M - 1)).toNat=o at *
  by_cases co:w<=o
  ·have co':(w:Int)<=o:=by omega
   have hs:aA .sub (vi (o:Int)) (vi (w:Int))=some (vi ((o - w:Nat):Int)):=eC o w co (by omega)
   simp only[co',decide_true,aS,hs,aL,aD,eF,eR,eW,fR,jZ,nQ];exact fin (o - w) y' (by omega)
  ·have co':¬ (w:Int)<=o:=by omega
   simp only[co',decide_false,aM,eF,eR,eW,fR,jZ,nQ];exact fin o y' (by omega)
 ·have cj':¬ (j:Int)<=((x+1:Nat):Int):=by omega
  generalize hx1:x+1=x' at *;simp[F.f94_l1,a2,m2,p2,p4,cj'];exact hQ d1 H1 pp s1
theorem S.f105(hE:bF E)(hS:SWO cF):∀ (w:Nat) {H:AH} {Q:Value->AH->Prop} {d:Array (BitVec 16)} (_:H.get b=iA u16 d tail f) (_:d.size=n) (_:n<2 ^ 31) (a e:Nat) (_:a<=e) (_:e<=n) (limit:Nat) (_:limit<2 ^ 60) (_:Go.Sort.Below cF a e d) (_:e - a<=w)
    (_:∀ d' H',PermIn a e d d'->SortedIn cF a e d'->cW H b u16 tail f d' H'->Q (.tuple #[]) H'),E.call 109 [slc b 0 n c,vi a,vi e,vi limit] H Q:=by
  intro w
  induction w using Nat.strongRecOn with
  | _ w ih =>
  intro H Q d hg hn hsz a0 e0 hae0 he0 limit0 hlim0 hB0 hw hQ;apply hE.f105;simp only[F.f105]
  refine bY.ind (λm l H'=>∃ (a e limit:Nat) (wb wp:Bool) (d1:Array (BitVec 16)),l=[slc b 0 n c,vi a,vi e,vi limit,vb wb,vb wp]/\cW H b u16 tail f d1 H'/\d1.size=n/\a<=e/\e<=n/\limit<2 ^ 60/\e - a<=w/\Go.Sort.Below cF a e d1 /\
      (∀ R,PermIn a e d1 R->SortedIn cF a e R->PermIn a0 e0 d R/\SortedIn cF a0 e0 R)/\m=e - a) ?_ (e0 - a0) ⟨a0,e0,limit0,true,true,d,rfl,.refl hg,hn,hae0,he0,hlim0,hw,hB0,λR h1 h2=>⟨h1,h2⟩,rfl⟩
  rintro m _ H1 X hX ⟨a,e,limit,wb,wp,d1,rfl,s1,n1,hae,hen,hlim,hwe,hB,fin,rfl⟩;have a1:aA .sub (vi e) (vi a)=some (vi ((e - a:Nat):Int)):=eC e a (by omega) (by omega)
  by_cases c12:e - a<=12
  · have c12':((e - a:Nat):Int)<=12:=by omega
    generalize hW:e - a=W at *;simp[F.f105_l1,a1,c12'];refine S.f97 hE s1.get n1 (by omega) a e hae hen λH2 s2 =>?_
    obtain⟨h1,h2⟩:=insertionSort_holds hS d1 a e hae (by omega)
    obtain⟨h3,h4⟩:=fin _ h1 h2;exact hQ _ _ h3 h4 (s1.trans s2)
  have c12':¬ ((e - a:Nat):Int)<=12:=by omega
  by_cases c0:limit=0
  · subst c0
    generalize hW:e - a=W at *;simp[F.f105_l1,a1,c12'];refine S.f96 hE s1.get n1 (by omega) a e (by omega) hen λH2 s2 =>?_
    obtain⟨h1,h2⟩:=heapSort_holds hS d1 a e hae (by omega)
    obtain⟨h3,h4⟩:=fin _ h1 h2;exact hQ _ _ h3 h4 (s1.trans s2)
  have c0':¬ (limit:Int)=0:=by omega
  have w8:aA .quo (vi ((e - a:Nat):Int)) (vi 8)=some (vi (((e - a) / 8:Nat):Int)):=mL (e - a) 8 (by decide) (by omega)
  have j3:∀ (d3:Array (BitVec 16)) H3 (lim:Nat) (wb wp:Bool) (pv:Nat),cW H b u16 tail f d3 H3->d3.size=n->PermIn a e d1 d3->lim<2 ^ 60->a<=pv->pv<e->F.f105_j3 E Q X (slc b 0 n c) (vi a) (vi e) (vi lim) (vb wb) (vb wp) (vi ((e - a:Nat):Int)) (vi pv) H3:=by
    intro d3 H3 lim wb wp pv s3 n3 p3 hlim hp1 hp2;have B3:Go.Sort.Below cF a e d3:=hB.permA permIn_all (by omega) p3
    have fin3:∀ R,PermIn a e d3 R->SortedIn cF a e R->PermIn a0 e0 d R/\SortedIn cF a0 e0 R:=λR h1 h2=>fin R (permIn_trans _ _ _ _ _ p3 h1) h2
    have part:∀ (K:Value->AH->Prop),(K=λv15 H13 =>
         opt (ext v15 0) λv16 =>
         opt (ext v15 1) λv17 =>
         opt (aA .sub v16 (vi a)) λv18 =>
         opt (aA .sub (vi e) v16) λv19 =>
         opt (aA .quo (vi ((e - a:Nat):Int)) (vi 8)) λv20 =>
         opt (aA .lss v18 v19) λv21 =>
         ifB v21 (
         opt (aA .geq v18 v20) λv22 =>
         E.call 109 [slc b 0 n c,vi a,v16,vi lim] H13 λv23 H14 =>
         opt (aA .add v16 (vi 1)) λv24 =>
         X [slc b 0 n c,v24,vi e,vi lim,v22,v17] H14) (
         opt (aA .geq v19 v20) λv25 =>
         opt (aA .add v16 (vi 1)) λv26 =>
         E.call 109 [slc b 0 n c,v26,vi e,vi lim] H13 λv27 H15 =>
         X [slc b 0 n c,vi a,v16,vi lim,v25,v17] H15))->E.call 121 [slc b 0 n c,vi a,vi e,vi pv] H3 K:=by
      rintro K rfl;refine S.f104 hE s3.get n3 (by omega) a e pv hp1 hp2 hen λH4 s4 =>?_
      rcases hx:partition cF d3 a e pv with ⟨mid,ap,d4⟩
      rw[hx]at s4;obtain⟨g1,g2,hs4,hBa,hBr,hl,hr⟩:=round_part hS (partition_holds cF) hp1 hp2 (by omega) B3 hx
      have n4:d4.size=n:=by omega
      have s4':=s3.trans s4;have b1:aA .sub (vi mid) (vi a)=some (vi ((mid - a:Nat):Int)):=eC mid a g1 (by omega)
      have b2:aA .sub (vi e) (vi mid)=some (vi ((e - mid:Nat):Int)):=eC e mid (by omega) (by omega)
      have b3:=cK mid (by omega)
      simp only[aL,dU,List.getElem?_cons_zero,List.getElem?_cons_succ,aD,b1,b2,b3,w8,bS,dL]
      by_cases cl:mid - a<e - mid
      · have cl':((mid - a:Nat):Int)<((e - mid:Nat):Int):=by omega
        simp only[cl',decide_true,aL,aS,dL,aD];refine ih (mid - a) (by omega) s4'.get n4 hsz a mid g1 (by omega) lim hlim hBa (Nat.le_refl _) λd5 H5 p5 q5 s5 =>?_
        obtain⟨hBL,hfin⟩:=hl d5 p5 q5;have n5:d5.size=n:=by rw[p5.1];exact n4
        simp only[b3,aL,aD]
        exact hX (e - (mid+1)) (by omega) _ _ ⟨mid+1,e,lim,_,ap,d5,rfl,s4'.trans s5,n5,by omega,hen,hlim,by omega,hBL,λR h1 h2=>by
          obtain⟨h3,h4⟩:=hfin R h1 h2;exact fin3 R h3 h4,rfl⟩
      · have cl':¬ ((mid - a:Nat):Int)<((e - mid:Nat):Int):=by omega
        simp only[cl',decide_false,aL,aM,dL,aD,b3];refine ih (e - (mid+1)) (by omega) s4'.get n4 hsz (mid+1) e (by omega) hen lim hlim hBr (Nat.le_refl _) λd5 H5 p5 q5 s5 =>?_
        obtain⟨hBL,hfin⟩:=hr d5 p5 q5;have n5:d5.size=n:=by rw[p5.1];exact n4
        exact hX (mid - a) (by omega) _ _ ⟨a,mid,lim,_,ap,d5,rfl,s4'.trans s5,n5,g1,by omega,hlim,by omega,hBL,λR h1 h2=>by
          obtain⟨h3,h4⟩:=hfin R h1 h2;exact fin3 R h3 h4,rfl⟩
    by_cases ca:0<a
    · have ca':(0:Int)<a:=by omega
      have b1:=eS a (by omega) (by omega)
      have f1:=cU (b:=b) (c:=c) (n:=n) (i:=a - 1) (by omega)
      have f2:=cU (b:=b) (c:=c) (n:=n) (i:=pv) (by omega)
      have g1:=bH s3.get (i:=a - 1) (by omega)
      have g2:=bH s3.get (i:=pv) (by omega)
      have part:=part _ rfl
      by_cases hl:cF d3[a - 1]! d3[pv]! = true
      · generalize hW:e - a=W at *
        generalize hA:a - 1=a1 at *;simp[-aO,-aE,F.f105_j3,ca',ca,b1,f1,f2,g1,g2];refine S.f0 hE _ _ ?_;simp only[hl];simp only[dV,Bool.not_true,aL,aD,dT,aU,aM];exact part
      · have hl:cF d3[a - 1]! d3[pv]! = false:=by simpa using hl
        clear part;rcases hx:partitionEqual cF d3 a e pv with ⟨mid,d4⟩
        obtain⟨g3,g4,hs4,hB4,hfin⟩:=round_eq hS (partitionEqual_holds cF) ca hp1 hp2 (by omega) B3 hl hx
        have hY:=λH4 s4=>hX (e - mid) (by omega) [slc b 0 n c,vi mid,vi e,vi lim,vb wb,vb wp] H4 ⟨mid,e,lim,wb,wp,d4,rfl,s4,by omega,g4,hen,hlim,by omega,hB4,λR h1 h2=>by
            obtain⟨h3,h4⟩:=hfin R h1 h2;exact fin3 R h3 h4,rfl⟩
        generalize hW:e - a=W at *;generalize hA:a - 1=a1 at *;simp[-aO,-aE,F.f105_j3,ca',ca,b1,f1,f2,g1,g2];refine S.f0 hE _ _ ?_;simp[hl];refine S.f103 hE s3.get n3 (by omega) a e pv hp1 hp2 hen λH4 s4 =>?_
        rw[hx]at s4 ⊢;exact hY H4 (s3.trans s4)
    · have ca':¬ (0:Int)<a:=by omega
      have part:=part _ rfl;generalize hW:e - a=W at *;simp only[F.f105_j3,bL,ca',decide_false,aL,aD,gM,bC,aM];exact part
  have j2:∀ (d3:Array (BitVec 16)) H3 (lim:Nat) (wb wp:Bool) (pv:Nat) (hint:Int),cW H b u16 tail f d3 H3->d3.size=n->PermIn a e d1 d3->lim<2 ^ 60->a<=pv->pv<e->F.f105_j2 E Q X (slc b 0 n c) (vi a) (vi e) (vi lim) (vb wb) (vb wp) (vi ((e - a:Nat):Int)) (vi pv) (vi hint) H3:=by
    intro d3 H3 lim wb wp pv hint s3 n3 p3 hlim hp1 hp2;have B3:Go.Sort.Below cF a e d3:=hB.permA permIn_all (by omega) p3
    have h3:=j3 d3 H3 lim wb wp pv s3 n3 p3 hlim hp1 hp2
    have try_:E.call 118 [slc b 0 n c,vi a,vi e] H3 λv6 H4=>ifB v6 (Q (.tuple #[]) H4) (F.f105_j3 E Q X (slc b 0 n c) (vi a) (vi e) (vi lim) (vb wb) (vb wp) (vi ((e - a:Nat):Int)) (vi pv) H4):=by
      refine S.f102 hE s3.get n3 (by omega) a e (by omega) hen λH4 s4 =>?_
      obtain⟨q1,q2⟩:=partialInsertionSort_holds hS d3 a e (by omega) (by omega) B3
      cases hb:(partialInsertionSort cF d3 a e).2 with
      | true =>
        obtain⟨h5,h6⟩:=fin _ (permIn_trans _ _ _ _ _ p3 q1) (q2 hb);simp only[aS];exact hQ _ _ h5 h6 (s3.trans s4)
      | false =>
        simp only[aM];exact j3 _ H4 lim wb wp pv (s3.trans s4) (by rw[q1.1];exact n3) (permIn_trans _ _ _ _ _ p3 q1) hlim hp1 hp2
    cases wb with
    | false =>
      simp only[F.f105_j2,gM,bC,aL,aD,aM];exact h3
    | true =>
      cases wp with
      | false =>
        simp only[F.f105_j2,dT,gM,aU,bC,aL,aD,aM];exact h3
      | true =>
        by_cases ch:hint=1
        · simp only[F.f105_j2,dT,aU,aL,aD,aW,ch,decide_true,aS]
          exact try_
        · simp only[F.f105_j2,dT,aU,aL,aD,aW,ch,decide_false,aM]
          exact h3
  have j1:∀ (d3:Array (BitVec 16)) H3 (lim:Nat) (wb wp:Bool),cW H b u16 tail f d3 H3->d3.size=n->PermIn a e d1 d3->lim<2 ^ 60->F.f105_j1 E Q X (slc b 0 n c) (vi a) (vi e) (vi lim) (vb wb) (vb wp) (vi ((e - a:Nat):Int)) H3:=by
    intro d3 H3 lim wb wp s3 n3 p3 hlim;simp only[F.f105_j1];refine S.f95 hE s3.get n3 (by omega) a e (by omega) hen λpv hint H4 hp1 hp2 e4 =>?_
    have s4:=s3.ext e4;simp only[aL,dU,List.getElem?_cons_zero,List.getElem?_cons_succ,aD,aW]
    by_cases ch:hint=2
    · simp only[ch,decide_true,aS]
      refine S.f106 hE s4.get n3 (by omega) a e (by omega) hen λH5 s5 =>?_
      have q1:=reverseRange_holds d3 a e hae (by omega)
      have b1:=eS e (by omega) (by omega)
      have b2:aA .sub (vi pv) (vi a)=some (vi ((pv - a:Nat):Int)):=eC pv a hp1 (by omega)
      have b3:aA .sub (vi ((e - 1:Nat):Int)) (vi ((pv - a:Nat):Int))=some (vi ((e - 1 - (pv - a):Nat):Int)):=eC (e - 1) (pv - a) (by omega) (by omega)
      simp only[b1,b2,b3,aL,aD];exact j2 _ H5 lim wb wp _ 1 (s4.trans s5) (by rw[q1.1];exact n3) (permIn_trans _ _ _ _ _ p3 q1) hlim (by omega) (by omega)
    · simp only[ch,decide_false,aM]
      exact j2 d3 H4 lim wb wp pv hint s4 n3 p3 hlim hp1 hp2
  cases wb with
  | true =>
    have:=j1 d1 H1 limit true wp s1 n1 (permIn_refl _ _ _) hlim;generalize hW:e - a=W at *;simp only[F.f105_l1,eF,eR,eW,fR,jZ,nQ,a1,c12',c0',qP,aW,decide_false,dV,Bool.not_true,aL,aD,aM];exact this
  | false =>
    have b1:=eS limit (by omega) (by omega)
    have go:=λd' H' p' s'=>j1 d' H' (limit - 1) false wp s' (by rw[(p':PermIn a e d1 d').1];exact n1) p' (by omega)
    generalize hW:e - a=W at *;simp only[F.f105_l1,eF,eR,eW,fR,jZ,nQ,a1,c12',c0',qP,aW,decide_false,dV,Bool.not_false,aL,aD,aM,aS];refine S.f94 hE s1.get n1 hsz a e (by omega) hen λd' H' p' s' =>?_
    simp only[b1,aL,aD];exact go d' H' p' (s1.trans s')
theorem S.f93(hE:bF E)(hS:SWO cF)(hg:H.get b=iA u16 d tail f)(hn:d.size=n)(hsz:n<2 ^ 31)(hQ:∀ d' H',PermIn 0 n d d'->SortedIn cF 0 n d'->cW H b u16 tail f d' H'->Q (.tuple #[]) H'):E.call 92 [slc b 0 n c] H Q:=by
 apply hE.f93;have e1:(BitVec.ofNat 64 n).toNat=n:=by rw[BitVec.toNat_ofNat,Nat.mod_eq_of_lt (by omega)]
 have hc:bI .u64 (vi (n:Int))=some (u64 (BitVec.ofNat 64 n)):=by rw[oV,BitVec.ofInt_natCast]
 simp only[F.f93,aA2,hc,aL,aD];refine S.f30 hE _ (by rw[e1];omega) ?_
 rw[e1];have hl:bitsLen n<=31:=by rw[bitsLen_le_iff];exact hsz
 exact S.f105 hE hS n hg hn hsz 0 n (Nat.zero_le _) (Nat.le_refl _) _ (by omega) (.inl rfl) (by omega) hQ
theorem S.slices_Sort_inode_Number_nil(hE:bF E)(a:Option Addr)(hQ:Q (.tuple #[]) H):E.call 92 [.slice a 0 0] H Q:=by
 apply hE.f93;have hc:bI .u64 (vi 0)=some (u64 0#64):=by rw[oV];rfl
 have hd:aA .sub (vi 0) (vi 0)=some (vi 0):=fZ (by decide) (by decide)
 simp[F.f93,hc];refine S.f30 hE _ (by decide) ?_
 apply hE.f105;simp only[F.f105];refine bY.step λX _ =>?_;simp[F.f105_l1,hd];apply hE.f97;have ha:aA .add (vi 0) (vi 1)=some (vi 1):=eM (by decide) (by decide)
 simp[F.f97,ha];refine bY.step λX _ =>?_;simp[F.f97_l1];exact hQ
end
end
section
open Go.Sort (SWO PermIn SortedIn)
theorem aCs{α:Type}[Inhabited α]{lt:α->α->Bool}(hS:SWO lt)(htri:∀ a b,lt a b=false->lt b a=false->a=b){n:Nat}{d d':Array α}(hn:d.size=n)(hp:PermIn 0 n d d')(hs:SortedIn lt 0 n d'){L:List α}(hL:d.toList.Perm L)(hR:L.Pairwise λa b=>lt a b=true):d'.toList=L:=by
 have hsz:d'.size=n:=hp.1.trans hn;have e1:(d'.extract 0 n).toList=d'.toList:=by rw[<- hsz];simp
 have e2:(d.extract 0 n).toList=d.toList:=by rw[<- hn];simp
 have hpp:=hp.2.2;rw[e1,e2]at hpp;refine List.Perm.eq_of_pairwise (le:=λa b=>lt b a=false) (λa b _ _ h1 h2=>htri a b h2 h1) ?_ ?_ (hpp.trans hL)
 ·rw[List.pairwise_iff_getElem]
  intro i j hi hj hij;have:=hs i j (Nat.zero_le _) hij (by rw[<- hsz];simpa using hj)
  have hi':i<d'.size:=by simpa using hi
  have hj':j<d'.size:=by simpa using hj
  simpa[hi',hj'] using this
 ·refine hR.imp fun {a b} hab =>?_
  cases hba:lt b a with
  | false=>rfl
  | true =>
   have:=hS.trans a b a hab hba;rw[hS.irrefl]at this;simp at this
theorem cB.arr{α:Type}[Inhabited α]{enc:α->Value}(hp:∀ x,plain1 (enc x)=true){H:AH}{v:Value}{xs:List α}(g:cB zH H 1 v (xs.map λx=>[enc x]))(hne:xs≠[]):
  ∃ b f c tail,v=slc b 0 xs.length c/\H.get b=iA enc xs.toArray tail f/\∀ (ys:List α) (H':AH),ys.length=xs.length->H'.get b=iA enc ys.toArray tail f->cB zH H' 1 v (ys.map λx=>[enc x]):=by
 have fl:∀ l:List α,(l.map λx=>[enc x]).flatten=l.map enc:=by
  intro l
  induction l with
  | nil=>rfl
  | cons a l ih=>simp[ih]
 rcases g.2 with ⟨h,_⟩ | ⟨b,f,c,cs,g1,rfl,g3,g4,g5,g6,g7⟩
 ·exact(hne (by simpa using h)).elim
 ·rw[fl,Nat.mul_one]at g6
  simp only[List.length_map]at g4 g6 ⊢;have hcs:cs=xs.map enc++cs.drop xs.length:=by rw[<- g6,List.take_append_drop]
  refine⟨b,f,c,cs.drop xs.length,rfl,?_,λys H' hl hg =>?_⟩
  ·rw[g3,iA];congr 1
  ·refine⟨λr hr =>?_,.inr ⟨b,f,c,ys.map enc++cs.drop xs.length,g1,by simp[hl],hg,by simpa[hl] using g4,?_,?_,g7⟩⟩
   ·obtain⟨x,_,rfl⟩:=List.mem_map.1 hr
    exact⟨rfl,by simp[hp]⟩
   ·have:cs.length=(xs.map enc++cs.drop xs.length).length:=congrArg List.length hcs
    simp at this;simp[hl];omega
   ·rw[fl]
    simp[hl]
theorem aEL(a b:BitVec 16)(h:cF a b=false)(h':cF b a=false):a=b:=by
 simp only[cF,decide_eq_false_iff_not]at h h';exact BitVec.eq_of_toNat_eq (by omega)
def cL(l:List aK):List (List Value):=l.map λs=>[str s]
def sI(l:List (BitVec 16)):List (List Value):=l.map λs=>[u16 s]
theorem dP(l:List aK):(cL l).length=l.length:=by simp[cL]
theorem iD(l:List (BitVec 16)):(sI l).length=l.length:=by simp[sI]
section
variable {E:Sy}{H H' H'':AH}{Q:Value->AH->Prop}{p m:Nat}{L L' L'':LyL}{T T' T'':Tr}
def Tr.nums(T:Tr):List (BitVec 16):=((List.range T.N.length).map (BitVec.ofNat 16)).filter λn=>decide ((T.node n).kind≠0#8)
theorem Tr.nums_mem(hl:T.N.length<=65536)(n:BitVec 16):n∈T.nums↔(T.node n).kind≠0#8:=by
 unfold Tr.nums;rw[List.mem_filter];simp only[decide_eq_true_eq,List.mem_map,List.mem_range];constructor
 ·exact λh=>h.2
 ·intro h
  exact⟨⟨n.toNat,Tr.node_lt h,by simp⟩,h⟩
theorem Tr.nums_rise(hl:T.N.length<=65536):T.nums.Pairwise λa b=>cF a b=true:=by
 unfold Tr.nums;refine List.Pairwise.filter _ ?_;rw[List.pairwise_map];refine List.pairwise_lt_range.imp_of_mem fun {a b} ha hb hab =>?_;have h1:=List.mem_range.1 ha;have h2:=List.mem_range.1 hb;simp only[cF,decide_eq_true_eq,BitVec.toNat_ofNat];rw[Nat.mod_eq_of_lt (by omega),Nat.mod_eq_of_lt (by omega)]
 exact hab
theorem Tr.nums_nodup(hl:T.N.length<=65536):T.nums.Nodup :=
 (Tr.nums_rise hl).imp fun {a b} h e=>by subst e;simp[cF]at h
theorem Cov.perm(h:Cov L T)(hl:T.N.length<=65536):(L.map Prod.fst).Perm T.nums :=
 List.perm_of_nodup_nodup_toFinset_eq' h.nd (Tr.nums_nodup hl) (λx hx=>(Tr.nums_mem hl x).2 ((h.mem x).1 hx)) λx hx=>(h.mem x).2 ((Tr.nums_mem hl x).1 hx)
theorem S.f13(hE:bF E)(h:Ino H p m L T)(hl:T.N.length<=65536)(hQ:∀ v H',Ext H H'->Rows H' 1 v (sI T.nums)->eQ H.next v->Q v H'):E.call 64 [ptr p 0] H Q:=by
 apply hE.f13;have hh:=h.head;have hm:=h.map;obtain⟨o,o1,o2⟩:=fF.start hm;have x1:Ext H (H.new o):=(Ext.refl H).new o;have hp:=h.cov.perm hl;have hlen:L.length=T.nums.length:=by simpa using hp.length_eq
 have hnl:T.nums.length<=65536:=by
  unfold Tr.nums;refine Nat.le_trans (List.length_filter_le _ _) ?_
  simpa using hl
 simp only[F.f13,aBK,aY,aJ,aE,hh,bB,Nat.add_zero,List.getElem?_cons_zero,o1,cX,pT,aL,aD,aM];generalize hl2:(L.map λe=>(e.1,e.2.blk))=l2 at *;have hl2l:l2.length=L.length:=by rw[<- hl2];simp
 have hl2f:l2.map Prod.fst=L.map Prod.fst:=by rw[<- hl2];simp[Function.comp_def]
 refine bY.ind (λj l H'=>Ext H H'/\∃ done v,l=[v,ptr H.next 0]/\fF u16 (λb=>ptr b 0) H' H.next m l2 done/\cB zH H' 1 v (sI (done.map Prod.fst))/\eQ (H.next+1) v/\(done=[]->v=aZ)/\j+done.length=l2.length) ?_ l2.length ⟨x1,[],aZ,rfl,o2,cB.nil _ _ _,λb hb=>by simp[blk]at hb,λ_=>rfl,by simp⟩
 rintro j _ H' X hX ⟨e1,done,v,rfl,it,g,fv,hnil,hj⟩;simp only[F.f13_l1,eF,eR];refine fF.next it (λe ob he hnd it' hen =>?_) λhpd =>?_
 ·have hput:Ext H (H'.put H.next ob):=e1.put (Nat.le_refl _) ob
  have hd1:done.length+1<=l2.length:=by
   have:=tD (done++[e]) l2 it'.nodup.1 it'.nodup.2
   simpa using this
  have g':cB zH (H'.put H.next ob) 1 v (sI (done.map Prod.fst)):=g.keep λb hb _=>AH.get_put_ne _ _ (by have:=fv b hb;omega)
  have hb1:buildS 1 1 #[(.int .u16 0)] [(0,u16 e.1)]=some (.cells [u16 e.1] none,eA 1 1):=gC 1 [u16 0#16] [u16 e.1] rfl rfl;obtain⟨v',H2,a1,a2,a3⟩:=g'.app1 (Nat.zero_le _) (bytes:=2) [u16 e.1] rfl rfl (by decide) (by decide) (by rw[iD,List.length_map];omega)
  have hlt1:=it'.map.lt;have hlt2:=it'.lt
  have hrb:H2.get m=(H'.put H.next ob).get m:=a3.1.get hlt1 λhb=>by
   have:=fv m (bZ.1 hb);have:=hm.lt;omega
  have hib:H2.get H.next=(H'.put H.next ob).get H.next:=a3.1.get hlt2 λhb=>by
   have:=fv H.next (bZ.1 hb);omega
  simp only[dU,List.getElem?_cons_zero,List.getElem?_cons_succ,hen,hb1,cX,eN,a1,eJ,aL,aD,aS];refine hX (j - 1) (by omega) _ _ ⟨?_,done++[e],v',rfl,it'.keep hrb hib,?_,?_,λh=>by simp at h,?_⟩
  ·refine a3.1.ext hput λb hb =>?_
   have:=fv b (bZ.1 hb);omega
  ·have:sI ((done++[e]).map Prod.fst)=sI (done.map Prod.fst)++[[u16 e.1]]:=by simp[sI]
   rw[this];exact a2
  ·intro b hb
   have hp1:(H'.put H.next ob).next=H'.next:=rfl;rcases a3.2 b hb with h1 | h1
   ·exact fv b h1
   ·have:=it.lt
    omega
  ·simp;omega
 ·have hperm:(done.map Prod.fst).Perm T.nums:=(hpd.map _).trans (by rw[hl2f];exact hp)
  simp only[dU,List.getElem?_cons_zero,aL,aD,aM]
  by_cases hne:done.map Prod.fst=[]
  ·have hd0:done=[]:=by simpa using hne
   have he:T.nums=[]:=by
    have:=hperm.length_eq;rw[hd0]at this;exact List.eq_nil_of_length_eq_zero (by simpa using this.symm)
   rw[hnil hd0];refine S.slices_Sort_inode_Number_nil hE none ?_;refine hQ aZ H' e1 ?_ λb hb=>by simp[blk]at hb
   rw[he];exact Rows.nil _ _ none
  ·obtain⟨b,f,c,tail,rfl,ha,hb⟩:=cB.arr (λx=>rfl) g hne
   refine S.f93 hE aB0 ha (by simp) (by have:=hperm.length_eq;simp at this ⊢; omega) λd' H2 hp2 hs2 st =>?_
   have hu:=aCs aB0 aEL (n:=(done.map Prod.fst).length) (by simp) hp2 hs2 (L:=T.nums) hperm (Tr.nums_rise hl)
   refine hQ _ H2 ?_ ?_ λx hx=>by have:=fv x hx;omega
   ·exact st.only.ext e1 λx hx=>by
     simp at hx;subst hx;have:=fv x (by simp[blk])
     omega
   ·rw[<- hu]
    refine(hb d'.toList H2 ?_ st.get).toRows;have:=hp2.1
    simpa using this
end
end
section
section
variable {E:Sy}{H:AH}{Q:Value->AH->Prop}
def lF:List UInt8->Option (List UInt8×List UInt8)
 | []=>none
 | c :: s=>if c=47 then some ([],s) else(lF s).map λp=>(c :: p.1,p.2)
theorem sC:∀ (s cur:List UInt8),eV cur s=match lF s with
  | none=>[cur++s]
  | some p=>(cur++p.1) :: eV [] p.2
 | [],cur=>by simp[eV,lF]
 | c :: s,cur=>by
  by_cases h:c=47
  ·simp[eV,lF,h]
  ·simp only[eV,lF,h,if_false]
   rw[sC s (cur++[c])];cases lF s<;>simp
theorem vC:∀ s:List UInt8,Lib.indexByte s 47=match lF s with | none => -1 | some p=>(p.1.length:Int)
 | []=>rfl
 | c :: s=>by
  have ih:=vC s
  by_cases h:c=47
  ·subst h;simp[Lib.indexByte,lF]
  ·have h':(c == 47)=false:=by simpa using h
   simp only[Lib.indexByte,h',lF,h,if_false,ih];cases hc:lF s with
   | none=>simp
   | some p=>simp
theorem xC:∀ {s:List UInt8} {p:List UInt8×List UInt8},lF s=some p->s=p.1++47 :: p.2
 | [],p,h=>by simp[lF]at h
 | c :: s,p,h=>by
  by_cases k:c=47
  ·subst k;simp[lF]at h;subst h;rfl
  ·simp only[lF,k,if_false,Option.map_eq_some_iff]at h
   obtain⟨q,h1,rfl⟩:=h;simp[xC h1]
theorem iN:∀ (s cur:List UInt8),(eV cur s).length=s.count 47+1
 | [],_=>rfl
 | c :: s,cur=>by
  by_cases h:c=47
  ·subst h;simp[eV,iN s []]
  ·simp[eV,h,iN s (cur++[c])]
theorem aBn(s:List UInt8):s.count 47<=s.length:=List.count_le_length
theorem S.f109(hE:bF E)(s:List UInt8)(hQ:Q (vi (s.count 47:Nat)) H):E.call 125 [str s,str [47]] H Q:=by
 apply hE.f109;have h1:eZ (str [47]) (vi 0)=some (.int .u8 47):=rfl;simp[F.f109,h1];apply hE.f22;exact hQ
theorem S.f111(hE:bF E)(s:List UInt8)(hQ:Q (vi (Lib.indexByte s 47)) H):E.call 126 [str s,str [47]] H Q:=by
 apply hE.f111;simp only[F.f111];apply hE.f28;have h1:eZ (str [47]) (vi 0)=some (.int .u8 47):=rfl
 by_cases hs:[47]=s
 ·subst hs
  simp[F.f28];exact hQ
 ·simp[F.f28,h1,hs]
  apply hE.f29;simp only[F.f29];apply hE.f24;exact hQ
theorem vD(l:List UInt8)(a b:Nat):(⟨l.toArray⟩:ByteArray).extract a b=⟨((l.take b).drop a).toArray⟩:=by
 apply ByteArray.ext;rw[ByteArray.data_extract];simp[List.extract_eq_take_drop,List.drop_take]
theorem aCC(l:List UInt8)(n:Nat)(h:n<=l.length):jY (str l) none (some (vi n))=some (str (l.take n)):=by
 have h':n<=(⟨l.toArray⟩:ByteArray).size:=h;simp only[str,jY,bnd];rw[if_pos ⟨by omega,by exact_mod_cast h'⟩]
 simp[vD]
theorem xQ(l:List UInt8)(n:Nat)(h:n<=l.length):jY (str l) (some (vi n)) none=some (str (l.drop n)):=by
 have h':n<=(⟨l.toArray⟩:ByteArray).size:=h;have hz:(⟨l.toArray⟩:ByteArray).size=l.length:=rfl;simp only[str,jY,bnd,Option.bind_some];rw[if_pos ⟨by omega,by rw[hz];exact_mod_cast h⟩]
 simp[vD,hz]
def jD(done:List aK)(n:Nat):List (List Value):=cL done++List.replicate n [str []]
theorem zL(done:List aK)(n:Nat)(s:aK):(jD done (n+1)).set done.length [str s]=jD (done++[s]) n:=by
 have h:(cL done).length=done.length:=dP done;unfold jD;rw[<- h,List.set_append_right _ _ (Nat.le_refl _),Nat.sub_self,List.replicate_succ,List.set_cons_zero];simp[cL]
theorem iQ(done:List aK)(n:Nat):(jD done n).length=done.length+n:=by simp[jD,cL]
theorem S.f113(hE:bF E)(s:List UInt8)(hs:s.length<2 ^ 40)(hQ:∀ v H',Ext H H'->Rows H' 1 v (cL (eV [] s))->Q v H'):E.call 104 [str s,str [47]] H Q:=by
 apply hE.f113;simp only[F.f113];apply hE.f115;have hc:=aBn s;have hn1:aA .add (vi (s.count 47:Nat)) (vi 1)=some (vi ((s.count 47+1:Nat):Int)):=cS (by omega)
 have hl1:aA .add (vi (s.length:Nat)) (vi 1)=some (vi ((s.length+1:Nat):Int)):=cS (by omega)
 simp[F.f115];refine S.f109 hE s ?_;have hcnt:=iN s [];generalize hN:s.count 47=c at *
 have hmin:fY min2 [vi ((c+1:Nat):Int),vi ((s.length+1:Nat):Int)]=some (vi ((c+1:Nat):Int)):=by
  rw[vZ];rw[if_neg (by omega)]
 have hsub:aA .sub (vi ((c+1:Nat):Int)) (vi 1)=some (vi (c:Nat)):=by
  rw[fZ (by omega) (by omega)];simp
 have hmk:=uE 1 16 (c+1) [str []] rfl (by omega) (by omega)
 simp only[F.f115_j1,hn1,dN,hl1,hmin,aL,aD];rw[show(#[(.string ⟨#[]⟩)]:Array Value)=[str []].toArray from rfl,hmk];simp only[AM.cX,hsub,aL,aD]
 have g0:cB zH (H.new (.cells (List.replicate (c+1) [str []]).flatten none)) 1 (slc H.next 0 (c+1) (c+1)) (jD [] (c+1)) :=
  cB.made (f:=none) (lQ _) (by rw[AH.get_new_self];simp[jD,cL]) (.inl rfl) (by simp[jD,cL]) (by
   intro r hr;simp[jD,cL]at hr;subst hr;exact⟨rfl,rfl⟩)
 refine bY.count c (λj ls H'=>∃ done rest,ls=[str rest,str [47],vi 0,vi c,slc H.next 0 (c+1) (c+1),vi j]/\done.length=j/\eV [] s=done++eV [] rest/\rest.length<=s.length/\Ext H H'/\cB zH H' 1 (slc H.next 0 (c+1) (c+1)) (jD done (c+1 - j))) ?_ ⟨[],s,rfl,rfl,rfl,Nat.le_refl _,(Ext.refl H).new _,g0⟩;rintro j _ H1 X hj hX ⟨done,rest,rfl,hd,hsp,hrl,e1,g1⟩
 have hrc:rest.count 47+j=c:=by
  have h1:=congrArg List.length hsp;rw[hcnt,List.length_append,iN,hd]at h1;omega
 by_cases hjc:j<c
 ·have hX:=hX hjc
  have hjc':(j:Int)<c:=by omega
  have hjj:=cS (i:=j) (by omega)
  have hix:=vC rest;have hcut:=sC rest [];cases hcs:lF rest with
  | none =>
   rw[hcs]at hcut;have h1:=iN rest [];rw[hcut]at h1;simp at h1;omega
  | some p =>
   rw[hcs]at hix hcut;have hre:=xC hcs;have hpl:p.1.length+p.2.length+1=rest.length:=by rw[hre];simp;omega
   have hge:¬ ((p.1.length:Int)<0):=by omega
   have hadd0:aA .add (vi (p.1.length:Nat)) (vi 0)=some (vi (p.1.length:Nat)):=by rw[eM (by omega) (by omega)];simp
   have hadd1:aA .add (vi (p.1.length:Nat)) (vi 1)=some (vi ((p.1.length+1:Nat):Int)):=cS (by omega)
   have hsl1:jY (str rest) none (some (vi (p.1.length:Nat)))=some (str p.1):=by
    rw[aCC _ _ (by omega),hre,List.take_left' rfl]
   have hsl2:jY (str rest) (some (vi ((p.1.length+1:Nat):Int))) none=some (str p.2):=by
    rw[xQ _ _ (by omega),hre]
    congr 2
    rw[show p.1++47 :: p.2=(p.1++[47])++p.2 by simp,show p.1.length+1=(p.1++[47]).length by simp,List.drop_left' rfl]
   obtain⟨b,o,H2,q1,q2,q3,q4,q5⟩:=g1.store (i:=j) (k:=0) (by rw[iQ];omega) (by omega) (str p.1) rfl
   have hlast:(jD done (c+1 - j)).set j (((jD done (c+1 - j))[j]'(by rw[iQ];omega)).set 0 (str p.1))=jD (done++[p.1]) (c+1 - (j+1)):=by
    have e:c+1 - j=(c+1 - (j+1))+1:=by omega
    have h2:(jD done (c+1 - j))[j]'(by rw[iQ];omega)=[str []]:=by
     subst hd;simp[jD,cL]
    rw[h2];subst hd;rw[e];exact zL done _ p.1
   rw[hlast]at q4;simp[F.f115_l1,hjc'];refine S.f111 hE rest ?_;rw[hix];have q3':aR (ptr b o) (str p.1) H1=some H2:=by simpa using q3
   simp[-Int.natCast_add,hge,hadd0,hadd1,hsl1,hsl2,q1,q3',hjj];refine hX _ _ ⟨done++[p.1],p.2,rfl,by simp[hd],by rw[hsp,hcut];simp,by omega,?_,q4⟩
   exact q5.ext e1 λb hb=>by rw[bZ]at hb;simp[blk]at hb;omega
 ·have hjc':¬ (j:Int)<c:=by omega
  have hje:j=c:=by omega
  have hrest:eV [] rest=[rest]:=by
   have hcut:=sC rest [];cases hcs:lF rest with
   | none=>rw[hcs]at hcut;simpa using hcut
   | some p =>
    have:=xC hcs;rw[this]at hrc;simp at hrc;omega
  have hjj:aA .add (vi (j:Nat)) (vi 1)=some (vi ((j+1:Nat):Int)):=cS (by omega)
  obtain⟨b,o,H2,q1,q2,q3,q4,q5⟩:=g1.store (i:=j) (k:=0) (by rw[iQ];omega) (by omega) (str rest) rfl
  have hlast:(jD done (c+1 - j)).set j (((jD done (c+1 - j))[j]'(by rw[iQ];omega)).set 0 (str rest))=jD (done++[rest]) (c+1 - (j+1)):=by
   have e:c+1 - j=(c+1 - (j+1))+1:=by omega
   have h2:(jD done (c+1 - j))[j]'(by rw[iQ];omega)=[str []]:=by
    subst hd;simp[jD,cL]
   rw[h2];subst hd;rw[e];exact zL done _ rest
  rw[hlast]at q4;have q3':aR (ptr b o) (str rest) H1=some H2:=by simpa using q3
  have e2:Ext H H2:=q5.ext e1 λb hb=>by rw[bZ]at hb;simp[blk]at hb;omega
  have hrows:Rows H2 1 (slc H.next 0 (c+1) (c+1)) (cL (eV [] s)):=by
   have:=q4.toRows;have h0:c+1 - (j+1)=0:=by omega
   rw[h0]at this;rw[hsp,hrest]
   simpa[jD] using this
  have hlen:(cL (eV [] s)).length=j+1:=by rw[dP,hcnt];omega
  obtain⟨hsl,hrows2⟩:=hrows.slice' (lo:=none) (hi:=some (vi ((j+1:Nat):Int))) (i:=0) (j:=j+1) (.inr ⟨rfl,rfl⟩) (.inl rfl) (by omega) (by omega)
  rw[List.take_of_length_le (by omega),List.drop_zero]at hrows2
  simp[-Int.natCast_add,F.f115_l1,hjc',F.f115_j2,q1,q3',hjj,hsl];exact hQ _ _ e2 hrows2
theorem tO{v:Value}{l:List aK}(h:Rows H 1 v (cL l)){i:Nat}(hi:i<l.length):∃ b o,aP 1 v (vi i)=some (ptr b o)/\(H.get b).cell o=some (str l[i])/\(H.get b).row o 1=some [str l[i]]:=by
 obtain⟨b,o,h1,h2⟩:=h.ix (i:=i) (by rw[dP];exact hi)
 have hrow:(cL l)[i]'(by rw[dP];exact hi)=[str l[i]]:=by simp[cL]
 rw[hrow]at h2;exact⟨b,o,h1,by have:=eG h2 (j:=0) (by omega);simpa using this,h2⟩
theorem kR{v:Value}{l:List aK}(h:Rows H 1 v (cL l)):AM.lenSlc v=some (vi l.length):=by
 have:=h.lenSlc
 rwa [dP]at this
theorem uG{α:Type}(P:α->Bool)(l:List α){j:Nat}(hj:j<l.length):(l.take (j+1)).filter P=(l.take j).filter P++if P l[j] then[l[j]] else[]:=by
 rw[List.take_succ_eq_append_getElem hj,List.filter_append]
 congr 1
 by_cases h:P l[j]<;>simp[h]
theorem wI(s:List UInt8):(eV [] s).length<=s.length+1:=by
 rw[iN];have:=aBn s;omega
theorem qU(s:List UInt8):(dR s).length<=s.length+1:=Nat.le_trans (List.length_filter_le _ _) (wI s)
theorem S.f136(hE:bF E)(s:List UInt8)(hs:s.length<2 ^ 40)(hQ:∀ v H',Ext H H'->cB zH H' 1 v (cL (dR s))->(∀ b,blk v=some b->H.next<=b)->Q v H'):E.call 79 [str s] H Q:=by
 apply hE.f136;simp only[F.f136];refine S.f113 hE s hs λv H1 e1 r1 =>?_;have hl:=kR r1;have hlen:=wI s;simp only[hl,aD];unfold dR at hQ;generalize eV [] s=l at *;refine bY.count l.length (λj ls H'=>∃ w,ls=[w,v,vi l.length,vi j]/\Ext H1 H'/\cB zH H' 1 w (cL ((l.take j).filter fB))/\eQ H1.next w) ?_ ⟨aZ,rfl,Ext.refl _,by simpa[cL] using cB.nil zH H1 1,by simp[blk,eQ]⟩
 rintro j _ H2 X hj hX ⟨w,rfl,e2,g2,f2⟩
 by_cases hjl:j<l.length
 ·have hX:=hX hjl
  have hjl':(j:Int)<l.length:=by omega
  have hjj:=cS (i:=j) (by omega)
  obtain⟨b,o,q1,q2,_⟩:=tO (r1.mono e2) hjl;have hst:=uG fB l hjl;have hle:((l.take j).filter fB).length<=j:=Nat.le_trans (List.length_filter_le _ _) (by rw[List.length_take];omega)
  generalize hx:l[j]=x at *
  by_cases h1:x=[]
  ·have h2:fB x=false:=by simp[fB,h1]
   rw[h2]at hst;simp[-Int.natCast_add,F.f136_l1,hjl',q1,q2,h1,hjj];exact hX _ _ ⟨w,rfl,e2,by rw[hst];simpa using g2,f2⟩
  ·by_cases h3:x=[46]
   ·have h2:fB x=false:=by simp[fB,h3]
    rw[h2]at hst;simp[-Int.natCast_add,F.f136_l1,hjl',q1,q2,h3,hjj];exact hX _ _ ⟨w,rfl,e2,by rw[hst];simpa using g2,f2⟩
   ·have h2:fB x=true:=by simp[fB,h1,h3]
    rw[h2]at hst;obtain⟨w',H3,a1,a2,a3⟩:=g2.app1 (Nat.zero_le _) (bytes:=16) [str x] rfl rfl (by decide) (by decide) (by rw[dP];omega)
    have hb:=aDg (str []) (str x) rfl rfl;simp[-Int.natCast_add,-fW,F.f136_l1,hjl',q1,q2,h1,h3,hb,a1,hjj];obtain⟨k1,k2⟩:=gS a3 e2 (H0:=H1) f2;refine hX _ _ ⟨w',rfl,k1,by rw[hst];simpa[cL] using a2,k2⟩
 ·have hjl':¬ (j:Int)<l.length:=by omega
  simp[F.f136_l1,hjl'];refine hQ w H2 (e1.trans e2) (by rw[List.take_of_length_le (by omega)]at g2;exact g2) λb hb=>Nat.le_trans e1.1 (f2 b hb)
end
end
section
structure lU(H:AH)(t:Nat)(T:Tr)(M:List aX):Prop where
 at_:∃ p m L q nx,H.get t = .cells [ptr p 0,ptr q 0] none/\Ino H p m L T/\pM H q M nx
 older:lG M
theorem lU.mono{H H':AH}{t:Nat}{T:Tr}{M:List aX}(h:lU H t T M)(e:Ext H H'):lU H' t T M:=by
 obtain⟨⟨p,m,L,q,nx,h1,h2,h3⟩,h4⟩:=h;exact⟨⟨p,m,L,q,nx,e.cells h1,h2.mono e,h3.mono e⟩,h4⟩
section
variable {E:Sy}{H:AH}{Q:Value->AH->Prop}{t:Nat}{T:Tr}{M:List aX}
theorem aCM(b o:Nat):bU dB .neq (ptr b o) (.pointer none)=some (.bool true):=rfl
theorem fN(b o:Nat):bU dB .eql (ptr b o) (.pointer none)=some (.bool false):=rfl
theorem S.f135(hE:bF E)(h:lU H t T M)(hQ:Q (vb true) H):E.call 77 [ptr t 0] H Q:=by
 apply hE.f135;obtain⟨⟨p,m,L,q,nx,h1,h2,h3⟩,h4⟩:=h;simp[F.f135,aCM,h1];exact hQ
theorem S.f130(hE:bF E)(h:lU H t T M)(c:aG)(hQ:∀ H',Ext H H'->Q (vb (gK T M c)) H'):E.call 45 [ptr t 0,c.v] H Q:=by
 apply hE.f130;have x1:Ext H (H.new (.cells c.cells none)):=(Ext.refl H).new _;have hb:=AH.get_new_self H (.cells c.cells none);generalize hH1:H.new (.cells c.cells none)=H1 at *;simp[F.f130,hH1];refine S.f135 hE (h.mono x1) ?_;obtain⟨⟨p,m,L,q,nx,h1,h2,h3⟩,h4⟩:=h.mono x1;simp[h1,hb,aG.cells];refine S.f8 hE h2 c.i ?_;simp[h1,hb,aG.cells];have x2:Ext H1 (H1.new (.cells [vi 0,vi 0,u16 0#16,u16 0#16,vi 0] none)):=(Ext.refl _).new _;have hb2:=AH.get_new_self H1 (.cells [vi 0,vi 0,u16 0#16,u16 0#16,vi 0] none);refine S.f36 hE q M nx c.m (h3.mono x2) λH5 e5 =>?_;have hb5:=e5.cells hb2;refine⟨by rw[hb5,hb2],?_⟩
 have hst:storeN 5 (ptr H1.next 0) (wL (lC M c.m)).v H5=some (H5.put H1.next (.cells (wL (lC M c.m)).cells none)):=by
  rw[bJ,hb5];rfl
 have x3:Ext H (H5.put H1.next (.cells (wL (lC M c.m)).cells none)):=(x1.trans (x2.trans e5)).put (b:=H1.next) x1.1 _;have hQ:=hQ _ x3
 have hg:∀ b cs,H1.get b = .cells cs none->(H5.put H1.next (.cells (wL (lC M c.m)).cells none)).get b = .cells cs none:=λb cs hh=>by
  rw[AH.get_put_ne _ _ (Nat.ne_of_lt (AH.lt_cells hh))];exact(x2.trans e5).cells hh
 generalize H5.put H1.next (.cells (wL (lC M c.m)).cells none)=H6 at *;unfold gK at hQ;cases hs:(lC M c.m).isSome with
 | false =>
  rw[hs]at hQ;simp at hQ;simp[hst];exact hQ
 | true =>
  rw[hs]at hQ;rcases h2.get c.i with ⟨k0,_⟩ | ⟨kk,yy,k0,k1,k2,k3,k4⟩
  ·simp[k0]at hQ
   simp[hst,dO h2.cov k0];exact hQ
  ·have hk:=hg _ _ k3
   have he:aA .eql (u8 (T.node c.i).kind) (.int .u8 2)=some (vb (decide ((T.node c.i).kind=2#8))):=by simp
   simp at hQ;simp[hst,bG h2.cov.nd k1,aCM,hk,inC,he];exact hQ
def sJ(M:List aX)(p:aG):Nat:=(M.filter λm=>decide (m.id<=p.m)).length
theorem aEu{id:Int}{m:aX}(h:lC M id=some m):m∈M/\m.id=id:=⟨List.mem_of_find?_eq_some h,by simpa using List.find?_some h⟩
theorem aDm{p q:aG}(h:gW M p=some q):∃ m,lC M p.m=some m/\m.id≠0/\m.root=p.i/\m.at_=q:=by
 unfold gW at h
 split at h
 ·simp at h
 ·rename_i m hm
  split at h
  ·simp at h
  ·rename_i hc
   simp only[not_or,Decidable.not_not]at hc;exact⟨m,hm,hc.1,hc.2,by simpa using h⟩
theorem oT(ho:lG M){p q:aG}(h:gW M p=some q):sJ M q<sJ M p:=by
 obtain⟨m,h1,h2,h3,rfl⟩:=aDm h;obtain⟨hm,hi⟩:=aEu h1;have:=ho m hm h2;refine uK _ _ M (λx _ hx =>?_) m hm (by simpa using this) (by simpa using Int.le_of_eq hi)
 simp only[decide_eq_true_eq]at hx ⊢;omega
theorem mX(ho:lG M):∀ (n:Nat) (p:aG),sJ M p<=n->iZ M n p=iZ M (n+1) p
 | 0,p,h=>by
  cases hf:gW M p with
  | none=>simp[iZ,hf]
  | some q=>have:=oT ho hf;omega
 | n+1,p,h=>by
  cases hf:gW M p with
  | none=>simp[iZ,hf]
  | some q =>
   have:=oT ho hf;have ih:=mX ho n q (by omega)
   rw[iZ,iZ,hf];exact ih
theorem aBv(M:List aX)(p:aG):sJ M p<=M.length:=List.length_filter_le _ _
theorem aDh{p:aG}(h:gW M p=none):nJ M p=p:=by
 unfold nJ;cases M.length<;>simp[iZ,h]
theorem aDf(ho:lG M){p q:aG}(h:gW M p=some q):nJ M p=nJ M q:=by
 have h1:=oT ho h;have h2:=aBv M p;unfold nJ;obtain⟨n,hn⟩:∃ n,M.length=n+1:=⟨M.length - 1,by omega⟩
 rw[hn,iZ,h];exact mX ho n _ (by omega)
theorem aDI(a:Int)(b:BitVec 16):aV [(0,1),(1,1)] #[vi 0,(.int .u16 0)] [(0,vi a),(1,u16 b)]=some (aG.v ⟨a,b⟩):=rfl
theorem iJ:aV [(0,1),(1,1)] #[vi 0,(.int .u16 0)] []=some aG.zero.v:=rfl
theorem S.f133(hE:bF E)(h:lU H t T M)(c:aG)(hQ:∀ H',Ext H H'->Q (upP T M c).v H'):E.call 81 [ptr t 0,c.v] H Q:=by
 apply hE.f133;simp[F.f133];generalize hH2:(H.new _).new _=H2;have x2:Ext H H2:=by subst hH2;exact((Ext.refl H).new _).new _
 have k1:H2.get H.next = .cells c.cells none:=by subst hH2;simp[AH.get_new]
 have k2:H2.get (H.next+1) = .cells [vi 0,u16 0#16] none:=by subst hH2;simp[AH.get_new]
 clear hH2;have hl:aH 2 (ptr H.next 0) H2=some c.v:=by rw[aQ,k1];rfl
 simp[hl];refine S.f130 hE (h.mono x2) c λH3 e3 =>?_
 have st:∀ (z:aG) (H':AH),H'.get (H.next+1) = .cells [vi 0,u16 0#16] none->storeN 2 (ptr (H.next+1) 0) z.v H'=some (H'.put (H.next+1) (.cells z.cells none))/\aH 2 (ptr (H.next+1) 0) (H'.put (H.next+1) (.cells z.cells none))=some z.v:=by
  intro z H' hh;constructor
  ·rw[bJ,hh];rfl
  ·rw[aQ,AH.get_put_self _ _ (AH.lt_cells hh)];rfl
 unfold upP at hQ;cases hd:gK T M c with
 | false =>
  rw[hd]at hQ;simp at hQ;simp;refine S.f44 hE λH4 e4 =>?_;obtain⟨s1,s2⟩:=st ⟨0,1#16⟩ H4 (e4.cells (e3.cells k2));simp[s1,s2];exact hQ _ ((x2.trans (e3.trans e4)).put (b:=H.next+1) (by omega) _)
 | true =>
  rw[hd]at hQ;simp at hQ;simp;refine bY.ind (λn s H'=>∃ r,n=sJ M r/\s=[ptr t 0,ptr H.next 0,ptr (H.next+1) 0]/\Ext H H'/\nJ M r=nJ M c/\H'.get H.next = .cells r.cells none/\H'.get (H.next+1) = .cells [vi 0,u16 0#16] none) ?_ (sJ M c) ⟨c,rfl,rfl,x2.trans e3,rfl,e3.cells k1,e3.cells k2⟩;rintro n _ H4 X hX ⟨r,rfl,rfl,e4,hs,m1,m2⟩;obtain⟨⟨p,m,L,q,nx,h1,h2,h3⟩,ho⟩:=h.mono e4;have l1:=AH.lt_cells m1;have l2:=AH.lt_cells m2;have hl:aH 2 (ptr H.next 0) H4=some r.v:=by rw[aQ,m1];rfl
  simp[F.f133_l1,h1,hl];have x5:Ext H4 (H4.new (.cells [vi 0,u16 0#16] none)):=(Ext.refl _).new _;have hb5:=AH.get_new_self H4 (.cells [vi 0,u16 0#16] none);refine S.f35 hE q M nx r (h3.mono x5) λH5 e5 =>?_;have hb5':=e5.cells hb5;refine⟨by rw[hb5',hb5],?_⟩
  have hst:storeN 2 (ptr H4.next 0) (vV (gW M r)).v H5=some (H5.put H4.next (.cells (vV (gW M r)).cells none)):=by rw[bJ,hb5'];rfl
  have hg:∀ b cs,H4.get b = .cells cs none->(H5.put H4.next (.cells (vV (gW M r)).cells none)).get b = .cells cs none:=λb cs hh=>by
   rw[AH.get_put_ne _ _ (Nat.ne_of_lt (AH.lt_cells hh))];exact(x5.trans e5).cells hh
  have x6:Ext H4 (H5.put H4.next (.cells (vV (gW M r)).cells none)):=(x5.trans e5).put (b:=H4.next) (Nat.le_refl _) _;have hb6:(H5.put H4.next (.cells (vV (gW M r)).cells none)).get H4.next = .cells (vV (gW M r)).cells none:=AH.get_put_self _ _ (AH.lt_cells hb5');simp[hst];generalize H5.put H4.next (.cells (vV (gW M r)).cells none)=H6 at *;cases hdn:gW M r with
  | none =>
   have hdr:=aDh hdn;rw[<- hs,hdr]at hQ;simp[hg _ _ h1,hg _ _ m1,aG.cells];refine S.f8 hE (h2.mono x6) r.i ?_;rcases(h2.mono x6).get r.i with ⟨k0,_⟩ | ⟨kk,yy,k0,k1,k2,k3,k4⟩
   ·simp[dO h2.cov k0]
    refine S.f44 hE λH7 e7 =>?_;obtain⟨s1,s2⟩:=st ⟨0,1#16⟩ H7 (e7.cells (hg _ _ m2));simp[s1,s2];simp[k0]at hQ;exact hQ _ ((e4.trans (x6.trans e7)).put (b:=H.next+1) (by omega) _)
   ·simp[bG h2.cov.nd k1,fN,hg _ _ h1,hg _ _ m1,aG.cells,k3,inC,aDI]
    refine S.f38 hE q M nx ⟨r.m,(T.node r.i).parent⟩ (h3.mono x6) ho λH7 e7 =>?_;obtain⟨s1,s2⟩:=st (seen M ⟨r.m,(T.node r.i).parent⟩) H7 (e7.cells (hg _ _ m2));simp[s1,s2];simp[k0]at hQ;exact hQ _ ((e4.trans (x6.trans e7)).put (b:=H.next+1) (by omega) _)
  | some q' =>
   have hdr:=aDf ho hdn;have hlt:=oT ho hdn;rw[hdn]at hb6;have hl6:aH 2 (ptr H4.next 0) H6=some q'.v:=by rw[aQ,hb6];rfl
   have hs6:storeN 2 (ptr H.next 0) q'.v H6=some (H6.put H.next (.cells q'.cells none)):=by rw[bJ,hg _ _ m1];rfl
   simp[hl6,hs6];refine hX (sJ M q') hlt _ _ ⟨q',rfl,rfl,(e4.trans x6).put (b:=H.next) (Nat.le_refl _) _,by rw[<- hdr];exact hs,AH.get_put_self _ _ (AH.lt_cells (hg _ _ m1)),?_⟩
   rw[AH.get_put_ne _ _ (by omega)]
   exact hg _ _ m2
end
end
section
def dE(t:Nat)(w:fV)(lv:Value):List Value:=[ptr t 0,vi w.at_.m,u16 w.at_.i,lv,vi (w.links:Nat)]
abbrev aEq(t:Nat)(w:fV)(lv:Value):Value := .agg (dE t w lv).toArray
theorem Rows.plainV{H:AH}{v:Value}{rows:List (List Value)}{sz:Nat}(h:Rows H sz v rows):plain1 v=true:=by
 rcases h.at_ with ⟨_,c,rfl⟩ | ⟨b,o,c,rfl,_⟩
 ·cases c<;>rfl
 ·rfl
section
variable {E:Sy}{H H0 Z:AH}{Q:Value->AH->Prop}{t:Nat}{T:Tr}{M:List aX}{L:List Res}
theorem aDd(t:Nat)(w:fV){lv:Value}(h:plain1 lv=true):(dE t w lv).all plain1=true:=by
 simp only[dE,List.all_cons,List.all_nil,h];rfl
theorem qM(t:Nat)(w:fV){lv:Value}(h:plain1 lv=true){b:Nat}{cs:List Value}(hl:cs.length=5){H:AH}(hg:H.get b = .cells cs none):storeN 5 (ptr b 0) (aEq t w lv) H=some (H.put b (.cells (dE t w lv) none)):=by
 rw[bJ,hg];have h5:(dE t w lv).length=5:=rfl;have:AM.splice cs 0 (dE t w lv)=dE t w lv:=by simp[splice,hl,h5]
 simp only[List.size_toArray,List.toList_toArray,aDd t w h,h5,hl,Nat.zero_add,Nat.le_refl,and_self,if_true,this]
theorem aBH(t:Nat)(w:fV){lv:Value}{b:Nat}{H:AH}(hg:H.get b = .cells (dE t w lv) none):aH 5 (ptr b 0) H=some (aEq t w lv):=by
 rw[aQ,hg];rfl
theorem S.f134(hE:bF E)(h:lU H t T M)(c:aG)(path:List UInt8)(hp:path.length<2 ^ 63)(hQ:∀ lv H',Ext H H'->Rows H' 1 lv (cL (eL M c path).1.left)->eQ H.next lv->Q (.tuple #[aEq t (eL M c path).1 lv,vi (eL M c path).2]) H'):E.call 41 [ptr t 0,c.v,str path] H Q:=by
 apply hE.f134;have hz:([.pointer none,vi 0,u16 0#16,aZ,vi 0]:List Value).length=5:=rfl;have hbv:aV [(0,1),(1,2),(3,1),(4,1)] #[(.pointer none),vi 0,u16 0#16,(.slice none 0 0),vi 0] [(0,ptr t 0),(1,c.v)]=some (aEq t ⟨c,[],0⟩ aZ):=rfl;simp only[F.f134,fQ,AM.cX,fK,bD,AH.next_new_z,xV,aL];generalize hH2:(H.new _).new _=H2;have x2:Ext H H2:=by subst hH2;exact((Ext.refl H).new _).new _
 have k1:H2.get H.next = .cells c.cells none:=by subst hH2;simp[AH.get_new]
 have k2:H2.get (H.next+1) = .cells [.pointer none,vi 0,u16 0#16,aZ,vi 0] none:=by subst hH2;simp[AH.get_new]
 have n2:H2.next=H.next+2:=by subst hH2;simp
 clear hH2;have hl:aH 2 (ptr H.next 0) H2=some c.v:=by rw[aQ,k1];rfl
 have x3:Ext H2 (H2.new (.cells [.pointer none,vi 0,u16 0#16,aZ,vi 0] none)):=(Ext.refl _).new _;have k3:=AH.get_new_self H2 (.cells [.pointer none,vi 0,u16 0#16,aZ,vi 0] none);have s3:=qM t ⟨c,[],0⟩ (lv:=aZ) rfl hz k3;simp only[AH.next_new_z,hl,hbv,bD,xV,s3,aL,aD];have x4:Ext H2 ((H2.new (.cells [.pointer none,vi 0,u16 0#16,aZ,vi 0] none)).put H2.next (.cells (dE t ⟨c,[],0⟩ aZ) none)):=x3.put (b:=H2.next) (Nat.le_refl _) _;have k4:((H2.new (.cells [.pointer none,vi 0,u16 0#16,aZ,vi 0] none)).put H2.next (.cells (dE t ⟨c,[],0⟩ aZ) none)).get H2.next = .cells (dE t ⟨c,[],0⟩ aZ) none:=AH.get_put_self _ _ (AH.lt_cells k3);generalize (H2.new (.cells [.pointer none,vi 0,u16 0#16,aZ,vi 0] none)).put H2.next (.cells (dE t ⟨c,[],0⟩ aZ) none)=H4 at *;refine S.f135 hE (h.mono (x2.trans x4)) ?_
 have fin:∀ (w:fV) (lv:Value) (e:Int) (H':AH) (R:Value->AH->Prop),H'.get H2.next = .cells (dE t w lv) none->H'.get (H.next+1) = .cells [.pointer none,vi 0,u16 0#16,aZ,vi 0] none->plain1 lv=true ->
   R (.tuple #[aEq t w lv,vi e]) (H'.put (H.next+1) (.cells (dE t w lv) none)) ->
   opt (aH 5 (ptr H2.next 0) H') λv8=>opt (storeN 5 (ptr (H.next+1) 0) v8 H') λH6=>opt (aH 5 (ptr (H.next+1) 0) H6) λv9=>R (.tuple #[v9,vi e]) H6:=by
  intro w lv e H' R g1 g2 hpl hR;simp only[aBH t w g1,qM t w hpl hz g2,aBH t w (AH.get_put_self _ _ (AH.lt_cells g2)),aL,aD];exact hR
 simp only[dV,Bool.not_true,aL,aD,aM];unfold eL at hQ;have k24:=x4.cells k2;have x24:=x2.trans x4
 by_cases h0:path=[]
 ·subst h0
  simp only[show cH .eql (str []) (.string ⟨#[]⟩)=some (vb true) from eI [] [],AH.next_new_z,aL,aD,aS];refine fin ⟨c,[],0⟩ aZ 2 H4 Q k4 k24 rfl (hQ aZ _ (x24.put (b:=H.next+1) (by omega) _) ?_ (by simp[eQ,blk]))
  simpa[cL] using Rows.nil _ 1 none
 have h0':cH .eql (str path) (.string ⟨#[]⟩)=some (vb false):=by
  show cH .eql (str path) (str [])=_
  rw[eI];simp[h0]
 by_cases h1:120<path.length
 ·have h1':(120:Int)<path.length:=by omega
  simp only[h0',dN,bL,gt_iff_lt,h1',decide_true,aL,aD,aS,aM];simp only[h0,h1,if_false,if_true]at hQ;refine fin ⟨c,[],0⟩ aZ 36 H4 Q k4 k24 rfl (hQ aZ _ (x24.put (b:=H.next+1) (by omega) _) ?_ (by simp[eQ,blk]))
  simpa[cL] using Rows.nil _ 1 none
 have h1':¬ (120:Int)<path.length:=by omega
 simp only[h0,h1,if_false]at hQ
 have join:∀ (a:aG) (H':AH),Ext H H'->H'.get H2.next = .cells (dE t ⟨a,[],0⟩ aZ) none->H'.get (H.next+1) = .cells [.pointer none,vi 0,u16 0#16,aZ,vi 0] none ->
   (∀ lv H',Ext H H'->Rows H' 1 lv (cL (dR path))->eQ H.next lv->Q (.tuple #[aEq t ⟨a,dR path,0⟩ lv,vi 0]) H')->F.f134_j1 E Q (str path) (ptr (H.next+1) 0) (ptr H2.next 0) H':=by
  intro a H' e g1 g2 hQ';simp only[F.f134_j1];refine S.f136 hE path (by omega) λlv H5 e5 g5 f5 =>?_
  have m1:=e5.cells g1;have m2:=e5.cells g2;have hpl:=g5.plain
  have hst:aR (ptr H2.next 3) lv H5=some (H5.put H2.next (.cells (dE t ⟨a,dR path,0⟩ lv) none)):=by
   rw[aO,if_pos hpl,m1];rfl
  simp only[aJ,Nat.zero_add,hst,aL,aD];have l1:=AH.lt_cells m1;refine fin ⟨a,dR path,0⟩ lv 0 _ Q (AH.get_put_self _ _ l1) (by rw[AH.get_put_ne _ _ (by omega)];exact m2) hpl (hQ' lv _ (((e.trans e5).put (b:=H2.next) (by omega) _).put (b:=H.next+1) (by omega) _) ?_ (λb hb=>Nat.le_trans e.1 (f5 b hb)))
  have hb:∀ b,blk lv=some b->b≠H2.next/\b≠H.next+1:=λb hb=>by
   have:=f5 b hb;have:=AH.lt_cells g1;have:=AH.lt_cells g2;omega
  exact(g5.keep λb hb' _=>by rw[AH.get_put_ne _ _ (hb b hb').2,AH.get_put_ne _ _ (hb b hb').1]).toRows
 obtain⟨ch,tl,rfl⟩:∃ ch tl,path=ch :: tl:=by
  cases path with
  | nil=>exact(h0 rfl).elim
  | cons ch tl=>exact⟨ch,tl,rfl⟩
 have hix:eZ (str (ch :: tl)) (vi 0)=some (.int .u8 ch.toNat):=rfl
 by_cases hc:ch=47
 ·subst hc
  have hc':aA .eql (.int .u8 (UInt8.toNat 47)) (.int .u8 47)=some (vb true):=rfl;obtain⟨⟨p,m,L,q,nx,h1,h2,h3⟩,ho⟩:=h.mono x24;simp only[h0',dN,bL,gt_iff_lt,h1',decide_false,hix,hc',aY,aJ,aE,Nat.zero_add,h1,bB,List.getElem?_cons_succ,List.getElem?_cons_zero,aL,aD,aS,aM];refine S.f44 hE λH5 e5 =>?_;refine⟨by rw[aE,aE,e5.cells h1,h1],?_⟩
  refine S.f38 hE q M nx ⟨0,1#16⟩ (h3.mono e5) ho λH6 e6 =>?_;have m1:=e6.cells (e5.cells k4)
  have hst:storeN 2 (ptr H2.next 1) (seen M ⟨0,1#16⟩).v H6=some (H6.put H2.next (.cells (dE t ⟨seen M ⟨0,1#16⟩,[],0⟩ aZ) none)):=by
   rw[bJ,m1];rfl
  simp only[aJ,Nat.zero_add,hst,AH.next_new_z,aL,aD];refine join (seen M ⟨0,1#16⟩) _ ((x24.trans (e5.trans e6)).put (b:=H2.next) (by omega) _) (AH.get_put_self _ _ (AH.lt_cells m1)) (by rw[AH.get_put_ne _ _ (by omega)];exact e6.cells (e5.cells k24)) ?_
  simpa[bT] using hQ
 ·have hc':aA .eql (.int .u8 ch.toNat) (.int .u8 47)=some (vb false):=by
   have:¬ ch.toNat=47:=λe=>hc (UInt8.toNat_inj.1 e)
   show some (vb (((ch.toNat:Int)) == 47))=_
   congr 2
   simp;omega
  simp only[h0',dN,bL,gt_iff_lt,h1',decide_false,hix,hc',aL,aD,aM];refine join c _ x24 k4 k24 ?_
  simpa[hc] using hQ
theorem aBy{α:Type}(L:List α)(r r':α):(L++[r]).set L.length r'=L++[r']:=by
 rw[List.set_append_right _ _ (Nat.le_refl _),Nat.sub_self];rfl
theorem aDk{α:Type}(L:List α)(r:α):(L++[r]).eraseIdx L.length=L:=by
 rw[List.eraseIdx_append_of_length_le (Nat.le_refl _),Nat.sub_self];simp
theorem aD6{α:Type}(L:List α)(r x:α){k:Nat}(hk:k<L.length):(L++[r]).set k x=L.set k x++[r]:=List.set_append_left _ _ hk
theorem aAy{α:Type}{L:List α}{k:Nat}{r:α}(h:L[k]? = some r):k<L.length:=(List.getElem?_eq_some_iff.1 h).1
theorem pK{α:Type}{L:List α}{k:Nat}{r:α}(h:L[k]? = some r)(x:α):(L.set k x)[k]? = some x:=by
 have:=aAy h;simp[this]
theorem uT{α:Type}{L:List α}{k:Nat}{r:α}(h:L[k]? = some r)(x:α):(L++[x])[k]? = some r:=by
 rw[List.getElem?_append_left (aAy h)];exact h
def qK(M:List aX)(w:fV)(text:List UInt8):fV×Int :=
 if 8<w.links+1 then(⟨w.at_,w.left,w.links+1⟩,40) else(⟨if text.head? = some 47 then seen M bT else w.at_,dR text++w.left,w.links+1⟩,0)
theorem S.f137(hE:bF E)(h:lU H0 t T M){w:fV}{lv:Value}{k b:Nat}(hs:Has H0 Z H L)(hk:L[k]? = some (bE b (dE t w lv)))(hl:Rows Z 1 lv (cL w.left))(hn:w.left.length<2 ^ 40)(hlk:w.links<=100)(text:List UInt8)(ht:text≠[]/\text.length<=120)(hQ:∀ lv' Z' H',Fz H0.next Z Z'->Has H0 Z' H' (L.set k (bE b (dE t (qK M w text).1 lv')))->Rows Z' 1 lv' (cL (qK M w text).1.left)->Q (vi (qK M w text).2) H'):E.call 82 [ptr b 0,str text] H Q:=by
 apply hE.f137;have hb:=hs.box hk;have hadd:aA .add (vi (w.links:Nat)) (vi 1)=some (vi ((w.links+1:Nat):Int)):=cS (by omega)
 have hst:aR (ptr b 4) (vi ((w.links+1:Nat):Int)) H=some (H.put b (.cells (dE t ⟨w.at_,w.left,w.links+1⟩ lv) none)):=by
  rw[aO,if_pos (show plain1 (vi ((w.links+1:Nat):Int))=true from rfl),hb];rfl
 have h1:=hs.put hk (dE t ⟨w.at_,w.left,w.links+1⟩ lv);have hk1:=pK hk (bE b (dE t ⟨w.at_,w.left,w.links+1⟩ lv));have c4:(dE t w lv)[4]? = some (vi (w.links:Nat)):=rfl;simp only[F.f137,aY,aJ,aE,Nat.zero_add,hb,bB,c4,hadd,hst,aL,aD];generalize H.put b (.cells (dE t ⟨w.at_,w.left,w.links+1⟩ lv) none)=H1 at *;have hb1:=h1.box hk1;have c41:(dE t ⟨w.at_,w.left,w.links+1⟩ lv)[4]? = some (vi ((w.links+1:Nat):Int)):=rfl;unfold qK at hQ
 by_cases h8:8<w.links+1
 ·have h8':(8:Int)<((w.links+1:Nat):Int):=by omega
  simp only[hb1,bB,c41,bL,gt_iff_lt,h8',decide_true,aL,aD,aS];rw[if_pos h8]at hQ;exact hQ lv Z H1 (Fz.refl _ _) h1 hl
 rw[if_neg h8]at hQ;have h8':¬ (8:Int)<((w.links+1:Nat):Int):=by omega
 obtain⟨ch,tl,rfl⟩:∃ ch tl,text=ch :: tl:=by
  cases text with
  | nil=>exact(ht.1 rfl).elim
  | cons ch tl=>exact⟨ch,tl,rfl⟩
 have hix:eZ (str (ch :: tl)) (vi 0)=some (.int .u8 ch.toNat):=rfl
 have join:∀ (a:aG) (H':AH),Has H0 Z H' (L.set k (bE b (dE t ⟨a,w.left,w.links+1⟩ lv))) ->
   (∀ lv' Z' H',Fz H0.next Z Z'->Has H0 Z' H' (L.set k (bE b (dE t ⟨a,dR (ch :: tl)++w.left,w.links+1⟩ lv')))->Rows Z' 1 lv' (cL (dR (ch :: tl)++w.left))->Q (vi 0) H')->F.f137_j1 E Q (ptr b 0) (str (ch :: tl)) H':=by
  intro a H' g hQ';have hkk:=pK hk (bE b (dE t ⟨a,w.left,w.links+1⟩ lv));have gb:=g.box hkk;have c3:(dE t ⟨a,w.left,w.links+1⟩ lv)[3]? = some lv:=rfl;simp only[F.f137_j1,aY,aJ,aE,Nat.zero_add,gb,bB,c3,aL,aD];refine S.f136 hE _ (by omega) λv H5 e5 g5 f5 =>?_
  have hpl:=qU (ch :: tl)
  have g1:Has H0 Z H5 (L.set k (bE b (dE t ⟨a,w.left,w.links+1⟩ lv))++[cQ 1 v (cL (dR (ch :: tl)))]) :=
   g.add _ e5 g5 (λx hx=>⟨f5 x (bZ.1 hx),g5.blk_lt (bZ.1 hx)⟩) (mG v)
  generalize hLL:L.set k (bE b (dE t ⟨a,w.left,w.links+1⟩ lv))=LL at *;have gb5:=g1.box (uT hkk _);refine⟨by rw[aE,aE,gb5,gb],?_⟩
  have hx:=hl.sub g1.sub;have hkl:(LL++[cQ 1 v (cL (dR (ch :: tl)))])[LL.length]? = some (cQ 1 v (cL (dR (ch :: tl)))):=by simp
  simp only[List.length_cons]at ht hpl;obtain⟨v',H6,a1,a2,a3⟩:=g1.app hkl (bytes:=16) hx (by intro r hr;simp only[cL,List.mem_map]at hr;obtain⟨_,_,rfl⟩:=hr;rfl) (by decide) (by decide) (by rw[dP,dP];omega) (by rw[dP,dP];omega)
  rw[aBy]at a3;have gb6:=a3.box (uT hkk _)
  have hst2:aR (ptr b 3) v' H6=some (H6.put b (.cells (dE t ⟨a,dR (ch :: tl)++w.left,w.links+1⟩ v') none)):=by
   rw[aO,if_pos a2,gb6];rfl
  have a4:=a3.put (uT hkk _) (dE t ⟨a,dR (ch :: tl)++w.left,w.links+1⟩ v');rw[aD6 _ _ _ (aAy hkk)]at a4;have hlen:(LL.set k (bE b (dE t ⟨a,dR (ch :: tl)++w.left,w.links+1⟩ v'))).length=LL.length:=by simp
  obtain⟨Z',z1,z2,z3⟩:=a4.freeze (k:=LL.length) (r:=cQ 1 v' (cL (dR (ch :: tl))++cL w.left)) (by rw[<- hlen];simp)
  rw[<- hlen,aDk]at z3;subst hLL;rw[List.set_set]at z3;simp only[a1,aY,aJ,Nat.zero_add,hst2,aL,eJ,aD];refine hQ' v' Z' _ z1 z3 ?_;have:=cB.toRows z2;rw[<- show cL (dR (ch :: tl))++cL w.left=cL (dR (ch :: tl)++w.left) by simp[cL]]
  exact this
 by_cases hc:ch=47
 ·subst hc
  have hc':aA .eql (.int .u8 (UInt8.toNat 47)) (.int .u8 47)=some (vb true):=rfl;obtain⟨⟨p,m,L',q,nx,q1,q2,q3⟩,ho⟩:=h.mono h1.ext;have c0:(dE t ⟨w.at_,w.left,w.links+1⟩ lv)[0]? = some (ptr t 0):=rfl;simp only[hb1,bB,c41,bL,gt_iff_lt,h8',decide_false,hix,hc',c0,aY,aJ,aE,Nat.zero_add,Nat.add_zero,q1,List.getElem?_cons_succ,List.getElem?_cons_zero,aL,aD,aS,aM];refine S.f44 hE λH5 e5 =>?_;have h5:=h1.grow e5;refine⟨by rw[aE,aE,e5.cells q1,q1],by rw[aE,aE,h5.box hk1,hb1],?_⟩
  refine S.f38 hE q M nx ⟨0,1#16⟩ (q3.mono e5) ho λH6 e6 =>?_;have h6:=h5.grow e6;have hb6:=h6.box hk1
  have hst3:storeN 2 (ptr b 1) (seen M ⟨0,1#16⟩).v H6=some (H6.put b (.cells (dE t ⟨seen M ⟨0,1#16⟩,w.left,w.links+1⟩ lv) none)):=by
   rw[bJ,hb6];rfl
  have h7:=h6.put hk1 (dE t ⟨seen M ⟨0,1#16⟩,w.left,w.links+1⟩ lv);rw[List.set_set]at h7;simp only[aY,aJ,Nat.zero_add,hst3,aL,aD];refine join _ _ h7 ?_
  simpa[bT] using hQ
 ·have hc':aA .eql (.int .u8 ch.toNat) (.int .u8 47)=some (vb false):=by
   have:¬ ch.toNat=47:=λe=>hc (UInt8.toNat_inj.1 e)
   show some (vb (((ch.toNat:Int)) == 47))=_
   congr 2
   simp;omega
  simp only[hb1,bB,c41,bL,gt_iff_lt,h8',decide_false,hix,hc',aL,aD,aM];refine join _ _ h1 ?_
  simpa[hc] using hQ
end
end
section
def Tr.LT(T:Tr):Prop:=∀ n,(T.node n).kind=3#8->(T.node n).text≠[]/\(T.node n).text.length<=120
section
variable {E:Sy}{H H0 Z:AH}{Q:Value->AH->Prop}{t:Nat}{T:Tr}{M:List aX}{L:List Res}
theorem S.f138(hE:bF E)(h:lU H0 t T M)(wf:T.WF)(lt:T.LT){w:fV}{lv:Value}{k b:Nat}(hs:Has H0 Z H L)(hk:L[k]? = some (bE b (dE t w lv)))(hl:Rows Z 1 lv (cL w.left))(hn:w.left.length<2 ^ 40)(hlk:w.links<=100)(hne:w.left≠[])(follow:Bool)(hQ:∀ lv' Z' H',Fz H0.next Z Z'->Has H0 Z' H' (L.set k (bE b (dE t (dI T M w follow).1 lv')))->Rows Z' 1 lv' (cL (dI T M w follow).1.left)->Q (vi (dI T M w follow).2) H'):E.call 43 [ptr b 0,vb follow] H Q:=by
 apply hE.f138;obtain⟨a0,left,links⟩:=w;cases left with
 | nil=>exact(hne rfl).elim
 | cons name left =>
 have hb:=hs.box hk;have hl1:=hl.sub hs.sub;obtain⟨b1,o1,p1,p2,_⟩:=tO hl1 (i:=0) (by simp)
 have p1:aP 1 lv (vi 0)=some (ptr b1 o1):=p1;have p2:(H.get b1).cell o1=some (str name):=p2;have hlenL:(cL (name :: left)).length=left.length+1:=by simp[cL]
 obtain⟨s1,_⟩:=hl1.slice' (lo:=some (vi (1:Nat))) (hi:=none) (i:=1) (j:=left.length+1) (.inl rfl) (.inr ⟨rfl,by rw[hlenL]⟩) (by omega) (by rw[hlenL];exact Nat.le_refl _)
 obtain⟨_,s2⟩:=hl.slice' (lo:=some (vi (1:Nat))) (hi:=none) (i:=1) (j:=left.length+1) (.inl rfl) (.inr ⟨rfl,by rw[hlenL]⟩) (by omega) (by rw[hlenL];exact Nat.le_refl _)
 rw[List.take_of_length_le (by rw[hlenL];exact Nat.le_refl _)]at s2
 have s2:Rows Z 1 (gZ 1 lv 1 (left.length+1)) (cL left):=by simpa[cL] using s2
 have s1:dQ 1 lv (some (vi 1)) none none H=some (gZ 1 lv 1 (left.length+1)):=s1;have hpl:=s2.plainV;generalize gZ 1 lv 1 (left.length+1)=lv1 at *
 have hst:aR (ptr b 3) lv1 H=some (H.put b (.cells (dE t ⟨a0,left,links⟩ lv1) none)):=by
  rw[aO,if_pos hpl,hb];rfl
 have h1:=hs.put hk (dE t ⟨a0,left,links⟩ lv1);have hk1:=pK hk (bE b (dE t ⟨a0,left,links⟩ lv1));have c3:(dE t ⟨a0,name :: left,links⟩ lv)[3]? = some lv:=rfl;simp only[F.f138,hb,c3,p1,p2,s1,hst,aI];generalize H.put b (.cells (dE t ⟨a0,left,links⟩ lv1) none)=H1 at *;have hb1:=h1.box hk1;have c0:(dE t ⟨a0,left,links⟩ lv1)[0]? = some (ptr t 0):=rfl;have hlo:aH 2 (ptr b 1) H1=some a0.v:=by rw[aQ,hb1];rfl
 simp only[hb1,c0,hlo,aI];refine S.f130 hE (h.mono h1.ext) a0 λH2 e2 =>?_;have h2:=h1.grow e2;have hb2:=h2.box hk1
 have fin:∀ (a:aG) (e:Int) (H':AH),Has H0 Z H' (L.set k (bE b (dE t ⟨a,left,links⟩ lv1)))->(dI T M ⟨a0,name :: left,links⟩ follow)=(⟨a,left,links⟩,e)->Q (vi e) H':=by
  intro a e H' g he;rw[he]at hQ;exact hQ lv1 Z H' (Fz.refl _ _) g s2
 simp only[dV,aI];cases hd:gK T M a0 with
 | false =>
  simp only[Bool.not_false,aS];refine fin a0 20 _ h2 ?_;simp[dI,hd]
 | true =>
 simp only[Bool.not_true,aM]
 by_cases hdd:name=[46,46]
 ·have hdd':cH .eql (str name) (.string ⟨#[46,46]⟩)=some (vb true):=by
   show cH .eql (str name) (str [46,46])=_
   rw[eI];simp[hdd]
  have hlo2:aH 2 (ptr b 1) H2=some a0.v:=by rw[aQ,hb2];rfl
  simp only[hdd',hb2,c0,hlo2,aI];refine S.f133 hE (h.mono h2.ext) a0 λH3 e3 =>?_;have h3:=h2.grow e3;have hb3:=h3.box hk1
  have hst3:storeN 2 (ptr b 1) (upP T M a0).v H3=some (H3.put b (.cells (dE t ⟨upP T M a0,left,links⟩ lv1) none)):=by
   rw[bJ,hb3];rfl
  have h4:=h3.put hk1 (dE t ⟨upP T M a0,left,links⟩ lv1);rw[List.set_set]at h4;have hk4:=pK hk (bE b (dE t ⟨upP T M a0,left,links⟩ lv1));generalize hu:upP T M a0=u at *;simp only[hst3,aI];generalize H3.put b (.cells (dE t ⟨u,left,links⟩ lv1) none)=H4 at *;have hb4:=h4.box hk4;obtain⟨⟨p,m,L',q,nx,q1,q2,q3⟩,ho⟩:=h.mono h4.ext;have c04:(dE t ⟨u,left,links⟩ lv1)[0]? = some (ptr t 0):=rfl;have c24:(dE t ⟨u,left,links⟩ lv1)[2]? = some (u16 u.i):=rfl;simp only[hb4,c04,c24,q1,aI];refine S.f8 hE q2 u.i ?_;have hlo4:aH 2 (ptr b 1) H4=some u.v:=by rw[aQ,hb4];rfl
  rcases q2.get u.i with ⟨k0,_⟩ | ⟨kk,yy,k0,k1,k2,k3,k4⟩
  ·simp[dO q2.cov k0]
   refine fin u 0 _ h4 ?_;simp[dI,hd,hdd,hu,k0]
  ·simp[-aQ,bG q2.cov.nd k1,aCM,hb4,c04,hlo4]
   refine S.f130 hE (h.mono h4.ext) u λH5 e5 =>?_;have h5:=h4.grow e5;cases hdu:gK T M u with
   | false =>
    simp;refine fin u 2 _ h5 ?_;simp[dI,hd,hdd,hu,k0,hdu]
   | true =>
    simp;refine fin u 0 _ h5 ?_;simp[dI,hd,hdd,hu,k0,hdu]
 have hdd':cH .eql (str name) (.string ⟨#[46,46]⟩)=some (vb false):=by
  show cH .eql (str name) (str [46,46])=_
  rw[eI];simp[hdd]
 by_cases h14:14<name.length
 ·have h14':(14:Int)<name.length:=by omega
  simp only[hdd',dN,bL,gt_iff_lt,h14',decide_true,aI];refine fin a0 36 _ h2 ?_;simp[dI,hd,hdd,h14]
 have h14':¬ (14:Int)<name.length:=by omega
 obtain⟨⟨p,m,L',q,nx,q1',q2',q3'⟩,ho⟩:=id h;have q1:=h2.ext.cells q1';have q2:=q2'.mono h2.ext;have q3:=q3'.mono h2.ext;have c2:(dE t ⟨a0,left,links⟩ lv1)[2]? = some (u16 a0.i):=rfl;simp only[hdd',dN,bL,gt_iff_lt,h14',decide_false,hb2,c0,c2,q1,aI];refine S.f10 hE q2 a0.i name ?_
 have hstep:dI T M ⟨a0,name :: left,links⟩ follow=if(T.look a0.i name).2≠0 then(⟨a0,left,links⟩,(T.look a0.i name).2) else
   if(T.node (T.look a0.i name).1).kind=3#8/\(follow=true\/left≠[]) then qK M ⟨a0,left,links⟩ (T.node (T.look a0.i name).1).text
   else if(T.node (T.look a0.i name).1).kind=2#8 then(⟨seen M ⟨a0.m,(T.look a0.i name).1⟩,left,links⟩,0) else(⟨⟨a0.m,(T.look a0.i name).1⟩,left,links⟩,0):=by
  simp[dI,hd,hdd,h14,qK]
 rw[hstep]at fin hQ;have hlook:(T.look a0.i name).2=0->(T.node (T.look a0.i name).1).kind≠0#8:=λe=>(wf.pos (Tr.look_ok e).2).2.2.2.1;generalize T.look a0.i name=lk at *;simp only[dU,bR,aI]
 by_cases he:lk.2=0
 rotate_left
 ·simp only[ne_eq,he,not_false_eq_true,decide_true,aS]
  refine fin a0 lk.2 _ h2 ?_;simp[he]
 rw[if_neg (by simpa using he)]at fin hQ
 simp only[ne_eq,he,not_true,decide_false,hb2,c0,q1,aI];refine S.f8 hE q2 lk.1 ?_;rcases q2'.get lk.1 with ⟨k0,_⟩ | ⟨kk,yy,k0,k1,k2,k3',k4⟩
 ·exact(hlook he k0).elim
 have k3:=h2.ext.cells k3';simp only[bG q2.cov.nd k1,k3,inC,aI];have hl2:=kR (s2.sub h2.sub);have c3':(dE t ⟨a0,left,links⟩ lv1)[3]? = some lv1:=rfl;have c1':(dE t ⟨a0,left,links⟩ lv1)[1]? = some (vi a0.m):=rfl;have hnp:=bG q2.cov.nd k1;have hnl:left.length<2 ^ 40:=by simp only[List.length_cons]at hn;omega
 have stay:¬ ((T.node lk.1).kind=3#8/\(follow=true\/left≠[])) -> 
   opt (aF (ptr b 0)) λv94=>opt (aB v94 1) λv95=>opt (aB v95 0) λv96=>opt (aC v96 H2) λv97 =>
    opt (aV [(0,1),(1,1)] #[vi 0,(.int .u16 0)] [(0,v97),(1,u16 lk.1)]) λv98 =>
    opt (aF (ptr b 0)) λv99=>opt (aB v99 1) λv100=>opt (storeN 2 v100 v98 H2) λH28 =>
    opt (aF (iU L' lk.1)) λv101=>opt (aB v101 1) λv102=>opt (aC v102 H28) λv103=>opt (aA .eql v103 (.int .u8 2)) λv104 =>
    ifB v104 (opt (aF (ptr b 0)) λv105=>opt (aB v105 0) λv106=>opt (aC v106 H28) λv107=>opt (aF v107) λv108=>opt (aB v108 1) λv109=>opt (aC v109 H28) λv110 =>
     opt (aF (ptr b 0)) λv111=>opt (aB v111 1) λv112=>opt (aH 2 v112 H28) λv113 =>
     E.call 78 [v110,v113] H28 λv114 H29=>opt (aF (ptr b 0)) λv115=>opt (aB v115 1) λv116=>opt (storeN 2 v116 v114 H29) λH30=>Q (vi 0) H30) (Q (vi 0) H28):=by
  intro hnf;rw[if_neg hnf]at fin
  have hst5:storeN 2 (ptr b 1) (aG.v ⟨a0.m,lk.1⟩) H2=some (H2.put b (.cells (dE t ⟨⟨a0.m,lk.1⟩,left,links⟩ lv1) none)):=by
   rw[bJ,hb2];rfl
  have h5:=h2.put hk1 (dE t ⟨⟨a0.m,lk.1⟩,left,links⟩ lv1);rw[List.set_set]at h5;have hk5:=pK hk (bE b (dE t ⟨⟨a0.m,lk.1⟩,left,links⟩ lv1));simp only[hb2,c1',aDI,hst5,aI];generalize H2.put b (.cells (dE t ⟨⟨a0.m,lk.1⟩,left,links⟩ lv1) none)=H5 at *;have hb5:=h5.box hk5;have w1:=h5.ext.cells q1';have w3:=q3'.mono h5.ext;have c05:(dE t ⟨⟨a0.m,lk.1⟩,left,links⟩ lv1)[0]? = some (ptr t 0):=rfl
  have hk:aC (ptr yy.blk 1) H5=some (u8 (T.node lk.1).kind):=by
   rw[aE,h5.ext.cells k3'];rfl
  simp only[hnp,hk,aI]
  by_cases h2k:(T.node lk.1).kind=2#8
  ·have e2:aA .eql (u8 (T.node lk.1).kind) (.int .u8 2)=some (vb true):=by
    show aA .eql (u8 (T.node lk.1).kind) (u8 2#8)=_
    rw[fH];simp[h2k]
   have hlo5:aH 2 (ptr b 1) H5=some (aG.v ⟨a0.m,lk.1⟩):=by rw[aQ,hb5];rfl
   simp only[e2,hb5,c05,w1,hlo5,aI];refine S.f38 hE q M nx ⟨a0.m,lk.1⟩ w3 ho λH6 e6 =>?_;have h6:=h5.grow e6;have hb6:=h6.box hk5
   have hst6:storeN 2 (ptr b 1) (seen M ⟨a0.m,lk.1⟩).v H6=some (H6.put b (.cells (dE t ⟨seen M ⟨a0.m,lk.1⟩,left,links⟩ lv1) none)):=by
    rw[bJ,hb6];rfl
   have h7:=h6.put hk5 (dE t ⟨seen M ⟨a0.m,lk.1⟩,left,links⟩ lv1);rw[List.set_set]at h7;simp only[hst6,aI];exact fin _ 0 _ h7 (by rw[if_pos h2k])
  ·have e2:aA .eql (u8 (T.node lk.1).kind) (.int .u8 2)=some (vb false):=by
    show aA .eql (u8 (T.node lk.1).kind) (u8 2#8)=_
    rw[fH];simp[h2k]
   simp only[e2,aI];exact fin _ 0 _ h5 (by rw[if_neg h2k])
 by_cases hk3:(T.node lk.1).kind=3#8
 ·have ht:=lt lk.1 hk3
  by_cases hf:follow=true\/left≠[]
  ·rw[if_pos ⟨hk3,hf⟩]at hQ
   have hfol:=S.f137 (Q:=λv H=>Q v H) hE h h2 hk1 s2 hnl hlk (T.node lk.1).text ht (λlv' Z' H' z1 z2 z3=>hQ lv' Z' H' z1 (by rwa [List.set_set]at z2) z3)
   cases follow with
   | true =>
    simp[hk3,hnp,k3,inC];exact hfol
   | false =>
    have hpos:0<left.length:=List.length_pos_iff.2 (by simpa using hf)
    simp[hk3,hnp,k3,inC,hb2,c3',hl2,hpos];exact hfol
  ·have hf1:follow=false:=by cases follow<;>simp_all
   have hf2:left=[]:=by
    refine Classical.byContradiction λhc=>hf (.inr hc)
   have st2:=stay λhc=>hf hc.2;subst hf1;subst hf2
   have e3:aA .eql (u8 (T.node lk.1).kind) (.int .u8 3)=some (vb true):=by
    show aA .eql (u8 (T.node lk.1).kind) (u8 3#8)=_
    rw[fH];simp[hk3]
   have hl3:AM.lenSlc lv1=some (vi 0):=hl2;simp only[e3,dT,kA,hb2,c3',hl3,bL,gt_iff_lt,Int.lt_irrefl,decide_false,aU,bC,aI];simp only[hb2,aI]at st2;exact st2
 ·have st2:=stay λhc=>hk3 hc.1
  have e3:aA .eql (u8 (T.node lk.1).kind) (.int .u8 3)=some (vb false):=by
   show aA .eql (u8 (T.node lk.1).kind) (u8 3#8)=_
   rw[fH];simp[hk3]
  simp only[e3,gM,aBa,bC,hb2,aI];simp only[hb2,aI]at st2;exact st2
end
end
section
section
variable {E:Sy}{H H' H0 Z:AH}{Q:Value->AH->Prop}{t:Nat}{T:Tr}{M:List aX}{L:List Res}
theorem Has.callee(h:Has H0 Z H L)(e:Ext H H'):∃ Z',Fz H.next Z Z'/\Has H0 Z' H' L/\∀ sz v rows,Rows H' sz v rows->eQ H.next v->Rows Z' sz v rows:=by
 have hg:∀ b,(AH.mk H'.next λb=>if b<H.next then Z.get b else H'.get b).get b=if b<H.next then Z.get b else H'.get b:=by
  intro b;simp only[AH.get]
  by_cases hb:b<H'.next
  ·rw[if_pos hb]
  ·have h1:¬ b<H.next:=λhb'=>hb (Nat.lt_of_lt_of_le hb' e.1)
   have h2:¬ b<H'.next:=hb;simp[h1,h2]
 refine⟨⟨H'.next,λb=>if b<H.next then Z.get b else H'.get b⟩,⟨⟨Nat.le_trans h.sub.1 e.1,λb hb =>?_⟩,λb hb=>by rw[hg,if_pos hb]⟩,?_,?_⟩
 ·rw[hg]
  split
  ·rfl
  ·rename_i hn
   exact(hb (AH.get_ge _ (Nat.le_trans h.sub.1 (by omega)))).elim
 ·refine h.refreeze e ⟨⟨Nat.le_trans h.sub.1 e.1,λb hb =>?_⟩,λb hb=>by rw[hg,if_pos hb]⟩ ⟨Nat.le_refl _,λb hb =>?_⟩
  ·rw[hg]
   split
   ·rfl
   ·rename_i hn
    exact(hb (AH.get_ge _ (Nat.le_trans h.sub.1 (by omega)))).elim
  ·rw[hg]at hb ⊢
   split
   ·rename_i hlt
    rw[if_pos hlt]at hb;rw[e.get hlt];exact h.sub.2 b hb
   ·rfl
 ·intro sz v rows hr hf
  refine⟨hr.len,?_⟩;rcases hr.at_ with g | ⟨b,o,c,g1,g2,g3,g4⟩
  ·exact .inl g
  ·by_cases hrn:rows=[]
   ·have hz:¬ b<H.next:=by
     have:=hf b (by rw[g1];rfl)
     omega
    exact .inr ⟨b,o,c,g1,g2,by rw[hg,if_neg hz];exact g3,by rw[hg,if_neg hz];exact g4⟩
   ·have hz:¬ b<H.next:=by
     have:=hf b (by rw[g1];rfl)
     omega
    exact .inr ⟨b,o,c,g1,g2,by rw[hg,if_neg hz];exact g3,by rw[hg,if_neg hz];exact g4⟩
theorem kG(lt:T.LT){w:fV}(follow:Bool)(hne:w.left≠[])(hlk:w.links<=8)(h0:(dI T M w follow).2=0):(dI T M w follow).1.need<w.need/\(dI T M w follow).1.links<=8:=by
 obtain⟨a,left,links⟩:=w;cases left with
 | nil=>exact(hne rfl).elim
 | cons name left =>
  have hlk:links<=8:=hlk
  have stay:∀ a':aG,(fV.mk a' left links).need<(fV.mk a (name :: left) links).need/\(fV.mk a' left links).links<=8:=by
   intro a';refine⟨?_,hlk⟩;simp only[fV.need,List.length_cons];omega
  revert h0
  unfold dI;simp only
  split
  ·intro h;simp at h
  split
  ·split
   ·intro h;simp at h
   ·intro _;exact stay _
  split
  ·intro h;simp at h
  split
  ·rename_i h4
   intro h;exact(h4 h).elim
  split
  ·rename_i h5
   split
   ·intro h;simp at h
   ·rename_i h6
    intro _;have ht:=(lt _ h5.1).2;have hp:=qU (T.node (T.look a.i name).1).text;refine⟨?_,by show links+1<=8;omega⟩
    simp only[fV.need,List.length_cons,List.length_append];omega
  ·split
   ·intro _;exact stay _
   ·intro _;exact stay _
theorem tK(lt:T.LT)(follow:Bool):∀ (n:Nat) (w:fV),w.need<=n->w.links<=8->mN T M follow n w=mN T M follow (n+1) w
 | 0,w,h,hl=>by
  have:w.left=[]:=List.eq_nil_of_length_eq_zero (by unfold fV.need at h;omega)
  simp[mN,this]
 | n+1,w,h,hl=>by
  rw[mN,mN]
  split
  ·rfl
  ·rename_i hne
   split
   ·rfl
   ·rename_i h0
    have:=kG (M:=M) lt follow hne hl (by simpa using h0)
    exact tK lt follow n _ (by omega) this.2
theorem tG(lt:T.LT)(follow:Bool)(w:fV)(hl:w.links<=8):∀ (d n:Nat),w.need<=n->mN T M follow (n+d) w=mN T M follow n w
 | 0,_,_=>rfl
 | d+1,n,h=>by rw[<- Nat.add_assoc,<- tK lt follow (n+d) w (by omega) hl,tG lt follow w hl d n h]
theorem qJ(follow:Bool){w:fV}(h:w.left=[]):eE T M follow w=(w,0):=by
 unfold eE;cases w.need<;>simp[mN,h]
theorem oK(lt:T.LT)(follow:Bool){w:fV}(h:w.left≠[])(hl:w.links<=8):eE T M follow w=if(dI T M w follow).2≠0 then dI T M w follow else eE T M follow (dI T M w follow).1:=by
 have hpos:0<w.need:=by
  have:=List.length_pos_iff.2 h;unfold fV.need;omega
 unfold eE;obtain⟨n,hn⟩:∃ n,w.need=n+1:=⟨w.need - 1,by omega⟩
 rw[hn,mN,if_neg h]
 split
 ·rfl
 ·rename_i h0
  have:=kG (M:=M) lt follow h hl (by simpa using h0)
  obtain⟨d,hd⟩:∃ d,n=(dI T M w follow).1.need+d:=⟨n - (dI T M w follow).1.need,by omega⟩
  rw[hd];exact tG lt follow _ this.2 d _ (Nat.le_refl _)
theorem S.f110(hE:bF E)(s:List UInt8)(hs:s.length<2 ^ 63)(hQ:Q (vb (dS s)) H):E.call 42 [str s,str [47]] H Q:=by
 apply hE.f110;simp only[F.f110];apply hE.f27;unfold dS at hQ;cases hs0:s.reverse with
 | nil =>
  obtain rfl:s=[]:=by simpa using hs0
  simp[F.f27]
  simpa using hQ
 | cons c l =>
  obtain rfl:s=l.reverse++[c]:=by
   have:=congrArg List.reverse hs0
   simpa using this
  have hl:((l.reverse++[c]).length:Int)=(l.length:Int)+1:=by simp
  have h1:(1:Int)<=(l.length:Int)+1:=by omega
  simp only[List.length_append,List.length_reverse,List.length_cons,List.length_nil]at hs
  have hsub:aA .sub (vi ((l.length:Int)+1)) (vi 1)=some (vi (l.length:Nat)):=by
   rw[fZ (by omega) (by omega)];simp
  have hsl:jY (str (l.reverse++[c])) (some (vi (l.length:Nat))) none=some (str [c]):=by
   rw[xQ _ _ (by simp)]
   congr 2
   rw[List.drop_append];simp
  simp[F.f27,h1,hsub,hsl]
  simpa using hQ
end
end
section
section
variable {E:Sy}{H H' H0 Z:AH}{Q:Value->AH->Prop}{t:Nat}{T:Tr}{M:List aX}{L:List Res}
theorem lK(M:List aX)(c:aG)(path:List UInt8):(eL M c path).1.links=0/\(eL M c path).1.left.length<=121:=by
 unfold eL
 split
 ·exact⟨rfl,by simp⟩
 ·split
  ·exact⟨rfl,by simp⟩
  ·exact⟨rfl,by have:=qU path;show(dR path).length<=121;omega⟩
theorem jO{rb:Nat}{z:aG}(hz:H.get rb = .cells z.cells none)(p:aG){R:Value->AH->Prop}(hR:R p.v (H.put rb (.cells p.cells none))):
  opt (storeN 2 (ptr rb 0) p.v H) λH3=>opt (aH 2 (ptr rb 0) H3) λv10=>R v10 H3:=by
 have h1:storeN 2 (ptr rb 0) p.v H=some (H.put rb (.cells p.cells none)):=by rw[bJ,hz];rfl
 have h2:aH 2 (ptr rb 0) (H.put rb (.cells p.cells none))=some p.v:=by rw[aQ,AH.get_put_self _ _ (AH.lt_cells hz)];rfl
 simp only[h1,h2,aL,aD];exact hR
theorem S.f131(hE:bF E)(h:lU H t T M)(wf:T.WF)(lt:T.LT)(c:aG)(path:List UInt8)(hp:path.length<2 ^ 63)(follow:Bool)(hQ:∀ H',Ext H H'->Q (.tuple #[(iT T M c path follow).1.v,vi (iT T M c path follow).2]) H'):E.call 14 [ptr t 0,c.v,str path,vb follow] H Q:=by
 apply hE.f131;have g0:Has H H H []:=Has.start (Ext.refl H);have g1:=g0.newbox c.cells;have g2:=g1.newbox aG.zero.cells;have hz2:([vi 0,(.int .u16 0)]:List Value)=aG.zero.cells:=rfl;simp only[F.f131,fQ,AM.cX,fK,bD,hz2,List.toList_toArray,aL];have hb1:=g2.box (k:=0) rfl;have hl1:aH 2 (ptr H.next 0) ((H.new (.cells c.cells none)).new (.cells aG.zero.cells none))=some c.v:=by rw[aQ,hb1];rfl
 generalize hrb:(H.new (.cells c.cells none)).next=rb at *;simp only[hl1,aI];generalize (H.new (.cells c.cells none)).new (.cells aG.zero.cells none)=H2 at *;refine S.f134 hE (h.mono g2.ext) c path hp λlv H3 e3 r3 f3 =>?_;obtain⟨Z3,z1,g3,z3⟩:=g2.callee e3;have rz:=z3 1 lv _ r3 f3;have hlv:=rz.plainV;have hbg:=lK M c path;unfold iT at hQ;generalize hbw:eL M c path=bw at *;have hz5:([(.pointer none),vi 0,(.int .u16 0),(.slice none 0 0),vi 0]:List Value).length=5:=rfl;have g4:=g3.newbox [(.pointer none),vi 0,(.int .u16 0),(.slice none 0 0),vi 0];have hb4:=g4.box (k:=2) (b:=H3.next) rfl;have hst:=qM t bw.1 hlv hz5 hb4;have g5:=g4.put (k:=2) (b:=H3.next) rfl (dE t bw.1 lv);simp only[dU,bD,hst,aI];generalize hwb:H3.next=wb at *;generalize (H3.new (.cells [(.pointer none),vi 0,(.int .u16 0),(.slice none 0 0),vi 0] none)).put wb (.cells (dE t bw.1 lv) none)=H5 at *;have g5:Has H Z3 H5 [bE H.next c.cells,bE rb aG.zero.cells,bE wb (dE t bw.1 lv)]:=g5;simp only[bR,aI]
 by_cases he:bw.2=0
 rotate_left
 ·simp only[ne_eq,he,not_false_eq_true,decide_true,iJ,aI]
  rw[if_pos (by simpa using he)]at hQ
  refine jO (R:=λv H=>Q (.tuple #[v,vi bw.2]) H) (g5.box (k:=1) rfl) aG.zero ?_;exact hQ _ (g5.put (k:=1) (b:=rb) rfl aG.zero.cells).ext
 rw[if_neg (by simpa using he)]at hQ
 simp only[ne_eq,he,not_true,decide_false,aI];refine S.f110 hE path hp ?_;generalize dS path=slash at *;refine bY.ind (λn ls H'=>∃ w lv Z',n=w.need/\ls=[ptr t 0,vb follow,ptr rb 0,ptr wb 0,vb slash]/\Has H Z' H' [bE H.next c.cells,bE rb aG.zero.cells,bE wb (dE t w lv)]/\Rows Z' 1 lv (cL w.left)/\w.links<=8/\w.need<=5000/\eE T M (follow||slash) w=eE T M (follow||slash) bw.1) ?_ bw.1.need ⟨bw.1,lv,Z3,rfl,rfl,g5,rz,by omega,by unfold fV.need;omega,rfl⟩
 rintro n _ H6 X hX ⟨w,lv,Z',rfl,rfl,g6,r6,hlk,hnd,hww⟩;have hb6:=g6.box (k:=2) (b:=wb) rfl;have c3:(dE t w lv)[3]? = some lv:=rfl;have hl6:=kR (r6.sub g6.sub);have hneed:w.left.length<=w.need:=by unfold fV.need;omega
 by_cases hne:w.left=[]
 ·rw[<- hww,qJ _ hne]at hQ
  simp only[ne_eq,not_true,if_false]at hQ;have hl0:AM.lenSlc lv=some (vi 0):=by rw[hl6,hne];rfl
  obtain⟨⟨p,m,L',q,nx,q1,q2,q3⟩,ho⟩:=h.mono g6.ext;have c2:(dE t w lv)[2]? = some (u16 w.at_.i):=rfl;simp only[F.f131_l1,eF,eR,eW,fR,jZ,hb6,c3,hl0,bL,gt_iff_lt,Int.lt_irrefl,decide_false,q1,c2,aI];refine S.f8 hE q2 w.at_.i ?_;have hz6:=g6.box (k:=1) rfl;rcases q2.get w.at_.i with ⟨k0,_⟩ | ⟨kk,yy,k0,k1,k2,k3,k4⟩
  ·rw[if_pos k0]at hQ
   simp only[dO q2.cov k0,aBE,iJ,aI];refine jO (R:=λv H=>Q (.tuple #[v,vi 2]) H) hz6 aG.zero ?_;exact hQ _ (g6.put (k:=1) (b:=rb) rfl aG.zero.cells).ext
  ·rw[if_neg k0]at hQ
   simp only[bG q2.cov.nd k1,fN,aI];have hlo6:aH 2 (ptr wb 1) H6=some w.at_.v:=by rw[aQ,hb6];rfl
   cases slash with
   | false =>
    simp only[Bool.false_eq_true,false_and,if_false]at hQ;simp only[gM,aBa,bC,hlo6,aI];refine jO (R:=λv H=>Q (.tuple #[v,vi 0]) H) hz6 w.at_ ?_;exact hQ _ (g6.put (k:=1) (b:=rb) rfl w.at_.cells).ext
   | true =>
    simp only[dT,hlo6,aI];refine S.f130 hE (h.mono g6.ext) w.at_ λH7 e7 =>?_;have g7:=g6.grow e7;have hz7:=g7.box (k:=1) rfl;have hlo7:aH 2 (ptr wb 1) H7=some w.at_.v:=by rw[aQ,g7.box (k:=2) (b:=wb) rfl];rfl
    cases hd:gK T M w.at_ with
    | false =>
     simp only[hd,and_self,if_true]at hQ;simp only[dT,dV,Bool.not_false,aU,iJ,aI];refine jO (R:=λv H=>Q (.tuple #[v,vi 20]) H) hz7 aG.zero ?_;exact hQ _ (g7.put (k:=1) (b:=rb) rfl aG.zero.cells).ext
    | true =>
     simp only[hd,Bool.true_eq_false,and_false,if_false]at hQ;simp only[dT,dV,Bool.not_true,aU,hlo7,aI];refine jO (R:=λv H=>Q (.tuple #[v,vi 0]) H) hz7 w.at_ ?_;exact hQ _ (g7.put (k:=1) (b:=rb) rfl w.at_.cells).ext
 ·have hpos:(0:Int)<(w.left.length:Nat):=by have:=List.length_pos_iff.2 hne;omega
  simp only[F.f131_l1,eF,eR,eW,fR,jZ,hb6,c3,hl6,bL,gt_iff_lt,hpos,decide_true,aI]
  have hpk:∀ (K:Value->AH->Prop),K (vb (follow||slash)) H6->gd (vb follow) false (λk=>k (vb slash) H6) H6 λv5 H1=>opt (pick (vb follow) (.bool true) v5) λv6=>K v6 H1:=by
   intro K hK;cases follow<;>simpa using hK
  refine hpk _ ?_;refine S.f138 hE h wf lt (k:=2) (b:=wb) g6 rfl r6 (by omega) (by omega) hne (follow||slash) λlv' Z7 H7 y1 y2 y3 =>?_
  have hst7:=oK (M:=M) lt (follow||slash) hne hlk;have hnd7:=kG (M:=M) lt (follow||slash) hne hlk;have y2:Has H Z7 H7 [bE H.next c.cells,bE rb aG.zero.cells,bE wb (dE t (dI T M w (follow||slash)).1 lv')]:=y2;generalize dI T M w (follow||slash)=st at *;simp only[bR,aI]
  by_cases h0:st.2=0
  ·rw[if_neg (by simpa using h0)]at hst7
   obtain⟨n1,n2⟩:=hnd7 h0;simp only[ne_eq,h0,not_true,decide_false,aI];exact hX _ n1 _ _ ⟨st.1,lv',Z7,rfl,rfl,y2,y3,n2,by omega,by rw[<- hww,hst7]⟩
  ·rw[if_pos (by simpa using h0)]at hst7
   rw[<- hww,hst7,if_pos (by simpa using h0)]at hQ
   simp only[ne_eq,h0,not_false_eq_true,decide_true,iJ,aI];refine jO (R:=λv H=>Q (.tuple #[v,vi st.2]) H) (y2.box (k:=1) rfl) aG.zero ?_;exact hQ _ (y2.put (k:=1) (b:=rb) rfl aG.zero.cells).ext
end
end
section
section
variable {E:Sy}{H H' H0 Z:AH}{Q:Value->AH->Prop}{t:Nat}{T:Tr}{M:List aX}{L:List Res}
def aDX(v:Value)(n:Nat):Value:=match v with | .slice a _ _ => .slice a n n | v=>v
theorem Rows.cut{sz:Nat}{v:Value}{rows:List (List Value)}(h:Rows H sz v rows){n:Nat}(hn:n+1=rows.length):dQ sz v none (some (vi n)) (some (vi n)) H=some (aDX v n)/\Rows H sz (aDX v n) rows.dropLast:=by
 rcases h.at_ with ⟨rfl,_⟩ | ⟨b,o,c,rfl,h2,h3,h4⟩
 ·simp at hn
 ·have hd:rows.dropLast.length=n:=by rw[List.length_dropLast];omega
  have e1:bnd (some (vi n)) c c=some n:=by simp only[bnd];rw[if_pos (by omega)];simp
  have e2:bnd (some (vi n)) rows.length n=some n:=by simp only[bnd];rw[if_pos (by omega)];simp
  have e3:bnd (none:Option Value) 0 n=some 0:=rfl;refine⟨?_,λr hr=>h.len r ((List.dropLast_sublist _).subset hr),.inr ⟨b,o,n,by simp[aDX,hd],by omega,h3,?_⟩⟩
  ·simp only[dQ,Option.isSome_some,Option.isNone_some,Bool.and_false,h3,Bool.or_true,Bool.not_true,Bool.or_self,Bool.false_eq_true,if_false,e1,e2,e3,Option.bind_some]
   rw[if_pos (Nat.le_refl _)];simp only[Nat.sub_zero,aDX]
   congr 2
   split
   ·rfl
   ·simp[Addr.add]
  ·rw[hd]
   have hle:0+n*sz<=rows.length*sz:=by rw[Nat.zero_add];exact Nat.mul_le_mul_right _ (by omega)
   have:=mC h4 hle;rw[Nat.add_zero,List.drop_zero,jU rows h.len]at this;rw[this,List.dropLast_eq_take]
   congr 3
   omega
theorem S.f132(hE:bF E)(h:lU H t T M)(wf:T.WF)(lt:T.LT)(c:aG)(path:List UInt8)(hp:path.length<2 ^ 63)(hQ:∀ H',Ext H H'->Q (.tuple #[(bW T M c path).1.v,str (bW T M c path).2.1,vi (bW T M c path).2.2]) H'):E.call 34 [ptr t 0,c.v,str path] H Q:=by
 apply hE.f132;have g0:Has H H H []:=Has.start (Ext.refl H);have g1:=g0.newbox c.cells;have g2:=g1.newbox aG.zero.cells;have hz2:([vi 0,(.int .u16 0)]:List Value)=aG.zero.cells:=rfl;simp only[F.f132,fQ,AM.cX,fK,bD,hz2,List.toList_toArray,aL];have hb1:=g2.box (k:=0) rfl;have hl1:aH 2 (ptr H.next 0) ((H.new (.cells c.cells none)).new (.cells aG.zero.cells none))=some c.v:=by rw[aQ,hb1];rfl
 generalize hrb:(H.new (.cells c.cells none)).next=rb at *;simp only[hl1,aI];generalize (H.new (.cells c.cells none)).new (.cells aG.zero.cells none)=H2 at *;refine S.f134 hE (h.mono g2.ext) c path hp λlv H3 e3 r3 f3 =>?_;obtain⟨Z3,z1,g3,z3⟩:=g2.callee e3;have rz:=z3 1 lv _ r3 f3;have hlv:=rz.plainV;have hbg:=lK M c path;unfold bW at hQ;generalize hbw:eL M c path=bw at *;have hz5:([(.pointer none),vi 0,(.int .u16 0),(.slice none 0 0),vi 0]:List Value).length=5:=rfl;have g4:=g3.newbox [(.pointer none),vi 0,(.int .u16 0),(.slice none 0 0),vi 0];have hb4:=g4.box (k:=2) (b:=H3.next) rfl;have hst:=qM t bw.1 hlv hz5 hb4;have g5:=g4.put (k:=2) (b:=H3.next) rfl (dE t bw.1 lv);simp only[dU,bD,hst,aI];generalize hwb:H3.next=wb at *;generalize (H3.new (.cells [(.pointer none),vi 0,(.int .u16 0),(.slice none 0 0),vi 0] none)).put wb (.cells (dE t bw.1 lv) none)=H5 at *;have g5:Has H Z3 H5 [bE H.next c.cells,bE rb aG.zero.cells,bE wb (dE t bw.1 lv)]:=g5;simp only[bR,aI]
 by_cases he:bw.2=0
 rotate_left
 ·simp only[ne_eq,he,not_false_eq_true,decide_true,iJ,aI]
  rw[if_pos (by simpa using he)]at hQ
  refine jO (R:=λv H=>Q (.tuple #[v,str [],vi bw.2]) H) (g5.box (k:=1) rfl) aG.zero ?_;exact hQ _ (g5.put (k:=1) (b:=rb) rfl aG.zero.cells).ext
 rw[if_neg (by simpa using he)]at hQ
 have hb5:=g5.box (k:=2) (b:=wb) rfl;have hz6:=g5.box (k:=1) (b:=rb) rfl;obtain⟨⟨a0,left,links⟩,e0⟩:=bw;have c3:(dE t ⟨a0,left,links⟩ lv)[3]? = some lv:=rfl;have hl5:=kR (rz.sub g5.sub);simp only at he hbg hl5 hQ;simp only[ne_eq,he,not_true,decide_false,hb5,c3,hl5,aW,aI]
 by_cases hnil:left=[]
 ·subst hnil
  simp only[List.length_nil,decide_true,iJ,show((0:Nat):Int)=0 from rfl,aI];simp only[List.getLast?_nil]at hQ;refine jO (R:=λv H=>Q (.tuple #[v,str [],vi 16]) H) hz6 aG.zero ?_;exact hQ _ (g5.put (k:=1) (b:=rb) rfl aG.zero.cells).ext
 obtain⟨ini,name,rfl⟩:∃ ini name,left=ini++[name]:=by
  rcases List.eq_nil_or_concat left with h | ⟨ini,name,h⟩
  ·exact(hnil h).elim
  ·exact⟨ini,name,by rw[h,List.concat_eq_append]⟩
 have hlen:(ini++[name]).length=ini.length+1:=by simp
 rw[hlen]at hl5 hbg;have hne:((((ini.length+1:Nat)):Int)=0)=False:=by simp;omega
 have hsub:aA .sub (vi ((ini.length+1:Nat):Int)) (vi 1)=some (vi (ini.length:Nat)):=by
  rw[fZ (by omega) (by omega)];simp
 have r5:=rz.sub g5.sub;obtain⟨b1,o1,p1,p2,_⟩:=tO r5 (i:=ini.length) (by simp)
 have p2:(H5.get b1).cell o1=some (str name):=by simpa using p2
 rw[hlen];simp only[hne,decide_false,hb5,c3,hl5,hsub,p1,p2,aI]
 have hQ:∀ H',Ext H H'->Q (.tuple #[(if name=[46,46] then(aG.zero,([]:aK),(16:Int)) else
   if(eE T M true ⟨a0,ini,links⟩).2≠0 then(aG.zero,[],(eE T M true ⟨a0,ini,links⟩).2)
    else if gK T M (eE T M true ⟨a0,ini,links⟩).1.at_=false then(aG.zero,[],20)
    else if 14<name.length then(aG.zero,[],36)
    else if cP name=false then(aG.zero,[],22)
    else((eE T M true ⟨a0,ini,links⟩).1.at_,name,0)).1.v,str (if name=[46,46] then(aG.zero,([]:aK),(16:Int)) else
   if(eE T M true ⟨a0,ini,links⟩).2≠0 then(aG.zero,[],(eE T M true ⟨a0,ini,links⟩).2)
    else if gK T M (eE T M true ⟨a0,ini,links⟩).1.at_=false then(aG.zero,[],20)
    else if 14<name.length then(aG.zero,[],36)
    else if cP name=false then(aG.zero,[],22)
    else((eE T M true ⟨a0,ini,links⟩).1.at_,name,0)).2.1,vi (if name=[46,46] then(aG.zero,([]:aK),(16:Int)) else
   if(eE T M true ⟨a0,ini,links⟩).2≠0 then(aG.zero,[],(eE T M true ⟨a0,ini,links⟩).2)
    else if gK T M (eE T M true ⟨a0,ini,links⟩).1.at_=false then(aG.zero,[],20)
    else if 14<name.length then(aG.zero,[],36)
    else if cP name=false then(aG.zero,[],22)
    else((eE T M true ⟨a0,ini,links⟩).1.at_,name,0)).2.2]) H':=by
  simpa using hQ
 by_cases hdd:name=[46,46]
 ·rw[if_pos hdd]at hQ
  have hdd':cH .eql (str name) (.string ⟨#[46,46]⟩)=some (vb true):=by
   show cH .eql (str name) (str [46,46])=_
   rw[eI];simp[hdd]
  simp only[hdd',hne,decide_false,iJ,aI];refine jO (R:=λv H=>Q (.tuple #[v,str [],vi 16]) H) hz6 aG.zero ?_;exact hQ _ (g5.put (k:=1) (b:=rb) rfl aG.zero.cells).ext
 rw[if_neg hdd]at hQ
 have hdd':cH .eql (str name) (.string ⟨#[46,46]⟩)=some (vb false):=by
  show cH .eql (str name) (str [46,46])=_
  rw[eI];simp[hdd]
 have hn1:ini.length+1=(cL (ini++[name])).length:=by simp[cL]
 obtain⟨cut1,_⟩:=Rows.cut r5 hn1;obtain⟨_,cut2⟩:=Rows.cut rz hn1;have cut2:Rows Z3 1 (aDX lv ini.length) (cL ini):=by simpa[cL] using cut2
 have hpl:=cut2.plainV;generalize aDX lv ini.length=lv1 at *
 have hst2:aR (ptr wb 3) lv1 H5=some (H5.put wb (.cells (dE t ⟨a0,ini,links⟩ lv1) none)):=by
  rw[aO,if_pos hpl,hb5];rfl
 have g6:=g5.put (k:=2) (b:=wb) rfl (dE t ⟨a0,ini,links⟩ lv1);simp only[hdd',hne,decide_false,hb5,c3,hl5,hsub,p1,p2,cut1,hst2,aI];generalize H5.put wb (.cells (dE t ⟨a0,ini,links⟩ lv1) none)=H6 at *;have g6:Has H Z3 H6 [bE H.next c.cells,bE rb aG.zero.cells,bE wb (dE t ⟨a0,ini,links⟩ lv1)]:=g6;refine bY.ind (λn ls H'=>∃ w lv Z',n=w.need/\ls=[ptr t 0,ptr rb 0,ptr wb 0,str name]/\Has H Z' H' [bE H.next c.cells,bE rb aG.zero.cells,bE wb (dE t w lv)]/\Rows Z' 1 lv (cL w.left)/\w.links<=8/\w.need<=5000/\eE T M true w=eE T M true ⟨a0,ini,links⟩) ?_ (fV.mk a0 ini links).need ⟨⟨a0,ini,links⟩,lv1,Z3,rfl,rfl,g6,cut2,by show links<=8;omega,by unfold fV.need;simp only;omega,rfl⟩
 rintro n _ H7 X hX ⟨w,lw,Z',rfl,rfl,g7,r7,hlk,hnd,hww⟩;have hb7:=g7.box (k:=2) (b:=wb) rfl;have hz7:=g7.box (k:=1) (b:=rb) rfl;have c37:(dE t w lw)[3]? = some lw:=rfl;have hl7:=kR (r7.sub g7.sub);have hneed:w.left.length<=w.need:=by unfold fV.need;omega
 by_cases hne7:w.left=[]
 ·rw[<- hww,qJ _ hne7]at hQ
  simp only[ne_eq,not_true,if_false]at hQ;have hl0:AM.lenSlc lw=some (vi 0):=by rw[hl7,hne7];rfl
  have hlo7:aH 2 (ptr wb 1) H7=some w.at_.v:=by rw[aQ,hb7];rfl
  simp only[F.f132_l1,hb7,c37,hl0,bL,gt_iff_lt,Int.lt_irrefl,decide_false,hlo7,aI];refine S.f130 hE (h.mono g7.ext) w.at_ λH8 e8 =>?_;have g8:=g7.grow e8;have hz8:=g8.box (k:=1) (b:=rb) rfl;have hlo8:aH 2 (ptr wb 1) H8=some w.at_.v:=by rw[aQ,g8.box (k:=2) (b:=wb) rfl];rfl
  cases hd:gK T M w.at_ with
  | false =>
   simp only[hd,if_true]at hQ;simp only[iJ,aI];refine jO (R:=λv H=>Q (.tuple #[v,str [],vi 20]) H) hz8 aG.zero ?_;exact hQ _ (g8.put (k:=1) (b:=rb) rfl aG.zero.cells).ext
  | true =>
   simp only[hd,Bool.true_eq_false,if_false]at hQ
   by_cases h14:14<name.length
   ·rw[if_pos h14]at hQ
    have h14':(14:Int)<name.length:=by omega
    simp only[dN,bL,gt_iff_lt,h14',decide_true,iJ,aI];refine jO (R:=λv H=>Q (.tuple #[v,str [],vi 36]) H) hz8 aG.zero ?_;exact hQ _ (g8.put (k:=1) (b:=rb) rfl aG.zero.cells).ext
   rw[if_neg h14]at hQ;have h14':¬ (14:Int)<name.length:=by omega
   simp only[dN,bL,gt_iff_lt,h14',decide_false,aI];refine S.f2 hE name (by omega) λH9 e9 =>?_
   have g9:=g8.grow e9;have hz9:=g9.box (k:=1) (b:=rb) rfl;have hlo9:aH 2 (ptr wb 1) H9=some w.at_.v:=by rw[aQ,g9.box (k:=2) (b:=wb) rfl];rfl
   cases hok:cP name with
   | false =>
    rw[if_pos hok]at hQ;simp only[iJ,aI];refine jO (R:=λv H=>Q (.tuple #[v,str [],vi 22]) H) hz9 aG.zero ?_;exact hQ _ (g9.put (k:=1) (b:=rb) rfl aG.zero.cells).ext
   | true =>
    rw[if_neg (by rw[hok];simp)]at hQ
    simp only[hlo9,aI];refine jO (R:=λv H=>Q (.tuple #[v,str name,vi 0]) H) hz9 w.at_ ?_;exact hQ _ (g9.put (k:=1) (b:=rb) rfl w.at_.cells).ext
 ·have hpos:(0:Int)<(w.left.length:Nat):=by have:=List.length_pos_iff.2 hne7;omega
  simp only[F.f132_l1,hb7,c37,hl7,bL,gt_iff_lt,hpos,decide_true,aI];refine S.f138 hE h wf lt (k:=2) (b:=wb) g7 rfl r7 (by omega) (by omega) hne7 true λlv' Z7 H7 y1 y2 y3 =>?_
  have hst7:=oK (M:=M) lt true hne7 hlk;have hnd7:=kG (M:=M) lt true hne7 hlk;have y2:Has H Z7 H7 [bE H.next c.cells,bE rb aG.zero.cells,bE wb (dE t (dI T M w true).1 lv')]:=y2;generalize dI T M w true=st at *;simp only[bR,aI]
  by_cases h0:st.2=0
  ·rw[if_neg (by simpa using h0)]at hst7
   obtain⟨n1,n2⟩:=hnd7 h0;simp only[ne_eq,h0,not_true,decide_false,aI];exact hX _ n1 _ _ ⟨st.1,lv',Z7,rfl,rfl,y2,y3,n2,by omega,by rw[<- hww,hst7]⟩
  ·rw[if_pos (by simpa using h0)]at hst7
   rw[<- hww,hst7,if_pos (by simpa using h0)]at hQ
   simp only[ne_eq,h0,not_false_eq_true,decide_true,iJ,aI];refine jO (R:=λv H=>Q (.tuple #[v,str [],vi st.2]) H) (y2.box (k:=1) rfl) aG.zero ?_;exact hQ _ (y2.put (k:=1) (b:=rb) rfl aG.zero.cells).ext
end
end
section
structure aLg(H0 H:AH)(p m:Nat)(L:LyL)(T:Tr):Prop where
 ext:Ext H0 H
 ino:Ino H p m L T
 own:∀ b∈(pE p m L T).fp,H0.next<=b
section
variable {E:Sy}{H0 H H' H'':AH}{Q:Value->AH->Prop}{p m:Nat}{L L' L'':LyL}{T T' T'':Tr}
theorem S.f4'(hE:bF E)(limit:Int)(hQ:∀ p m L H',aLg H H' p m L (Tr.new limit)->Q (ptr p 0) H'):E.call 68 [vi limit] H Q :=
 S.f4 hE limit λp m L H' e h hf=>hQ p m L H' ⟨e,h,hf⟩
end
end
section
structure aN where
 mount:Int
 inode:Int
 deriving DecidableEq
def aN.cells(x:aN):List Value:=[vi x.mount,vi x.inode]
abbrev aN.v(x:aN):Value := .agg x.cells.toArray
def aN.zero:aN:=⟨0,0⟩
@[simp high] theorem aN.cells_length(x:aN):x.cells.length=2:=nrf rfl
@[simp high] theorem aN.splice(a0 a1:Value)(x:aN):AM.splice [a0,a1] 0 x.cells=x.cells:=nrf rfl
@[simp high] theorem aN.splice_cells(y x:aN):AM.splice y.cells 0 x.cells=x.cells:=nrf rfl
@[simp high] theorem aN.take(x:aN):x.cells.take 2=x.cells:=nrf rfl
@[simp high] theorem aN.plain(x:aN):x.cells.all plain1=true:=nrf rfl
@[simp high] theorem aN.at0(x:aN):x.cells[0]? = some (vi x.mount):=nrf rfl
@[simp high] theorem aN.at1(x:aN):x.cells[1]? = some (vi x.inode):=nrf rfl
@[simp high] theorem aN.build(p0:Int)(p1:Int): aV [(0,1),(1,1)] [vi 0,vi 0].toArray [(0,vi p0),(1,vi p1)]=some (aN.v ⟨p0,p1⟩):=by
 simp[aN.cells,AM.splice]
@[simp high] theorem aN.build0:aV [(0,1),(1,1)] [vi 0,vi 0].toArray []=some (aN.v aN.zero):=by
 simp[aN.zero,aN.cells]
theorem aN.ext_iff(x y:aN):x=y↔x.mount=y.mount/\x.inode=y.inode:=by
 cases x;cases y;simp
theorem aN.same(x y:aN):bQ [0,0] x.cells y.cells=some (decide (x=y)):=by
 simp only[aN.ext_iff,Bool.decide_and,aN.cells,List.cons_append,List.nil_append,mA,mY,xL,sS,aE0,aDL,kX,aGP,aGR,Option.bind_some,Option.map_some,Bool.and_true,Bool.and_assoc]
@[simp high] theorem aN.eql(x y:aN):fU [0,0] .eql (.agg x.cells.toArray) (.agg y.cells.toArray)=some (vb (decide (x=y))):=by rw[sB,aN.same];rfl
@[simp high] theorem aN.neq(x y:aN):fU [0,0] .neq (.agg x.cells.toArray) (.agg y.cells.toArray)=some (vb (decide (x≠y))):=by rw[yA,aN.same];simp
structure cY where
 id:Int
 root:Int
 at_:aN
 held:Int
 deriving DecidableEq
def cY.cells(x:cY):List Value:=[vi x.id,vi x.root]++x.at_.cells++[vi x.held]
abbrev cY.v(x:cY):Value := .agg x.cells.toArray
def cY.zero:cY:=⟨0,0,aN.zero,0⟩
@[simp high] theorem cY.at0(x:cY):x.cells[0]? = some (vi x.id):=nrf rfl
@[simp high] theorem cY.at1(x:cY):x.cells[1]? = some (vi x.root):=nrf rfl
@[simp high] theorem cY.at2(x:cY):x.cells[2]? = some (vi x.at_.mount):=nrf rfl
@[simp high] theorem cY.at3(x:cY):x.cells[3]? = some (vi x.at_.inode):=nrf rfl
@[simp high] theorem cY.at4(x:cY):x.cells[4]? = some (vi x.held):=nrf rfl
@[simp high] theorem cY.part2(x:cY):(x.cells.drop 2).take 2=x.at_.cells:=nrf rfl
theorem cY.elem{H:AH}{v:Value}{l:List cY}(h:Rows H 5 v (l.map cY.cells)){i:Nat}(hi:i<l.length):∃ b o,aP 5 v (vi i)=some (ptr b o)/\(H.get b).row o 5=some l[i].cells/\(H.get b).cell o=some (vi l[i].id)/\(H.get b).cell (o+1)=some (vi l[i].root)/\(H.get b).cell (o+2)=some (vi l[i].at_.mount)/\(H.get b).cell (o+3)=some (vi l[i].at_.inode)/\(H.get b).cell (o+4)=some (vi l[i].held)/\(H.get b).row (o+2) 2=some l[i].at_.cells:=by
 obtain⟨b,o,f1,f2⟩:=h.ix (i:=i) (by simpa using hi)
 simp only[List.getElem_map]at f2;exact⟨b,o,f1,f2,by have:=eG f2 (j:=0) (by omega);simpa using this,by have:=eG f2 (j:=1) (by omega);simpa using this,by have:=eG f2 (j:=2) (by omega);simpa using this,by have:=eG f2 (j:=3) (by omega);simpa using this,by have:=eG f2 (j:=4) (by omega);simpa using this,by have:=mC f2 (j:=2) (m:=2) (by omega);simpa using this⟩
@[simp high] theorem cY.build_0_1_2(p0:Int)(p1:Int)(p2:aN): aV [(0,1),(1,1),(2,2),(4,1)] [vi 0,vi 0,vi 0,vi 0,vi 0].toArray [(0,vi p0),(1,vi p1),(2,.agg (p2).cells.toArray)]=some (cY.v ⟨p0,p1,p2,0⟩):=by
 simp[cY.cells,cY.zero,AM.splice,aN.cells,aN.zero]
@[simp high] theorem cY.build1(x:cY):buildS 1 5 [vi 0,vi 0,vi 0,vi 0,vi 0].toArray [(0,.agg x.cells.toArray)]=some (.cells x.cells none,eA 1 1):=gC 5 [vi 0,vi 0,vi 0,vi 0,vi 0] x.cells rfl rfl
structure dZ where
 name_:List UInt8
 inode:Int
 deriving DecidableEq
def dZ.cells(x:dZ):List Value:=[str x.name_,vi x.inode]
abbrev dZ.v(x:dZ):Value := .agg x.cells.toArray
@[simp high] theorem dZ.at0(x:dZ):x.cells[0]? = some (str x.name_):=nrf rfl
@[simp high] theorem dZ.build(p0:List UInt8)(p1:Int): aV [(0,1),(1,1)] [str [],vi 0].toArray [(0,str p0),(1,vi p1)]=some (dZ.v ⟨p0,p1⟩):=by
 simp[dZ.cells,AM.splice]
@[simp high] theorem dZ.build1(x:dZ):buildS 1 2 [str [],vi 0].toArray [(0,.agg x.cells.toArray)]=some (.cells x.cells none,eA 1 1):=gC 2 [str [],vi 0] x.cells rfl rfl
structure cD where
 kind:Int
 data_:Value
 l:Value
 parent:Int
 text:List UInt8
 links:Int
 held:Int
def cD.cells(x:cD):List Value:=[vi x.kind,x.data_,x.l,vi x.parent,str x.text,vi x.links,vi x.held]
abbrev cD.v(x:cD):Value := .agg x.cells.toArray
def cD.zero:cD:=⟨0,aZ,aZ,0,[],0,0⟩
@[simp high] theorem cD.cells_length(x:cD):x.cells.length=7:=nrf rfl
@[simp high] theorem cD.splice_cells(y x:cD):AM.splice y.cells 0 x.cells=x.cells:=nrf rfl
@[simp high] theorem cD.at0(x:cD):x.cells[0]? = some (vi x.kind):=nrf rfl
@[simp high] theorem cD.at1(x:cD):x.cells[1]? = some (x.data_):=nrf rfl
@[simp high] theorem cD.at2(x:cD):x.cells[2]? = some (x.l):=nrf rfl
@[simp high] theorem cD.at3(x:cD):x.cells[3]? = some (vi x.parent):=nrf rfl
@[simp high] theorem cD.at4(x:cD):x.cells[4]? = some (str x.text):=nrf rfl
@[simp high] theorem cD.at5(x:cD):x.cells[5]? = some (vi x.links):=nrf rfl
@[simp high] theorem cD.at6(x:cD):x.cells[6]? = some (vi x.held):=nrf rfl
@[simp high] theorem cD.set3(x:cD)(p:Int):x.cells.set 3 (vi p)=({ x with parent:=p }:cD).cells:=nrf rfl
@[simp high] theorem cD.set4(x:cD)(p:List UInt8):x.cells.set 4 (str p)=({ x with text:=p }:cD).cells:=nrf rfl
@[simp high] theorem cD.build0:aV [(0,1),(1,1),(2,1),(3,1),(4,1),(5,1),(6,1)] [vi 0,aZ,aZ,vi 0,str [],vi 0,vi 0].toArray []=some (cD.v cD.zero):=by
 simp[cD.zero,cD.cells]
@[simp high] theorem cD.build1(x:cD):buildS 1 7 [vi 0,aZ,aZ,vi 0,str [],vi 0,vi 0].toArray [(0,.agg x.cells.toArray)]=some (.cells x.cells none,eA 1 1):=gC 7 [vi 0,aZ,aZ,vi 0,str [],vi 0,vi 0] x.cells rfl rfl
theorem cD.buildS(xs:List cD):AM.buildS xs.length 7 [vi 0,aZ,aZ,vi 0,str [],vi 0,vi 0].toArray ((List.range' 0 xs.length).zip (xs.map cD.v))=some (.cells (xs.map cD.cells).flatten none,eA xs.length xs.length):=by
 have:=fJ xs.length 7 [vi 0,aZ,aZ,vi 0,str [],vi 0,vi 0] ((List.range' 0 xs.length).zip (xs.map cD.v)) (xs.map cD.v) rfl (by simp) (by simp) (by rw[List.all_eq_true];intro v hv;obtain⟨x,_,rfl⟩:=List.mem_map.1 hv;rfl) (by intro v hv;obtain⟨x,_,rfl⟩:=List.mem_map.1 hv;rfl)
 rw[this,List.flatMap_map];rfl
structure cE where
 n:Value
 limit:Int
 m:Value
 next:Int
 change:Int
def cE.cells(x:cE):List Value:=[x.n,vi x.limit,x.m,vi x.next,vi x.change]
abbrev cE.v(x:cE):Value := .agg x.cells.toArray
@[simp high] theorem cE.cells_length(x:cE):x.cells.length=5:=nrf rfl
@[simp high] theorem cE.at0(x:cE):x.cells[0]? = some (x.n):=nrf rfl
@[simp high] theorem cE.at1(x:cE):x.cells[1]? = some (vi x.limit):=nrf rfl
@[simp high] theorem cE.at2(x:cE):x.cells[2]? = some (x.m):=nrf rfl
@[simp high] theorem cE.at3(x:cE):x.cells[3]? = some (vi x.next):=nrf rfl
@[simp high] theorem cE.at4(x:cE):x.cells[4]? = some (vi x.change):=nrf rfl
@[simp high] theorem cE.set0(x:cE)(p:Value):x.cells.set 0 (p)=({ x with n:=p }:cE).cells:=nrf rfl
@[simp high] theorem cE.set2(x:cE)(p:Value):x.cells.set 2 (p)=({ x with m:=p }:cE).cells:=nrf rfl
@[simp high] theorem cE.set3(x:cE)(p:Int):x.cells.set 3 (vi p)=({ x with next:=p }:cE).cells:=nrf rfl
@[simp high] theorem cE.set4(x:cE)(p:Int):x.cells.set 4 (vi p)=({ x with change:=p }:cE).cells:=nrf rfl
end
section
structure RLy where
 data:Value
 l:Value
def gF(x:Nd)(y:RLy):cD:=⟨(x.kind.toNat:Int),y.data,y.l,(x.parent.toNat:Int),x.text,x.links,x.held⟩
def gA(l:List (aK×BitVec 16)):List (List Value):=l.map λe=>[str e.1,vi (e.2.toNat:Int)]
theorem bN(l:List (aK×BitVec 16)):(gA l).length=l.length:=by simp[gA]
def cO(x:Nd)(y:RLy):Res:=dC [cQ 1 y.data (bP x.data),cQ 2 y.l (gA x.ents)]
def cG(T:Tr)(Y:List RLy):List (List Value):=(T.N.zip Y).map λp=>(gF p.1 p.2).cells
def dW(t:Nat)(nv mv:Value)(nx:Int)(mr:List (List Value))(Y:List RLy)(T:Tr):List Res :=
 bE t (cE.cells ⟨nv,T.limit,mv,nx,T.change⟩) :: cQ 7 nv (cG T Y) :: cQ 5 mv mr :: (T.N.zip Y).map λp=>cO p.1 p.2
def fC(t:Nat)(nv mv:Value)(nx:Int)(mr:List (List Value))(Y:List RLy)(T:Tr):Res:=dC (dW t nv mv nx mr Y T)
structure eD(H:AH)(t:Nat)(nv mv:Value)(nx:Int)(mr:List (List Value))(Y:List RLy)(T:Tr):Prop where
 ow:Ow (fC t nv mv nx mr Y T) H
 len:Y.length=T.N.length
 fit:T.N.length<=60000
structure gU(t:Nat)(nv mv:Value)(nx:Int)(mr:List (List Value))(Y:List RLy)(T:Tr)(nv':Value)(Y':List RLy)(T':Tr)(H H':AH):Prop where
 upd:Upd (fC t nv mv nx mr Y T) (fC t nv' mv nx mr Y' T') H H'
 len:Y'.length=T'.N.length
 fit:T'.N.length<=60000
def vT(H:AH)(b o:Nat)(x:Nd)(y:RLy):Prop:=(H.get b).row o 7=some (gF x y).cells/\Rows H 1 y.data (bP x.data)/\Rows H 2 y.l (gA x.ents)
section
variable {E:Sy}{H H' H'':AH}{Q:Value->AH->Prop}{t:Nat}{nv nv' nv'' mv:Value}{nx:Int}{mr:List (List Value)}{Y Y' Y'':List RLy}{T T' T'':Tr}
theorem gU.ref(u:gU t nv mv nx mr Y T nv' Y' T' H H')(h:eD H t nv mv nx mr Y T):eD H' t nv' mv nx mr Y' T':=⟨h.ow.upd u.upd,u.len,u.fit⟩
theorem gU.trans(u:gU t nv mv nx mr Y T nv' Y' T' H H')(u':gU t nv' mv nx mr Y' T' nv'' Y'' T'' H' H''):gU t nv mv nx mr Y T nv'' Y'' T'' H H'':=⟨u.upd.trans u'.upd,u'.len,u'.fit⟩
theorem gU.after(e:Ext H H')(u:gU t nv mv nx mr Y T nv' Y' T' H' H''):gU t nv mv nx mr Y T nv' Y' T' H H'':=⟨u.upd.after e,u.len,u.fit⟩
theorem eD.same(h:eD H t nv mv nx mr Y T)(e:Ext H H'):gU t nv mv nx mr Y T nv Y T H H':=⟨h.ow.ext e,h.len,h.fit⟩
theorem eD.mono(h:eD H t nv mv nx mr Y T)(e:Ext H H'):eD H' t nv mv nx mr Y T:=(h.same e).ref h
theorem eD.head(h:eD H t nv mv nx mr Y T):H.get t = .cells (cE.cells ⟨nv,T.limit,mv,nx,T.change⟩) none:=h.ow.holds (bE t (cE.cells ⟨nv,T.limit,mv,nx,T.change⟩)) (by simp[dW])
theorem eD.rows(h:eD H t nv mv nx mr Y T):cB zH H 7 nv (cG T Y):=h.ow.holds (cQ 7 nv (cG T Y)) (by simp[dW])
theorem eD.rows_len(h:eD H t nv mv nx mr Y T):(cG T Y).length=T.N.length:=by simp[cG,h.len]
theorem eD.lenSlc(h:eD H t nv mv nx mr Y T):AM.lenSlc nv=some (vi T.N.length):=by
 have:=h.rows.toRows.lenSlc
 rwa [h.rows_len]at this
theorem eD.part(h:eD H t nv mv nx mr Y T){k:Nat}{x:Nd}{y:RLy}(hx:T.N[k]? = some x)(hy:Y[k]? = some y):Ow (cO x y) H :=
 h.ow.part (rs:=dW t nv mv nx mr Y T) (k:=k+3) (by simp[dW,List.zip,List.getElem?_zipWith,hx,hy])
theorem cO.data{x:Nd}{y:RLy}(h:Ow (cO x y) H):cB zH H 1 y.data (bP x.data):=h.holds (cQ 1 y.data (bP x.data)) (by simp)
theorem cO.l{x:Nd}{y:RLy}(h:Ow (cO x y) H):cB zH H 2 y.l (gA x.ents):=h.holds (cQ 2 y.l (gA x.ents)) (by simp)
theorem Tr.node_get{n:BitVec 16}(h:n.toNat<T.N.length):T.N[n.toNat]? = some (T.node n):=by
 simp[Tr.node,List.getD_eq_getElem?_getD,h]
theorem Tr.node_ge{n:BitVec 16}(h:T.N.length<=n.toNat):T.node n=Nd.none:=by
 simp[Tr.node,List.getD_eq_getElem?_getD,h]
theorem eD.at_(h:eD H t nv mv nx mr Y T){n:BitVec 16}(hn:n.toNat<T.N.length):∃ y b o,Y[n.toNat]? = some y/\aP 7 nv (vi (n.toNat:Int))=some (ptr b o)/\vT H b o (T.node n) y:=by
 have hx:=Tr.node_get hn;have hy:Y[n.toNat]? = some (Y[n.toNat]'(by rw[h.len];exact hn)):=List.getElem?_eq_getElem _
 have hp:=h.part hx hy;obtain⟨b,o,f1,f2⟩:=h.rows.toRows.ix (i:=n.toNat) (by rw[h.rows_len];exact hn)
 refine⟨_,b,o,hy,f1,?_,(cO.data hp).toRows,(cO.l hp).toRows⟩;rw[f2]
 have:(cG T Y)[n.toNat]? = some (gF (T.node n) (Y[n.toNat]'(by rw[h.len];exact hn))).cells:=by
  simp only[cG,List.getElem?_map,List.zip,List.getElem?_zipWith,hx,hy]
  rfl
 rw[List.getElem?_eq_getElem]at this;exact this
theorem vT.mono{b o:Nat}{x:Nd}{y:RLy}(h:vT H b o x y)(e:Ext H H'):vT H' b o x y :=
 ⟨by rw[e.get (AH.lt_of_get (iI h.1))];exact h.1,h.2.1.mono e,h.2.2.mono e⟩
theorem vT.cell{b o:Nat}{x:Nd}{y:RLy}(h:vT H b o x y):(H.get b).cell o=some (vi (x.kind.toNat:Int))/\(H.get b).cell (o+1)=some y.data/\(H.get b).cell (o+2)=some y.l/\(H.get b).cell (o+3)=some (vi (x.parent.toNat:Int)) /\
  (H.get b).cell (o+4)=some (str x.text)/\(H.get b).cell (o+5)=some (vi x.links)/\(H.get b).cell (o+6)=some (vi x.held):=by
 have f:=h.1;refine⟨?_,?_,?_,?_,?_,?_,?_⟩
 ·have:=eG f (j:=0) (by omega);simpa[gF] using this
 ·have:=eG f (j:=1) (by omega);simpa[gF] using this
 ·have:=eG f (j:=2) (by omega);simpa[gF] using this
 ·have:=eG f (j:=3) (by omega);simpa[gF] using this
 ·have:=eG f (j:=4) (by omega);simpa[gF] using this
 ·have:=eG f (j:=5) (by omega);simpa[gF] using this
 ·have:=eG f (j:=6) (by omega);simpa[gF] using this
theorem vT.lenL{b o:Nat}{x:Nd}{y:RLy}(h:vT H b o x y):AM.lenSlc y.l=some (vi x.ents.length):=by
 have:=h.2.2.lenSlc
 rwa [bN]at this
theorem S.f73(hE:bF E)(h:eD H t nv mv nx mr Y T)(n:BitVec 16)(hQ:∀ b o y H',Ext H H'->vT H' b o (T.node n) y->(n.toNat<T.N.length->H'=H/\Y[n.toNat]? = some y/\aP 7 nv (vi (n.toNat:Int))=some (ptr b o))->Q (ptr b o) H'):E.call 26 [ptr t 0,vi (n.toNat:Int)] H Q:=by
 apply hE.f73;have hh:=h.head;have hl:=h.lenSlc;have h0:¬ ((n.toNat:Int)<0):=by omega
 by_cases hn:n.toNat<T.N.length
 ·obtain⟨y,b,o,h1,h2,h3⟩:=h.at_ hn
  have hn':¬ (T.N.length:Int)<=n.toNat:=by omega
  simp[F.f73,h0,hh,hl,hn',h2];exact hQ b o y H (Ext.refl H) h3 λ_=>⟨rfl,h1,h2⟩
 ·have hn':(T.N.length:Int)<=n.toNat:=by omega
  simp[F.f73,h0,hh,hl,hn'];refine hQ H.next 0 ⟨aZ,aZ⟩ _ ((Ext.refl H).new _) ?_ λh=>(hn h).elim;rw[Tr.node_ge (by omega)]
  refine⟨?_,Rows.nil _ _ none,Rows.nil _ _ none⟩;rw[AH.get_new_self]
  rfl
theorem mD(k:BitVec 8)(j:Nat)(hj:j<256):((k.toNat:Int)=(j:Int))↔k=BitVec.ofNat 8 j:=by
 constructor
 ·intro h
  apply BitVec.eq_of_toNat_eq;rw[BitVec.toNat_ofNat,Nat.mod_eq_of_lt hj];omega
 ·rintro rfl
  rw[BitVec.toNat_ofNat,Nat.mod_eq_of_lt hj]
theorem tE(k:BitVec 8):((k.toNat:Int)=0)=(k=0#8):=propext (mD k 0 (by omega))
theorem aIK(k:BitVec 8):((k.toNat:Int)=1)=(k=1#8):=propext (mD k 1 (by omega))
theorem mT(k:BitVec 8):((k.toNat:Int)=2)=(k=2#8):=propext (mD k 2 (by omega))
theorem aFw(k:BitVec 8):((k.toNat:Int)=3)=(k=3#8):=propext (mD k 3 (by omega))
theorem uD(a b:BitVec 16):((a.toNat:Int)=(b.toNat:Int))=(a=b):=by
 rw[eq_iff_iff];constructor
 ·intro h;exact BitVec.eq_of_toNat_eq (by omega)
 ·rintro rfl;rfl
theorem aKK(a:BitVec 16):((a.toNat:Int)=1)=(a=1#16):=uD a 1#16
theorem S.f81(hE:bF E)(h:eD H t nv mv nx mr Y T)(n:BitVec 16)(hQ:∀ H',Ext H H'->Q (vi (T.dir n)) H'):E.call 39 [ptr t 0,vi (n.toNat:Int)] H Q:=by
 apply hE.f81;simp only[F.f81];refine S.f73 hE h n λb o y H' e hn _ =>?_;obtain⟨c0,_⟩:=hn.cell;unfold Tr.dir at hQ
 by_cases h0:(T.node n).kind=0#8
 ·simp[h0]at hQ c0
  simp[c0];exact hQ _ e
 ·have h0':¬ (T.node n).kind.toNat=0:=λk=>h0 (BitVec.eq_of_toNat_eq (by simpa using k))
  by_cases h2:(T.node n).kind=2#8
  ·simp[h2]at hQ c0
   simp[c0];exact hQ _ e
  ·have h2':¬ ((T.node n).kind.toNat:Int)=2:=by rw[mT];exact h2
   simp[h0,h2]at hQ;simp[c0,h0',h2'];exact hQ _ e
def nD(s:aK)(l:List (aK×BitVec 16)):Int:=kL (λe:aK×BitVec 16=>decide (e.1=s)) l
theorem qB(s:aK)(l:List (aK×BitVec 16))(h:bX s l=none):nD s l = -1:=by
 have:l.findIdx? (λe:aK×BitVec 16=>decide (e.1=s))=none:=by
  rw[List.findIdx?_eq_none_iff];intro x hx;have:=iH.1 h;simp only[decide_eq_false_iff_not];rintro rfl;exact this (List.mem_map.2 ⟨x,hx,rfl⟩)
 simp[nD,kL,this]
theorem jK(s:aK):∀ (l:List (aK×BitVec 16)) (k:BitVec 16),bX s l=some k->∃ (j:Nat) (hj:j<l.length),nD s l=j/\l[j]=(s,k)/\fD s l=l.eraseIdx j
 | [],k,h=>by simp[bX]at h
 | e :: l,k,h=>by
  rw[lZ]at h
  by_cases he:e.1=s
  ·rw[if_pos he.symm]at h
   simp only[Option.some.injEq]at h;refine⟨0,by simp,?_,?_,?_⟩
   ·simp[nD,kL,List.findIdx?_cons,he]
   ·rw[List.getElem_cons_zero,<- he,<- h]
   ·simp[fD,he]
  ·rw[if_neg λk=>he k.symm]at h
   obtain⟨j,hj,h1,h2,h3⟩:=jK s l k h;refine⟨j+1,by simpa using hj,?_,by simpa using h2,by simp[fD,he,h3]⟩
   unfold nD kL at h1 ⊢;simp only[List.findIdx?_cons,he,decide_false,Bool.false_eq_true,if_false];cases hf:l.findIdx? (λe:aK×BitVec 16=>decide (e.1=s)) with
   | none=>rw[hf]at h1;simp at h1
   | some i =>
    rw[hf]at h1;simp at h1 ⊢;exact h1
theorem S.f87(hE:bF E){b o:Nat}{x:Nd}{y:RLy}(h:vT H b o x y)(s:aK)(hlen:x.ents.length<2 ^ 40)(hQ:Q (vi (nD s x.ents)) H):E.call 40 [ptr b o,str s] H Q:=by
 apply hE.f87;obtain⟨_,_,c2,_⟩:=h.cell;have hl:=h.lenL;simp[F.f87];refine bY.count x.ents.length (λj l H'=>l=[ptr b o,str s,vi j]/\H=H'/\∀ i (hi:i<x.ents.length),i<j->¬ x.ents[i].1=s) ?_ ⟨rfl,rfl,λi _ h=>by omega⟩
 rintro j _ _ X hj hX ⟨rfl,rfl,hn⟩
 by_cases hjl:j<x.ents.length
 ·have hjl':(j:Int)<x.ents.length:=by omega
  obtain⟨b',o',f1,f2⟩:=h.2.2.ix (i:=j) (by rw[bN];exact hjl)
  have hrow:(gA x.ents)[j]'(by rw[bN];exact hjl)=[str x.ents[j].1,vi (x.ents[j].2.toNat:Int)]:=by simp[gA]
  rw[hrow]at f2;have f3:(H.get b').cell o'=some (str x.ents[j].1):=by have:=eG f2 (j:=0) (by omega);simpa using this
  by_cases hs:x.ents[j].1=s
  ·simp[F.f87_l1,c2,hl,hjl',f1,f3,hs]
   have:nD s x.ents=(j:Int):=by
    have:x.ents.findIdx? (λe:aK×BitVec 16=>decide (e.1=s))=some j:=List.findIdx?_eq_some_iff_getElem.2 ⟨hjl,by simpa using hs,λi hi=>by simpa using hn i (by omega) hi⟩
    simp[nD,kL,this]
   rw[<- this];exact hQ
  ·simp[F.f87_l1,c2,hl,hjl',f1,f3,hs]
   rw[cS (by omega),aD]
   refine hX hjl _ _ ⟨rfl,rfl,λi hi hij =>?_⟩
   by_cases e:i=j
   ·subst e;exact hs
   ·exact hn i hi (by omega)
 ·have hjl':¬ (j:Int)<x.ents.length:=by omega
  simp[F.f87_l1,c2,hl,hjl']
  have:nD s x.ents = -1:=by
   have:x.ents.findIdx? (λe:aK×BitVec 16=>decide (e.1=s))=none:=by
    rw[List.findIdx?_eq_none_iff];intro e he;obtain⟨i,hi,rfl⟩:=List.getElem_of_mem he
    simpa using hn i hi (by omega)
   simp[nD,kL,this]
  rw[<- this];exact hQ
def Tr.small(T:Tr):Prop:=∀ n,(T.node n).ents.length<2 ^ 40
theorem S.f70(hE:bF E)(h:eD H t nv mv nx mr Y T)(hs:T.small)(n:BitVec 16)(s:aK)(hQ:∀ H',Ext H H'->Q (.tuple #[vi ((T.look n s).1.toNat:Int),vi (T.look n s).2]) H'):E.call 12 [ptr t 0,vi (n.toNat:Int),str s] H Q:=by
 apply hE.f70;simp only[F.f70];refine S.f81 hE h n λH1 e1 =>?_;unfold Tr.look at hQ
 by_cases hd:T.dir n=0
 ·simp[hd]
  refine S.f73 hE (h.mono e1) n λb o y H2 e2 hn _ =>?_;refine S.f87 hE hn s (hs n) ?_;cases hl:bX s (T.node n).ents with
  | none =>
   simp[hd,hl]at hQ;simp[qB s _ hl];exact hQ _ (e1.trans e2)
  | some k =>
   simp[hd,hl]at hQ;obtain⟨j,hj,g1,g2,_⟩:=jK s _ k hl;obtain⟨_,_,c2,_⟩:=hn.cell;obtain⟨b',o',f1,f2⟩:=hn.2.2.ix (i:=j) (by rw[bN];exact hj)
   have hrow:(gA (T.node n).ents)[j]'(by rw[bN];exact hj)=[str s,vi (k.toNat:Int)]:=by simp[gA,g2]
   rw[hrow]at f2;have f3:(H2.get b').cell (o'+1)=some (vi (k.toNat:Int)):=by have:=eG f2 (j:=1) (by omega);simpa using this
   have hj0:¬ ((j:Int)<0):=by omega
   simp[g1,hj0,c2,f1,f3];exact hQ _ (e1.trans e2)
 ·simp[hd]at hQ
  simp[hd];exact hQ _ e1
end
end
section
section
variable {E:Sy}{H H' H'':AH}{Q:Value->AH->Prop}{t:Nat}{nv nv' nv'' mv:Value}{nx:Int}{mr:List (List Value)}{Y Y' Y'':List RLy}{T T' T'':Tr}
theorem aDM(n:Nat)(c:UInt8)(hn:n<256):(c.toBitVec.toNat<n↔c<UInt8.ofNat n)/\(n<c.toBitVec.toNat↔UInt8.ofNat n<c)/\(c.toBitVec=BitVec.ofNat 8 n↔c=UInt8.ofNat n):=by
 refine⟨?_,?_,?_⟩
 ·rw[UInt8.lt_iff_toNat_lt,UInt8.toNat_ofNat_of_lt' hn];rfl
 ·rw[UInt8.lt_iff_toNat_lt,UInt8.toNat_ofNat_of_lt' hn];rfl
 ·rw[<- UInt8.toBitVec_inj];rfl
theorem S.f56(hE:bF E)(s:aK)(hs:s.length<2 ^ 63)(hQ:Q (vb (cP s)) H):E.call 38 [str s] H Q:=by
 apply hE.f56;simp only[F.f56];refine bY.count s.length (λj l H'=>l=[str s,vi j]/\H=H'/\∀ i (hi:i<s.length),i<j->mR s[i]=false) ?_ ⟨rfl,rfl,λi _ h=>by omega⟩
 rintro j _ _ X hj hX ⟨rfl,rfl,hn⟩
 by_cases hjl:j<s.length
 ·have hjl':(j:Int)<s.length:=by omega
  have hix:=qQ s j hjl;obtain⟨g1,_,_⟩:=aDM 33 s[j] (by omega)
  obtain⟨_,g2,_⟩:=aDM 126 s[j] (by omega)
  obtain⟨_,_,g3⟩:=aDM 47 s[j] (by omega)
  obtain⟨_,_,g4⟩:=aDM 35 s[j] (by omega)
  have bad:mR s[j]=true->Q (vb false) H:=by
   intro hb
   have:cP s=false:=by
    have:(s.all λc => !mR c)=false:=by
     rw[List.all_eq_false];exact⟨s[j],List.getElem_mem hjl,by simp[hb]⟩
    simp[cP,this]
   rw[<- this];exact hQ
  have good:mR s[j]=false->X [str s,vi ((j+1:Nat):Int)] H:=λhb=>hX hjl _ _ ⟨rfl,rfl,λi hi hij=>by
   by_cases e:i=j
   ·subst e;exact hb
   ·exact hn i hi (by omega)⟩
  have hjj:=cS (i:=j) (by omega)
  have b33:(.int .u8 33:Value)=u8 33#8:=rfl;have b126:(.int .u8 126:Value)=u8 126#8:=rfl;have b47:(.int .u8 47:Value)=u8 47#8:=rfl;have b35:(.int .u8 35:Value)=u8 35#8:=rfl;unfold mR at bad good;generalize s[j]=c at *;generalize hk:j+1=k at *
  by_cases c1:c.toBitVec.toNat<33
  ·have c1':=g1.1 c1
   have c1n:c.toNat<33:=c1;simp[F.f56_l1,hjl',hix,b33,c1,c1n];exact bad (by simp only[Bool.or_eq_true,decide_eq_true_eq];exact .inl (.inl (.inl c1')))
  have c1n:¬ c.toNat<33:=c1
  by_cases c2:126<c.toBitVec.toNat
  ·have c2':=g2.1 c2
   have c2n:126<c.toNat:=c2;simp[F.f56_l1,hjl',hix,b33,b126,c1,c2,c1n,c2n];exact bad (by simp only[Bool.or_eq_true,decide_eq_true_eq];exact .inl (.inl (.inr c2')))
  have c2n:¬ 126<c.toNat:=c2
  by_cases c3:c.toBitVec=47#8
  ·have c3':=g3.1 c3
   simp[F.f56_l1,hjl',hix,b33,b126,b47,c1,c2,c3,c1n,c2n];exact bad (by simp only[Bool.or_eq_true,decide_eq_true_eq];exact .inl (.inr c3'))
  by_cases c4:c.toBitVec=35#8
  ·have c4':=g4.1 c4
   simp[F.f56_l1,hjl',hix,b33,b126,b47,b35,c1,c2,c3,c4,c1n,c2n];exact bad (by simp only[Bool.or_eq_true,decide_eq_true_eq];exact .inr c4')
  ·simp[F.f56_l1,hjl',hix,b33,b126,b47,b35,c1,c2,c3,c4,hjj,c1n,c2n]
   refine good ?_;simp only[Bool.or_eq_false_iff,decide_eq_false_iff_not];exact⟨⟨⟨λh=>c1 (g1.2 h),λh=>c2 (g2.2 h)⟩,λh=>c3 (g3.2 h)⟩,λh=>c4 (g4.2 h)⟩
 ·have hjl':¬ (j:Int)<s.length:=by omega
  have hall:(s.all λc => !mR c)=true:=by
   rw[List.all_eq_true];intro c hc;obtain⟨i,hi,rfl⟩:=List.getElem_of_mem hc
   simpa using hn i hi (by omega)
  have l1:(.string ⟨#[46]⟩:Value)=str [46]:=rfl;have l2:(.string ⟨#[46,46]⟩:Value)=str [46,46]:=rfl;unfold cP at hQ;rw[hall]at hQ
  by_cases c1:1<=s.length
  ·have c1':(1:Int)<=s.length:=by omega
   by_cases c2:s.length<=14
   ·have c2':(s.length:Int)<=14:=by omega
    by_cases c3:s=[46]
    ·subst c3
     have hj1:j=1:=by simp at hjl hj;omega
     subst hj1;simp[F.f56_l1,l1,l2]
     simpa using hQ
    ·by_cases c4:s=[46,46]
     ·subst c4
      have hj2:j=2:=by simp at hjl hj;omega
      subst hj2;simp[F.f56_l1,l1,l2]
      simpa using hQ
     ·simp only[c1,c2,c3,c4,ne_eq,not_false_eq_true,decide_true,Bool.and_self]at hQ
      simp[F.f56_l1,hjl',c1',c2',l1,l2,c3,c4];exact hQ
   ·have c2':¬ (s.length:Int)<=14:=by omega
    simp only[c1,c2,decide_true,decide_false,Bool.and_false,Bool.false_and]at hQ;simp[F.f56_l1,hjl',c1',c2'];exact hQ
  ·have c1':¬ (1:Int)<=s.length:=by omega
   simp only[c1,decide_false,Bool.and_false,Bool.false_and]at hQ;simp[F.f56_l1,hjl',c1'];exact hQ
theorem S.f83(hE:bF E)(h:eD H t nv mv nx mr Y T)(hs:T.small)(n:BitVec 16)(s:aK)(hsl:s.length<2 ^ 63)(hQ:∀ H',Ext H H'->Q (vi (T.room n s)) H'):E.call 47 [ptr t 0,vi (n.toNat:Int),str s] H Q:=by
 apply hE.f83;simp only[F.f83];refine S.f81 hE h n λH1 e1 =>?_;unfold Tr.room at hQ
 by_cases hd:T.dir n=0
 ·simp[hd]
  refine S.f73 hE (h.mono e1) n λb o y H2 e2 hn _ =>?_;refine S.f56 hE s hsl ?_;have e12:=e1.trans e2;obtain⟨_,_,c2,_,_,c5,_⟩:=hn.cell;have hl:=hn.lenL
  by_cases c1:cP s=true
  ·simp only[hd,c1,ne_eq,not_true,if_false,Bool.true_eq_false]at hQ
   simp[c1];refine S.f87 hE hn s (hs n) ?_;cases hlk:bX s (T.node n).ents with
   | some k =>
    obtain⟨j,hj,g1,_,_⟩:=jK s _ k hlk;have hj0:(0:Int)<=j:=by omega
    simp only[hlk,Option.isSome_some,if_true]at hQ;simp[g1,hj0];exact hQ _ e12
   | none =>
    simp only[hlk,Option.isSome_none,Bool.false_eq_true,if_false]at hQ;simp[qB s _ hlk,c5]
    by_cases c3:(T.node n).links=0
    ·simp only[c3,if_true]at hQ
     simp[c3];exact hQ _ e12
    ·simp only[c3,if_false]at hQ
     simp[c3,c2,hl]
     by_cases c4:32<=(T.node n).ents.length
     ·have c4':(32:Int)<=(T.node n).ents.length:=by omega
      simp only[c4,if_true]at hQ;simp[c4'];exact hQ _ e12
     ·have c4':¬ (32:Int)<=(T.node n).ents.length:=by omega
      simp only[c4,if_false]at hQ;simp[c4'];exact hQ _ e12
  ·have c1:cP s=false:=by simpa using c1
   simp[hd,c1]at hQ;simp[c1];exact hQ _ e12
 ·simp[hd]at hQ
  simp[hd];exact hQ _ e1
theorem S.f69(hE:bF E)(h:eD H t nv mv nx mr Y T)(hQ:Q (vi T.len) H):E.call 48 [ptr t 0] H Q:=by
 apply hE.f69;simp only[F.f69];have hh:=h.head;have hl:=h.lenSlc;have hf:=h.fit;refine bY.count T.N.length (λj l H'=>l=[ptr t 0,vi (((T.N.take j).countP λx=>decide (x.kind≠0#8):Nat):Int),vi j]/\H=H') ?_ ⟨rfl,rfl⟩;rintro j _ _ X hj hX ⟨rfl,rfl⟩;have hcl:(T.N.take j).countP (λx=>decide (x.kind≠0#8))<=j:=Nat.le_trans List.countP_le_length (by simp;omega)
 by_cases hjl:j<T.N.length
 ·have hjl':(j:Int)<T.N.length:=by omega
  have hnj:(BitVec.ofNat 16 j).toNat=j:=by rw[BitVec.toNat_ofNat,Nat.mod_eq_of_lt (by omega)]
  obtain⟨y,b,o,h1,h2,h3⟩:=h.at_ (n:=BitVec.ofNat 16 j) (by rw[hnj];exact hjl)
  rw[hnj]at h2;obtain⟨c0,_⟩:=h3.cell
  have hx:T.node (BitVec.ofNat 16 j)=T.N[j]:=by
   unfold Tr.node;rw[hnj];simp[List.getD_eq_getElem?_getD,hjl]
  rw[hx]at c0
  have hstep:(T.N.take (j+1)).countP (λx=>decide (x.kind≠0#8))=(T.N.take j).countP (λx=>decide (x.kind≠0#8))+if T.N[j].kind=0#8 then 0 else 1:=by
   rw[List.take_succ_eq_append_getElem hjl,List.countP_append]
   by_cases hk:T.N[j].kind=0#8<;>simp[hk]
  have hjj:=cK j (by omega)
  have hX:=hX hjl [ptr t 0,vi (((T.N.take (j+1)).countP λx=>decide (x.kind≠0#8):Nat):Int),vi ((j+1:Nat):Int)] H ⟨rfl,rfl⟩;rw[hstep]at hX;generalize (T.N.take j).countP (λx=>decide (x.kind≠0#8))=c at *;have hcc:=cK c (by omega)
  by_cases hk:T.N[j].kind=0#8
  ·rw[if_pos hk,Nat.add_zero]at hX
   have hk':¬ (0:Int)<(T.N[j].kind.toNat:Int):=by rw[hk];simp
   generalize hj1:j+1=j1 at *;simp[F.f69_l1,hh,hl,hjl',h2,c0,hjj,hk];exact hX
  ·rw[if_neg hk]at hX
   have hk':0<T.N[j].kind.toNat:=by
    apply Nat.pos_of_ne_zero;intro e;exact hk (BitVec.eq_of_toNat_eq (by simpa using e))
   generalize hj1:j+1=j1 at *;generalize hc1:c+1=c1 at *;simp[F.f69_l1,hh,hl,hjl',h2,c0,hjj,hk',hcc];exact hX
 ·have hjl':¬ (j:Int)<T.N.length:=by omega
  have:j=T.N.length:=by omega
  subst this;have e:(T.N.take T.N.length).countP (λx=>decide (x.kind≠0#8))=T.len:=by rw[List.take_length];rfl
  rw[e];simp[F.f69_l1,hh,hl];exact hQ
theorem S.f80(hE:bF E)(h:eD H t nv mv nx mr Y T)(n:BitVec 16)(hQ:∀ H',Ext H H'->Q (vi (T.deepF 20 n)) H'):E.call 49 [ptr t 0,vi (n.toNat:Int)] H Q:=by
 apply hE.f80;simp only[F.f80];obtain⟨D,hD⟩:∃ D,D=T.deepF 20 n:=⟨_,rfl⟩;rw[<- hD]at hQ;refine bY.count 20 (λj l H'=>Ext H H'/\∃ k:BitVec 16,l=[ptr t 0,vi (k.toNat:Int),vi j]/\D=j+T.deepF (20 - j) k) ?_ ⟨Ext.refl H,n,rfl,by rw[hD];exact(Nat.zero_add _).symm⟩
 clear hD;rintro j _ H1 X hj hX ⟨e1,k,rfl,h1⟩;have hk1:=aKK k
 by_cases hj':j=20
 ·subst hj'
  have:D=20:=by rw[h1];rfl
  rw[this]at hQ
  by_cases hk:k=1#16
  ·simp[F.f80_l1,hk]
   exact hQ _ e1
  ·rw[eq_false hk]at hk1
   simp[F.f80_l1,hk1];exact hQ _ e1
 ·obtain⟨f,hf⟩:∃ f,20 - j=f+1:=⟨19 - j,by omega⟩
  have hf':20 - (j+1)=f:=by omega
  rw[hf]at h1;simp only[Tr.deepF]at h1;have hji:(j:Int)<20:=by omega
  by_cases hk:k=1#16
  ·rw[if_pos hk]at h1
   simp[F.f80_l1,hk];rw[h1]at hQ;exact hQ _ e1
  ·rw[if_neg hk]at h1
   rw[eq_false hk]at hk1;simp[F.f80_l1,hk1,hji];refine S.f73 hE (h.mono e1) k λb o y H2 e2 hn _ =>?_;obtain⟨_,_,_,c3,_⟩:=hn.cell;have hjj:=cK j (by omega)
   simp[c3,hjj];exact hX (by omega) _ _ ⟨e1.trans e2,_,rfl,by rw[hf'];omega⟩
theorem S.f77(hE:bF E)(h:eD H t nv mv nx mr Y T)(n out:BitVec 16)(hQ:∀ H',Ext H H'->Q (vb (T.withinF out 20 n)) H'):E.call 56 [ptr t 0,vi (n.toNat:Int),vi (out.toNat:Int)] H Q:=by
 apply hE.f77;simp only[F.f77];obtain⟨D,hD⟩:∃ D,D=T.withinF out 20 n:=⟨_,rfl⟩;rw[<- hD]at hQ;refine bY.count 20 (λj l H'=>Ext H H'/\∃ k:BitVec 16,l=[ptr t 0,vi (k.toNat:Int),vi (out.toNat:Int),vi j]/\D=T.withinF out (20 - j) k) ?_ ⟨Ext.refl H,n,rfl,hD⟩;clear hD;rintro j _ H1 X hj hX ⟨e1,k,rfl,h1⟩
 by_cases hj':j=20
 ·subst hj'
  rw[h1]at hQ;simp[F.f77_l1];exact hQ _ e1
 ·obtain⟨f,hf⟩:∃ f,20 - j=f+1:=⟨19 - j,by omega⟩
  have hf':20 - (j+1)=f:=by omega
  rw[hf]at h1;simp only[Tr.withinF]at h1;have hji:(j:Int)<20:=by omega
  have hko:=uD k out;have hkp:=uD k (T.node k).parent;have hk2:=mT (T.node k).kind;simp[F.f77_l1,hji];refine S.f73 hE (h.mono e1) k λb o y H2 e2 hn _ =>?_;obtain⟨c0,_,_,c3,_⟩:=hn.cell
  by_cases g1:(T.node k).kind=2#8
  ·rw[if_neg (by simpa using g1)]at h1
   by_cases g2:k=out
   ·rw[if_pos g2]at h1
    rw[h1]at hQ;rw[eq_true g1]at hk2;rw[eq_true g2]at hko;simp only[aY,aL,aD,aJ,aE,c0,Nat.add_zero,bR,aW,hk2,hko,ne_eq,not_true,decide_true,decide_false,aS,aM,eF,eR,eW,fR];exact hQ _ (e1.trans e2)
   ·rw[if_neg g2]at h1
    rw[eq_false g2]at hko;rw[eq_true g1]at hk2;simp[c0,hk2,hko];refine S.f73 hE (h.mono (e1.trans e2)) k λb' o' y' H3 e3 hn' _ =>?_;obtain⟨c0',_,_,c3',_⟩:=hn'.cell;have e13:=(e1.trans e2).trans e3
    by_cases g3:k=(T.node k).parent
    ·rw[if_pos g3]at h1
     rw[h1]at hQ;rw[eq_true g3]at hkp;simp only[aY,aL,aD,aJ,aE,c3',aW,hkp,decide_true,aS,eF,eR,eW,fR];exact hQ _ e13
    ·rw[if_neg g3]at h1
     rw[eq_false g3]at hkp;simp only[aY,aL,aD,aJ,aE,c3',aW,hkp,decide_false,aM,eF,eR,eW,fR];refine S.f73 hE (h.mono e13) k λb'' o'' y'' H4 e4 hn'' _ =>?_;obtain⟨_,_,_,c3'',_⟩:=hn''.cell;have hjj:=cK j (by omega)
     simp only[aY,aL,aD,aJ,aE,c3'',hjj,eF,eR,eW,fR];exact hX (by omega) _ _ ⟨e13.trans e4,_,rfl,by rw[hf'];exact h1⟩
  ·rw[if_pos g1]at h1
   rw[h1]at hQ;rw[eq_false g1]at hk2;simp[c0,hk2];exact hQ _ (e1.trans e2)
end
end
section
theorem rA(x:aK×BitVec 16):∀ (l:List (aK×BitVec 16)) (p:Nat),p<=l.length->(∀ i (h:i<l.length),i<p->Op.bytesLess l[i].1 x.1=true)->(∀ h:p<l.length,Op.bytesLess l[p].1 x.1=false)->fS x l=l.take p++[x]++l.drop p
 | [],p,hp,_,_=>by simp[fS]
 | y :: l,0,hp,_,h2=>by
  have:=h2 (by simp)
  simp only[List.getElem_cons_zero]at this;simp[fS,this]
 | y :: l,p+1,hp,h1,h2=>by
  have h0:=h1 0 (by simp) (by omega)
  simp only[List.getElem_cons_zero]at h0;have ih:=rA x l p (by simpa using hp) (λi h hi=>by have:=h1 (i+1) (by simpa using h) (by omega);rwa [List.getElem_cons_succ]at this) (λh=>by have:=h2 (by simpa using h);rwa [List.getElem_cons_succ]at this)
  simp[fS,h0,ih]
theorem aAm(l:List (aK×BitVec 16))(k:Nat):(gA l).take k=gA (l.take k):=by simp[gA,List.map_take]
theorem zX(l:List (aK×BitVec 16))(k:Nat):(gA l).drop k=gA (l.drop k):=by simp[gA,List.map_drop]
theorem pS(a b:List (aK×BitVec 16)):gA (a++b)=gA a++gA b:=by simp[gA]
theorem nV(l:List (aK×BitVec 16)):∀ r∈gA l,r.all plain1=true:=by
 intro r hr;obtain⟨b,_,rfl⟩:=List.mem_map.1 hr
 rfl
section
variable {E:Sy}{H H' H'':AH}{Q:Value->AH->Prop}{t:Nat}{nv nv' nv'' mv:Value}{nx:Int}{mr:List (List Value)}{Y Y' Y'':List RLy}{T T' T'':Tr}
theorem vY(sz:Nat)(z:List Value)(hz:z.length=sz):buildS 0 sz z.toArray []=some (.cells [] none,eA 0 0):=by
 rw[fW _ _ _ _ hz];simp;rfl
theorem S.f88(hE:bF E)(v:Value)(l:List (aK×BitVec 16))(hv:Rows H 2 v (gA l))(hl:l.length<2 ^ 36)(s:aK)(k:BitVec 16)(hQ:∀ v' H',Ext H H'->cB zH H' 2 v' (gA (fS (s,k) l))->eQ H.next v'->Q v' H'):E.call 50 [v,.agg (dZ.cells ⟨s,(k.toNat:Int)⟩).toArray] H Q:=by
  apply hE.f88;have x1:Ext H (H.new (.cells (dZ.cells ⟨s,(k.toNat:Int)⟩) none)):=(Ext.refl H).new _;have hx:=AH.get_new_self H (.cells (dZ.cells ⟨s,(k.toNat:Int)⟩) none);simp[F.f88];refine bY.count l.length (λj ls H'=>ls=[v,ptr H.next 0,vi j]/\H.new (.cells (dZ.cells ⟨s,(k.toNat:Int)⟩) none)=H'/\∀ i (h:i<l.length),i<j->Op.bytesLess l[i].1 s=true) ?_ ⟨rfl,rfl,λi _ h=>by omega⟩
  rintro j _ _ X hj hX ⟨rfl,rfl,hn⟩;generalize hH1:H.new (.cells (dZ.cells ⟨s,(k.toNat:Int)⟩) none)=H1 at *;have hv1:=hv.mono x1;have hlv:=hv1.lenSlc;rw[bN]at hlv;have hjj:=cK j (by omega)
  have hj0:(dZ.cells ⟨s,(k.toNat:Int)⟩)[0]? = some (str s):=dZ.at0 _
  have fin:(∀ h:j<l.length,Op.bytesLess l[j].1 s=false) ->
     (AM.mk (buildS 0 2 #[(.string ⟨#[]⟩),vi 0] []) H1 λv13 H9 =>
       opt (dQ 2 v none (some (vi j)) none H9) λv14 =>
       opt (aH 2 (ptr H.next 0) H9) λv15 =>
       AM.mk (buildS 1 2 #[(.string ⟨#[]⟩),vi 0] [(0,v15)]) H9 λv16 H10 =>
       opt (dQ 2 v (some (vi j)) none none H10) λv17 =>
       gJ (app 2 24 v13 v14 H10) λv18 H11 =>
       dQ 2 v (some (vi j)) none none H11=dQ 2 v (some (vi j)) none none H10 /\
       H11.get H9.next=H10.get H9.next /\
       aH 2 (ptr H.next 0) H11=aH 2 (ptr H.next 0) H9 /\
       gJ (app 2 24 v18 v16 H11) λv19 H12 =>
       dQ 2 v (some (vi j)) none none H12=dQ 2 v (some (vi j)) none none H10 /\
       gJ (app 2 24 v19 v17 H12) λv20 H13 =>
       Q v20 H13):=by
    intro hlast;have hb0:buildS 0 2 #[(.string ⟨#[]⟩),vi 0] []=some (.cells [] none,eA 0 0):=vY 2 [str [],vi 0] rfl;have hb1:buildS 1 2 #[(.string ⟨#[]⟩),vi 0] [(0,.agg (dZ.cells ⟨s,(k.toNat:Int)⟩).toArray)]=some (.cells (dZ.cells ⟨s,(k.toNat:Int)⟩) none,eA 1 1):=dZ.build1 ⟨s,(k.toNat:Int)⟩;have e9:Ext H1 (H1.new (.cells [] none)):=(Ext.refl H1).new _;have e10:Ext H1 ((H1.new (.cells [] none)).new (.cells (dZ.cells ⟨s,(k.toNat:Int)⟩) none)):=e9.new _;have g9:cB zH (H1.new (.cells [] none)) 2 (slc H1.next 0 0 0) []:=cB.room (lQ _) (AH.get_new_self _ _) rfl;have g10:=g9.ext ((Ext.refl _).new (.cells (dZ.cells ⟨s,(k.toNat:Int)⟩) none))
    have lo:∀ {Hx},Ext H1 Hx->aH 2 (ptr H.next 0) Hx=some (.agg (dZ.cells ⟨s,(k.toNat:Int)⟩).toArray):=λe=>by
      rw[aQ,e.cells hx,oN _ _ 2 rfl];rfl
    have hlo:∀ {Hx},Ext H1 Hx->∃ v14,dQ 2 v none (some (vi j)) none Hx=some v14/\Rows Hx 2 v14 (gA (l.take j)):=λe=>by
      obtain⟨w,w1,w2⟩:=(hv1.mono e).slice (lo:=none) (hi:=some (vi j)) (i:=0) (j:=j) (.inr ⟨rfl,rfl⟩) (.inl rfl) (Nat.zero_le _) (by rw[bN];exact hj)
      refine⟨w,w1,?_⟩
      rwa [List.drop_zero,aAm]at w2
    have hhi:∀ {Hx},Ext H1 Hx->dQ 2 v (some (vi j)) none none Hx=some (gZ 2 v j l.length)/\Rows Hx 2 (gZ 2 v j l.length) (gA (l.drop j)):=fun {Hx} e=>by
      have w:=(hv1.mono e).slice' (lo:=some (vi j)) (hi:=none) (i:=j) (j:=l.length) (.inl rfl) (.inr ⟨rfl,by rw[bN]⟩) hj (by rw[bN];exact Nat.le_refl _)
      refine⟨w.1,?_⟩;have w2:=w.2
      rwa [<- bN l,List.take_length,zX,bN]at w2
    obtain⟨v14,q1,q2⟩:=hlo e9;simp only[hb0,AM.cX,eN,aL,q1,lo e9,aD,hb1,(hhi e10).1];obtain⟨v18,H11,a1,a2,a3⟩:=g10.app (bytes:=24) (Nat.zero_le _) (q2.mono ((Ext.refl _).new (.cells (dZ.cells ⟨s,(k.toNat:Int)⟩) none))) (nV _) (by decide) (by decide) (by simp[bN];omega) (by simp[bN];omega)
    obtain⟨e11,f11⟩:=gS a3 e10 (λb hb=>by simp[blk]at hb;omega)
    have hk11:H11.get (H1.next+1) = .cells (dZ.cells ⟨s,(k.toNat:Int)⟩) none:=by
      rw[a3.1.get (by simp) (by simp[eY,blk])]
      exact AH.get_new_self _ _
    have hxr:Rows H11 2 (slc (H1.next+1) 0 1 1) [dZ.cells ⟨s,(k.toNat:Int)⟩]:=Rows.made (f:=none) (by rw[hk11];simp) (.inl rfl) rfl (by intro r hr;simp at hr;subst hr;rfl)
    have a1':app 2 24 (slc H1.next 0 0 0) v14 ((H1.new (.cells [] none)).new (.cells (dZ.cells ⟨s,(k.toNat:Int)⟩) none))=some (v18,H11):=a1;simp only[a1',eJ,aL];refine⟨by rw[(hhi e11).1],?_,by rw[lo e11],?_⟩
    · show H11.get (H1.next+1)=_
      rw[hk11];exact(AH.get_new_self _ _).symm
    obtain⟨v19,H12,b1,b2,b3⟩:=a2.app (bytes:=24) (Nat.zero_le _) hxr (by intro r hr;simp at hr;subst hr;rfl) (by decide) (by decide) (by simp[bN];omega) (by simp[bN];omega)
    obtain⟨e12,f12⟩:=gS b3 e11 f11;have b1':app 2 24 v18 (slc (H1.new (.cells [] none)).next 0 1 1) H11=some (v19,H12):=b1;simp only[b1',eJ,aL];refine⟨by rw[(hhi e12).1],?_⟩
    obtain⟨v20,H13,c1,c2,c3⟩:=b2.app (bytes:=24) (Nat.zero_le _) (hhi e12).2 (nV _) (by decide) (by decide) (by simp[bN];omega) (by simp[bN];omega)
    obtain⟨e13,f13⟩:=gS c3 e12 f12;simp only[c1,eJ,aL];refine hQ v20 H13 (x1.trans e13) ?_ λb hb=>Nat.le_trans x1.1 (f13 b hb);rw[rA (s,k) l j hj hn hlast,pS,pS];have he1:gA [(s,k)]=[dZ.cells ⟨s,(k.toNat:Int)⟩]:=rfl;rw[he1]
    simpa using c2
  by_cases hjl:j<l.length
  · have hjl':(j:Int)<l.length:=by omega
    obtain⟨b',o',f1,f2⟩:=hv1.ix (i:=j) (by rw[bN];exact hjl)
    have hrow:(gA l)[j]'(by rw[bN];exact hjl)=[str l[j].1,vi (l[j].2.toNat:Int)]:=by simp[gA]
    rw[hrow]at f2;have f3:(H1.get b').cell o'=some (str l[j].1):=by have:=eG f2 (j:=0) (by omega);simpa using this
    by_cases hlt:Op.bytesLess l[j].1 s=true
    · have hX:=hX hjl [v,ptr H.next 0,vi ((j+1:Nat):Int)] H1 ⟨rfl,rfl,λi hi hij=>by
        by_cases e:i=j
        · subst e;exact hlt
        · exact hn i hi (by omega)⟩
      generalize hj1:j+1=j1 at *;simp[F.f88_l1,hlv,hjl',f1,f3,hx,hj0,hlt,hjj];exact hX
    · have hlt:Op.bytesLess l[j].1 s=false:=by simpa using hlt
      simp only[F.f88_l1,eF,eR,eW,hlv,bS,hjl',decide_true,dT,f1,aJ,aE,Nat.add_zero,f3,hx,bB,hj0,aCS,hlt,aU,aL,aD,aM];exact fin λ_=>hlt
  · have hjl':¬ (j:Int)<l.length:=by omega
    simp only[F.f88_l1,eF,eR,eW,hlv,bS,hjl',decide_false,gM,bC,aL,aD,aM];exact fin λh=>(hjl h).elim
theorem S.f89(hE:bF E)(v:Value)(l:List (aK×BitVec 16))(hv:Rows H 2 v (gA l))(hl:l.length<2 ^ 36)(j:Nat)(hj:j<l.length)(hQ:∀ v' H',Ext H H'->cB zH H' 2 v' (gA (l.eraseIdx j))->eQ H.next v'->Q v' H'):E.call 51 [v,vi j] H Q:=by
 apply hE.f89;have hb0:buildS 0 2 #[(.string ⟨#[]⟩),vi 0] []=some (.cells [] none,eA 0 0):=vY 2 [str [],vi 0] rfl;have e9:Ext H (H.new (.cells [] none)):=(Ext.refl H).new _;have g9:cB zH (H.new (.cells [] none)) 2 (slc H.next 0 0 0) []:=cB.room (lQ _) (AH.get_new_self _ _) rfl;have hjj:=cK j (by omega)
 have hlo:∃ v14,dQ 2 v none (some (vi j)) none (H.new (.cells [] none))=some v14/\Rows (H.new (.cells [] none)) 2 v14 (gA (l.take j)):=by
  obtain⟨w,w1,w2⟩:=(hv.mono e9).slice (lo:=none) (hi:=some (vi j)) (i:=0) (j:=j) (.inr ⟨rfl,rfl⟩) (.inl rfl) (Nat.zero_le _) (by rw[bN];omega)
  refine⟨w,w1,?_⟩
  rwa [List.drop_zero,aAm]at w2
 have hhi:∀ {Hx},Ext H Hx->dQ 2 v (some (vi ((j+1:Nat):Int))) none none Hx=some (gZ 2 v (j+1) l.length)/\Rows Hx 2 (gZ 2 v (j+1) l.length) (gA (l.drop (j+1))):=fun {Hx} e=>by
  have w:=(hv.mono e).slice' (lo:=some (vi ((j+1:Nat):Int))) (hi:=none) (i:=j+1) (j:=l.length) (.inl rfl) (.inr ⟨rfl,by rw[bN]⟩) hj (by rw[bN];exact Nat.le_refl _)
  refine⟨w.1,?_⟩;have w2:=w.2
  rwa [<- bN l,List.take_length,zX,bN]at w2
 obtain⟨v14,q1,q2⟩:=hlo;simp only[F.f89,hb0,AM.cX,eN,aL,q1,aD,hjj,(hhi e9).1];obtain⟨v18,H11,a1,a2,a3⟩:=g9.app (bytes:=24) (Nat.zero_le _) q2 (nV _) (by decide) (by decide) (by simp[bN];omega) (by simp[bN];omega)
 obtain⟨e11,f11⟩:=gS a3 e9 (λb hb=>by simp[blk]at hb;omega)
 have a1':app 2 24 (slc H.next 0 0 0) v14 (H.new (.cells [] none))=some (v18,H11):=a1;simp only[a1',eJ,aL];refine⟨by rw[(hhi e11).1],?_⟩
 obtain⟨v20,H13,c1,c2,c3⟩:=a2.app (bytes:=24) (Nat.zero_le _) (hhi e11).2 (nV _) (by decide) (by decide) (by simp[bN];omega) (by simp[bN];omega)
 obtain⟨e13,f13⟩:=gS c3 e11 f11;simp only[c1,eJ,aL];refine hQ v20 H13 e13 ?_ f13;rw[List.eraseIdx_eq_take_drop_succ,pS]
 simpa using c2
theorem S.f85(hE:bF E)(hs:T.small):∀ (f:Nat) {H:AH} {Q:Value->AH->Prop} (_:eD H t nv mv nx mr Y T) (n:BitVec 16) (_:T.fitsF f n) (_:f<=20) (_:∀ H',Ext H H'->Q (vi (T.tall n)) H'),E.call 57 [ptr t 0,vi (n.toNat:Int)] H Q
 | 0,_,_,_,_,hf,_,_=>hf.elim
 | f+1,H,Q,h,n,hf0,hle,hQ=>by
  apply hE.f85;obtain⟨hd,hf⟩:=hf0;simp only[F.f85];refine S.f73 hE h n λb o y H1 e1 hn _ =>?_;obtain⟨_,_,c2,_⟩:=hn.cell;have hl:=hn.lenL;have hsn:=hs n
  let g:Nat->aK×BitVec 16->Nat:=λb e=>if(T.node e.2).kind=2#8 then max b (T.tallF 20 e.2) else b
  have hg:∀ b e,b<=20->g b e<=20:=by
   intro b e hb;simp only[g]
   split
   ·have:=Tr.tallF_le T 20 e.2
    omega
   ·exact hb
  refine bY.count (T.node n).ents.length (λj ls H'=>∃ w:Nat,ls=[ptr t 0,vi w,ptr b o,vi j]/\Ext H1 H'/\w=((T.node n).ents.take j).foldl g 0/\w<=20) ?_ ⟨0,rfl,Ext.refl _,rfl,by omega⟩
  rintro j _ H2 X hj hX ⟨w,rfl,e2,hw,hw20⟩;have hn2:=hn.mono e2;obtain⟨_,_,c2',_⟩:=hn2.cell
  by_cases hjl:j<(T.node n).ents.length
  ·have hjl':(j:Int)<(T.node n).ents.length:=by omega
   obtain⟨b',o',f1,f2⟩:=hn2.2.2.ix (i:=j) (by rw[bN];exact hjl)
   have hrow:(gA (T.node n).ents)[j]'(by rw[bN];exact hjl)=[str (T.node n).ents[j].1,vi ((T.node n).ents[j].2.toNat:Int)]:=by simp[gA]
   rw[hrow]at f2;have f3:(H2.get b').cell (o'+1)=some (vi ((T.node n).ents[j].2.toNat:Int)):=by have:=eG f2 (j:=1) (by omega);simpa using this
   have hfj:=hf (T.node n).ents[j] (List.getElem_mem hjl)
   have hstep:((T.node n).ents.take (j+1)).foldl g 0=g w (T.node n).ents[j]:=by
    rw[List.take_succ_eq_append_getElem hjl,List.foldl_append,<- hw];rfl
   have hgw:=hg w (T.node n).ents[j] hw20;generalize (T.node n).ents[j]=en at *;have hjj:=cK j (by omega)
   simp only[F.f85_l1,eF,eR,eW,fR,aY,aJ,aE,c2',hl,bS,hjl',decide_true,f1,f3,aL,aD,aS];refine S.f73 hE (h.mono (e1.trans e2)) en.2 λb2 o2 y2 H3 e3 hn3 _ =>?_;obtain⟨c0,_⟩:=hn3.cell;have hk2:=mT (T.node en.2).kind;have e13:=e2.trans e3
   by_cases c:(T.node en.2).kind=2#8
   ·rw[eq_true c]at hk2
    simp only[aY,aJ,aE,Nat.add_zero,c0,aW,hk2,decide_true,aL,aD,aS];refine S.f85 hE hs f (h.mono (e1.trans e13)) en.2 (hfj.2 c) (by omega) λH4 e4 =>?_
    unfold Tr.tall
    have hmx:(if(T.tallF 20 en.2:Int) > (w:Int) then(T.tallF 20 en.2:Int) else(w:Int))=((max w (T.tallF 20 en.2):Nat):Int):=by
     split<;>omega
    simp only[uO,hmx,eF,eR,eW,fR,hjj,aL,aD];refine hX hjl _ _ ⟨_,rfl,e13.trans e4,?_,?_⟩
    ·rw[hstep];simp[g,c]
    ·simpa[g,c] using hgw
   ·rw[eq_false c]at hk2
    simp only[aY,aJ,aE,Nat.add_zero,c0,aW,hk2,decide_false,eF,eR,eW,fR,hjj,aL,aD,aM];refine hX hjl _ _ ⟨w,rfl,e13,?_,hw20⟩;rw[hstep];simp[g,c]
  ·have hjl':¬ (j:Int)<(T.node n).ents.length:=by omega
   have hje:j=(T.node n).ents.length:=by omega
   have:T.tall n=w+1:=by
    unfold Tr.tall;rw[Tr.tallF_eq T (f+1) n ⟨hd,hf⟩ 20 hle];simp only[Tr.tallF,Nat.add_right_cancel_iff];rw[hw,hje,List.take_length]
    have:∀ (l:List (aK×BitVec 16)) (b:Nat),(∀ e∈l,e∈(T.node n).ents)->l.foldl (λb e=>if(T.node e.2).kind=2#8 then max b (T.tallF f e.2) else b) b=l.foldl g b:=by
     intro l
     induction l with
     | nil=>intro b _;rfl
     | cons e l ih =>
      intro b hbb;simp only[List.foldl_cons];rw[ih _ λx hx=>hbb x (by simp[hx])]
      congr 1
      simp only[g]
      split
      ·rename_i hk
       rw[Tr.tallF_eq T f e.2 ((hf e (hbb e (by simp))).2 hk) 20 (by omega)]
      ·rfl
    exact this _ _ λ_ h=>h
   have hww:=cK w (by omega)
   rw[this]at hQ;simp only[F.f85_l1,eF,eR,eW,fR,aY,aJ,aE,c2',hl,bS,hjl',decide_false,hww,aL,aD,aM];exact hQ _ (e1.trans e2)
end
end
section
theorem oC(f:Nd->Nd):∀ {N:List Nd} {Y:List RLy} {k:Nat} {x:Nd} (y':RLy),N[k]? = some x->k<Y.length->(N.modify k f).zip (Y.set k y')=(N.zip Y).set k (f x,y')
 | [],_,k,_,_,h,_=>by simp at h
 | _ :: _,[],k,_,_,_,h=>by simp at h
 | x0 :: N,y0 :: Y,0,x,y',h,_=>by
  simp at h;subst h;simp
 | x0 :: N,y0 :: Y,k+1,x,y',h,hk=>by
  have:=oC f (N:=N) (Y:=Y) (k:=k) (x:=x) y' (by simpa using h) (by simpa using hk)
  simp[this]
section
variable {E:Sy}{H0 H H' H'' H1:AH}{Q:Value->AH->Prop}{t:Nat}{nv nv' nv'' mv:Value}{nx:Int}{mr:List (List Value)}{Y Y' Y'':List RLy}{T T' T'':Tr}
theorem Upd.fresh{sz:Nat}{v v':Value}{rows rows':List (List Value)}(e:Ext H H')(g:cB zH H' sz v' rows')(f:eQ H.next v'):Upd (cQ sz v rows) (cQ sz v' rows') H H' :=
 cB.upd ⟨e.only,λb hb => .inr (f b hb)⟩ g
theorem cO.setL{x x':Nd}{y:RLy}{v':Value}(h:Ow (cO x y) H)(hd:x'.data=x.data)(e:Ext H H')(g:cB zH H' 2 v' (gA x'.ents))(f:eQ H.next v'):Upd (cO x y) (cO x' { y with l:=v' }) H H':=by
 have u:=Ow.set (rs:=[cQ 1 y.data (bP x.data),cQ 2 y.l (gA x.ents)]) h (k:=1) rfl (Upd.fresh (rows:=gA x.ents) (v:=y.l) e g f);unfold cO;rw[hd];exact u
theorem cO.setD{x x':Nd}{y:RLy}{v':Value}(h:Ow (cO x y) H)(hd:x'.ents=x.ents)(e:Ext H H')(g:cB zH H' 1 v' (bP x'.data))(f:eQ H.next v'):Upd (cO x y) (cO x' { y with data:=v' }) H H':=by
 have u:=Ow.set (rs:=[cQ 1 y.data (bP x.data),cQ 2 y.l (gA x.ents)]) h (k:=0) rfl (Upd.fresh (rows:=bP x.data) (v:=y.data) e g f);unfold cO;rw[hd];exact u
theorem cO.same{x x':Nd}{y:RLy}(hd:x'.data=x.data)(he:x'.ents=x.ents):cO x' y=cO x y:=by
 unfold cO;rw[hd,he]
theorem eD.node_y(h:eD H t nv mv nx mr Y T){n:BitVec 16}(hn:n.toNat<T.N.length){y:RLy}(hy:Y[n.toNat]? = some y):Ow (cO (T.node n) y) H:=h.part (Tr.node_get hn) hy
theorem eD.cell(h:eD H t nv mv nx mr Y T){n:BitVec 16}(hn:n.toNat<T.N.length){y:RLy}(hy:Y[n.toNat]? = some y){b o:Nat}(hp:aP 7 nv (vi (n.toNat:Int))=some (ptr b o))(f:Nd->Nd)(y':RLy)(u:Upd (cO (T.node n) y) (cO (f (T.node n)) y') H H1){k:Nat}(hk:k<7){v:Value}(hv:plain1 v=true)(hc:(gF (f (T.node n)) y').cells=(gF (T.node n) y).cells.set k v):
  ∃ H',aR (ptr b (o+k)) v H1=some H'/\gU t nv mv nx mr Y T nv (Y.set n.toNat y') (T.upd n f) H H':=by
 have hx:=Tr.node_get hn;have hylt:n.toNat<Y.length:=by rw[h.len];exact hn
 have hz:(T.N.zip Y)[n.toNat]? = some (T.node n,y):=by simp[List.zip,List.getElem?_zipWith,hx,hy]
 have hk3:(dW t nv mv nx mr Y T)[n.toNat+3]? = some (cO (T.node n) y):=by simp[dW,hz]
 have u1:=h.ow.set (rs:=dW t nv mv nx mr Y T) hk3 u;have o1:=h.ow.upd u1;have g1:cB zH H1 7 nv (cG T Y):=o1.holds (cQ 7 nv (cG T Y)) (by simp[dW])
 have hi:n.toNat<(cG T Y).length:=by rw[h.rows_len];exact hn
 obtain⟨b',o',H',q1,q2,q3,q4,q5⟩:=g1.store (i:=n.toNat) (k:=k) hi hk v hv;rw[hp]at q1;simp only[Option.some.injEq,Value.pointer.injEq,Addr.mk.injEq,and_true]at q1;obtain⟨rfl,rfl⟩:=q1
 have hrow:(cG T Y)[n.toNat]=(gF (T.node n) y).cells:=by
  have:(cG T Y)[n.toNat]? = some (gF (T.node n) y).cells:=by simp only[cG,List.getElem?_map,hz];rfl
  rw[List.getElem?_eq_getElem hi]at this;exact Option.some.inj this
 rw[hrow,<- hc]at q4;have u2:=o1.set (rs:=(dW t nv mv nx mr Y T).set (n.toNat+3) (cO (f (T.node n)) y')) (k:=1) (r:=cQ 7 nv (cG T Y)) (by simp[dW]) (cB.upd (v:=nv) (rows:=cG T Y) ⟨q5,λb hb => .inl hb⟩ q4)
 have hzz:=oC f y' hx hylt
 have he:((dW t nv mv nx mr Y T).set (n.toNat+3) (cO (f (T.node n)) y')).set 1 (cQ 7 nv ((cG T Y).set n.toNat (gF (f (T.node n)) y').cells))=dW t nv mv nx mr (Y.set n.toNat y') (T.upd n f):=by
  simp only[dW,cG,Tr.upd,hzz,List.map_set,List.set_cons_succ,List.set_cons_zero]
 refine⟨H',q3,?_,by simp[Tr.upd,h.len],by simpa[Tr.upd] using h.fit⟩
 have:=u1.trans u2;rw[he]at this;exact this
theorem eD.num(h:eD H t nv mv nx mr Y T){n:BitVec 16}(hn:n.toNat<T.N.length){y:RLy}(hy:Y[n.toNat]? = some y){b o:Nat}(hp:aP 7 nv (vi (n.toNat:Int))=some (ptr b o))(f:Nd->Nd)(hf:∀ x:Nd,(f x).data=x.data/\(f x).ents=x.ents){k:Nat}(hk:k<7){v:Int}(hc:(gF (f (T.node n)) y).cells=(gF (T.node n) y).cells.set k (vi v)):
  ∃ H',aR (ptr b (o+k)) (vi v) H=some H'/\gU t nv mv nx mr Y T nv Y (T.upd n f) H H':=by
 obtain⟨H',q1,q2⟩:=h.cell hn hy hp f y (by rw[cO.same (hf _).1 (hf _).2];exact(h.node_y hn hy).refl) hk (v:=vi v) rfl hc
 refine⟨H',q1,?_⟩
 have:Y.set n.toNat y=Y:=by
  apply List.ext_getElem?;intro i
  by_cases e:n.toNat=i
  ·subst e
   rw[List.getElem?_set_self (by rw[h.len];exact hn),hy]
  ·rw[List.getElem?_set_ne e]
 rwa [this]at q2
theorem eD.tick(h:eD H t nv mv nx mr Y T):∃ H',aR (ptr t 4) (vi (T.change+1)) H=some H'/\gU t nv mv nx mr Y T nv Y T.bump H H':=by
 have hh:=h.head;refine⟨H.put t (.cells (cE.cells ⟨nv,T.limit,mv,nx,T.change+1⟩) none),?_,?_,h.len,h.fit⟩
 ·rw[aO]
  simp[hh,plain1]
 ·exact h.ow.set (rs:=dW t nv mv nx mr Y T) (k:=0) rfl (bE.put hh _)
theorem aIC:aV [(0,1),(1,1),(2,1),(3,1),(4,1),(5,1),(6,1)] #[vi 0,(.slice none 0 0),(.slice none 0 0),vi 0,(.string ⟨#[]⟩),vi 0,vi 0] []=some (.agg (gF Nd.none ⟨aZ,aZ⟩).cells.toArray):=rfl
theorem dA{n:BitVec 16}(h:(T.node n).kind≠0#8):n.toNat<T.N.length:=by
 by_cases hn:n.toNat<T.N.length
 ·exact hn
 ·exact(h (by rw[Tr.node_ge (by omega)];rfl)).elim
theorem S.f86(hE:bF E)(h:eD H t nv mv nx mr Y T)(n:BitVec 16)(hn:n.toNat<T.N.length)(hQ:∀ Y' H',gU t nv mv nx mr Y T nv Y' (T.tidy n) H H'->Q (.tuple #[]) H'):E.call 52 [ptr t 0,vi (n.toNat:Int)] H Q:=by
 apply hE.f86;have hh:=h.head;obtain⟨y,b,o,h1,h2,h3⟩:=h.at_ hn;obtain⟨_,_,_,_,_,c5,c6⟩:=h3.cell;unfold Tr.tidy at hQ
 by_cases e1:(T.node n).links=0
 ·by_cases e2:(T.node n).held=0
  ·rw[if_pos ⟨e1,e2⟩]at hQ
   have hx:=Tr.node_get hn;have hylt:n.toNat<Y.length:=by rw[h.len];exact hn
   have hz:(T.N.zip Y)[n.toNat]? = some (T.node n,y):=by simp[List.zip,List.getElem?_zipWith,hx,h1]
   have hi:n.toNat<(cG T Y).length:=by rw[h.rows_len];exact hn
   obtain⟨b',o',H',q1,q2,q3,q4⟩:=h.rows.storeN (i:=n.toNat) hi (gF Nd.none ⟨aZ,aZ⟩).cells rfl rfl;rw[h2]at q1;simp only[Option.some.injEq,Value.pointer.injEq,Addr.mk.injEq,and_true]at q1;obtain⟨rfl,rfl⟩:=q1;have u1:=h.ow.set (rs:=dW t nv mv nx mr Y T) (k:=1) (r:=cQ 7 nv (cG T Y)) (by simp[dW]) (cB.upd (v:=nv) (rows:=cG T Y) ⟨q4,λb hb => .inl hb⟩ q3)
   have o1:=h.ow.upd u1;have hk3:((dW t nv mv nx mr Y T).set 1 (cQ 7 nv ((cG T Y).set n.toNat (gF Nd.none ⟨aZ,aZ⟩).cells)))[n.toNat+3]? = some (cO (T.node n) y):=by simp[dW,hz]
   have ho:=o1.part hk3
   have ue:Upd (cO (T.node n) y) (cO Nd.none ⟨aZ,aZ⟩) H' H':=by
    refine⟨dK.refl _ _,?_,?_,?_⟩
    ·intro r hr
     simp only[List.mem_cons,List.not_mem_nil,or_false]at hr;rcases hr with rfl | rfl
     ·exact cB.nil _ _ _
     ·exact cB.nil _ _ _
    ·intro b hb
     simp[cO,dC,cQ,eY,blk]at hb
    ·simp[cO,dC,cQ,eY,blk]
   have u2:=o1.set hk3 ue;have hzz:=oC (λ_=>Nd.none) (⟨aZ,aZ⟩:RLy) hx hylt
   have he:((dW t nv mv nx mr Y T).set 1 (cQ 7 nv ((cG T Y).set n.toNat (gF Nd.none ⟨aZ,aZ⟩).cells))).set (n.toNat+3) (cO Nd.none ⟨aZ,aZ⟩)=dW t nv mv nx mr (Y.set n.toNat ⟨aZ,aZ⟩) (T.upd n λ_=>Nd.none):=by
    simp only[dW,cG,Tr.upd,hzz,List.map_set,List.set_cons_succ,List.set_cons_zero]
   have u3:=u1.trans u2;rw[he]at u3;simp only[F.f86,aY,aJ,aE,Nat.add_zero,Nat.zero_add,hh,bB,cE.at0,h2,c5,e1,aW,decide_true,dT,c6,e2,aU,aIC,q2,aL,aD,aS];exact hQ _ H' ⟨u3,by simp[Tr.upd,h.len],by simpa[Tr.upd] using h.fit⟩
  ·rw[if_neg λk=>e2 k.2]at hQ
   simp only[F.f86,aY,aJ,aE,Nat.add_zero,Nat.zero_add,hh,bB,cE.at0,h2,c5,e1,aW,decide_true,dT,c6,e2,decide_false,aU,aL,aD,aM];exact hQ Y H (h.same (Ext.refl _))
 ·rw[if_neg λk=>e1 k.1]at hQ
  simp only[F.f86,aY,aJ,aE,Nat.add_zero,Nat.zero_add,hh,bB,cE.at0,h2,c5,e1,aW,decide_false,gM,bC,aL,aD,aM];exact hQ Y H (h.same (Ext.refl _))
theorem S.f67(hE:bF E)(h:eD H t nv mv nx mr Y T)(n:BitVec 16)(more:Bool)(hb:0<=(T.node n).held/\(T.node n).held<9223372036854775807)(hQ:∀ Y' H',gU t nv mv nx mr Y T nv Y' (T.hold n more).1 H H'->Q (vi (T.hold n more).2) H'):E.call 73 [ptr t 0,vi (n.toNat:Int),vb more] H Q:=by
 apply hE.f67;simp only[F.f67];refine S.f73 hE h n λb o y H1 e1 hn hat =>?_;obtain⟨c0,_,_,_,_,_,c6⟩:=hn.cell;unfold Tr.hold at hQ
 by_cases k0:(T.node n).kind=0#8
 ·simp[k0]at hQ
  have:((T.node n).kind.toNat:Int)=0:=by rw[k0];rfl
  simp only[aY,aJ,aE,Nat.add_zero,c0,this,aW,decide_true,aL,aD,aS];exact hQ _ _ (h.same e1)
 ·have hk:¬ ((T.node n).kind.toNat:Int)=0:=by rw[tE];exact k0
  have hlt:=dA k0;obtain⟨rfl,hy,hp⟩:=hat hlt;simp only[aY,aJ,aE,Nat.add_zero,c0,hk,aW,decide_false,aL,aD,aM];cases more with
  | true =>
   simp[k0]at hQ;obtain⟨H2,q1,q2⟩:=h.num hlt hy hp (Nd.addH 1) (λ_=>⟨rfl,rfl⟩) (k:=6) (by omega) (v:=(T.node n).held+1) rfl
   simp only[aS,aY,aJ,aE,c6,eM (a:=(T.node n).held) (b:=1) (by omega) (by omega),q1,aL,aD]
   exact hQ _ _ q2
  | false =>
   by_cases k1:(T.node n).held=0
   ·simp[k0,k1]at hQ
    simp only[aM,aY,aJ,aE,aW,c6,k1,decide_true,aS,aL,aD];exact hQ _ _ (h.same e1)
   ·simp[k0,k1]at hQ
    obtain⟨H2,q1,q2⟩:=h.num hlt hy hp (Nd.addH (-1)) (λ_=>⟨rfl,rfl⟩) (k:=6) (by omega) (v:=(T.node n).held - 1) rfl
    simp only[aM,aY,aJ,aE,aW,c6,k1,decide_false,fZ (a:=(T.node n).held) (b:=1) (by omega) (by omega),q1,aL,aD]
    refine S.f86 hE (q2.ref h) n (by simpa[Tr.upd] using hlt) λY' H3 u =>?_
    exact hQ _ _ (q2.trans u)
end
end
section
section
variable {E:Sy}{H0 H H' H'' H1:AH}{Q:Value->AH->Prop}{t:Nat}{nv nv' nv'' mv:Value}{nx:Int}{mr:List (List Value)}{Y Y' Y'':List RLy}{T T' T'':Tr}
theorem eD.newL(h:eD H t nv mv nx mr Y T){n:BitVec 16}(hn:n.toNat<T.N.length){y:RLy}(hy:Y[n.toNat]? = some y){b o:Nat}(hp:aP 7 nv (vi (n.toNat:Int))=some (ptr b o))(f:Nd->Nd)(hf:∀ x:Nd,(f x).data=x.data){v':Value}(e:Ext H H1)(g:cB zH H1 2 v' (gA (f (T.node n)).ents))(fr:eQ H.next v')(hc:(gF (f (T.node n)) { y with l:=v' }).cells=(gF (T.node n) y).cells.set 2 v'):
  ∃ H',aR (ptr b (o+2)) v' H1=some H'/\gU t nv mv nx mr Y T nv (Y.set n.toNat { y with l:=v' }) (T.upd n f) H H' :=
 h.cell hn hy hp f _ (cO.setL (h.node_y hn hy) (hf _) e g fr) (by omega) g.plain hc
theorem aCK(s:aK)(k:BitVec 16):aV [(0,1),(1,1)] #[(.string ⟨#[]⟩),vi 0] [(0,str s),(1,vi (k.toNat:Int))]=some (.agg (dZ.cells ⟨s,(k.toNat:Int)⟩).toArray):=dZ.build s (k.toNat:Int)
theorem Tr.room_zero{n:BitVec 16}{s:aK}(h:T.room n s=0):(T.node n).kind=2#8/\bX s (T.node n).ents=none/\(T.node n).links≠0/\cP s=true/\(T.node n).ents.length<32:=by
 unfold Tr.room at h
 by_cases d1:T.dir n=0
 ·have hk:(T.node n).kind=2#8:=by
   unfold Tr.dir at d1
   split at d1
   ·simp at d1
   ·split at d1
    ·assumption
    ·simp at d1
  simp only[d1,ne_eq,not_true,if_false]at h
  by_cases ok:cP s=false
  ·simp[ok]at h
  ·simp only[ok,Bool.false_eq_true,if_false]at h
   cases hl:bX s (T.node n).ents with
   | some x=>rw[hl]at h;simp at h
   | none =>
    rw[hl]at h;simp only[Option.isSome_none,Bool.false_eq_true,if_false]at h
    split at h
    ·simp at h
    ·split at h
     ·simp at h
     ·exact⟨hk,rfl,by assumption,by simpa using ok,by omega⟩
 ·simp[d1]at h
theorem S.f60(hE:bF E)(h:eD H t nv mv nx mr Y T)(hs:T.small)(n:BitVec 16)(s:aK)(hsl:s.length<2 ^ 63)(v:BitVec 16)(hc : -9223372036854775808<=T.change/\T.change<9223372036854775807)(hl:0<=(T.node v).links)(hQ:∀ Y' H',gU t nv mv nx mr Y T nv Y' (T.add n s v).1 H H'->Q (vi (T.add n s v).2) H'):E.call 21 [ptr t 0,vi (n.toNat:Int),str s,vi (v.toNat:Int)] H Q:=by
 apply hE.f60;simp only[F.f60];refine S.f73 hE h v λb o y H1 e1 hn hat =>?_;obtain⟨c0,_,_,_,_,c5,_⟩:=hn.cell;unfold Tr.add at hQ
 by_cases k0:(T.node v).kind=0#8
 ·simp[k0]at hQ
  have:((T.node v).kind.toNat:Int)=0:=by rw[k0];rfl
  simp only[aY,aJ,aE,Nat.add_zero,c0,this,aW,decide_true,aL,aD,aS];exact hQ _ _ (h.same e1)
 have hk:¬ ((T.node v).kind.toNat:Int)=0:=by rw[tE];exact k0
 have hlt:=dA k0;obtain⟨rfl,hy,hp⟩:=hat hlt
 by_cases k2:(T.node v).kind=2#8
 ·simp[k0,k2]at hQ
  have:((T.node v).kind.toNat:Int)=2:=by rw[k2];rfl
  simp only[aY,aJ,aE,Nat.add_zero,c0,this,show decide ((2:Int)=0)=false from rfl,aW,decide_true,decide_false,aL,aD,aS,aM];exact hQ _ _ (h.same e1)
 have hk2:¬ ((T.node v).kind.toNat:Int)=2:=by rw[mT];exact k2
 simp only[aY,aJ,aE,Nat.add_zero,c0,hk,hk2,aW,decide_false,aL,aD,aM];refine S.f83 hE h hs n s hsl λH2 e2 =>?_;have hn2:=hn.mono e2;obtain⟨_,_,_,_,_,c5,_⟩:=hn2.cell
 by_cases r0:T.room n s=0
 ·by_cases l0:(T.node v).links=0
  ·simp[k0,k2,r0,l0]at hQ
   simp only[bR,r0,ne_eq,not_true,decide_false,decide_true,aY,aJ,aE,c5,l0,aW,aL,aD,aS,aM];exact hQ _ _ (h.same e2)
  by_cases l1:256<=(T.node v).links
  ·simp[k0,k2,r0,l0,l1]at hQ
   simp only[bR,r0,ne_eq,not_true,decide_false,decide_true,aY,aJ,aE,c5,l0,l1,aW,dL,aL,aD,aS,aM];exact hQ _ _ (h.same e2)
  simp[k0,k2,r0,l0,l1]at hQ;obtain⟨hd,hno,_⟩:=Tr.room_zero r0;have hdlt:n.toNat<T.N.length:=dA (by rw[hd];decide)
  have h2:=h.mono e2;obtain⟨yn,bn,on,y1,p1,nd1⟩:=h2.at_ hdlt;obtain⟨_,_,c2,_⟩:=nd1.cell;have hh:=h2.head;simp only[bR,r0,ne_eq,not_true,decide_false,aY,aJ,aE,Nat.add_zero,Nat.zero_add,c5,l0,l1,aW,dL,hh,bB,cE.at0,p1,c2,aCK,aL,aD,aM];refine S.f88 hE yn.l (T.node n).ents nd1.2.2 (by have:=(Tr.room_zero r0).2.2.2.2;omega) s v λv' H3 e3 g3 f3 =>?_
  have hh3:=(h2.mono e3).head;obtain⟨H4,s4,u4⟩:=h2.newL hdlt y1 p1 (Nd.addE s v) (λ_=>rfl) e3 g3 f3 rfl;have h4:=u4.ref h2;have hvn:v≠n:=by rintro rfl;exact k2 hd
  have hnode:(T.upd n (Nd.addE s v)).node v=T.node v:=by rw[Tr.node_upd (by rw[hd];decide),if_neg hvn]
  have hlt4:v.toNat<(T.upd n (Nd.addE s v)).N.length:=by simpa[Tr.upd] using hlt
  obtain⟨y4,b4,o4,q1,q2,q3⟩:=h4.at_ hlt4;rw[hp]at q2;simp only[Option.some.injEq,Value.pointer.injEq,Addr.mk.injEq,and_true]at q2;obtain⟨rfl,rfl⟩:=q2;obtain⟨_,_,_,_,_,d5,_⟩:=q3.cell;rw[hnode]at d5;obtain⟨H5,s5,u5⟩:=h4.num hlt4 q1 hp (Nd.addL 1) (λ_=>⟨rfl,rfl⟩) (k:=5) (by omega) (v:=(T.node v).links+1) (by rw[hnode];rfl)
  have h5:=u5.ref h4;obtain⟨H6,s6,u6⟩:=h5.tick;have hh5:=h5.head;refine⟨by simp only[aE,hh3,hh],?_⟩
  have hcc:((T.upd n (Nd.addE s v)).upd v (Nd.addL 1)).change=T.change:=rfl;rw[hcc]at s6 hh5;simp only[p1,aJ,s4,aY,aE,d5,eM (a:=(T.node v).links) (b:=1) (by omega) (by omega),s5,hh5,bB,Nat.zero_add,cE.at4,eM (a:=T.change) (b:=1) (by omega) (by omega),s6,aL,aD]
  exact hQ _ _ ((gU.after e2 u4).trans (u5.trans u6))
 ·simp[k0,k2,r0]at hQ
  simp only[bR,r0,ne_eq,not_false_iff,decide_true,aL,aD,aS];exact hQ _ _ (h.same e2)
theorem S.f65(hE:bF E)(h:eD H t nv mv nx mr Y T)(hs:T.small)(n:BitVec 16)(s:aK)(dir:Bool)(hc : -9223372036854775808<=T.change/\T.change<9223372036854775807)(hk:(T.look n s).2=0->(T.node (T.look n s).1).kind≠0#8 /\ -9223372036854775807<=(T.node (T.look n s).1).links/\(T.node (T.look n s).1).links<9223372036854775807)(hel:(T.node n).ents.length<2 ^ 36)(hQ:∀ Y' H',gU t nv mv nx mr Y T nv Y' (T.drop n s dir).1 H H'->Q (vi (T.drop n s dir).2) H'):E.call 19 [ptr t 0,vi (n.toNat:Int),str s,vb dir] H Q:=by
  apply hE.f65;simp only[F.f65];refine S.f70 hE h hs n s λH1 e1 =>?_;unfold Tr.drop at hQ
  by_cases l0:(T.look n s).2=0
  · obtain⟨hd,hlk⟩:=Tr.look_ok l0
    obtain⟨k0,k1,k2⟩:=hk l0;simp only[l0,ne_eq,not_true,if_false]at hQ;generalize hv:(T.look n s).1=v at *;simp only[aL,dU,List.getElem?_cons_zero,List.getElem?_cons_succ,l0,bR,ne_eq,not_true,decide_false,aD,aM];refine S.f73 hE (h.mono e1) v λb o y H2 e2 hn hat =>?_;obtain⟨rfl,hy,hp⟩:=hat (dA k0);obtain⟨c0,_,c2,_,_,c5,_⟩:=hn.cell;have hl:=hn.lenL;have hvlt:=dA k0;have hnlt:n.toNat<T.N.length:=dA (by rw[hd];decide)
    have fin:¬ (dir=true/\(T.node v).kind≠2#8)->¬ (dir=false/\(T.node v).kind=2#8)->¬ (dir=true/\0<(T.node v).ents.length) ->
       (opt (aF (ptr t 0)) λv26=>opt (aB v26 0) λv27=>opt (aC v27 H2) λv28=>opt (aF (ptr t 0)) λv29=>opt (aB v29 0) λv30=>opt (aC v30 H2) λv31 =>
         opt (aP 7 v31 (vi (n.toNat:Int))) λv32=>opt (aB v32 2) λv33=>opt (aC v33 H2) λv34 =>
         E.call 26 [ptr t 0,vi (n.toNat:Int)] H2 λv35 H19 =>
         aC v33 H19=aC v33 H2/\aC v30 H19=aC v30 H2/\aC v27 H19=aC v27 H2 /\
         E.call 40 [v35,str s] H19 λv36 H20 =>
         aC v33 H20=aC v33 H2/\aC v30 H20=aC v30 H2/\aC v27 H20=aC v27 H2 /\
         E.call 51 [v34,v36] H20 λv37 H21 =>
         aC v27 H21=aC v27 H2 /\
         opt (aP 7 v28 (vi (n.toNat:Int))) λv38=>opt (aB v38 2) λv39=>opt (aR v39 v37 H21) λH22 =>
         opt (aF (ptr b o)) λv40=>opt (aB v40 5) λv41=>opt (aC v41 H22) λv42=>opt (aA .sub v42 (vi 1)) λv43 =>
         opt (aF (ptr b o)) λv44=>opt (aB v44 5) λv45=>opt (aR v45 v43 H22) λH23 =>
         opt (aF (ptr t 0)) λv46=>opt (aB v46 4) λv47=>opt (aC v47 H23) λv48=>opt (aA .add v48 (vi 1)) λv49 =>
         opt (aF (ptr t 0)) λv50=>opt (aB v50 4) λv51=>opt (aR v51 v49 H23) λH24 =>
         E.call 52 [ptr t 0,vi (v.toNat:Int)] H24 λv52 H25=>Q (vi 0) H25):=by
      intro n1 n2 n3;rw[if_neg n1,if_neg n2,if_neg n3]at hQ;have h2:=h.mono e1;obtain⟨yn,bn,on,y1,p1,nd1⟩:=h2.at_ hnlt;obtain⟨_,_,c2n,_⟩:=nd1.cell;have hh:=h2.head;simp only[aY,aJ,aE,Nat.add_zero,Nat.zero_add,hh,bB,cE.at0,p1,c2n,aL,aD];refine S.f73 hE h2 n λbz oz yz H3 e3 hnz hatz =>?_;obtain⟨rfl,hyz,hpz⟩:=hatz hnlt;refine⟨rfl,rfl,rfl,?_⟩;refine S.f87 hE hnz s (hs n) ?_;refine⟨rfl,rfl,rfl,?_⟩;obtain⟨j,hj,j1,j2,j3⟩:=jK s _ v hlk;rw[j1];refine S.f89 hE yn.l (T.node n).ents nd1.2.2 hel j hj λv' H4 e4 g4 f4 =>?_;rw[<- j3]at g4;have hh4:=(h2.mono e4).head;obtain⟨H5,s5,u5⟩:=h2.newL hnlt y1 p1 (Nd.delE s) (λ_=>rfl) e4 g4 f4 rfl;have h5:=u5.ref h2
      have hnode:((T.upd n (Nd.delE s)).node v).links=(T.node v).links:=by
        rw[Tr.node_upd (by rw[hd];decide)]
        split
        · rename_i e;rw[e];rfl
        · rfl
      have hlt5:v.toNat<(T.upd n (Nd.delE s)).N.length:=by simpa[Tr.upd] using hvlt
      obtain⟨y5,b5,o5,q1,q2,q3⟩:=h5.at_ hlt5;rw[hp]at q2;simp only[Option.some.injEq,Value.pointer.injEq,Addr.mk.injEq,and_true]at q2;obtain⟨rfl,rfl⟩:=q2;obtain⟨_,_,_,_,_,d5,_⟩:=q3.cell;rw[hnode]at d5;obtain⟨H6,s6,u6⟩:=h5.num hlt5 q1 hp (Nd.addL (-1)) (λ_=>⟨rfl,rfl⟩) (k:=5) (by omega) (v:=(T.node v).links - 1) (by rw[<- hnode];rfl)
      have h6:=u6.ref h5;obtain⟨H7,s7,u7⟩:=h6.tick;have hh6:=h6.head;have hcc:((T.upd n (Nd.delE s)).upd v (Nd.addL (-1))).change=T.change:=rfl;rw[hcc]at s7 hh6;refine⟨by simp only[aE,hh4,hh],?_⟩
      simp only[p1,aJ,s5,aY,aE,d5,fZ (a:=(T.node v).links) (b:=1) (by omega) (by omega),s6,hh6,bB,Nat.zero_add,cE.at4,eM (a:=T.change) (b:=1) (by omega) (by omega),s7,aL,aD]
      refine S.f86 hE (u7.ref h6) v (by simpa[Tr.upd,Tr.bump] using hvlt) λY' H8 u8 =>?_
      exact hQ _ _ ((gU.after e1 u5).trans ((u6.trans u7).trans u8))
    cases dir with
    | true =>
      by_cases k3:(T.node v).kind=2#8
      · have hk3:((T.node v).kind.toNat:Int)=2:=by rw[k3];rfl
        by_cases z0:0<(T.node v).ents.length
        · have z0':(0:Int)<(T.node v).ents.length:=by omega
          simp[k3,z0]at hQ;simp only[dT,gM,dV,aY,aJ,aE,Nat.add_zero,c0,hk3,bR,bL,gt_iff_lt,ne_eq,not_true,decide_false,decide_true,Bool.not_true,c2,hl,z0',aU,bC,aL,aD,aS,aM];exact hQ _ _ (h.same e1)
        · have z0':¬ (0:Int)<(T.node v).ents.length:=by omega
          simp only[dT,gM,dV,aY,aJ,aE,Nat.add_zero,c0,hk3,bR,bL,gt_iff_lt,ne_eq,not_true,decide_false,decide_true,Bool.not_true,c2,hl,z0',aU,bC,aL,aD,aS,aM];exact fin (by simp[k3]) (by simp) (by simp[z0])
      · have hk3:¬ ((T.node v).kind.toNat:Int)=2:=by rw[mT];exact k3
        simp[k3]at hQ;simp only[dT,gM,dV,aY,aJ,aE,Nat.add_zero,c0,hk3,bR,ne_eq,not_false_iff,decide_true,aU,aL,aD,aS];exact hQ _ _ (h.same e1)
    | false =>
      by_cases k3:(T.node v).kind=2#8
      · have hk3:((T.node v).kind.toNat:Int)=2:=by rw[k3];rfl
        simp[k3]at hQ;simp only[dT,gM,dV,aY,aJ,aE,Nat.add_zero,c0,hk3,aW,decide_false,decide_true,Bool.not_false,aU,bC,aL,aD,aS,aM];exact hQ _ _ (h.same e1)
      · have hk3:¬ ((T.node v).kind.toNat:Int)=2:=by rw[mT];exact k3
        simp only[dT,gM,dV,aY,aJ,aE,Nat.add_zero,c0,hk3,aW,decide_false,decide_true,Bool.not_false,aU,bC,aL,aD,aS,aM];exact fin (by simp) (by simp[k3]) (by simp)
  · simp[l0]at hQ
    simp only[aL,dU,List.getElem?_cons_zero,List.getElem?_cons_succ,l0,bR,ne_eq,not_false_iff,decide_true,aD,aS];exact hQ _ _ (h.same e1)
end
end
section
section
variable {E:Sy}{H0 H H' H'' H1:AH}{Q:Value->AH->Prop}{t:Nat}{nv nv' nv'' mv:Value}{nx:Int}{mr:List (List Value)}{Y Y' Y'':List RLy}{T T' T'':Tr}
theorem eD.setRow(h:eD H t nv mv nx mr Y T){n:BitVec 16}(hn:n.toNat<T.N.length)(x':Nd)(hd:x'.data=[])(he:x'.ents=[]):
  ∃ b o H',aP 7 nv (vi (n.toNat:Int))=some (ptr b o)/\storeN 7 (ptr b o) (.agg (gF x' ⟨aZ,aZ⟩).cells.toArray) H=some H'/\gU t nv mv nx mr Y T nv (Y.set n.toNat ⟨aZ,aZ⟩) (T.upd n λ_=>x') H H':=by
 obtain⟨y,b,o,h1,h2,h3⟩:=h.at_ hn;have hx:=Tr.node_get hn;have hylt:n.toNat<Y.length:=by rw[h.len];exact hn
 have hz:(T.N.zip Y)[n.toNat]? = some (T.node n,y):=by simp[List.zip,List.getElem?_zipWith,hx,h1]
 have hi:n.toNat<(cG T Y).length:=by rw[h.rows_len];exact hn
 obtain⟨b',o',H',q1,q2,q3,q4⟩:=h.rows.storeN (i:=n.toNat) hi (gF x' ⟨aZ,aZ⟩).cells rfl rfl;have u1:=h.ow.set (rs:=dW t nv mv nx mr Y T) (k:=1) (r:=cQ 7 nv (cG T Y)) (by simp[dW]) (cB.upd (v:=nv) (rows:=cG T Y) ⟨q4,λb hb => .inl hb⟩ q3)
 have o1:=h.ow.upd u1;have hk3:((dW t nv mv nx mr Y T).set 1 (cQ 7 nv ((cG T Y).set n.toNat (gF x' ⟨aZ,aZ⟩).cells)))[n.toNat+3]? = some (cO (T.node n) y):=by simp[dW,hz]
 have ue:Upd (cO (T.node n) y) (cO x' ⟨aZ,aZ⟩) H' H':=by
  refine⟨dK.refl _ _,?_,?_,?_⟩
  ·intro r hr
   simp only[List.mem_cons,List.not_mem_nil,or_false]at hr;rcases hr with rfl | rfl
   ·rw[hd];exact cB.nil _ _ _
   ·rw[he];exact cB.nil _ _ _
  ·intro b hb
   simp[cO,dC,cQ,eY,blk]at hb
  ·simp[cO,dC,cQ,eY,blk]
 have u2:=o1.set hk3 ue;have hzz:=oC (λ_=>x') (⟨aZ,aZ⟩:RLy) hx hylt
 have he:((dW t nv mv nx mr Y T).set 1 (cQ 7 nv ((cG T Y).set n.toNat (gF x' ⟨aZ,aZ⟩).cells))).set (n.toNat+3) (cO x' ⟨aZ,aZ⟩)=dW t nv mv nx mr (Y.set n.toNat ⟨aZ,aZ⟩) (T.upd n λ_=>x'):=by
  simp only[dW,cG,Tr.upd,hzz,List.map_set,List.set_cons_succ,List.set_cons_zero]
 have u3:=u1.trans u2;rw[he]at u3;exact⟨b',o',H',q1,q2,u3,by simp[Tr.upd,h.len],by simpa[Tr.upd] using h.fit⟩
theorem eD.push(h:eD H t nv mv nx mr Y T)(hfit:T.N.length<60000):
  ∃ v' H2 H3,AM.app 7 96 nv (slc H.next 0 1 1) (H.new (.cells (gF Nd.none ⟨aZ,aZ⟩).cells none))=some (v',H2)/\aR (ptr t 0) v' H2=some H3/\gU t nv mv nx mr Y T v' (Y++[⟨aZ,aZ⟩]) { T with N:=T.N++[Nd.none] } H H3:=by
 obtain⟨v',H2,a1,a2,a3⟩:=h.rows.app1 (Nat.zero_le _) (bytes:=96) (gF Nd.none ⟨aZ,aZ⟩).cells rfl rfl (by decide) (by decide) (by rw[h.rows_len];omega)
 have u1:=h.ow.set (rs:=dW t nv mv nx mr Y T) (k:=1) (r:=cQ 7 nv (cG T Y)) (by simp[dW]) (cB.upd (v:=nv) (rows:=cG T Y) a3 a2)
 have o1:=h.ow.upd u1;have hh:H2.get t = .cells (cE.cells ⟨nv,T.limit,mv,nx,T.change⟩) none:=o1.holds (bE t (cE.cells ⟨nv,T.limit,mv,nx,T.change⟩)) (by simp[dW])
 have u2:=o1.set (rs:=(dW t nv mv nx mr Y T).set 1 (cQ 7 v' (cG T Y++[(gF Nd.none ⟨aZ,aZ⟩).cells]))) (k:=0) (by simp[dW]) (bE.put hh (cE.cells ⟨v',T.limit,mv,nx,T.change⟩))
 have o2:=o1.upd u2
 have u3:=o2.add (cO Nd.none ⟨aZ,aZ⟩) (Ext.refl _) (by
  intro r hr;simp only[List.mem_cons,List.not_mem_nil,or_false]at hr;rcases hr with rfl | rfl
  ·exact cB.nil _ _ _
  ·exact cB.nil _ _ _) (by intro b hb;simp[cO,dC,cQ,eY,blk]at hb) (by simp[cO,dC,cQ,eY,blk])
 have he:(((dW t nv mv nx mr Y T).set 1 (cQ 7 v' (cG T Y++[(gF Nd.none ⟨aZ,aZ⟩).cells]))).set 0 (bE t (cE.cells ⟨v',T.limit,mv,nx,T.change⟩)))++[cO Nd.none ⟨aZ,aZ⟩]=dW t v' mv nx mr (Y++[⟨aZ,aZ⟩]) { T with N:=T.N++[Nd.none] }:=by
  have hz:(T.N++[Nd.none]).zip (Y++[(⟨aZ,aZ⟩:RLy)])=T.N.zip Y++[(Nd.none,⟨aZ,aZ⟩)]:=by
   rw[List.zip_append h.len.symm];rfl
  simp[dW,cG,hz]
 have u4:=u1.trans (u2.trans u3);rw[he]at u4;refine⟨v',H2,_,a1,?_,u4,by simp[h.len],by simp;omega⟩
 rw[aO,if_pos a2.plain,hh];simp
theorem aKk(k:Int):aV [(0,1),(1,1),(2,1),(3,1),(4,1),(5,1),(6,1)] #[vi 0,(.slice none 0 0),(.slice none 0 0),vi 0,(.string ⟨#[]⟩),vi 0,vi 0] [(0,vi k),(5,vi 1)]=some (.agg (cD.cells ⟨k,aZ,aZ,0,[],1,0⟩).toArray):=rfl
theorem Tr.put_same{a:Nat}(x:Nd)(h:a<T.N.length)(hlt:a<65536):T.upd (BitVec.ofNat 16 a) (λ_=>x)=T.put a x:=by
 have e:(BitVec.ofNat 16 a).toNat=a:=by rw[BitVec.toNat_ofNat,Nat.mod_eq_of_lt (by omega)]
 unfold Tr.upd Tr.put;rw[if_pos h,e]
 congr 1
 apply List.ext_getElem?;intro i;rw[List.getElem?_modify,List.getElem?_set]
 by_cases hi:a=i
 ·subst hi
  simp[h]
 ·simp[hi]
theorem Tr.put_push(x:Nd)(hlt:T.N.length<65536):Tr.upd { T with N:=T.N++[Nd.none] } (BitVec.ofNat 16 T.N.length) (λ_=>x)=T.put T.N.length x:=by
 rw[Tr.put_same x (by simp) hlt]
 unfold Tr.put;simp
theorem aKR:([vi 0,(.slice none 0 0),(.slice none 0 0),vi 0,(.string ⟨#[]⟩),vi 0,vi 0]:List Value)=cD.zero.cells:=rfl
theorem S.f71(hE:bF E)(h:eD H t nv mv nx mr Y T)(hs:T.small)(n:BitVec 16)(s:aK)(hsl:s.length<2 ^ 63)(k:BitVec 8)(text:List UInt8)(hc : -9223372036854775808<=T.change/\T.change<9223372036854775807)(hN:1<=T.N.length/\T.N.length<60000)(hdp:k=2#8->T.room n s=0->T.deepF 20 n=T.deep n)(hQ:∀ nv' Y' H',gU t nv mv nx mr Y T nv' Y' (T.make n s k text).1 H H'->Q (.tuple #[vi ((T.make n s k text).2.1.toNat:Int),vi (T.make n s k text).2.2]) H'):E.call 17 [ptr t 0,vi (n.toNat:Int),str s,vi (k.toNat:Int),str text] H Q:=by
  apply hE.f71;simp only[F.f71];refine S.f83 hE h hs n s hsl λH1 e1 =>?_;unfold Tr.make at hQ
  by_cases r0:T.room n s=0
  rotate_left
  · simp[r0]at hQ
    simp only[bR,r0,ne_eq,not_false_iff,decide_true,aL,aD,aS];exact hQ _ _ _ (h.same e1)
  have h1:=h.mono e1;obtain⟨hd,hno,_,_,hel⟩:=Tr.room_zero r0;have hnlt:n.toNat<T.N.length:=dA (by rw[hd];decide)
  simp only[r0,ne_eq,not_true,if_false]at hQ;simp only[bR,r0,ne_eq,not_true,decide_false,aL,aD,aM];have hfree:=Tr.free_ok hN.1 (by omega:T.N.length<=60000)
  have hft:(BitVec.ofNat 16 T.free).toNat=T.free:=by rw[BitVec.toNat_ofNat,Nat.mod_eq_of_lt (by have:=hfree.lt;omega)]
  have last:(¬ (k=0#8\/3#8<k\/(k=3#8/\(text.length<1\/120<text.length))))->¬ (T.limit<=T.len\/(k=2#8/\16<=T.deep n))->∀ H2,Ext H1 H2 ->
      lp6 (F.f71_l1 E Q) [ptr t 0,vi (n.toNat:Int),str s,vi (k.toNat:Int),str text,vi 1] H2:=by
    intro g1 g2 H2 e2;rw[if_neg g1,if_neg g2]at hQ;have h2:=h1.mono e2;have hh2:=h2.head
    have fin:∀ nv2 Y2 T2 H3,gU t nv mv nx mr Y T nv2 Y2 T2 H2 H3->T.free<T2.N.length->(∀ x,T2.upd (BitVec.ofNat 16 T.free) (λ_=>x)=T.put T.free x)->F.f71_j1 E Q (ptr t 0) (vi (n.toNat:Int)) (str s) (vi (k.toNat:Int)) (str text) (vi ((BitVec.ofNat 16 T.free).toNat:Int)) H3:=by
      intro nv2 Y2 T2 H3 u3 hlt3 hput;have h3:=u3.ref h2
      have wQ:∀ H4,H4=H3.new (.cells (gF (Nd.made n k text) ⟨aZ,aZ⟩).cells none)->F.f71_j3 E Q (ptr t 0) (vi (n.toNat:Int)) (str s) (vi ((BitVec.ofNat 16 T.free).toNat:Int)) (ptr H3.next 0) H4:=by
        rintro H4 rfl;have h4:=h3.mono ((Ext.refl H3).new (.cells (gF (Nd.made n k text) ⟨aZ,aZ⟩).cells none));have hh4:=h4.head
        have lo:aH 7 (ptr H3.next 0) (H3.new (.cells (gF (Nd.made n k text) ⟨aZ,aZ⟩).cells none))=some (.agg (gF (Nd.made n k text) ⟨aZ,aZ⟩).cells.toArray):=by
          rw[aQ,AH.get_new_self,oN _ _ 7 rfl];rfl
        have hlt4:(BitVec.ofNat 16 T.free).toNat<T2.N.length:=by rw[hft];exact hlt3
        obtain⟨b,o,H5,q1,q2,u5⟩:=h4.setRow hlt4 (Nd.made n k text) rfl rfl;rw[hput]at u5;have h5:=u5.ref h4;have hh5:=h5.head;have hnf:n≠BitVec.ofNat 16 T.free:=by rintro e;have:=hfree.zero;rw[<- e,hd]at this;simp at this
        have hnode:(T.put T.free (Nd.made n k text)).node n=T.node n:=by rw[Tr.node_put hfree.le hfree.lt,if_neg hnf]
        have hnlt5:n.toNat<(T.put T.free (Nd.made n k text)).N.length:=dA (by rw[hnode,hd];decide)
        obtain⟨yn,bn,on,y1,p1,nd1⟩:=h5.at_ hnlt5;rw[hnode]at nd1;obtain⟨_,_,c2,_⟩:=nd1.cell;have hen:=aCK s (BitVec.ofNat 16 T.free);simp only[F.f71_j3,aY,aJ,aE,Nat.add_zero,Nat.zero_add,hh4,bB,cE.at0,lo,q1,q2,hh5,p1,c2,hen,aL,aD];refine S.f88 hE yn.l (T.node n).ents nd1.2.2 (by omega) s (BitVec.ofNat 16 T.free) λv' H6 e6 g6 f6 =>?_
        have hh6:=(h5.mono e6).head;obtain⟨H7,s7,u7⟩:=h5.newL hnlt5 y1 p1 (Nd.addE s (BitVec.ofNat 16 T.free)) (λ_=>rfl) e6 (by rw[hnode];exact g6) f6 (by rw[hnode];rfl)
        have h7:=u7.ref h5;obtain⟨H8,s8,u8⟩:=h7.tick;have hh7:=h7.head;have hcc:((T.put T.free (Nd.made n k text)).upd n (Nd.addE s (BitVec.ofNat 16 T.free))).change=T.change:=rfl;rw[hcc]at s8 hh7;refine⟨by simp only[aE,hh6,hh5],?_⟩
        simp only[p1,aJ,s7,aY,aE,hh7,bB,Nat.zero_add,cE.at4,eM (a:=T.change) (b:=1) (by omega) (by omega),s8,aL,aD]
        have hfin:=hQ _ _ _ (gU.after (e1.trans e2) (u3.trans (gU.after ((Ext.refl H3).new _) (u5.trans (u7.trans u8)))));exact hfin
      have k2:=mT k;have k3:=aFw k;simp only[F.f71_j1,aKk (k.toNat:Int),aL,aD];simp only[bD,aKR,bJ,AH.get_new_self,cD.cells_length,cD.splice_cells,AH.new_put,List.size_toArray,Nat.zero_add,Nat.le_refl,show(cD.cells ⟨(k.toNat:Int),aZ,aZ,0,[],1,0⟩).all plain1=true from rfl,and_self,if_true,aL,aD,aW,k2,aJ,aO,tJ,F.f71_j2,k3]
      by_cases c2:k=2#8
      · have c3:¬ k=3#8:=by rw[c2];decide
        simp only[aS,aM,F.f71_j2,aW,k3,eq_true c2,eq_false c3,decide_true,decide_false,aS,aM,aJ,Nat.zero_add,aO,tJ,if_true,AH.get_new_self,cD.cells_length,show(3<7)=True from by simp,AH.new_put,cD.set3,aL,aD]
        refine wQ _ ?_
        congr 2
        subst c2
        rfl
      · by_cases c3:k=3#8
        · simp only[F.f71_j2,aW,k3,eq_false c2,eq_true c3,decide_true,decide_false,aS,aM,aJ,Nat.zero_add,aO,aAN,if_true,AH.get_new_self,cD.cells_length,show(4<7)=True from by simp,AH.new_put,cD.set4,aL,aD]
          refine wQ _ ?_
          congr 2
          subst c3
          rfl
        · simp only[F.f71_j2,aW,k3,eq_false c2,eq_false c3,decide_false,aM,aL,aD]
          refine wQ _ ?_
          congr 2
          simp[gF,Nd.made,c2,c3]
    refine bY.ind (λi l H'=>H2=H'/\∃ a:Nat,l=[ptr t 0,vi (n.toNat:Int),str s,vi (k.toNat:Int),str text,vi a]/\1<=a/\i+a=T.free) ?_ (T.free - 1) ⟨rfl,1,rfl,by omega,by have:=hfree.pos;omega⟩
    rintro i _ _ X hX ⟨rfl,a,rfl,ha,hia⟩;have hls:=h2.lenSlc;have hflt:=hfree.lt;have hfle:=hfree.le;have hat:(BitVec.ofNat 16 a).toNat=a:=by rw[BitVec.toNat_ofNat,Nat.mod_eq_of_lt (by omega)]
    by_cases hlt:a<T.free
    · have hu:=hfree.used a ha hlt
      have hal:(a:Int)<T.N.length:=by omega
      obtain⟨y,b,o,q1,q2,q3⟩:=h2.at_ (n:=BitVec.ofNat 16 a) (by rw[hat];omega)
      rw[hat]at q2;obtain⟨c0,_⟩:=q3.cell
      have hk:(0:Int)<((T.node (BitVec.ofNat 16 a)).kind.toNat:Int):=by
        have:¬ ((T.node (BitVec.ofNat 16 a)).kind.toNat:Int)=0:=by rw[tE];exact hu
        omega
      simp only[F.f71_l1,eF,eR,eW,fR,jZ,nQ,aY,aJ,aE,Nat.add_zero,Nat.zero_add,hh2,bB,cE.at0,hls,bS,hal,decide_true,dT,q2,c0,bL,gt_iff_lt,hk,aU,cK a (by omega),aL,aD,aS]
      exact hX (i - 1) (by omega) _ _ ⟨rfl,a+1,rfl,by omega,by omega⟩
    · have:a=T.free:=by omega
      subst this
      by_cases hlen:T.free<T.N.length
      · have hal:(T.free:Int)<T.N.length:=by omega
        have hne:¬ (T.free:Int)=T.N.length:=by omega
        obtain⟨y,b,o,q1,q2,q3⟩:=h2.at_ (n:=BitVec.ofNat 16 T.free) (by rw[hat];omega)
        rw[hat]at q2;obtain⟨c0,_⟩:=q3.cell;have hk:¬ (0:Int)<((T.node (BitVec.ofNat 16 T.free)).kind.toNat:Int):=by rw[hfree.zero];decide
        have hf:=fin _ _ _ _ (h2.same (Ext.refl _)) hlen λx=>Tr.put_same x hlen hflt;rw[hft]at hf;simp only[F.f71_l1,eF,eR,eW,fR,jZ,nQ,aY,aJ,aE,Nat.add_zero,Nat.zero_add,hh2,bB,cE.at0,hls,bS,hal,decide_true,dT,q2,c0,bL,gt_iff_lt,hk,decide_false,aU,aW,hne,aL,aD,aM];exact hf
      · have hal:¬ (T.free:Int)<T.N.length:=by omega
        have heq:T.free=T.N.length:=by omega
        have hne:(T.free:Int)=T.N.length:=by omega
        obtain⟨v',H4,H5,a1,a2,u5⟩:=h2.push hN.2;have hf:=fin _ _ _ _ u5 (by simp;omega) λx=>by rw[heq];exact Tr.put_push x (by omega)
        rw[hft]at hf;have hb1:buildS 1 7 #[vi 0,(.slice none 0 0),(.slice none 0 0),vi 0,(.string ⟨#[]⟩),vi 0,vi 0] [(0,.agg (gF Nd.none ⟨aZ,aZ⟩).cells.toArray)]=some (.cells (gF Nd.none ⟨aZ,aZ⟩).cells none,eA 1 1):=cD.build1 _;simp only[F.f71_l1,eF,eR,eW,fR,jZ,nQ,aY,aJ,aE,Nat.add_zero,Nat.zero_add,hh2,bB,cE.at0,hls,bS,hal,Int.lt_irrefl,decide_false,gM,bC,aW,hne,decide_true,aIC,hb1,AM.cX,eN,a1,eJ,a2,aL,aD,aM,aS];rw[hne]at hf;exact hf
  have hkn:∀ j:Nat,j<256->(((k.toNat:Int)=(j:Int))=(k=BitVec.ofNat 8 j)):=λj hj=>propext (mD k j hj)
  have hk0:((k.toNat:Int)<1)=(k=0#8):=by
    rw[<- tE,eq_iff_iff];omega
  have hk3l:((3:Int)<k.toNat)=(3#8<k):=by
    rw[eq_iff_iff,BitVec.lt_def]
    show(3:Int)<k.toNat↔3<k.toNat
    omega
  have k3:=aFw k;have k2:=mT k
  have rest:(¬ (k=0#8\/3#8<k\/(k=3#8/\(text.length<1\/120<text.length)))) ->
      (opt (aF (ptr t 0)) λv20=>opt (aB v20 1) λv21=>opt (aC v21 H1) λv22=>E.call 48 [ptr t 0] H1 λv23 H16=>aC v21 H16=aC v21 H1 /\
       opt (aA .geq v23 v22) λv24 =>
       gd v24 false (λk'=>k' (vi (k.toNat:Int)) H16) H16 λv25 H17 =>
       gO v24 false (aA .eql v25 (vi 2)) H17 λv26 H18 =>
       gV v24 false v26 H18 λv27 H19 =>
       gV v27 true (ptr t 0) H19 λv28 H20 =>
       gd v27 true (λk=>k (vi (n.toNat:Int)) H20) H20 λv29 H21 =>
       gd v27 true (λk=>E.call 49 [v28,v29] H21 λv h=>k v h) H21 λv30 H22 =>
       gO v27 true (aA .geq v30 (vi 16)) H22 λv31 H23 =>
       gO v24 false (pick v27 v31 (.bool false)) H23 λv32 H24 =>
       opt (pick v24 (.bool true) v32) λv33 =>
       ifB v33 (Q (.tuple #[vi 0,vi 28]) H24) (
       lp6 (F.f71_l1 E Q) [ptr t 0,vi (n.toNat:Int),str s,vi (k.toNat:Int),str text,vi 1] H24)):=by
    intro g1;have last:=last g1;simp only[g1,if_false]at hQ;have hh:=h1.head;simp only[aY,aJ,aE,Nat.zero_add,hh,bB,cE.at1,aL,aD];refine S.f69 hE h1 ?_;refine⟨rfl,?_⟩
    by_cases t4:T.limit<=T.len
    · simp[t4]at hQ
      simp only[dL,ge_iff_le,t4,decide_true,rI,aU,aL,aD,aS];exact hQ _ _ _ (h.same e1)
    by_cases t5:k=2#8
    · simp only[dL,ge_iff_le,t4,decide_false,kA,aW,k2,eq_true t5,decide_true,dT,aL,aD]
      refine S.f80 hE h1 n λH2 e2 =>?_;rw[hdp t5 r0]
      by_cases t6:16<=T.deep n
      · have t6':(16:Int)<=T.deep n:=by omega
        simp[t4,t5,t6]at hQ;simp only[dT,kA,dL,ge_iff_le,t6',decide_true,aU,bC,aL,aD,aS];exact hQ _ _ _ (h.same (e1.trans e2))
      · have t6':¬ (16:Int)<=T.deep n:=by omega
        simp only[dT,kA,dL,ge_iff_le,t6',decide_false,aU,bC,aL,aD,aM];exact last (by simp only[t4,t6,and_false,or_self,not_false_eq_true]) _ e2
    · simp only[dL,ge_iff_le,t4,decide_false,kA,gM,aW,k2,eq_false t5,aU,bC,aL,aD,aM]
      exact last (by simp[t4,t5]) _ (Ext.refl _)
  by_cases t1:k=0#8
  · simp[t1]at hQ
    simp only[bS,hk0,eq_true t1,decide_true,rI,aU,aL,aD,aS];exact hQ _ _ _ (h.same e1)
  by_cases t2:3#8<k
  · simp[t2]at hQ
    simp only[bS,hk0,eq_false t1,decide_false,kA,bL,gt_iff_lt,hk3l,eq_true t2,decide_true,rI,aU,bC,aL,aD,aS];exact hQ _ _ _ (h.same e1)
  by_cases t3:k=3#8
  · by_cases t7:text.length<1
    · have:(text.length:Int)<1:=by omega
      simp[t3,t7]at hQ;simp only[bS,hk0,eq_false t1,decide_false,kA,bL,gt_iff_lt,hk3l,eq_false t2,aW,k3,eq_true t3,decide_true,dT,rI,dN,this,aU,bC,aL,aD,aS];exact hQ _ _ _ (h.same e1)
    have t7':¬ (text.length:Int)<1:=by omega
    by_cases t8:120<text.length
    · have:(120:Int)<text.length:=by omega
      simp[t3,t8]at hQ;simp only[bS,hk0,eq_false t1,decide_false,kA,bL,gt_iff_lt,hk3l,eq_false t2,aW,k3,eq_true t3,decide_true,dT,rI,dN,t7',this,aU,bC,aL,aD,aS];exact hQ _ _ _ (h.same e1)
    have t8':¬ (120:Int)<text.length:=by omega
    have:=rest (by simp[t1,t2,t7,t8])
    simp only[bS,hk0,eq_false t1,decide_false,kA,bL,gt_iff_lt,hk3l,eq_false t2,aW,k3,eq_true t3,decide_true,dT,rI,dN,t7',t8',aU,bC,aL,aD,aM];exact this
  · have:=rest (by simp[t1,t2,t3])
    simp only[bS,hk0,eq_false t1,decide_false,kA,gM,bL,gt_iff_lt,hk3l,eq_false t2,aW,k3,eq_false t3,aU,bC,aL,aD,aM];exact this
end
end
end Go.AM
