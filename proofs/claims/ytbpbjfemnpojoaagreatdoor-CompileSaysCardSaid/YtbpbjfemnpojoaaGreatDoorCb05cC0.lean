/- CONTRACTS ON THE PRINTED FUNCTIONS. -/
import Derived.Test.YtbpbjfemnpojoaaGreatDoorCb05cF
set_option linter.all false
namespace Go.AM
section
def jQ{w:Nat}(n:BitVec w)(i:Nat):BitVec 8:=(n >>> (8*i)).setWidth 8
def rJ(w:BitVec 32):List (BitVec 8):=[jQ w 0,jQ w 1,jQ w 2,jQ w 3]
def eD(n:BitVec 64)(k:Nat):List (BitVec 8):=(List.range k).map (jQ n)
def fS(n:BitVec 64):BitVec 32:=n.setWidth 32
def dD(n:BitVec 64):BitVec 32:=(n >>> 32).setWidth 32
theorem kG{w:Nat}(n:BitVec w)(i j:Nat):(jQ n i).getLsbD j=(decide (j<8)&&n.getLsbD (8*i+j)):=by
 simp[jQ,BitVec.getLsbD_setWidth,BitVec.getLsbD_ushiftRight]
theorem uP(n:BitVec 64)(i:Nat)(h:i<4):jQ (fS n) i=jQ n i:=by
 apply BitVec.eq_of_getLsbD_eq;intro j hj;rw[kG,kG];simp[fS,BitVec.getLsbD_setWidth,show 8*i+j<32 by omega]
theorem uF(n:BitVec 64)(i:Nat)(h:i<4):jQ (dD n) i=jQ n (4+i):=by
 apply BitVec.eq_of_getLsbD_eq;intro j hj;rw[kG,kG];simp[dD,BitVec.getLsbD_setWidth,BitVec.getLsbD_ushiftRight,show 8*i+j<32 by omega]
 rw[show 32+(8*i+j)=8*(4+i)+j by omega]
theorem uH(n:BitVec 32)(i:Nat)(h:i<4):jQ (n.setWidth 64) i=jQ n i:=by
 apply BitVec.eq_of_getLsbD_eq;intro j hj;rw[kG,kG];simp[BitVec.getLsbD_setWidth,show 8*i+j<64 by omega]
theorem aF3(n:BitVec 32):eD (n.setWidth 64) 4=rJ n:=by
 simp only[eD,List.range,List.range.loop,List.map,rJ];rw[uH _ _ (by omega),uH _ _ (by omega),uH _ _ (by omega),uH _ _ (by omega)]
theorem aJ6(n:BitVec 64):eD n 8=rJ (fS n)++rJ (dD n):=by
 simp only[eD,List.range,List.range.loop,List.map,rJ,List.cons_append,List.nil_append];rw[uP _ _ (by omega),uP _ _ (by omega),uP _ _ (by omega),uP _ _ (by omega),uF _ _ (by omega),uF _ _ (by omega),uF _ _ (by omega),uF _ _ (by omega)]
def vI(l:List (BitVec 8)):BitVec 64:=(l.zipIdx).foldl (λ(acc:BitVec 64) (p:BitVec 8×Nat)=>acc|||(p.1.setWidth 64 <<< (8*p.2))) 0#64
theorem aBQ(l:List (BitVec 8))(b:BitVec 8):vI (l++[b])=vI l|||(b.setWidth 64 <<< (8*l.length)):=by
 simp[vI,List.zipIdx_append]
theorem aIt:∀ (n:Nat) (l:List (BitVec 8)),l.length=n->∀ p,p<64->(vI l).getLsbD p=((l[p / 8]?).map λb=>b.getLsbD (p % 8)).getD false:=by
 intro n
 induction n with
 | zero=>intro l hl p _;have:=List.eq_nil_of_length_eq_zero hl;subst this;simp[vI]
 | succ n ih =>
  intro l hl p hp
  obtain⟨l',b,rfl⟩:∃ l' b,l=l'++[b]:=by
   refine⟨l.dropLast,l.getLast (by intro e;subst e;simp at hl),(List.dropLast_concat_getLast _).symm⟩
  have hn:l'.length=n:=by simpa using hl
  rw[aBQ,BitVec.getLsbD_or,ih l' hn p hp,hn]
  by_cases h1:p / 8<n
  ·rw[List.getElem?_append_left (by omega)]
   have:¬ 8*n<=p:=by omega
   simp[BitVec.getLsbD_shiftLeft,show p<8*n by omega]
  ·rw[List.getElem?_eq_none (l:=l') (by omega)]
   by_cases h2:p / 8=n
   ·rw[List.getElem?_append_right (by omega),hn,h2]
    simp[BitVec.getLsbD_shiftLeft,BitVec.getLsbD_setWidth,hp,show ¬ p<8*n by omega,show p - 8*n<64 by omega]
    rw[show p - 8*n=p % 8 by omega]
   ·rw[List.getElem?_eq_none (by simp;omega)]
    simp[BitVec.getLsbD_shiftLeft,BitVec.getLsbD_setWidth,hp,show ¬ p<8*n by omega,show p - 8*n<64 by omega]
    exact BitVec.getLsbD_of_ge _ _ (by omega)
theorem aED(n:BitVec 32):(vI (rJ n)).setWidth 32=n:=by
 apply BitVec.eq_of_getLsbD_eq;intro p hp;rw[BitVec.getLsbD_setWidth,<- aF3,aIt 4 _ (by simp[eD]) p (by omega)]
 simp only[eD];rw[List.getElem?_map,List.getElem?_range (by omega)]
 simp only[Option.map_some,Option.getD_some];rw[kG,BitVec.getLsbD_setWidth];simp[show p % 8<8 by omega,show 8*(p / 8)+p % 8=p by omega,hp,show p<64 by omega]
end
section
variable {E:Sy}{H:AH}{Q:Value->AH->Prop}
def qE(a:BitVec 32):BitVec 32 :=
 if a&&&4294901760#32=327680#32 then 327680#32 else if a&&&4294901760#32=2147221504#32 then 2147221504#32 else if a&&&4294901760#32=2147418112#32 then 2147418112#32 else 2147483648#32
theorem S.f97(hE:aX E)(a:BitVec 32)(hQ:Q (u32 (qE a)) H):E.call 72 [u32 a] H Q:=by
 apply hE.f97;simp[F.f97,F.f97_j1,uA];unfold qE at hQ
 repeat' split at hQ
 all_goals (first | (simp[*];done) | (simp[*];exact hQ))
def bR(a:BitVec 32):Int :=
 if qE a=2147483648#32 then 3 else if qE a=327680#32 then 2 else if qE a=2147221504#32 then 1 else 0
theorem S.f98(hE:aX E)(a:BitVec 32)(hQ:Q (vi (bR a)) H):E.call 81 [u32 a] H Q:=by
 apply hE.f98;apply S.f97 hE;simp[uA];unfold bR at hQ
 repeat' split at hQ
 all_goals (first | (simp[*];done) | (simp[*];exact hQ))
def cW(a b:BitVec 32):BitVec 32:=if bR a<bR b then b else a
theorem S.f103(hE:aX E)(a b:BitVec 32)(hQ:Q (u32 (cW a b)) H):E.call 43 [u32 a,u32 b] H Q:=by
 apply hE.f103;apply S.f98 hE;apply S.f98 hE;unfold cW at hQ;simp[uA]
 split at hQ<;>simp[*]
def aNT(e:Int):BitVec 32:=327680#32|||BitVec.ofInt 32 (if 4095<(if 0 > e then 0 else e) then 4095 else(if 0 > e then 0 else e))
theorem S.f99(hE:aX E)(e:Int)(hQ:Q (u32 (aNT e)) H):E.call 45 [vi e] H Q:=by
 apply hE.f99;simp[F.f99];exact hQ
end
section
variable {E:Sy}{H:AH}{Q:Value->AH->Prop}
def bS(c:BitVec 16):BitVec 16:=c&&&7#16
theorem S.f16(hE:aX E)(c:BitVec 16)(hQ:Q (u16 (bS c)) H):E.call 47 [u16 c] H Q:=by
 apply hE.f16;simp[F.f16];exact hQ
def aG7:List (BitVec 16):=[32,0,96,128,1,97,129,2,3,6,22,7,135,5,132]
theorem S.f18_j3(hE:aX E)(c:BitVec 16)(t:Bool)(hQ:Q (vb (t&&decide (bS c=5#16))) H):F.f18_j3 E Q (u16 c) (vb t) H:=by
 unfold F.f18_j3;cases t with
 | false=>simpa using hQ
 | true =>
  simp only[oO];apply S.f16 hE;simp
  simpa using hQ
def aA2(c:BitVec 16):Bool:=[16,32,48,64].contains (c &&& ~~~((c&&&8#16)|||7#16))&&decide (bS c=5#16)
theorem S.f18_j2(hE:aX E)(c:BitVec 16)(hQ:Q (vb (aA2 c)) H):F.f18_j2 E Q (u16 c) (u16 (c&&&8#16)) H:=by
 simp[F.f18_j2];unfold aA2 at hQ
 iterate 3
  refine dO (λh=>S.f18_j3 hE c (decide _) (by simpa[h] using hQ)) (λh =>?_)
  try simp
 exact S.f18_j3 hE c (decide _) (by simpa[*] using hQ)
theorem S.f18_j4(hE:aX E)(c:BitVec 16)(t:Bool)(hQ:Q (vb ((t&&decide (bS c=4#16))||aA2 c)) H):F.f18_j4 E Q (u16 c) (u16 (c&&&8#16)) (vb t) H:=by
 unfold F.f18_j4;cases t with
 | false=>exact S.f18_j2 hE c (by simpa using hQ)
 | true =>
  simp only[oO];apply S.f16 hE;simp;refine dO (λh=>by simpa[h] using hQ) (λh=>S.f18_j2 hE c (by simpa[h] using hQ))
def aAT(c:BitVec 16):Bool:=([0,16,32,48,64,80,96,112,160].contains (c &&& ~~~((c&&&8#16)|||7#16))&&decide (bS c=4#16))||aA2 c
theorem S.f18_j1(hE:aX E)(c:BitVec 16)(t:Bool)(hQ:Q (vb (t||aAT c)) H):F.f18_j1 E Q (u16 c) (vb t) H:=by
 unfold F.f18_j1;cases t with
 | true=>simpa using hQ
 | false =>
  simp;unfold aAT at hQ
  iterate 8
   refine dO (λh=>S.f18_j4 hE c (decide _) (by simpa[h] using hQ)) (λh =>?_)
   try simp
  exact S.f18_j4 hE c (decide _) (by simpa[*] using hQ)
theorem S.f18(hE:aX E)(c:BitVec 16)(hQ:Q (vb (aG7.contains c||aAT c)) H):E.call 77 [u16 c] H Q:=by
 apply hE.f18;simp[F.f18];unfold aG7 at hQ
 iterate 14
  refine dO (λh=>S.f18_j1 hE c (decide _) (by simpa[h] using hQ)) (λh =>?_)
  try simp
 exact S.f18_j1 hE c (decide _) (by simpa[*] using hQ)
end
section
variable {E:Sy}{H:AH}{Q:Value->AH->Prop}
abbrev sE(c:BitVec 16)(jt jf:BitVec 8)(k:BitVec 32):Value := .agg #[u16 c,u8 jt,u8 jf,u32 k]
theorem S.f19(hE:aX E)(k:BitVec 32)(hQ:∀ H',Ext H H'->Q (sE 32 0 0 k) H'):E.call 55 [u32 k] H Q:=by
 apply hE.f19;simp[F.f19,aT,AH.get_new];exact hQ _ ((Ext.refl H).new _)
theorem S.f21(hE:aX E)(k:BitVec 32)(hQ:∀ H',Ext H H'->Q (sE 6 0 0 k) H'):E.call 90 [u32 k] H Q:=by
 apply hE.f21;simp[F.f21,aT,AH.get_new];exact hQ _ ((Ext.refl H).new _)
theorem S.f22(hE:aX E)(k:BitVec 32)(hQ:∀ H',Ext H H'->Q (sE 5 0 0 k) H'):E.call 129 [u32 k] H Q:=by
 apply hE.f22;simp[F.f22,aT,AH.get_new];exact hQ _ ((Ext.refl H).new _)
theorem S.f20(hE:aX E)(k:BitVec 32)(hQ:∀ H',Ext H H'->Q (sE 84 0 0 k) H'):E.call 114 [u32 k] H Q:=by
 apply hE.f20;simp[F.f20,aT,AH.get_new];exact hQ _ ((Ext.refl H).new _)
theorem S.f17(hE:aX E)(c:BitVec 16)(k:BitVec 32)(jt jf:BitVec 8)(hQ:∀ H',Ext H H'->Q (sE (5#16|||c|||0#16) jt jf k) H'):E.call 87 [u16 c,u32 k,u8 jt,u8 jf] H Q:=by
 apply hE.f17;simp[F.f17,aT,AH.get_new]
 simpa using hQ _ ((Ext.refl H).new _)
abbrev aOo(l:List (BitVec 8)):Value := .agg (l.map u8).toArray
end
section
variable {E:Sy}{H:AH}{Q:Value->AH->Prop}
theorem aFU(c l:List Value)(o:Nat)(v:Value)(h:o+l.length<c.length):(aT c o l).set (o+l.length) v=aT c o (l++[v]):=by
 simp only[aT,List.append_assoc];rw[List.set_append_right _ _ (by simp;omega)]
 rw[List.set_append_right _ _ (by simp;omega)]
 simp only[List.length_take,Nat.min_eq_left (by omega:o<=c.length)]
 rw[show o+l.length - o - l.length=0 by omega]
 rw[List.drop_eq_getElem_cons h];rw[List.set_cons_zero];simp[List.length_append,Nat.add_assoc]
theorem S.f104(hE:aX E)(b o n c:Nat)(x:BitVec 64)(k:Nat)(hk:k<=8)(hkn:k<=n){cs:List Value}{f:Option Nat}(hb:H.get b = .cells cs f)(ho:o+k<=cs.length)(hQ:Q (.tuple #[]) (H.put b (.cells (aT cs o ((eD x k).map u8)) f))):E.call 133 [slc b o n c,u64 x,vi k] H Q:=by
 apply hE.f104;unfold F.f104;have hlt:=AH.lt_cells hb;refine aZ.count k (λi s H'=>H'=H.put b (.cells (aT cs o ((eD x i).map u8)) f)/\s=[slc b o n c,u64 x,vi k,vi i]) ?_ ⟨?_,rfl⟩
 ·rintro i _ _ X hi hX ⟨rfl,rfl⟩
  simp[F.f104_l1];refine dO (λh =>?_) (λh =>?_)
  ·have hik:i<k:=by omega
   rw[kD (by omega) (by omega)]
   have e8:(8:Int)*(i:Int)=((8*i:Nat):Int):=by omega
   simp only[aP,e8,aAY,aCP];rw[uC 1 b o n c i (by omega)]
   simp[AH.get_put,hlt,kB (show o+(List.map u8 (eD x i)).length<=cs.length by simp[eD];omega),show o+i<cs.length by omega]
   rw[bE (by omega)]
   refine hX hik _ _ ⟨?_,rfl⟩;have:=aFU cs ((eD x i).map u8) o (u8 (jQ x i)) (by simp[eD];omega)
   have e:(eD x (i+1))=eD x i++[jQ x i]:=by simp[eD,List.range_succ]
   rw[e,List.map_append,List.map_cons,List.map_nil,<- this];simp[eD,jQ]
  ·have:i=k:=by omega
   subst this;exact hQ
 ·simp[eD,aT]
  rw[<- hb];exact(AH.put_get H hlt).symm
theorem S.f105(hE:aX E)(v:Value)(l:List (BitVec 8))(k:Nat)(hk:k<=l.length)(hk8:k<=8)(hV:iT H v (l.map u8))(hQ:Q (u64 (vI (l.take k))) H):
  E.call 110 [v,vi k] H Q:=by
 apply hE.f105;obtain⟨v',e1,hV'⟩:=iT.slice hV (lo:=none) (hi:=some (vi k)) (i:=0) (j:=k) (.inr ⟨rfl,rfl⟩) (.inl rfl) (by omega) (by simpa using hk)
 have e2:((l.map u8).take k).drop 0=(l.take k).map u8:=by simp
 rw[e2]at hV';have e3:=hV'.lenSlc;have hlen:(l.take k).length=k:=by simp[hk]
 simp[F.f105,e1,e3,Nat.min_eq_left hk];refine aZ.count k (λi s H'=>H'=H/\s=[u64 (vI ((l.take k).take i)),v',vi k,vi i]) ?_ ⟨rfl,by simp[vI]⟩
 rintro i _ _ X hi hX ⟨rfl,rfl⟩;simp only[F.f105_l1,sH,sA,sF,sG];simp;refine dO (λh =>?_) (λh =>?_)
 ·have hik:i<k:=by omega
  obtain⟨b,o,f1,f2⟩:=iT.elem hV' (i:=i) (by simp;omega)
  simp only[List.getElem_map]at f2;simp only[f1,f2,aP,eM,aJx];rw[kD (by omega) (by omega)]
  have e8:(8:Int)*(i:Int)=((8*i:Nat):Int):=by omega
  simp only[aP,e8,aDZ,aKH];rw[bE (by omega)]
  refine hX hik _ _ ⟨rfl,?_⟩;rw[List.take_succ_eq_append_getElem (by omega:i<(l.take k).length),aBQ]
  have e9:((l.take k).take i).length=i:=by simp;omega
  rw[e9]
 ·have:i=k:=by omega
  subst this;rw[List.take_take,Nat.min_self];exact hQ
structure aN where
 number:BitVec 32
 arch:BitVec 32
 at_:BitVec 64
 args:List (BitVec 64)
def aN.ok(r:aN):Prop:=r.args.length=6
def aN.cells(r:aN):List Value:=u32 r.number :: u32 r.arch :: u64 r.at_ :: r.args.map u64
abbrev aN.v(r:aN):Value := .agg r.cells.toArray
def aN.words(r:aN):List (BitVec 32):=r.number :: r.arch :: fS r.at_ :: dD r.at_ :: r.args.flatMap λa=>[fS a,dD a]
def aN.bytes(r:aN):List (BitVec 8):=r.words.flatMap rJ
theorem aN.ok_cases{r:aN}(h:r.ok):∃ n a t x0 x1 x2 x3 x4 x5,r=⟨n,a,t,[x0,x1,x2,x3,x4,x5]⟩:=by
 obtain⟨n,a,t,l⟩:=r
 match l,h with
 | [x0,x1,x2,x3,x4,x5],_=>exact⟨n,a,t,x0,x1,x2,x3,x4,x5,rfl⟩
theorem aGR(n b o i:Nat)(j:Int)(hj:j=(i:Int))(hi:i<=n):oZ n 1 (ptr b o) (some (vi j)) none none=some (.slice (some (if n=i then⟨b,o,none⟩ else(⟨b,o,none⟩:Addr).add (i*1))) (n - i) (n - i)):=by
 subst hj;have e0:bnd (none:Option Value) n n=some n:=rfl;have e1:bnd (some (vi (i:Int))) 0 n=some i:=by simp only[bnd];rw[if_pos (by omega)];simp
 simp only[oZ,Option.isSome_none,Bool.false_and,Bool.false_eq_true,if_false,e0,e1,Option.bind_some]
theorem tD(n b o i:Nat)(j:Int)(hj:j=(i:Int))(hi:i<n):oZ n 1 (ptr b o) (some (vi j)) none none=some (slc b (o+i) (n - i) (n - i)):=by
 rw[aGR n b o i j hj (by omega),if_neg (by omega)]
 simp only[Addr.add,Nat.mul_one]
 by_cases h:i=0
 ·simp[h]
 ·simp[h]
theorem aGb(done bs rest:List Value)(o:Nat)(ho:o=done.length)(h:bs.length<=rest.length):aT (done++rest) o bs=done++bs++rest.drop bs.length:=by
 subst ho;simp only[aT,List.take_left,List.drop_append];rw[List.drop_eq_nil_of_le (by omega)]
 simp[Nat.add_sub_cancel_left]
def BS(H H':AH)(c0:List Value)(done:List (BitVec 8)):Prop :=
 Ext H H'/\H'.next=H.next+3/\H'.get H.next = .cells c0 none/\H'.get (H.next+1) = .cells (zs 64 (u8 0#8)) none /\
 H'.get (H.next+2) = .cells (done.map u8++zs (64 - done.length) (u8 0#8)) none/\done.length<=64
theorem BS.put{H H':AH}{c0:List Value}{done:List (BitVec 8)}(h:BS H H' c0 done)(bs:List (BitVec 8))(hb:done.length+bs.length<=64):
  BS H (H'.put (H.next+2) (.cells (aT (done.map u8++zs (64 - done.length) (u8 0#8)) done.length (bs.map u8)) none)) c0 (done++bs):=by
 obtain⟨h1,h2,h3,h4,h5,h6⟩:=h;refine⟨h1.put (by omega) _,h2,?_,?_,?_,by simp;omega⟩
 ·rw[AH.get_put_ne _ _ (by omega)];exact h3
 ·rw[AH.get_put_ne _ _ (by omega)];exact h4
 ·rw[AH.get_put_self _ _ (by omega),aGb _ _ _ _ (by simp) (by simp;omega)]
  simp only[List.map_append,aNB,List.length_map,List.length_append];rw[Nat.sub_sub]
theorem S.put_BS(hE:aX E){H H':AH}{c0:List Value}{done:List (BitVec 8)}(h:BS H H' c0 done)(n c:Nat)(x:BitVec 64)(k:Nat)(hk:k<=8)(hn:k<=n)(hd:done.length+k<=64)(o:Nat)(ho:o=done.length)(hQ:∀ H'',BS H H'' c0 (done++eD x k)->Q (.tuple #[]) H''):E.call 133 [slc (H.next+2) o n c,u64 x,vi k] H' Q:=by
 subst ho;refine S.f104 hE (H.next+2) done.length n c x k hk hn h.2.2.2.2.1 (by simp;omega) (hQ _ ?_)
 exact h.put (eD x k) (by simp[eD];omega)
theorem S.f101(hE:aX E)(r:aN)(hr:r.ok)(hQ:∀ H',Ext H H'->Q (aOo r.bytes) H'):E.call 109 [r.v] H Q:=by
 obtain⟨n,a,t,x0,x1,x2,x3,x4,x5,rfl⟩:=aN.ok_cases hr;apply hE.f101;unfold F.f101;simp only[aKG,aQ,aW,aKp,AH.next_new];generalize hH3:(((H.new _).new _).new _)=H3
 have h0:BS H H3 (aN.cells ⟨n,a,t,[x0,x1,x2,x3,x4,x5]⟩) []:=by
  subst hH3;exact⟨(((Ext.refl H).new _).new _).new _,rfl,by simp[AH.get_new,Nat.add_assoc],by simp[AH.get_new,Nat.add_assoc],by simp[AH.get_new,Nat.add_assoc],by simp⟩
 clear hH3;have hc:∀ {H':AH} {d:List (BitVec 8)},BS H H' (aN.cells ⟨n,a,t,[x0,x1,x2,x3,x4,x5]⟩) d->H'.get H.next = .cells [u32 n,u32 a,u64 t,u64 x0,u64 x1,u64 x2,u64 x3,u64 x4,u64 x5] none:=λh=>h.2.2.1;rw[tD 64 (H.next+1+1) 0 0 0 rfl (by omega)]
 simp[hc h0];refine S.put_BS hE h0 64 64 (n.setWidth 64) 4 (by omega) (by omega) (by simp) 0 (by simp) λH4 h4 =>?_
 rw[tD 64 (H.next+1+1) 0 4 4 rfl (by omega)]
 simp[hc h4];refine S.put_BS hE h4 60 60 (a.setWidth 64) 4 (by omega) (by omega) (by simp[eD]) 4 (by simp[eD]) λH5 h5 =>?_
 rw[tD 64 (H.next+1+1) 0 8 8 rfl (by omega)]
 simp[hc h5];refine S.put_BS hE h5 56 56 t 8 (by omega) (by omega) (by simp[eD]) 8 (by simp[eD]) λH6 h6 =>?_
 simp[hc h6];generalize hd0:[]++eD (n.setWidth 64) 4++eD (a.setWidth 64) 4++eD t 8=d0 at h6;have hl0:d0.length=16:=by rw[<- hd0];simp[eD]
 refine aZ.count 6 (λi s H'=>BS H H' (aN.cells ⟨n,a,t,[x0,x1,x2,x3,x4,x5]⟩) (d0++([x0,x1,x2,x3,x4,x5].take i).flatMap (eD · 8))/\s=[ptr (H.next+1) 0,ptr (H.next+1+1) 0,.agg #[u64 x0,u64 x1,u64 x2,u64 x3,u64 x4,u64 x5],vi i]) ?_ ⟨by simpa using h6,rfl⟩
 rintro i _ H' X hi hX ⟨hB,rfl⟩;simp[F.f101_l1];refine dO (λh =>?_) (λh =>?_)
 ·have hi6:i<6:=by omega
  have hagg:zY 6 1 (.agg #[u64 x0,u64 x1,u64 x2,u64 x3,u64 x4,u64 x5]) (vi i)=some (u64 ([x0,x1,x2,x3,x4,x5][i]'(by simpa using hi6))):=by
   simp only[zY];rw[if_pos (by omega)]
   simp only[aI0,Int.toNat_natCast,Nat.mul_one];have:i=0\/i=1\/i=2\/i=3\/i=4\/i=5:=by omega
   rcases this with rfl | rfl | rfl | rfl | rfl | rfl<;>rfl
  rw[hagg,aP,kD (by omega) (by omega),aP,eB (by omega) (by omega),aP]
  rw[tD 64 (H.next+1+1) 0 (16+8*i) _ (by omega) (by omega)]
  simp only[aP]
  have hlen:(d0++([x0,x1,x2,x3,x4,x5].take i).flatMap (eD · 8)).length=16+8*i:=by
   have:i=0\/i=1\/i=2\/i=3\/i=4\/i=5:=by omega
   rcases this with rfl | rfl | rfl | rfl | rfl | rfl<;>simp[hl0,eD]
  refine S.put_BS hE hB (64 - (16+8*i)) (64 - (16+8*i)) _ 8 (by omega) (by omega) (by omega) _ (by omega) λH7 h7 =>?_
  rw[bE (by omega)]
  refine hX hi6 _ _ ⟨?_,rfl⟩;rw[List.take_succ_eq_append_getElem (by simpa using hi6),List.flatMap_append,<- List.append_assoc]
  simpa using h7
 ·have:i=6:=by omega
  subst this;obtain⟨q1,q2,q3,q4,q5,q6⟩:=hB
  have hd:d0++([x0,x1,x2,x3,x4,x5].take 6).flatMap (eD · 8)=aN.bytes ⟨n,a,t,[x0,x1,x2,x3,x4,x5]⟩:=by
   rw[<- hd0];simp[aN.bytes,aN.words,aF3,aJ6]
  rw[hd]at q5 q6;have hl:(aN.bytes ⟨n,a,t,[x0,x1,x2,x3,x4,x5]⟩).length=64:=rfl;generalize aN.bytes ⟨n,a,t,[x0,x1,x2,x3,x4,x5]⟩=d at *;rw[hl]at q5;simp only[Nat.sub_self,aMJ,List.append_nil]at q5;have hp:∀ x∈d,plain1 (u8 x)=true:=λx _=>rfl;simp[q5,q4,hl,List.take_of_length_le,aT,AH.get_put,q2];exact hQ _ (q1.put (by omega) _)
end
section
variable {E:Sy}{H:AH}{Q:Value->AH->Prop}
theorem iT.sub{H:AH}{b o n c:Nat}{cs:List Value}{f:Option Nat}(hg:H.get b = .cells cs f)(hf:f=none\/f=some 1)(ho:o+n<=cs.length)(hn:n<=c):iT H (slc b o n c) ((cs.drop o).take n):=by
 have hl:((cs.drop o).take n).length=n:=by simp;omega
 refine⟨λr hr=>by simp only[List.mem_map]at hr;obtain⟨x,_,rfl⟩:=hr;rfl,.inr ⟨b,o,c,by rw[List.length_map,hl],by rw[List.length_map,hl];exact hn,?_,?_⟩⟩
 ·rw[hg];rcases hf with rfl | rfl<;>simp[fits]
 ·rw[hg,oF,List.length_map,hl,Nat.mul_one,kR,if_pos ho]
theorem S.take_at(hE:aX E)(b o n c k:Nat)(l:List (BitVec 8)){f:Option Nat}(hg:H.get b = .cells (l.map u8) f)(hf:f=none\/f=some 1)(ho:o+n<=l.length)(hn:n<=c)(hk:k<=n)(hk8:k<=8)(hQ:Q (u64 (vI ((l.drop o).take k))) H):E.call 110 [slc b o n c,vi k] H Q:=by
 have hV:=iT.sub hg hf (o:=o) (n:=n) (c:=c) (by simpa using ho) hn
 have e:((l.map u8).drop o).take n=((l.drop o).take n).map u8:=by simp
 rw[e]at hV;refine S.f105 hE _ _ k (by simp;omega) hk8 hV ?_
 rwa [List.take_take,Nat.min_eq_left hk]
end
section
variable {E:Sy}{H:AH}{Q:Value->AH->Prop}
theorem aDu(r:aN)(hr:r.ok):r.words.length=16:=by
 obtain⟨n,a,t,x0,x1,x2,x3,x4,x5,rfl⟩:=aN.ok_cases hr
 rfl
theorem aJn(r:aN)(hr:r.ok):r.bytes.length=64:=by
 obtain⟨n,a,t,x0,x1,x2,x3,x4,x5,rfl⟩:=aN.ok_cases hr
 rfl
theorem aGP(r:aN)(i:Nat)(hi:i<r.words.length):(r.bytes.drop (4*i)).take 4=rJ r.words[i]:=by
 have:=lI (sz:=4) (r.words.map rJ) (by intro x hx;obtain⟨y,_,rfl⟩:=List.mem_map.1 hx;rfl) i (by simpa using hi)
 rw[List.getElem_map]at this;rw[<- this,Nat.mul_comm,aN.bytes,List.flatMap_def]
end
section
variable {E:Sy}{H:AH}{Q:Value->AH->Prop}
def kZ(r:aN)(a:BitVec 32):BitVec 32×Bool:=if a.toNat % 4=0/\a.toNat<=60 then(r.words.getD (a.toNat / 4) 0,true) else(0,false)
theorem S.f102(hE:aX E)(r:aN)(hr:r.ok)(a:BitVec 32)(hQ:∀ H',Ext H H'->Q (.tuple #[u32 (kZ r a).1,vb (kZ r a).2]) H'):E.call 84 [r.v,u32 a] H Q:=by
 apply hE.f102;simp[F.f102]
 have hm:(a % 4#32=0#32)↔a.toNat % 4=0:=by
  rw[<- BitVec.toNat_inj];simp
 by_cases h1:a.toNat % 4=0
 ·simp only[hm.2 h1]
  simp
  by_cases h2:60<a.toNat
  ·have h3:¬ a.toNat<=60:=by omega
   simp[h2];have:=hQ (H.new (cT.cells r.cells none)) (by simp)
   simpa[kZ,h1,h3] using this
  ·have h3:a.toNat<=60:=by omega
   simp[h2]
   have hl9:r.cells.length=9:=by
    obtain⟨n,a,t,x0,x1,x2,x3,x4,x5,rfl⟩:=aN.ok_cases hr
    rfl
   rw[if_pos (by omega),List.take_of_length_le (by omega)]
   simp only[Option.map_some,aP];refine S.f101 hE r hr λH4 h4 =>?_;have hb:=aJn r hr;simp[hb,aT];generalize hH5:H4.new _=H5;have hg:H5.get H4.next = .cells (r.bytes.map u8) none:=by subst hH5;simp
   have hx:Ext H H5:=by subst hH5;exact(((Ext.refl H).new _).trans h4).new _
   clear hH5;rw[show oZ 64 1 (ptr H4.next 0) (some (u32 a)) none none=oZ 64 1 (ptr H4.next 0) (some (vi (a.toNat:Int))) none none from rfl];rw[tD 64 H4.next 0 a.toNat _ rfl (by omega),aP]
   refine S.take_at hE H4.next (0+a.toNat) _ _ 4 r.bytes hg (.inl rfl) (by omega) (by omega) (by omega) (by omega) ?_
   have hw:=aGP r (a.toNat / 4) (by rw[aDu r hr];omega)
   have e4:0+a.toNat=4*(a.toNat / 4):=by omega
   rw[e4,hw];simp[aED];have:=hQ H5 hx;simp only[kZ,h1,h3,and_self,if_true]at this;rw[List.getD_eq_getElem?_getD,List.getElem?_eq_getElem (by rw[aDu r hr];omega)]at this
   exact this
 ·have:¬ (a % 4#32=0#32):=λe=>h1 (hm.1 e)
  simp[this];have:=hQ (H.new (cT.cells r.cells none)) (by simp)
  simpa[kZ,h1] using this
def fY(n:Int):Nat:=(if 5<(if 0 > n then 0 else n) then 5 else(if 0 > n then 0 else n)).toNat
theorem aEZ(n:Int):fY n<6:=by unfold fY;split<;>split<;>omega
theorem aE6(n:Int):(if 5<(if 0 > n then 0 else n) then 5 else(if 0 > n then 0 else n))=(fY n:Int):=by unfold fY;split<;>split<;>omega
theorem S.f100(hE:aX E)(n:Int)(b:Bool)(hQ:Q (u32 (BitVec.ofNat 32 (16+8*fY n+(if b then 4 else 0)))) H):E.call 111 [vi n,vb b] H Q:=by
 apply hE.f100;have hc:=aEZ n;simp only[F.f100,aMD,aP,aHk,aE6];rw[kD (by omega) (by omega),aP,eB (by omega) (by omega),aP]
 have e:(16:Int)+8*(fY n:Int)=((16+8*fY n:Nat):Int):=by omega
 simp only[e,aBh,aP,BitVec.ofInt_natCast];cases b with
 | false=>simpa using hQ
 | true =>
  simp
  have:BitVec.ofNat 32 (16+8*fY n)+4#32=BitVec.ofNat 32 (16+8*fY n+4):=by
   rw[<- BitVec.ofNat_add]
  rw[this];simpa using hQ
theorem aIh(r:aN)(hr:r.ok)(k:Nat)(hk:k<6)(hb:Nat)(hh:hb<2):r.words.getD (4+2*k+hb) 0=if hb=0 then fS (r.args.getD k 0) else dD (r.args.getD k 0):=by
 obtain⟨n,a,t,x0,x1,x2,x3,x4,x5,rfl⟩:=aN.ok_cases hr;have h1:k=0\/k=1\/k=2\/k=3\/k=4\/k=5:=by omega
 have h2:hb=0\/hb=1:=by omega
 rcases h1 with rfl | rfl | rfl | rfl | rfl | rfl<;>rcases h2 with rfl | rfl<;>rfl
theorem aJf(r:aN)(hr:r.ok)(k:Nat)(hk:k<6)(b:Bool):kZ r (BitVec.ofNat 32 (16+8*k+(if b then 4 else 0)))=(if b then dD (r.args.getD k 0) else fS (r.args.getD k 0),true):=by
 have h1:=aIh r hr k hk (if b then 1 else 0) (by split<;>omega)
 unfold kZ
 have e:(BitVec.ofNat 32 (16+8*k+(if b then 4 else 0))).toNat=16+8*k+(if b then 4 else 0):=by
  rw[BitVec.toNat_ofNat];apply Nat.mod_eq_of_lt;split<;>omega
 rw[e,if_pos (by constructor<;>split<;>omega)]
 have e2:(16+8*k+(if b then 4 else 0)) / 4=4+2*k+(if b then 1 else 0):=by split<;>omega
 rw[e2,h1];cases b<;>rfl
end
section
variable {E:Sy}{H:AH}{Q:Value->AH->Prop}
structure bA where
 arg:Int
 op:BitVec 8
 mask:BitVec 64
 value:BitVec 64
def bA.cells(c:bA):List Value:=[vi c.arg,u8 c.op,u64 c.mask,u64 c.value]
abbrev bA.v(c:bA):Value := .agg c.cells.toArray
def nT(op:Nat)(mask value a:BitVec 64):Bool :=
 if op=1 then decide (a=value) else if op=2 then decide (a≠value) else if op=3 then decide (a.toNat<value.toNat) else if op=4 then decide (a.toNat<=value.toNat)
 else if op=5 then decide (value.toNat<a.toNat) else if op=6 then decide (value.toNat<=a.toNat) else if op=7 then decide (a&&&mask=value) else false
def gZ(l:List (BitVec 64))(n:Nat):BitVec 64:=l.getD n 0
def holds(c:bA)(args:List (BitVec 64)):Bool:=if c.arg<0\/5<c.arg then false else nT c.op.toNat c.mask c.value (gZ args c.arg.toNat)
theorem aLb{pre:List Value}(args:List (BitVec 64))(h:args.length=6)(n:Int)(h0:0<=n)(h5:n<=5)(k:Nat)(hk:k=pre.length):∃ i:Nat,n=(i:Int)/\i<6/\(pre++args.map u64)[k+i]? = some (u64 (gZ args n.toNat)):=by
 refine⟨n.toNat,by omega,by omega,?_⟩
 subst hk;rw[List.getElem?_append_right (by omega),Nat.add_sub_cancel_left,List.getElem?_map,gZ,List.getD_eq_getElem?_getD,List.getElem?_eq_getElem (by omega)]
 rfl
theorem S.f69(hE:aX E)(c:bA)(r:aN)(hr:r.ok)(hQ:∀ H',Ext H H'->Q (vb (holds c r.args)) H'):E.call 80 [c.v,r.v] H Q:=by
 apply hE.f69;have hx:Ext H ((H.new (.cells c.cells none)).new (.cells r.cells none)):=((Ext.refl H).new _).new _;have hQ:=hQ _ hx;simp[F.f69,AH.get_new,bA.cells];unfold holds at hQ
 by_cases h0:c.arg<0
 ·simp[h0]
  simpa[h0,bA.cells] using hQ
 ·by_cases h5:5<c.arg
  ·simp[h0,AH.get_new,h5]
   simpa[h0,h5,bA.cells] using hQ
  ·obtain⟨i,e1,e2,e3⟩:=aLb (pre:=[u32 r.number,u32 r.arch,u64 r.at_]) r.args hr c.arg (by omega) (by omega) 3 rfl
   have e3:r.cells[3+i]? = some (u64 (gZ r.args c.arg.toNat)):=e3;simp[h0,AH.get_new,h5,bA.cells];rw[e1,aDs 6 1 _ _ i e2];simp[AH.get_new,e3];rw[<- e1];generalize gZ r.args c.arg.toNat=a at *;simp only[h0,h5,or_self,if_false,nT]at hQ
   have oe:∀ k:Nat,k<256->(c.op=BitVec.ofNat 8 k↔c.op.toNat=k):=by
    intro k hk;rw[<- BitVec.toNat_inj,BitVec.toNat_ofNat,Nat.mod_eq_of_lt (by omega)]
   have o1:=oe 1 (by omega)
   have o2:=oe 2 (by omega)
   have o3:=oe 3 (by omega)
   have o4:=oe 4 (by omega)
   have o5:=oe 5 (by omega)
   have o6:=oe 6 (by omega)
   have o7:=oe 7 (by omega)
   simp only[uA,o1,o2,o3,o4,o5,o6,o7];generalize c.op.toNat=op at *;have hc:c.cells=[vi c.arg,u8 c.op,u64 c.mask,u64 c.value]:=rfl;rw[hc]at hQ
   by_cases p1:op=1
   ·simp[p1,AH.get_new]at hQ ⊢; exact hQ
   by_cases p2:op=2
   ·simp[p2,AH.get_new]at hQ ⊢; exact hQ
   by_cases p3:op=3
   ·simp[p3,AH.get_new]at hQ ⊢; exact hQ
   by_cases p4:op=4
   ·simp[p4,AH.get_new]at hQ ⊢; exact hQ
   by_cases p5:op=5
   ·simp[p5,AH.get_new]at hQ ⊢; exact hQ
   by_cases p6:op=6
   ·simp[p6,AH.get_new]at hQ ⊢; exact hQ
   by_cases p7:op=7
   ·simp[p7,AH.get_new]at hQ ⊢; exact hQ
   ·simp[p1,p2,p3,p4,p5,p6,p7]at hQ ⊢; exact hQ
end
section
def dU(F:List Nat)(H H':AH):Prop:=H.next<=H'.next/\∀ b,b<H.next->b ∉ F->H'.get b=H.get b
theorem dU.refl(F:List Nat)(H:AH):dU F H H:=⟨Nat.le_refl _,λ_ _ _=>rfl⟩
theorem dU.trans{F F':List Nat}{H H' H'':AH}(h:dU F H H')(h':dU F' H' H'')(hs:∀ b∈F',b∈F\/H.next<=b):dU F H H'' :=
 ⟨Nat.le_trans h.1 h'.1,λb hb hf=>by
  rw[h'.2 b (Nat.lt_of_lt_of_le hb h.1) (λk=>(hs b k).elim hf (λk=>by omega)),h.2 b hb hf]⟩
theorem dU.trans'{F:List Nat}{H H' H'':AH}(h:dU F H H')(h':dU F H' H''):dU F H H'':=h.trans h' λ_ k => .inl k
theorem dU.new{F:List Nat}{H H':AH}(h:dU F H H')(o:cT):dU F H (H'.new o) :=
 ⟨Nat.le_succ_of_le h.1,λb hb hf=>by rw[AH.get_new_lt _ _ (Nat.lt_of_lt_of_le hb h.1)];exact h.2 b hb hf⟩
theorem dU.put{F:List Nat}{H H':AH}(h:dU F H H'){b:Nat}(hb:b∈F\/H.next<=b)(o:cT):dU F H (H'.put b o) :=
 ⟨h.1,λx hx hf=>by rw[AH.get_put_ne _ _ (by rintro rfl;exact hb.elim hf (λk=>by omega))];exact h.2 x hx hf⟩
theorem Ext.only{F:List Nat}{H H':AH}(h:Ext H H'):dU F H H':=⟨h.1,λb hb _=>h.2 b hb⟩
theorem dU.get{F:List Nat}{H H':AH}(h:dU F H H'){b:Nat}(hb:b<H.next)(hf:b ∉ F):H'.get b=H.get b:=h.2 b hb hf
theorem dU.obj{F:List Nat}{H H':AH}(h:dU F H H'){b:Nat}{o:cT}(ho:o ≠ .dead)(hg:H.get b=o)(hf:b ∉ F):H'.get b=o:=by
 rw[h.2 b (AH.lt_of_get (by rw[hg];exact ho)) hf,hg]
theorem dU.cells{F:List Nat}{H H':AH}(h:dU F H H'){b:Nat}{c:List Value}{f:Option Nat}(hg:H.get b = .cells c f)(hf:b ∉ F):H'.get b = .cells c f:=h.obj (by simp) hg hf
theorem dU.mono{F F':List Nat}{H H':AH}(h:dU F H H')(hs:∀ b∈F,b∈F'\/H.next<=b):dU F' H H' :=
 ⟨h.1,λb hb hf=>h.2 b hb λk=>(hs b k).elim hf (λk=>by omega)⟩
theorem dU.ext{F:List Nat}{H0 H H':AH}(h:dU F H H')(e:Ext H0 H)(hs:∀ b∈F,H0.next<=b):Ext H0 H' :=
 ⟨Nat.le_trans e.1 h.1,λb hb=>by rw[h.2 b (Nat.lt_of_lt_of_le hb e.1) (λk=>by have:=hs b k;omega)];exact e.2 b hb⟩
def Sub(Z H:AH):Prop:=Z.next<=H.next/\∀ b,Z.get b ≠ .dead->H.get b=Z.get b
theorem Sub.refl(H:AH):Sub H H:=⟨Nat.le_refl _,λ_ _=>rfl⟩
theorem Ext.sub{H H':AH}(e:Ext H H'):Sub H H':=⟨e.1,λ_ hb=>e.get (AH.lt_of_get hb)⟩
theorem Sub.trans{A B C:AH}(h:Sub A B)(h':Sub B C):Sub A C:=⟨Nat.le_trans h.1 h'.1,λb hb=>by rw[h'.2 b (by rw[h.2 b hb];exact hb),h.2 b hb]⟩
theorem Sub.ext{Z H H':AH}(h:Sub Z H)(e:Ext H H'):Sub Z H':=h.trans e.sub
theorem Sub.new{Z H:AH}(h:Sub Z H)(o:cT):Sub Z (H.new o):=h.ext ((Ext.refl H).new o)
theorem Sub.only{Z H H':AH}{F:List Nat}(h:Sub Z H)(o:dU F H H')(hF:∀ b∈F,Z.get b = .dead):Sub Z H' :=
 ⟨Nat.le_trans h.1 o.1,λb hb=>by
  have h1:=h.2 b hb;rw[o.2 b (AH.lt_of_get (by rw[h1];exact hb)) (λk=>hb (hF b k)),h1]⟩
theorem Sub.cells{Z H:AH}(h:Sub Z H){b:Nat}{c:List Value}{f:Option Nat}(hb:Z.get b = .cells c f):H.get b = .cells c f:=by
 rw[h.2 b (by rw[hb];simp),hb]
theorem AH.get_ge(H:AH){b:Nat}(h:H.next<=b):H.get b = .dead:=by simp[AH.get,Nat.not_lt.2 h]
theorem Rows.sub{Z H:AH}{sz:Nat}{v:Value}{rows:List (List Value)}(h:Rows Z sz v rows)(e:Sub Z H):Rows H sz v rows:=by
 refine⟨h.len,?_⟩;rcases h.at_ with h | ⟨b,o,c,h1,h2,h3,h4⟩
 ·exact .inl h
 ·have:=e.2 b (iD h4)
  exact .inr ⟨b,o,c,h1,h2,by rw[this];exact h3,by rw[this];exact h4⟩
def AH.freeze(Z:AH)(n b:Nat)(o:cT):AH:={ next:=n,raw:=λx=>if x=b then o else Z.get x }
theorem AH.get_freeze(Z:AH)(n b:Nat)(o:cT)(x:Nat)(hn:Z.next<=n)(hb:b<n):(Z.freeze n b o).get x=if x=b then o else Z.get x:=by
 by_cases h:x=b
 ·subst h;simp[AH.get,AH.freeze,hb]
 ·by_cases k:x<n
  ·simp[AH.get,AH.freeze,h,k]
  ·have:¬ x<Z.next:=by omega
   simp[AH.get,AH.freeze,h,k,this]
theorem Sub.freeze{Z H:AH}(h:Sub Z H){b:Nat}(hb:b<H.next):Sub (Z.freeze H.next b (H.get b)) H :=
 ⟨Nat.le_refl _,λx hx=>by
  rw[AH.get_freeze _ _ _ _ _ h.1 hb]at hx ⊢
  split
  ·rename_i e;rw[e]
  ·rename_i e;rw[if_neg e]at hx;exact h.2 x hx⟩
theorem Sub.to_freeze{Z H:AH}(h:Sub Z H){b:Nat}(hb:b<H.next):Sub Z (Z.freeze H.next b (H.get b)) :=
 ⟨h.1,λx hx=>by
  rw[AH.get_freeze _ _ _ _ _ h.1 hb]
  split
  ·rename_i e;rw[<- h.2 x hx,e]
  ·rfl⟩
def dJ(Z H:AH)(sz:Nat)(v:Value)(rows:List (List Value)):Prop :=
 (∀ r∈rows,r.length=sz/\r.all plain1=true)/\((rows=[]/\v=bY)\/∃ b f c cs,Z.get b = .dead/\v=slc b 0 rows.length c/\H.get b = .cells cs f/\rows.length<=c/\cs.length=c*sz/\cs.take (rows.length*sz)=rows.flatten /\
  (f=none\/f=some sz))
section
variable {Z H H':AH}{sz:Nat}{v:Value}{rows:List (List Value)}
theorem dJ.nil(Z H:AH)(sz:Nat):dJ Z H sz bY []:=⟨by simp,.inl ⟨rfl,rfl⟩⟩
theorem dJ.made{b n:Nat}{f:Option Nat}(hb:Z.get b = .dead)(hg:H.get b = .cells rows.flatten f)(hf:f=none\/f=some sz)(hn:rows.length=n)(hr:∀ r∈rows,r.length=sz/\r.all plain1=true):dJ Z H sz (slc b 0 n n) rows:=by
 subst hn;have hfl:=gY rows λr h=>(hr r h).1;exact⟨hr,.inr ⟨b,f,rows.length,rows.flatten,hb,rfl,hg,Nat.le_refl _,hfl,by rw[<- hfl,List.take_length],hf⟩⟩
theorem dJ.room{b c:Nat}{cs:List Value}(hb:Z.get b = .dead)(hg:H.get b = .cells cs none)(hc:cs.length=c*sz):dJ Z H sz (slc b 0 0 c) [] :=
 ⟨by simp,.inr ⟨b,none,c,cs,hb,rfl,hg,Nat.zero_le _,hc,by simp,.inl rfl⟩⟩
theorem dJ.toRows(h:dJ Z H sz v rows):Rows H sz v rows:=by
 rcases h.2 with ⟨rfl,rfl⟩ | ⟨b,f,c,cs,h1,rfl,h3,h4,h5,h6,h7⟩
 ·exact Rows.nil _ _ none
 ·refine⟨λr hr=>(h.1 r hr).1,.inr ⟨b,0,c,rfl,h4,?_,?_⟩⟩
  ·rw[h3];rcases h7 with rfl | rfl<;>simp[fits]
  ·have:rows.length*sz<=c*sz:=Nat.mul_le_mul_right _ h4
   rw[h3,kR,if_pos (by omega),List.drop_zero,h6]
theorem dJ.plain(h:dJ Z H sz v rows):plain1 v=true:=by
 rcases h.2 with ⟨_,rfl⟩ | ⟨b,f,c,cs,h1,rfl,_⟩<;>rfl
theorem dJ.keep(h:dJ Z H sz v rows)(e:∀ b,blk v=some b->b<H.next->H'.get b=H.get b):dJ Z H' sz v rows:=by
 refine⟨h.1,?_⟩;rcases h.2 with h | ⟨b,f,c,cs,h1,rfl,h3,h4⟩
 ·exact .inl h
 ·exact .inr ⟨b,f,c,cs,h1,rfl,by rw[e b rfl (AH.lt_cells h3)];exact h3,h4⟩
theorem dJ.ext(h:dJ Z H sz v rows)(e:Ext H H'):dJ Z H' sz v rows:=h.keep λb _ hb=>e.get hb
theorem dJ.only{F:List Nat}(h:dJ Z H sz v rows)(e:dU F H H')(hf:∀ b,blk v=some b->b ∉ F):dJ Z H' sz v rows:=h.keep λb k hb=>e.get hb (hf b k)
theorem dJ.blk_lt(h:dJ Z H sz v rows){b:Nat}(hb:blk v=some b):b<H.next:=by
 rcases h.2 with ⟨_,rfl⟩ | ⟨b',f,c,cs,h1,rfl,h3,_⟩
 ·simp[blk]at hb
 ·simp[blk]at hb;subst hb;exact AH.lt_cells h3
def lM(v:Value):List Nat:=match blk v with | some b=>[b] | none=>[]
theorem gW{v:Value}{b:Nat}:b∈lM v↔blk v=some b:=by
 unfold lM;cases blk v<;>simp[eq_comm]
def aHA(H H':AH)(v v':Value):Prop:=dU (lM v) H H'/\∀ b,blk v'=some b->blk v=some b\/H.next<=b
theorem dJ.app(h:dJ Z H sz v rows)(hZ:Z.next<=H.next){bytes:Nat}{x:Value}{new:List (List Value)}(hx:Rows H sz x new)(hp:∀ r∈new,r.all plain1=true)(hs:sz≠0)(hb:bytes≠0)(h1:(rows.length+new.length)*bytes<=2 ^ 46)(h2:rows.length+new.length<2 ^ 62):
  ∃ v' H',AM.app sz bytes v x H=some (v',H')/\dJ Z H' sz v' (rows++new)/\aHA H H' v v':=by
 have hrows:=h.toRows
 have hall:∀ r∈rows++new,r.length=sz/\r.all plain1=true:=by
  intro r hr;rcases List.mem_append.1 hr with hr | hr
  ·exact h.1 r hr
  ·exact⟨hx.len r hr,hp r hr⟩
 have hpn:new.flatten.all plain1=true:=aAf hp;have hpo:rows.flatten.all plain1=true:=aAf λr hr=>(h.1 r hr).2;have hfn:=gY new hx.len;have hfo:=gY rows λr hr=>(h.1 r hr).1;have hnew:pT sz new.length x H=some new.flatten:=aCt hx;rcases h.2 with ⟨rfl,rfl⟩ | ⟨b,f,c,cs,g1,rfl,g3,g4,g5,g6,g7⟩
 ·by_cases hn:new=[]
  ·subst hn
   refine⟨bY,H,?_,⟨by simp,.inl ⟨rfl,rfl⟩⟩,dU.refl _ _,λb hb => .inl hb⟩
   have e:=uR hx;simp at e hnew;simp[AM.app,e,hnew]
  ·have hpos:0<new.length:=List.length_pos_iff.2 hn
   refine⟨slc H.next 0 new.length new.length,H.new (.cells new.flatten (some sz)),?_,dJ.made (AH.get_ge _ hZ) (AH.get_new_self _ _) (.inr rfl) (by simp) (by simpa using hall),(dU.refl _ _).new _,λb hb => .inr (by simp[blk]at hb;omega)⟩
   simp only[AM.app,uR hx,hnew,Option.bind_some,hpn,Bool.not_true,Bool.false_eq_true,if_false];simp at h1 h2;rw[if_neg (by omega),if_neg (by simp;omega)]
   simp[gR]
 ·have hlt:=AH.lt_cells g3
  have hbl:lM (slc b 0 rows.length c)=[b]:=rfl;have hmul:(rows.length+new.length)*sz=rows.length*sz+new.length*sz:=Nat.add_mul _ _ _
  by_cases hcap:rows.length+new.length<=c
  ·have hle:(rows.length+new.length)*sz<=c*sz:=Nat.mul_le_mul_right _ hcap
   refine⟨slc b 0 (rows.length+new.length) c,H.put b (.cells (aT cs (rows.length*sz) new.flatten) f),?_,⟨hall,.inr ⟨b,f,c,_,g1,by simp,AH.get_put_self _ _ hlt,by simpa using hcap,?_,?_,?_⟩⟩,(dU.refl _ _).put (.inl (by simp[hbl])) _,λb' hb' => .inl (by simpa[blk] using hb')⟩
   ·simp only[AM.app,uR hx,hnew,Option.bind_some,hpn,Bool.not_true,Bool.false_eq_true,if_false]
    rw[if_pos hcap];simp only[Option.isSome_none,Bool.false_eq_true,if_false,g3];rw[if_pos (by omega),Nat.zero_add]
   ·rw[kB (by omega)];exact g5
   ·simp only[List.length_append,List.flatten_append,hmul,aT]
    rw[List.take_append_of_le_length (by rw[List.length_append,List.length_take,hfn];omega),List.take_of_length_le (by rw[List.length_append,List.length_take,hfn];omega),g6]
   ·exact g7
  ·have hold:gR sz rows.length (slc b 0 rows.length c) H=some rows.flatten:=by
    have:rows.length*sz<=c*sz:=Nat.mul_le_mul_right _ g4;simp only[gR,Option.isSome_none,Bool.false_eq_true,if_false,g3,kR];rw[if_pos (by omega),List.drop_zero,g6]
   have hfin:∀ H1:AH,H1.next=H.next->AM.app sz bytes (slc b 0 rows.length c) x H=some (fC (rows.length+new.length) (rows.length+new.length) H.next,H1.new (.cells (rows.flatten++new.flatten) (some sz))) ->
     dU [b] H H1 ->
     ∃ v' H',AM.app sz bytes (slc b 0 rows.length c) x H=some (v',H')/\dJ Z H' sz v' (rows++new)/\aHA H H' (slc b 0 rows.length c) v':=by
    intro H1 e1 e2 e3;exact⟨_,_,e2,dJ.made (AH.get_ge _ hZ) (by rw[<- e1,AH.get_new_self,List.flatten_append]) (.inr rfl) (by simp) hall,by rw[hbl];exact e3.new _,λb' hb' => .inr (by simp[blk]at hb'; omega)⟩
   have pre:AM.app sz bytes (slc b 0 rows.length c) x H=(match f with
     | none=>some (fC (rows.length+new.length) (rows.length+new.length) H.next,H.new (.cells (rows.flatten++new.flatten) (some sz)))
     | some e=>if e=sz then some (fC (rows.length+new.length) (rows.length+new.length) H.next,(H.put b .dead).new (.cells (rows.flatten++new.flatten) (some sz))) else none):=by
    simp only[AM.app,uR hx,hnew,Option.bind_some,hpn,Bool.not_true,Bool.false_eq_true,if_false];rw[if_neg hcap,if_neg (by omega),hold]
    simp only[Option.bind_some,hpo,Bool.not_true,Bool.false_eq_true,if_false,g3];cases f<;>rfl
   rcases g7 with rfl | rfl
   ·exact hfin H rfl pre (dU.refl _ _)
   ·exact hfin (H.put b .dead) rfl (by rw[pre];simp) ((dU.refl _ _).put (.inl (by simp)) _)
theorem dJ.app1(h:dJ Z H sz v rows)(hZ:Z.next<=H.next){bytes:Nat}(new:List Value)(hl:new.length=sz)(hp:new.all plain1=true)(hs:sz≠0)(hb:bytes≠0)(h1:(rows.length+1)*bytes<=2 ^ 46):
  ∃ v' H',AM.app sz bytes v (slc H.next 0 1 1) (H.new (.cells new none))=some (v',H')/\dJ Z H' sz v' (rows++[new])/\aHA H H' v v':=by
 have hb1:1<=bytes:=by omega
 have h2:(rows.length+1)*1<=(rows.length+1)*bytes:=Nat.mul_le_mul_left _ hb1;obtain⟨v',H',a1,a2,a3,a4⟩:=(h.ext ((Ext.refl H).new (.cells new none))).app (Nat.le_succ_of_le hZ) (bytes:=bytes) (x:=slc H.next 0 1 1) (new:=[new]) (Rows.made (f:=none) (by rw[AH.get_new_self];simp) (.inl rfl) rfl (by simpa using hl)) (by simpa using hp) hs hb h1 (by simp at *; omega)
 refine⟨v',H',a1,a2,⟨by have:=a3.1;simp at this;omega,λb hb hf =>?_⟩,λb hb=>(a4 b hb).imp id λk=>by simp at k;omega⟩
 rw[a3.2 b (by simp;omega) hf,AH.get_new_lt _ _ hb]
end
theorem cH(c:List Value)(f:Option Nat)(n:Nat)(h:c.length=n):(cT.cells c f).row 0 n=some c:=by
 rw[kR,if_pos (by omega),List.drop_zero,List.take_of_length_le (by omega)]
theorem aGy(a b c v:List Value)(h:b.length=v.length):aT (a++b++c) a.length v=a++v++c:=by
 have h1:(a++b++c).take a.length=a:=by rw[List.append_assoc,List.take_left' rfl]
 have h2:(a++b++c).drop (a.length+v.length)=c:=by rw[<- h,<- List.length_append,List.drop_left' rfl]
 simp only[aT,h1,h2]
theorem aBc(size:Nat):∀ (vs:List Value) (k:Nat) (pre post:List Value),pre.length=k*size->post.length=vs.length*size->(∀ v∈vs,(cU v).length=size) ->
  sU (λi=>some (i*size,size)) (pre++post) ((List.range' k vs.length).zip vs)=some (pre++vs.flatMap cU)
 | [],k,pre,post,_,h2,_=>by
  simp at h2;simp[h2]
 | v :: vs,k,pre,post,h1,h2,h3=>by
  have hv:=h3 v (by simp)
  have e:post=post.take size++post.drop size:=(List.take_append_drop _ _).symm;have hl:(post.take size).length=size:=by rw[List.length_take,h2,List.length_cons,Nat.succ_mul];omega
  have hs:aT (pre++post) (k*size) (cU v)=(pre++cU v)++post.drop size:=by
   conv=>lhs;rw[e]
   rw[<- h1,<- List.append_assoc,aGy _ _ _ _ (by omega)]
  simp only[List.length_cons,List.range'_succ,List.zip_cons_cons,aHa];rw[hv,hs];have ih:=aBc size vs (k+1) (pre++cU v) (post.drop size) (by rw[List.length_append,h1,hv,Nat.succ_mul]) (by rw[List.length_drop,h2,List.length_cons,Nat.succ_mul];omega) (λx hx=>h3 x (by simp[hx]))
  rw[ih];have hle:k*size+size<=pre.length+post.length:=by rw[h1,h2,List.length_cons,Nat.succ_mul];omega
  simp[hle]
theorem iZ(len size:Nat)(zero:List Value)(parts:List (Nat×Value))(vs:List Value)(hz:zero.length=size)(hp:parts=(List.range' 0 vs.length).zip vs)(hn:vs.length=len)(hd:vs.all jV=true)(hl:∀ v∈vs,(cU v).length=size):
  bO len size zero.toArray parts=some (.cells (vs.flatMap cU) none,fC len len):=by
 subst hp hn;rw[fN _ _ _ _ hz]
 have h1:((List.range' 0 vs.length).zip vs).all (λp=>jV p.2)=true:=by
  rw[List.all_eq_true]at hd ⊢;intro p hp;exact hd _ (List.of_mem_zip hp).2
 have:=aBc size vs 0 [] (List.replicate vs.length zero).flatten (by simp) (by simp[hz]) hl
 simp only[List.nil_append]at this;simp[h1,this]
 rfl
theorem cX(size:Nat)(zero cs:List Value)(hz:zero.length=size)(h:cs.length=size):bO 1 size zero.toArray [(0,.agg cs.toArray)]=some (.cells cs none,fC 1 1):=by
 have:=iZ 1 size zero [(0,.agg cs.toArray)] [.agg cs.toArray] hz rfl rfl rfl (by simpa using h)
 simpa using this
@[simp] theorem rK(c:cJ)(g:FuncId)(a b:Array Value)(args:List Value)(H:AH)(K:Value->AH->Prop):fQ c (.func (.func g) a b) args H K=c g (a.toList++args++b.toList) H K:=zG rfl
theorem qJ{α:Type}[DecidableEq α]:∀ (l m:List α),l.Nodup->(∀ x∈l,x∈m)->l.length<=m.length
 | [],m,_,_=>Nat.zero_le _
 | x :: l,m,hn,hs=>by
  have hx:=hs x (by simp)
  rw[List.nodup_cons]at hn;have:=qJ l (m.erase x) hn.2 λy hy=>(List.mem_erase_of_ne (by rintro rfl;exact hn.1 hy)).2 (hs y (by simp[hy]))
  rw[List.length_erase_of_mem hx]at this;have:=List.length_pos_of_mem hx;simp only[List.length_cons];omega
theorem vZ{K:Type}[DecidableEq K]{V:Type}(k:K):∀ l:List (K×V),(l.map λp=>(p.1,true)).lookup k=if k∈l.map Prod.fst then some true else none
 | []=>rfl
 | p :: l=>by
  have ih:=vZ k l
  by_cases e:k=p.1
  ·simp[e,List.lookup]
  ·have e':(k == p.1)=false:=by simpa using e
   simp only[List.map_cons,List.lookup,e',ih,List.mem_cons,e,false_or]
theorem kW(a b:Nat)(hb:b≠0):aA .rem (vi a) (vi b)=some (vi ((a % b:Nat):Int)):=by
 rw[vW _ _ _ (by omega)]
 simp[Int.tmod]
theorem aFy(a b:Nat)(hb:b≠0)(ha:a<2 ^ 63):aA .quo (vi a) (vi b)=some (vi ((a / b:Nat):Int)):=by
 have h1:a / b<=a:=Nat.div_le_self _ _;rw[aA3 _ _ _ (by omega)]
 have e:(a:Int).tdiv b=((a / b:Nat):Int):=by simp[Int.tdiv]
 rw[e];generalize a / b=q at *;rw[mS (by omega) (by omega)]
theorem bW(a b:Nat)(h:a+b<2 ^ 63):aA .add (vi a) (vi b)=some (vi ((a+b:Nat):Int)):=by
 rw[eB (by omega) (by omega)];simp
theorem mQ(a n:Nat)(hn:n≠0)(ha:a<2 ^ 63):aA .quo (vi a) (vi (no_index (OfNat.ofNat n)))=some (vi ((a / n:Nat):Int)):=aFy a n hn ha
def eE{K V:Type}(fk:K->Value)(fv:V->Value)(H:AH)(r:Nat)(l:List (K×V)):Prop :=
 ∃ es clock,H.get r = .map es clock true/\es.map (λe=>(e.key,e.val))=(l.map λp=>(fk p.1,fv p.2))/\(es.map (·.born)).Nodup/\(∀ e∈es,e.born<clock)/\(l.map Prod.fst).Nodup
def fE{K V:Type}[DecidableEq K](k:K)(v:V):List (K×V)->List (K×V)
 | []=>[(k,v)]
 | p :: l=>if p.1=k then(k,v) :: l else p :: fE k v l
section
variable {K V:Type}[DecidableEq K]{fk:K->Value}{fv:V->Value}{H:AH}{r kd:Nat}
theorem eE.lt{l:List (K×V)}(h:eE fk fv H r l):r<H.next:=by
 obtain⟨es,clock,h1,_⟩:=h;exact AH.lt_of_get (by rw[h1];simp)
theorem eE.keep{H':AH}{l:List (K×V)}(h:eE fk fv H r l)(e:H'.get r=H.get r):eE fk fv H' r l:=by
 obtain⟨es,clock,h1,h2⟩:=h;exact⟨es,clock,by rw[e];exact h1,h2⟩
theorem eE.new(H:AH):eE fk fv (H.new (.map [] 0 true)) H.next ([]:List (K×V)):=⟨[],0,AH.get_new_self _ _,rfl,by simp,by simp,by simp⟩
theorem rQ(hk:∀ a b,cA kd (fk a) (fk b)=some (decide (a=b)))(k:K):∀ (es:List MapEntry) (l:List (K×V)),es.map (λe=>(e.key,e.val))=l.map (λp=>(fk p.1,fv p.2)) ->
  pH kd (fk k) es=some ((l.findIdx? λp=>decide (k=p.1)).bind λi=>(l[i]?).map λp=>(i,fv p.2))
 | [],[],_=>rfl
 | [],_ :: _,h=>by simp at h
 | _ :: _,[],h=>by simp at h
 | e :: es,p :: l,h=>by
  simp only[List.map_cons,List.cons.injEq,Prod.mk.injEq]at h;obtain⟨⟨h1,h2⟩,h3⟩:=h;have ih:=rQ hk k es l h3;simp only[pH,h1,hk,Option.bind_some]
  by_cases e:k=p.1
  ·simp[e,h2,List.findIdx?_cons]
  ·simp only[e,decide_false,ih,Option.map_some,List.findIdx?_cons,if_false,Bool.false_eq_true]
   congr 1
   cases l.findIdx? λp=>decide (k=p.1)<;>simp
   rename_i i;cases l[i]?<;>rfl
theorem sY(k:K):∀ l:List (K×V),(l.findIdx? λp=>decide (k=p.1)).bind (λi=>(l[i]?).map λp=>(i,fv p.2))=(l.findIdx? λp=>decide (k=p.1)).bind (λi=>(l.lookup k).map λv=>(i,fv v))
 | []=>rfl
 | p :: l=>by
  have ih:=sY k l
  by_cases e:k=p.1
  ·subst e
   simp[List.findIdx?_cons,List.lookup]
  ·have e':(k == p.1)=false:=by simpa using e
   simp only[List.findIdx?_cons,e,decide_false,Bool.false_eq_true,if_false,List.lookup,e'];cases hf:l.findIdx? λp=>decide (k=p.1) with
   | none=>simp
   | some i =>
    rw[hf]at ih;simp at ih ⊢;cases h1:l[i]?<;>cases h2:l.lookup k<;>simp[h1,h2]at ih ⊢
    exact ih
theorem sR(k:K):∀ l:List (K×V),(l.findIdx? λp=>decide (k=p.1))=none↔l.lookup k=none
 | []=>by simp
 | p :: l=>by
  have ih:=sR k l
  by_cases e:k=p.1
  ·subst e;simp[List.findIdx?_cons,List.lookup]
  ·have e':(k == p.1)=false:=by simpa using e
   simp only[List.findIdx?_cons,e,decide_false,Bool.false_eq_true,if_false,List.lookup,e'];rw[Option.map_eq_none_iff];exact ih
theorem eE.look{l:List (K×V)}(h:eE fk fv H r l)(hk:∀ a b,cA kd (fk a) (fk b)=some (decide (a=b)))(k:K)(zero:Value)(ok:Bool):
  AM.look kd zero ok (.map (some r)) (fk k) H=some (match l.lookup k with | some v=>(if ok then .tuple #[fv v,.bool true] else fv v) | none=>(if ok then .tuple #[zero,.bool false] else zero)):=by
 obtain⟨es,clock,h1,h2,_⟩:=h;simp only[AM.look,nY,h1,Option.bind_some];rw[rQ hk k es l h2,sY];have:=sR k l;cases hf:l.findIdx? λp=>decide (k=p.1) with
 | none =>
  have this:=this.1 hf;simp only[this,Option.bind_none,Option.map_some]
 | some i =>
  rw[hf]at this;cases hl:l.lookup k with
  | none=>rw[hl]at this;simp at this
  | some v=>simp
theorem aBd(k:K)(v:V):∀ (l:List (K×V)) (i:Nat),(l.findIdx? λp=>decide (k=p.1))=some i->fE k v l=l.set i (k,v)
 | [],i,h=>by simp at h
 | p :: l,i,h=>by
  by_cases e:k=p.1
  ·subst e
   simp[List.findIdx?_cons]at h;subst h;simp[fE]
  ·have e':¬ p.1=k:=λx=>e x.symm
   simp only[List.findIdx?_cons,e,decide_false,Bool.false_eq_true,if_false,Option.map_eq_some_iff]at h;obtain⟨j,h1,rfl⟩:=h;simp[fE,e',aBd k v l j h1]
theorem aCX(k:K)(v:V):∀ (l:List (K×V)),(l.findIdx? λp=>decide (k=p.1))=none->fE k v l=l++[(k,v)]
 | [],_=>rfl
 | p :: l,h=>by
  by_cases e:k=p.1
  ·subst e;simp[List.findIdx?_cons]at h
  ·have e':¬ p.1=k:=λx=>e x.symm
   simp only[List.findIdx?_cons,e,decide_false,Bool.false_eq_true,if_false,Option.map_eq_none_iff]at h;simp[fE,e',aCX k v l h]
theorem aDw(k:K)(v:V):∀ (l:List (K×V)),(fE k v l).map Prod.fst=if k∈l.map Prod.fst then l.map Prod.fst else l.map Prod.fst++[k]
 | []=>by simp[fE]
 | p :: l=>by
  by_cases e:p.1=k
  ·subst e;simp[fE]
  ·have e':¬ k=p.1:=λx=>e x.symm
   simp only[fE,e,if_false,List.map_cons,aDw k v l,List.mem_cons,e',false_or]
   split<;>simp
theorem aBW(k:K)(v:V)(l:List (K×V))(h:(l.map Prod.fst).Nodup):((fE k v l).map Prod.fst).Nodup:=by
 rw[aDw]
 split
 ·exact h
 ·rename_i hk
  rw[List.nodup_append];exact⟨h,by simp,λa ha b hb=>by simp at hb;subst hb;rintro rfl;exact hk ha⟩
theorem eE.set{l:List (K×V)}(h:eE fk fv H r l)(hk:∀ a b,cA kd (fk a) (fk b)=some (decide (a=b)))(k:K)(v:V):
  ∃ o,o ≠ .dead/\eO kd (.map (some r)) (fk k) (fv v) H=some (H.put r o)/\eE fk fv (H.put r o) r (fE k v l):=by
 have hlt:=h.lt;obtain⟨es,clock,h1,h2,h3,h4,h5⟩:=h;have hlen:es.length=l.length:=by simpa using congrArg List.length h2
 simp only[eO,h1];rw[rQ hk k es l h2];cases hf:l.findIdx? λp=>decide (k=p.1) with
 | none =>
  refine⟨.map (es++[{ key:=fk k,val:=fv v,born:=clock }]) (clock+1) true,by simp,by simp,_,_,AH.get_put_self _ _ hlt,?_,?_,?_,aBW k v l h5⟩
  ·rw[aCX k v l hf,List.map_append,List.map_append,h2]
   rfl
  ·rw[List.map_append,List.nodup_append]
   refine⟨h3,by simp,λa ha b hb =>?_⟩
   obtain⟨e,he,rfl⟩:=List.mem_map.1 ha;have:=h4 e he;simp at hb;omega
  ·intro e he
   rcases List.mem_append.1 he with he | he
   ·exact Nat.lt_succ_of_lt (h4 e he)
   ·simp at he;subst he;exact Nat.lt_succ_self _
 | some i =>
  have hi:i<l.length:=by
   have:=List.findIdx?_eq_some_iff_getElem.1 hf;exact this.1
  refine⟨.map (es.modify i λe=>{ e with key:=fk k,val:=fv v }) clock true,by simp,by simp[hi],_,_,AH.get_put_self _ _ hlt,?_,?_,?_,aBW k v l h5⟩
  rotate_left
  ·have:(es.modify i λe=>{ e with key:=fk k,val:=fv v }).map (·.born)=es.map (·.born):=by
    apply List.ext_getElem?;intro j;simp only[List.getElem?_map,List.getElem?_modify];cases es[j]?<;>simp
    split<;>rfl
   rw[this];exact h3
  ·intro e he
   obtain⟨j,hj⟩:=List.mem_iff_getElem?.1 he;rw[List.getElem?_modify]at hj;cases hx:es[j]? with
   | none=>rw[hx]at hj;simp at hj
   | some x =>
    have hm:=h4 x (List.mem_of_getElem? hx);rw[hx]at hj;simp at hj;subst hj
    split<;>exact hm
  rw[aBd k v l i hf];apply List.ext_getElem?;intro j;have:=congrArg (λx=>x[j]?) h2;simp only[List.getElem?_map]at this;simp only[List.getElem?_map,List.getElem?_modify,List.getElem?_set]
  by_cases e:i=j
  ·subst e
   simp[hi];have:i<es.length:=by omega
   simp[this]
  ·simp[e,this]
end
theorem nQ{A B:Type}(f:A->B):∀ {l:List A},(l.map f).Nodup->l.Nodup
 | [],_=>by simp
 | x :: l,h=>by
  rw[List.map_cons,List.nodup_cons]at h;rw[List.nodup_cons];exact⟨λhm=>h.1 (List.mem_map.2 ⟨x,hm,rfl⟩),nQ f h.2⟩
section
variable {K V:Type}[DecidableEq K]{fk:K->Value}{fv:V->Value}{H:AH}{r kd:Nat}
theorem eE.len{l:List (K×V)}(h:eE fk fv H r l):wF (.map (some r)) H=some (vi l.length):=by
 obtain⟨es,clock,h1,h2,_⟩:=h;have hlen:es.length=l.length:=by simpa using congrArg List.length h2
 simp[wF,h1,hlen]
def iP(fk:K->Value)(fv:V->Value)(H:AH)(ib r:Nat)(l done:List (K×V)):Prop :=
 ∃ es clock,H.get r = .map es clock true/\es.map (λe=>(e.key,e.val))=(l.map λp=>(fk p.1,fv p.2))/\(es.map (·.born)).Nodup/\(∀ e∈es,e.born<clock)/\(l.map Prod.fst).Nodup /\
  ∃ ix:List Nat,ix.Nodup/\(∀ i∈ix,i<l.length)/\ix.filterMap (l[·]?)=done/\H.get ib = .miter (some r) clock (ix.filterMap λi=>(es[i]?).map (·.born)) clock
theorem iP.start{l:List (K×V)}(h:eE fk fv H r l):∃ o,wT (.map (some r)) H=some (o,oP)/\iP fk fv (H.new o) H.next r l []:=by
 have hlt:=h.lt;obtain⟨es,clock,h1,h2,h3,h4,h5⟩:=h;exact⟨.miter (some r) clock [] clock,by simp[wT,h1],es,clock,by rw[AH.get_new_lt _ _ hlt];exact h1,h2,h3,h4,h5,[],by simp,by simp,rfl,AH.get_new_self _ _⟩
theorem iP.map{ib:Nat}{l done:List (K×V)}(h:iP fk fv H ib r l done):eE fk fv H r l:=by
 obtain⟨es,clock,h1,h2,h3,h4,h5,_⟩:=h;exact⟨es,clock,h1,h2,h3,h4,h5⟩
theorem iP.keep{H':AH}{ib:Nat}{l done:List (K×V)}(h:iP fk fv H ib r l done)(e1:H'.get r=H.get r)(e2:H'.get ib=H.get ib):iP fk fv H' ib r l done:=by
 obtain⟨es,clock,h1,h2,h3,h4,h5,ix,h6,h7,h8,h9⟩:=h;exact⟨es,clock,by rw[e1];exact h1,h2,h3,h4,h5,ix,h6,h7,h8,by rw[e2];exact h9⟩
theorem iP.lt{ib:Nat}{l done:List (K×V)}(h:iP fk fv H ib r l done):ib<H.next:=by
 obtain⟨es,clock,h1,h2,h3,h4,h5,ix,h6,h7,h8,h9⟩:=h;exact AH.lt_of_get (by rw[h9];simp)
theorem tN{es:List MapEntry}:∀ {ix:List Nat},(∀ i∈ix,i<es.length)->ix.filterMap (λi=>(es[i]?).map (·.born))=ix.map λi=>(es[i]?.map (·.born)).getD 0
 | [],_=>rfl
 | i :: ix,h=>by
  have hi:=h i (by simp)
  rw[List.filterMap_cons,List.map_cons,tN λj hj=>h j (by simp[hj])]
  simp[hi]
theorem aC7{es:List MapEntry}(h:(es.map (·.born)).Nodup){i j:Nat}(hi:i<es.length)(hj:j<es.length)(e:es[i].born=es[j].born):i=j:=by
 have:=(List.getElem_inj (h₀:=by simpa using hi) (h₁:=by simpa using hj) h).1 (by simpa using e)
 exact this
theorem vY{A:Type}{l:List A}(h:l.Nodup):∀ {ix:List Nat},ix.Nodup->(ix.filterMap (l[·]?)).Nodup
 | [],_=>by simp
 | i :: ix,hn=>by
  rw[List.nodup_cons]at hn;rw[List.filterMap_cons];cases hi:l[i]? with
  | none=>exact vY h hn.2
  | some x =>
   simp only[List.nodup_cons];refine⟨λhm =>?_,vY h hn.2⟩;obtain⟨j,hj,hx⟩:=List.mem_filterMap.1 hm;have hil:=(List.getElem?_eq_some_iff.1 hi).1;have:=(List.getElem?_inj hil h).1 (hi.trans hx.symm);subst this;exact hn.1 hj
theorem iP.nodup{ib:Nat}{l done:List (K×V)}(h:iP fk fv H ib r l done):done.Nodup/\∀ p∈done,p∈l:=by
 obtain⟨es,clock,h1,h2,h3,h4,h5,ix,h6,h7,rfl,h9⟩:=h;refine⟨vY (nQ _ h5) h6,λp hp =>?_⟩;obtain⟨i,_,hi⟩:=List.mem_filterMap.1 hp;exact List.mem_of_getElem? hi
theorem List.perm_of_nodup_nodup_toFinset_eq'{A:Type}{l m:List A}(h1:l.Nodup)(h2:m.Nodup)(h3:∀ x∈l,x∈m)(h4:∀ x∈m,x∈l):l.Perm m:=by
 classical
 rw[List.perm_iff_count];intro a
 by_cases ha:a∈l
 ·rw[List.Nodup.count h1,List.Nodup.count h2,if_pos ha,if_pos (h3 a ha)]
 ·rw[List.count_eq_zero_of_not_mem ha,List.count_eq_zero_of_not_mem λk=>ha (h4 a k)]
theorem iP.next{ib:Nat}{l done:List (K×V)}(h:iP fk fv H ib r l done){Q:Value->AH->Prop}(more:∀ p o,p∈l->p ∉ done->iP fk fv (H.put ib o) ib r l (done++[p])->vS (ptr ib 0) (H.put ib o)=some (.tuple #[fk p.1,fv p.2])->Q (.tuple #[.bool true,fk p.1,fv p.2]) (H.put ib o))(fin:done.Perm l->Q (.tuple #[.bool false]) H):xC (ptr ib 0) H Q:=by
 have hlt:=h.lt;have hnd:=h.nodup;obtain⟨es,clock,h1,h2,h3,h4,h5,ix,h6,h7,h8,h9⟩:=h;have hlen:es.length=l.length:=by simpa using congrArg List.length h2
 have hne:r≠ib:=by rintro rfl;rw[h1]at h9;simp at h9
 have hat:∀ i (hi:i<es.length),es[i].key=fk (l[i]'(by omega)).1/\es[i].val=fv (l[i]'(by omega)).2:=by
  intro i hi;have:=congrArg (λx=>x[i]?) h2;simp only[List.getElem?_map,List.getElem?_eq_getElem hi,List.getElem?_eq_getElem (show i<l.length by omega),Option.map_some,Option.some.injEq,Prod.mk.injEq]at this
  exact this
 have hb:=tN (es:=es) (ix:=ix) λi hi=>by rw[hlen];exact h7 i hi
 simp only[xC,h9,h1];refine⟨λ⟨_,k2,k3⟩ =>?_,λe he hn =>?_,λhall =>?_⟩
 ·obtain⟨e,he⟩:=List.exists_mem_of_ne_nil _ k2
  have a:=List.all_eq_true.1 k3 e he;have b:=h4 e he;simp at a;omega
 ·obtain⟨i,hi,rfl⟩:=List.getElem_of_mem he
  have hil:i<l.length:=by omega
  have hni:i ∉ ix:=λhm=>hn (List.mem_filterMap.2 ⟨i,hm,by simp[hi]⟩)
  obtain⟨g1,g2⟩:=hat i hi;rw[g1,g2]
  have hs:(ix.filterMap λi=>(es[i]?).map (·.born))++[es[i].born]=(ix++[i]).filterMap λi=>(es[i]?).map (·.born):=by
   rw[List.filterMap_append];simp[hi]
  refine more l[i] _ (List.getElem_mem hil) ?_ ⟨es,clock,by rw[AH.get_put_ne _ _ hne];exact h1,h2,h3,h4,h5,ix++[i],?_,?_,?_,?_⟩ ?_
  ·rw[<- h8]
   intro hm;obtain⟨j,hj,hx⟩:=List.mem_filterMap.1 hm;have:=(List.getElem?_inj hil (nQ _ h5)).1 ((List.getElem?_eq_getElem hil).trans hx.symm);subst this;exact hni hj
  ·rw[List.nodup_append]
   exact⟨h6,by simp,λa ha b hb=>by simp at hb;subst hb;rintro rfl;exact hni ha⟩
  ·intro j hj
   rcases List.mem_append.1 hj with hj | hj
   ·exact h7 j hj
   ·simp at hj;subst hj;exact hil
  ·rw[List.filterMap_append,h8];simp[hil]
  ·rw[AH.get_put_self _ _ hlt,hs]
  ·simp only[vS,AH.get_put_self _ _ hlt,List.getLast?_append,List.getLast?_singleton,Option.some_or,AH.get_put_ne _ _ hne,h1,if_true]
   have:es.find? (λe=>e.born == es[i].born)=some es[i]:=by
    rw[List.find?_eq_some_iff_getElem];refine⟨by simp,i,hi,rfl,λj hj =>?_⟩
    simp only[Bool.not_eq_true',beq_eq_false_iff_ne,ne_eq];intro e;have:=aC7 h3 (by omega) hi e
    omega
   rw[this];simp[g1,g2]
 ·refine fin ?_
  refine List.perm_of_nodup_nodup_toFinset_eq' hnd.1 (nQ _ h5) hnd.2 λp hp =>?_;obtain⟨i,hi,rfl⟩:=List.getElem_of_mem hp;have hie:i<es.length:=by omega
  have:=hall es[i] (List.getElem_mem hie) (h4 _ (List.getElem_mem hie));obtain⟨j,hj,hx⟩:=List.mem_filterMap.1 this;have hjl:j<es.length:=by rw[hlen];exact h7 j hj
  simp[hjl]at hx;have:=aC7 h3 hjl hie hx;subst this;rw[<- h8];exact List.mem_filterMap.2 ⟨j,hj,by simp[hi]⟩
end
theorem aBN{K:Type}[DecidableEq K]{V W:Type}(k:K)(w:W)(f:V->W):∀ (l:List (K×V)),k ∉ l.map Prod.fst->fE k w (l.map λp=>(p.1,f p.2))=(l.map λp=>(p.1,f p.2))++[(k,w)]
 | [],_=>rfl
 | p :: l,h=>by
  simp only[List.map_cons,List.mem_cons,not_or]at h;have e:¬ p.1=k:=λx=>h.1 x.symm;simp only[List.map_cons,fE,e,if_false,aBN k w f l h.2,List.cons_append]
end
section
variable {E:Sy}{H:AH}{Q:Value->AH->Prop}
structure dI where
 number:BitVec 32
 action:BitVec 32
 conds:List bA
def dM(H:AH)(r:dI)(cs:List Value):Prop:=r.conds.length<2 ^ 63/\∃ v,cs=[u32 r.number,u32 r.action,v]/\Rows H 4 v (r.conds.map bA.cells)
theorem dM.mono{H H':AH}{r:dI}{cs:List Value}(h:dM H r cs)(e:Ext H H'):dM H' r cs:=⟨h.1,h.2.choose,h.2.choose_spec.1,h.2.choose_spec.2.mono e⟩
def dG(x:dI)(r:aN):Bool:=decide (x.number=r.number)&&x.conds.all λc=>holds c r.args
theorem aN.cells_len{r:aN}(hr:r.ok):r.cells.length=9:=by
 obtain⟨n,a,t,x0,x1,x2,x3,x4,x5,rfl⟩:=aN.ok_cases hr
 rfl
theorem S.f70(hE:aX E)(x:dI)(cs:List Value)(hx:dM H x cs)(r:aN)(hr:r.ok)(hQ:∀ H',Ext H H'->Q (vb (dG x r)) H'):E.call 42 [.agg cs.toArray,r.v] H Q:=by
 apply hE.f70;obtain⟨hb,v,rfl,hv⟩:=hx;have hl:=hv.lenSlc;simp only[List.length_map]at hl;have hc:r.cells[0]? = some (u32 r.number):=rfl;simp[F.f70,AH.get_new,hc];generalize hH2:(H.new _).new _=H2;have x2:Ext H H2:=by subst hH2;exact((Ext.refl H).new _).new _
 have k2:H2.get (H.next+1) = .cells r.cells none:=by subst hH2;simp[AH.get_new]
 have k1:H2.get H.next = .cells [u32 x.number,u32 x.action,v] none:=by subst hH2;simp[AH.get_new]
 clear hH2
 by_cases hn:x.number=r.number
 ·simp[hn,k1,hl]
  refine aZ.count x.conds.length (λi s H'=>s=[ptr (H.next+1) 0,v,vi x.conds.length,vi i]/\Ext H2 H'/\(∀ H'',Ext H H''->Q (vb ((x.conds.drop i).all λc=>holds c r.args)) H'')) ?_ ⟨rfl,Ext.refl _,by simpa[dG,hn] using hQ⟩
  rintro i _ H' X hi hX ⟨rfl,h1,hQ'⟩;simp only[F.f70_l1,sH,sA,sF,sG,aF,aP];refine dO (λh =>?_) (λh =>?_)
  ·have hil:i<x.conds.length:=by omega
   rw[List.drop_eq_getElem_cons hil]at hQ';simp only[List.all_cons]at hQ';obtain⟨b,o,f1,f2⟩:=Rows.ix (hv.mono (x2.trans h1)) (i:=i) (by simpa using hil)
   simp only[List.getElem_map]at f2;simp only[f1,aP,aJ,f2,Option.map_some];generalize x.conds[i]=c at *;have k2':=h1.cells k2;have e9:=cH r.cells none 9 (aN.cells_len hr);have hlt:H.next+1<H'.next:=AH.lt_cells k2';simp[bA.cells,aT,AH.get_new,Nat.ne_of_lt hlt,k2',e9];refine S.f69 hE c r hr λH4 h4 =>?_;have x04:Ext H' H4:=((Ext.refl H').new _).trans h4
   by_cases hh:holds c r.args=true
   ·simp[hh]
    rw[bE (by omega)]
    exact hX hil _ _ ⟨rfl,h1.trans x04,by simpa[hh] using hQ'⟩
   ·simp[hh]
    simpa[hh] using hQ' _ (x2.trans (h1.trans x04))
  ·have:i=x.conds.length:=by omega
   subst this
   simpa using hQ' _ (x2.trans h1)
 ·simp[hn]
  simpa[dG,hn] using hQ _ x2
end
section
variable {E:Sy}{H:AH}{Q:Value->AH->Prop}
def cO{α:Type}(R:AH->α->List Value->Prop)(H:AH)(sz:Nat)(v:Value)(l:List α):Prop :=
 ∃ rows,Rows H sz v rows/\rows.length=l.length/\∀ i (h1:i<l.length) (h2:i<rows.length),R H l[i] rows[i]
theorem Rows.plain{H:AH}{sz:Nat}{v:Value}{rows:List (List Value)}(h:Rows H sz v rows):plain1 v=true:=by
 rcases h.at_ with ⟨_,c,rfl⟩ | ⟨b,o,c,rfl,_⟩<;>rfl
section
variable {α:Type}{R:AH->α->List Value->Prop}{sz:Nat}{v:Value}{l:List α}
theorem cO.mono(h:cO R H sz v l)(hm:∀ (H H':AH) (a:α) (c:List Value),R H a c->Ext H H'->R H' a c){H':AH}(e:Ext H H'):cO R H' sz v l:=by
 obtain⟨rows,h1,h2,h3⟩:=h;exact⟨rows,h1.mono e,h2,λi a b=>hm _ _ _ _ (h3 i a b) e⟩
theorem cO.lenSlc(h:cO R H sz v l):AM.lenSlc v=some (vi l.length):=by
 obtain⟨rows,h1,h2,h3⟩:=h;rw[h1.lenSlc,h2]
theorem cO.ix(h:cO R H sz v l){i:Nat}(hi:i<l.length):∃ b o cs,aI sz v (vi i)=some (ptr b o)/\(H.get b).row o sz=some cs/\R H l[i] cs:=by
 obtain⟨rows,h1,h2,h3⟩:=h;obtain⟨b,o,f1,f2⟩:=h1.ix (i:=i) (by omega)
 exact⟨b,o,_,f1,f2,h3 i hi (by omega)⟩
end
structure jS where
 default:BitVec 32
 rules:List dI
def lF(r:aN)(s:BitVec 32×Bool)(x:dI):BitVec 32×Bool :=
 if dG x r then(if s.2 then(cW s.1 x.action,true) else(x.action,true)) else s
def yY(p:jS)(r:aN):BitVec 32:=if r.arch=3221225534#32 then(p.rules.foldl (lF r) (p.default,false)).1 else 2147483648#32
def sB(H:AH)(p:jS)(cs:List Value):Prop:=p.rules.length<2 ^ 63/\∃ a v b c d,cs=[a,u32 p.default,v,b,c,d]/\cO dM H 3 v p.rules
theorem S.f71(hE:aX E)(p:jS)(cs:List Value)(hp:sB H p cs)(r:aN)(hr:r.ok)(hQ:∀ H',Ext H H'->Q (u32 (yY p r)) H'):E.call 18 [.agg cs.toArray,r.v] H Q:=by
 apply hE.f71;obtain⟨hb,a,v,b',c',d',rfl,hv⟩:=hp;have hl:=hv.lenSlc;have hc:r.cells[1]? = some (u32 r.arch):=rfl;simp[F.f71,AH.get_new,hc];generalize hH2:(H.new _).new _=H2;have x2:Ext H H2:=by subst hH2;exact((Ext.refl H).new _).new _
 have k2:H2.get (H.next+1) = .cells r.cells none:=by subst hH2;simp[AH.get_new]
 have k1:H2.get H.next = .cells [a,u32 p.default,v,b',c',d'] none:=by subst hH2;simp[AH.get_new]
 clear hH2
 by_cases ha:r.arch=3221225534#32
 ·simp[ha,k1,hl]
  refine aZ.count p.rules.length (λi s H'=>∃ o m,s=[ptr (H.next+1) 0,u32 o,vb m,v,vi p.rules.length,vi i]/\Ext H2 H'/\(p.rules.take i).foldl (lF r) (p.default,false)=(o,m)) ?_ ⟨_,_,rfl,Ext.refl _,rfl⟩;rintro i _ H' X hi hX ⟨o,m,rfl,h1,hf⟩;simp only[F.f71_l1,sH,sA,sF,sG,vD,aCe,aF,aP];refine dO (λh =>?_) (λh =>?_)
  ·have hil:i<p.rules.length:=by omega
   obtain⟨b,ofs,ccs,f1,f2,f3⟩:=(hv.mono (λ_ _ _ _ h e=>dM.mono h e) (x2.trans h1)).ix (i:=i) hil;simp only[f1,aP,aJ,f2,Option.map_some]
   have hstep:(p.rules.take (i+1)).foldl (lF r) (p.default,false)=lF r (o,m) p.rules[i]:=by
    rw[List.take_succ_eq_append_getElem hil,List.foldl_append,hf];rfl
   generalize p.rules[i]=x at *;have k2':=h1.cells k2;have e9:=cH r.cells none 9 (aN.cells_len hr);have hlt:H.next+1<H'.next:=AH.lt_cells k2';obtain⟨hxl,w,rfl,hw⟩:=f3;simp[aT,AH.get_new,Nat.ne_of_lt hlt,k2',e9,hw.plain];generalize hH3:H'.new _=H3;have x3:Ext H' H3:=by subst hH3;exact(Ext.refl H').new _
   have k3:H3.get H'.next = .cells [u32 x.number,u32 x.action,w] none:=by subst hH3;simp
   clear hH3;refine S.f70 hE x _ ⟨hxl,w,rfl,hw.mono x3⟩ r hr λH4 h4 =>?_;have k4:=h4.cells k3
   by_cases hh:dG x r=true
   ·cases m with
    | true =>
     simp[hh,k4];refine S.f103 hE o x.action ?_;rw[bE (by omega),aP]
     exact hX hil _ _ ⟨_,_,rfl,h1.trans (x3.trans h4),by rw[hstep];simp[lF,hh]⟩
    | false =>
     simp[hh,k4];rw[bE (by omega),aP]
     exact hX hil _ _ ⟨_,_,rfl,h1.trans (x3.trans h4),by rw[hstep];simp[lF,hh]⟩
   ·simp[hh]
    rw[bE (by omega),aP]
    exact hX hil _ _ ⟨_,_,rfl,h1.trans (x3.trans h4),by rw[hstep];simp[lF,hh]⟩
  ·have:i=p.rules.length:=by omega
   subst this;rw[List.take_length]at hf
   simpa[yY,ha,hf] using hQ _ (x2.trans h1)
 ·simp[ha]
  simpa[yY,ha] using hQ _ x2
end
section
variable {E:Sy}{H:AH}{Q:Value->AH->Prop}
def tI:List (BitVec 32)->BitVec 32
 | []=>0
 | x :: l=>l.foldl cW x
theorem wR(x:BitVec 32):∀ (l:List (BitVec 32)) (y:BitVec 32),y=x\/y∈l->bR y<=bR (l.foldl cW x)
 | [],y,h=>by
  rcases h with rfl | h
  ·exact Int.le_refl _
  ·simp at h
 | z :: l,y,h=>by
  simp only[List.foldl_cons];have hx:=wR (cW x z) l (cW x z) (.inl rfl);rcases h with rfl | h
  ·have:bR y<=bR (cW y z):=by unfold cW;split<;>omega
   omega
  ·rcases List.mem_cons.1 h with rfl | h
   ·have:bR y<=bR (cW x y):=by unfold cW;split<;>omega
    omega
   ·exact wR _ l y (.inr h)
theorem aJb{l:List (BitVec 32)}{y:BitVec 32}(h:y∈l):bR y<=bR (tI l):=by
 cases l with
 | nil=>simp at h
 | cons x l=>exact wR x l y (List.mem_cons.1 h)
theorem tK(x:BitVec 32):∀ (l:List (BitVec 32)),l.foldl cW x=x\/∃ k,∃ h:k<l.length,l[k]=l.foldl cW x/\bR x<bR l[k]/\∀ j (hj:j<k),bR (l[j]'(by omega))<bR l[k]
 | [] => .inl rfl
 | z :: l=>by
  simp only[List.foldl_cons]
  by_cases hz:bR x<bR z
  ·have e:cW x z=z:=by simp[cW,hz]
   rw[e];rcases tK z l with h | ⟨k,hk,h1,h2,h3⟩
   ·exact .inr ⟨0,by simp,by simp[h],by simpa using hz,λj hj=>by omega⟩
   ·refine .inr ⟨k+1,by simp;omega,by simpa using h1,by simp;omega,λj hj =>?_⟩
    cases j with
    | zero=>simpa using h2
    | succ j=>simpa using h3 j (by omega)
  ·have e:cW x z=x:=by simp[cW,hz]
   rw[e];rcases tK x l with h | ⟨k,hk,h1,h2,h3⟩
   ·exact .inl h
   ·refine .inr ⟨k+1,by simp;omega,by simpa using h1,by simpa using h2,λj hj =>?_⟩
    cases j with
    | zero=>simp;omega
    | succ j=>simpa using h3 j (by omega)
theorem aEM{l:List (BitVec 32)}{i:Nat}(hi:i<l.length)(hn:∀ j (hj:j<i),l[j]'(by omega)≠tI l)(hni:l[i]≠tI l):bR l[i]<bR (tI l):=by
 cases l with
 | nil=>simp at hi
 | cons x l =>
  simp only[tI]at *;rcases tK x l with h | ⟨k,hk,h1,h2,h3⟩
  ·exfalso
   cases i with
   | zero=>exact hni (by simpa using h.symm)
   | succ i=>exact hn 0 (by omega) (by simpa using h.symm)
  ·rw[<- h1]
   cases i with
   | zero=>simpa using h2
   | succ i =>
    have hik:i<k:=by
     apply Classical.byContradiction;intro hge
     by_cases e:i=k
     ·subst e;exact hni (by simpa using h1)
     ·exact hn (k+1) (by omega) (by simpa using h1)
    simpa using h3 i hik
end
section
variable {E:Sy}{H:AH}{Q:Value->AH->Prop}
def gH(p:jS)(r:aN):List (BitVec 32):=(p.rules.filter λx=>dG x r).map dI.action
theorem nL(r:aN):∀ (l:List dI) (o:BitVec 32) (m:Bool),(l.foldl (lF r) (o,m)).1=(if m then((l.filter λx=>dG x r).map dI.action).foldl cW o else
  match (l.filter λx=>dG x r).map dI.action with | []=>o | a :: t=>t.foldl cW a)
 | [],o,m=>by cases m<;>rfl
 | x :: l,o,m=>by
  simp only[List.foldl_cons]
  by_cases h:dG x r=true
  ·cases m with
   | true=>simp only[lF,h,if_true,nL r l,List.filter_cons,List.map_cons,List.foldl_cons]
   | false=>simp[lF,h,nL r l,List.filter_cons]
  ·simp only[lF,h,if_false,Bool.false_eq_true,nL r l,List.filter_cons]
theorem vL(p:jS)(r:aN)(ha:r.arch=3221225534#32):yY p r=match gH p r with | []=>p.default | a :: t=>tI (a :: t):=by
 unfold yY;rw[if_pos ha,nL];simp only[Bool.false_eq_true,if_false,gH]
 split<;>rfl
theorem aCU(x:BitVec 32):∀ l:List (BitVec 32),l.foldl cW x=x\/l.foldl cW x∈l
 | [] => .inl rfl
 | y :: l=>by
  simp only[List.foldl_cons];rcases aCU (cW x y) l with h | h
  ·rw[h]
   unfold cW
   split
   ·exact .inr (by simp)
   ·exact .inl rfl
  ·exact .inr (by simp[h])
theorem aKS(l:List (BitVec 32))(i:Nat)(hi:i<l.length)(h1:∀ j (hj:j<l.length),bR l[j]<=bR l[i])(h2:∀ j (hj:j<i),bR (l[j]'(by omega))<bR l[i]):tI l=l[i]:=by
 cases l with
 | nil=>simp at hi
 | cons x l =>
  have hmax:=aJb (l:=x :: l) (List.getElem_mem hi)
  have hmem:tI (x :: l)∈x :: l:=by
   simp only[tI];rcases aCU x l with h | h
   ·rw[h];simp
   ·simp[h]
  obtain⟨k,hk,he⟩:=List.getElem_of_mem hmem;have hle:=h1 k hk;rw[he]at hle
  by_cases hki:k<i
  ·have:=h2 k hki
   rw[he]at this;omega
  by_cases hkeq:k=i
  ·subst hkeq;exact he.symm
  ·
   apply Classical.byContradiction;intro hne
   have hfirst:∀ j (hj:j<i),(x :: l)[j]'(by omega)≠tI (x :: l):=by
    intro j hj e;have:=h2 j hj;rw[e]at this;omega
   have:=aEM hi hfirst (Ne.symm hne);omega
theorem mY(a:BitVec 32):0<=bR a/\bR a<=3:=by
 unfold bR
 split
 ·omega
 split
 ·omega
 split<;>omega
def aGq(p:jS)(r:aN)(s:Int)(n:Nat):Prop:=∀ j (hj:j<p.rules.length),j<n->dG p.rules[j] r=true->bR p.rules[j].action≠s
theorem aGN(p:jS)(r:aN)(ha:r.arch=3221225534#32)(s:Int)(i:Nat)(hi:i<p.rules.length)(hm:dG p.rules[i] r=true)(hs:bR p.rules[i].action=s)(h1:∀ t,s<t->t<=3->aGq p r t p.rules.length)(h2:aGq p r s i):yY p r=p.rules[i].action:=by
 rw[vL p r ha];have hsp:p.rules=p.rules.take i++p.rules[i] :: p.rules.drop (i+1):=by rw[List.getElem_cons_drop,List.take_append_drop]
 have e:gH p r=((p.rules.take i).filter λx=>dG x r).map dI.action++p.rules[i].action :: ((p.rules.drop (i+1)).filter λx=>dG x r).map dI.action:=by
  unfold gH
  conv=>lhs;rw[hsp]
  rw[List.filter_append,List.filter_cons,if_pos hm,List.map_append,List.map_cons]
 have hall:∀ y∈gH p r,bR y<=s:=by
  intro y hy;simp only[gH,List.mem_map,List.mem_filter]at hy;obtain⟨x,⟨hx,hxm⟩,rfl⟩:=hy;obtain⟨j,hj,rfl⟩:=List.getElem_of_mem hx;have:=mY p.rules[j].action;apply Classical.byContradiction;intro hgt;exact h1 (bR p.rules[j].action) (by omega) this.2 j hj hj hxm rfl
 have hpre:∀ y∈((p.rules.take i).filter λx=>dG x r).map dI.action,bR y<s:=by
  intro y hy;have hle:=hall y (by rw[e];simp only[List.mem_append];exact .inl hy)
  simp only[List.mem_map,List.mem_filter]at hy;obtain⟨x,⟨hx,hxm⟩,rfl⟩:=hy;obtain⟨j,hj,rfl⟩:=List.getElem_of_mem hx;simp only[List.length_take]at hj;rw[List.getElem_take]at hxm hle ⊢;have:=h2 j (by omega) (by omega) hxm
  omega
 generalize ((p.rules.take i).filter λx=>dG x r).map dI.action=pre at *;generalize ((p.rules.drop (i+1)).filter λx=>dG x r).map dI.action=post at *
 have key:tI (gH p r)=p.rules[i].action:=by
  have hlt:pre.length<(gH p r).length:=by rw[e];simp
  have hget:(gH p r)[pre.length]=p.rules[i].action:=by simp[e]
  have:=aKS (gH p r) pre.length hlt (by
   intro j hj;rw[hget,hs];exact hall _ (List.getElem_mem hj)) (by
   intro j hj;rw[hget,hs];have:(gH p r)[j]'(by omega)=pre[j]:=by simp[e,List.getElem_append_left hj]
   rw[this];exact hpre _ (List.getElem_mem hj))
  rw[this,hget]
 cases h:gH p r with
 | nil=>rw[h]at e;simp at e
 | cons a t=>rw[h]at key;exact key
theorem aH0(p:jS)(r:aN)(ha:r.arch=3221225534#32)(h1:∀ t,0<=t->t<=3->aGq p r t p.rules.length):yY p r=p.default:=by
 rw[vL p r ha]
 have:gH p r=[]:=by
  unfold gH;rw[List.map_eq_nil_iff,List.filter_eq_nil_iff];intro x hx hxm;obtain⟨j,hj,rfl⟩:=List.getElem_of_mem hx;have:=mY p.rules[j].action;exact h1 _ this.1 this.2 j hj hj hxm rfl
 rw[this]
end
section
variable {E:Sy}{H:AH}{Q:Value->AH->Prop}
theorem sB.mono{H H':AH}{p:jS}{cs:List Value}(h:sB H p cs)(e:Ext H H'):sB H' p cs:=by
 obtain⟨hb,a,v,b,c,d,h1,h2⟩:=h;exact⟨hb,a,v,b,c,d,h1,h2.mono (λ_ _ _ _ h e=>dM.mono h e) e⟩
end
section
deriving instance DecidableEq for bA
structure dK where
 conds:List bA
 action:BitVec 32
structure cV where
 number:BitVec 32
 branches:List dK
structure iJ where
 cases:List cV
 default:BitVec 32
def aMa(c:bA):Bool:=decide (0<=c.arg)&&decide (c.arg<=5)
def mN(c:bA):Bool:=aMa c&&(decide (c.op=6#8)&&decide (c.value=0#64)||decide (c.op=4#8)&&decide (c.value=18446744073709551615#64))
def rP(c:bA):Bool:=decide (c.op=3#8)&&decide (c.value=0#64)||decide (c.op=5#8)&&decide (c.value=18446744073709551615#64)
def jZ(c d:bA):Bool:=decide (c.arg=d.arg)&&decide (c.op=1#8)&&decide (d.op=1#8)&&decide (c.value≠d.value)
def fJ:List bA->List bA->List bA
 | out,[]=>out
 | out,c :: l=>fJ (if mN c=false/\c ∉ out then out++[c] else out) l
def oK(l:List bA):List bA:=fJ [] l
def kS:List bA->List bA->Bool
 | _,[]=>false
 | pre,c :: l=>rP c||pre.any (jZ c)||kS (pre++[c]) l
def aBo(l:List bA):Bool:=kS [] l
def dX:List dI->List dK
 | []=>[]
 | r :: l=>if aBo (oK r.conds)=true then dX l else if oK r.conds=[] then[⟨[],r.action⟩] else⟨oK r.conds,r.action⟩ :: dX l
def jC(a:BitVec 32):Nat:=(3 - bR a).toNat
def oD(l:List dI)(k:Nat):List dI:=l.filter λx=>decide (jC x.action=k)
def sC(l:List dI):List dI:=oD l 0++oD l 1++oD l 2++oD l 3
def lQ(l:List dI)(n:BitVec 32):List dI:=l.filter λx=>decide (x.number=n)
def rC(p:jS)(n:BitVec 32):cV:=⟨n,dX (sC (lQ p.rules n))⟩
structure pE(p:jS)(ns:List (BitVec 32)):Prop where
 up:ns.Pairwise λa b=>a.toNat<b.toNat
 mem:∀ n,n∈ns↔∃ r∈p.rules,r.number=n
def eA(p:jS)(ns:List (BitVec 32)):iJ:=⟨ns.map (rC p),p.default⟩
def bQ(l:List bA)(r:aN):Bool:=l.all λc=>holds c r.args
def jK(d:BitVec 32)(l:List dK)(r:aN):BitVec 32:=match l.find? λb=>bQ b.conds r with
 | some b=>b.action
 | none=>d
def iS(p:iJ)(r:aN):BitVec 32:=if r.arch=3221225534#32 then
  match p.cases.find? λc=>decide (c.number=r.number) with
  | none=>p.default
  | some c=>jK p.default c.branches r
 else 2147483648#32
theorem aEz{c:bA}(r:aN)(h:mN c=true):holds c r.args=true:=by
 unfold mN aMa at h;simp only[Bool.and_eq_true,Bool.or_eq_true,decide_eq_true_eq]at h;obtain⟨⟨h0,h5⟩,h⟩:=h;unfold holds;rw[if_neg (by omega)]
 generalize gZ r.args c.arg.toNat=a;have ha:=a.isLt;rcases h with ⟨ho,hv⟩ | ⟨ho,hv⟩
 ·rw[ho,hv]
  simp[nT]
 ·rw[ho,hv]
  simp[nT];omega
theorem aGM{c:bA}(r:aN)(h:rP c=true):holds c r.args=false:=by
 unfold rP at h;simp only[Bool.and_eq_true,Bool.or_eq_true,decide_eq_true_eq]at h;unfold holds
 split
 ·rfl
 generalize gZ r.args c.arg.toNat=a;have ha:=a.isLt;rcases h with ⟨ho,hv⟩ | ⟨ho,hv⟩
 ·rw[ho,hv]
  simp[nT]
 ·rw[ho,hv]
  simp[nT];omega
theorem aI1{c d:bA}(r:aN)(h:jZ c d=true):(holds c r.args&&holds d r.args)=false:=by
 unfold jZ at h;simp only[Bool.and_eq_true,decide_eq_true_eq]at h;obtain⟨⟨⟨h1,h2⟩,h3⟩,h4⟩:=h;refine Bool.eq_false_iff.2 λhh=>h4 ?_;simp only[Bool.and_eq_true]at hh;obtain⟨a,b⟩:=hh;unfold holds at a b;rw[<- h1]at b
 split at a
 ·simp at a
 ·rename_i hc
  rw[if_neg hc]at b;rw[h2]at a;rw[h3]at b;simp[nT]at a b;rw[<- a,b]
theorem yJ(r:aN):∀ (l out:List bA),bQ (fJ out l) r=(bQ out r&&bQ l r)
 | [],out=>by simp[fJ,bQ]
 | c :: l,out=>by
  rw[fJ,yJ r l];have hl:bQ (c :: l) r=(holds c r.args&&bQ l r):=by simp[bQ]
  rw[hl]
  split
  ·have:bQ (out++[c]) r=(bQ out r&&holds c r.args):=by simp[bQ]
   rw[this,Bool.and_assoc]
  ·rename_i hc
   have hc:mN c=true\/c∈out:=by
    rcases hb:mN c with _ | _
    ·right
     exact Classical.byContradiction λhn=>hc ⟨hb,hn⟩
    ·exact .inl rfl
   rcases hc with hc | hc
   ·rw[aEz r hc];simp
   ·cases ho:bQ out r with
    | false=>simp
    | true =>
     unfold bQ at ho;rw[List.all_eq_true.1 ho c hc];simp
theorem zE(r:aN)(l:List bA):bQ (oK l) r=bQ l r:=by
 unfold oK;rw[yJ];simp[bQ]
theorem vM(r:aN):∀ (l pre:List bA),bQ pre r=true->kS pre l=true->bQ l r=false
 | [],pre,_,h=>by simp[kS]at h
 | c :: l,pre,hp,h=>by
  have hl:bQ (c :: l) r=(holds c r.args&&bQ l r):=by simp[bQ]
  rw[hl];cases hc:holds c r.args with
  | false=>rfl
  | true =>
   rw[kS]at h;simp only[Bool.or_eq_true]at h;rcases h with (h | h) | h
   ·rw[aGM r h]at hc;simp at hc
   ·obtain⟨d,hd,hcl⟩:=List.any_eq_true.1 h
    have:=aI1 r hcl;rw[hc]at this;unfold bQ at hp;rw[List.all_eq_true.1 hp d hd]at this;simp at this
   ·have:=vM r l (pre++[c]) (by simp[bQ,hc];unfold bQ at hp;simpa using hp) h
    simpa using this
theorem aGx(r:aN){l:List bA}(h:aBo l=true):bQ l r=false:=vM r l [] rfl h
theorem tX(d:BitVec 32)(r:aN):∀ (l:List dI),jK d (dX l) r=match l.find? λx=>bQ x.conds r with
  | some x=>x.action
  | none=>d
 | []=>rfl
 | x :: l=>by
  have ih:=tX d r l;rw[dX,List.find?_cons]
  split
  ·rename_i hn
   have h1:=aGx r hn;rw[zE]at h1;rw[h1];exact ih
  ·split
   ·rename_i _ ht
    have h1:=zE r x.conds;rw[ht]at h1;have h2:bQ x.conds r=true:=by rw[<- h1];rfl
    rw[h2];simp[jK,bQ]
   ·have h1:=zE r x.conds
    unfold jK at ih ⊢;rw[List.find?_cons];simp only[h1];cases bQ x.conds r with
    | true=>rfl
    | false=>exact ih
theorem qL(a:BitVec 32):jC a<=3/\(jC a:Int)=3 - bR a:=by
 have:=mY a;unfold jC;omega
theorem aGh(l:List dI)(n:BitVec 32)(P:dI->Bool):(lQ l n).find? P=l.find? λx=>decide (x.number=n)&&P x:=by
 unfold lQ;rw[List.find?_filter]
 congr 1
 funext x
 cases P x<;>simp
theorem aES(l:List dI)(k:Nat)(P:dI->Bool):(oD l k).find? P=l.find? λx=>decide (jC x.action=k)&&P x:=by
 unfold oD;rw[List.find?_filter]
 congr 1
 funext x
 cases P x<;>simp
theorem aEP(p:jS)(r:aN)(ha:r.arch=3221225534#32):yY p r=match (sC (lQ p.rules r.number)).find? λx=>bQ x.conds r with
  | some x=>x.action
  | none=>p.default:=by
 have hP:∀ k,(oD (lQ p.rules r.number) k).find? (λx=>bQ x.conds r)=p.rules.find? λx=>decide (jC x.action=k)&&dG x r:=by
  intro k;rw[aES,aGh]
  congr 1
  funext x
  simp only[dG,bQ];rw[<- Bool.and_assoc,Bool.and_comm (decide (x.number=r.number)),Bool.and_assoc]
 unfold sC;simp only[List.find?_append,hP]
 have found:∀ k:Nat,k<=3->(∀ j,j<k->p.rules.find? (λx=>decide (jC x.action=j)&&dG x r)=none)->∀ x,p.rules.find? (λx=>decide (jC x.action=k)&&dG x r)=some x->yY p r=x.action:=by
  intro k hk hno x hx;obtain⟨h1,i,hi,hix,hlt⟩:=List.find?_eq_some_iff_getElem.1 hx;subst hix;simp only[Bool.and_eq_true,decide_eq_true_eq]at h1;have hr:=qL p.rules[i].action;refine aGN p r ha (3 - k) i hi h1.2 (by omega) ?_ ?_
  ·intro t ht1 ht2 j hj _ hm hs
   have:=hno (3 - t).toNat (by omega)
   rw[List.find?_eq_none]at this;have hh:=this _ (List.getElem_mem hj);have hr2:=qL p.rules[j].action;simp only[hm,Bool.and_true,decide_eq_true_eq]at hh;omega
  ·intro j hj hji hm hs
   have hh:=hlt j hji;have hr2:=qL p.rules[j].action;simp only[hm,Bool.and_true,Bool.not_eq_true',decide_eq_false_iff_not]at hh;omega
 cases h0:p.rules.find? (λx=>decide (jC x.action=0)&&dG x r) with
 | some x=>exact found 0 (by omega) (by omega) x h0
 | none =>
 cases h1:p.rules.find? (λx=>decide (jC x.action=1)&&dG x r) with
 | some x=>exact found 1 (by omega) (λj hj=>by obtain rfl:j=0:=(by omega);exact h0) x h1
 | none =>
 cases h2:p.rules.find? (λx=>decide (jC x.action=2)&&dG x r) with
 | some x =>
  refine found 2 (by omega) (λj hj =>?_) x h2
  have:j=0\/j=1:=by omega
  rcases this with rfl | rfl
  ·exact h0
  ·exact h1
 | none =>
 cases h3:p.rules.find? (λx=>decide (jC x.action=3)&&dG x r) with
 | some x =>
  refine found 3 (by omega) (λj hj =>?_) x h3
  have:j=0\/j=1\/j=2:=by omega
  rcases this with rfl | rfl | rfl
  ·exact h0
  ·exact h1
  ·exact h2
 | none =>
  refine aH0 p r ha λt ht0 ht3 j hj _ hm hs =>?_;have hr:=qL p.rules[j].action;have:jC p.rules[j].action=0\/jC p.rules[j].action=1\/jC p.rules[j].action=2\/jC p.rules[j].action=3:=by omega
  have key:∀ k,jC p.rules[j].action=k->p.rules.find? (λx=>decide (jC x.action=k)&&dG x r)=none->False:=by
   intro k hk hf;rw[List.find?_eq_none]at hf;have:=hf _ (List.getElem_mem hj);simp[hk,hm]at this
  rcases this with h | h | h | h
  ·exact key 0 h h0
  ·exact key 1 h h1
  ·exact key 2 h h2
  ·exact key 3 h h3
theorem aFG{α β:Type}(f:α->β)(P:β->Bool):∀ (l:List α),(l.map f).find? P=(l.find? λx=>P (f x)).map f
 | []=>rfl
 | x :: l=>by
  rw[List.map_cons,List.find?_cons,List.find?_cons];cases P (f x) with
  | true=>rfl
  | false=>exact aFG f P l
theorem aKv(ns:List (BitVec 32))(n:BitVec 32):ns.find? (λx=>decide (x=n))=if n∈ns then some n else none:=by
 split
 ·rename_i h
  cases hf:ns.find? (λx=>decide (x=n)) with
  | none =>
   rw[List.find?_eq_none]at hf;have:=hf n h;simp at this
  | some m =>
   have:=List.find?_some hf;simp only[decide_eq_true_eq]at this;rw[this]
 ·rename_i h
  rw[List.find?_eq_none];intro x hx;simp only[decide_eq_true_eq];rintro rfl;exact h hx
theorem aE5(p:jS)(ns:List (BitVec 32))(hn:pE p ns)(r:aN):iS (eA p ns) r=yY p r:=by
 unfold iS
 by_cases ha:r.arch=3221225534#32
 rotate_left
 ·rw[if_neg ha];unfold yY;rw[if_neg ha]
 rw[if_pos ha,aEP p r ha];unfold eA;simp only;rw[aFG];have:(λx=>decide ((rC p x).number=r.number))=λx=>decide (x=r.number):=rfl;rw[this,aKv]
 split
 ·rename_i h
  split at h
  ·simp at h
  ·rename_i hm
   have he:lQ p.rules r.number=[]:=by
    unfold lQ;rw[List.filter_eq_nil_iff];intro x hx;simp only[decide_eq_true_eq];exact λe=>hm ((hn.mem _).2 ⟨x,hx,e⟩)
   rw[he];rfl
 ·rename_i c h
  split at h
  ·simp only[Option.map_some,Option.some.injEq]at h
   subst h;exact tX p.default r _
  ·simp at h
end
section
structure Res where
 fp:List Nat
 P:AH->Prop
 keep:∀ {H H':AH},P H->(∀ b∈fp,H'.get b=H.get b)->P H'
structure Has(H0 Z H:AH)(L:List Res):Prop where
 ext:Ext H0 H
 sub:Sub Z H
 all:∀ r∈L,r.P H/\∀ b∈r.fp,H0.next<=b/\b<H.next/\Z.get b = .dead
 nd:(L.flatMap Res.fp).Nodup
structure Upd(r r':Res)(H H':AH):Prop where
 only:dU r.fp H H'
 holds:r'.P H'
 fp:∀ b∈r'.fp,(b∈r.fp\/H.next<=b)/\b<H'.next
 nd:r'.fp.Nodup
theorem Upd.trans{r r' r'':Res}{H H' H'':AH}(h:Upd r r' H H')(h':Upd r' r'' H' H''):Upd r r'' H H'' :=
 ⟨h.only.trans h'.only λb hb=>(h.fp b hb).1,h'.holds,λb hb=>⟨by
  rcases(h'.fp b hb).1 with k | k
  ·exact(h.fp b k).1
  ·exact .inr (Nat.le_trans h.only.1 k),(h'.fp b hb).2⟩,h'.nd⟩
theorem Upd.ext{r r':Res}{H H' H'':AH}(h:Upd r r' H H')(e:Ext H' H''):Upd r r' H H'' :=
 ⟨h.only.trans (e.only (F:=[])) (by simp),r'.keep h.holds λb hb=>e.get (h.fp b hb).2,λb hb=>⟨(h.fp b hb).1,Nat.lt_of_lt_of_le (h.fp b hb).2 e.1⟩,h.nd⟩
theorem Upd.refl{r:Res}{H:AH}(h:r.P H)(hf:∀ b∈r.fp,b<H.next)(hn:r.fp.Nodup):Upd r r H H:=⟨dU.refl _ _,h,λb hb=>⟨.inl hb,hf b hb⟩,hn⟩
def Fz(n:Nat)(Z Z':AH):Prop:=Sub Z Z'/\∀ b,b<n->Z'.get b=Z.get b
theorem Fz.refl(n:Nat)(Z:AH):Fz n Z Z:=⟨Sub.refl _,λ_ _=>rfl⟩
theorem Fz.trans{n:Nat}{A B C:AH}(h:Fz n A B)(h':Fz n B C):Fz n A C:=⟨h.1.trans h'.1,λb hb=>(h'.2 b hb).trans (h.2 b hb)⟩
theorem Sub.newfrozen{Z H:AH}(h:Sub Z H)(o:cT):∃ Z',Fz H.next Z Z'/\Sub Z' (H.new o)/\Z'.get H.next=o:=by
 have hs:Sub Z (H.new o):=h.new o;have hlt:H.next<(H.new o).next:=by simp
 refine⟨Z.freeze (H.new o).next H.next ((H.new o).get H.next),⟨hs.to_freeze hlt,λb hb =>?_⟩,hs.freeze hlt,?_⟩
 ·rw[AH.get_freeze _ _ _ _ _ hs.1 hlt,if_neg (by omega)]
 ·rw[AH.get_freeze _ _ _ _ _ hs.1 hlt,if_pos rfl,AH.get_new_self]
theorem Fz.dead{n:Nat}{Z Z':AH}(h:Fz n Z Z'){b:Nat}(hb:b<n)(hd:Z.get b = .dead):Z'.get b = .dead:=by rw[h.2 b hb,hd]
section
variable {H0 Z H H':AH}{L:List Res}
theorem Has.begin(e:Ext H0 H)(s:Sub Z H):Has H0 Z H []:=⟨e,s,by simp,by simp⟩
theorem Has.refreeze(h:Has H0 Z H L){Z':AH}(e:Ext H H')(f:Fz H.next Z Z')(s:Sub Z' H'):Has H0 Z' H' L :=
 ⟨h.ext.trans e,s,λr hr=>by
  obtain⟨h1,h2⟩:=h.all r hr;exact⟨r.keep h1 λb hb=>e.get (h2 b hb).2.1,λb hb=>⟨(h2 b hb).1,Nat.lt_of_lt_of_le (h2 b hb).2.1 e.1,f.dead (h2 b hb).2.1 (h2 b hb).2.2⟩⟩,h.nd⟩
theorem Has.get(h:Has H0 Z H L){k:Nat}{r:Res}(hk:L[k]? = some r):r.P H:=(h.all r (List.mem_of_getElem? hk)).1
theorem Has.grow(h:Has H0 Z H L)(e:Ext H H'):Has H0 Z H' L :=
 ⟨h.ext.trans e,h.sub.ext e,λr hr=>by
  obtain⟨h1,h2⟩:=h.all r hr;exact⟨r.keep h1 λb hb=>e.get (h2 b hb).2.1,λb hb=>⟨(h2 b hb).1,Nat.lt_of_lt_of_le (h2 b hb).2.1 e.1,(h2 b hb).2.2⟩⟩,h.nd⟩
theorem Has.new(h:Has H0 Z H L)(o:cT):Has H0 Z (H.new o) L:=h.grow ((Ext.refl H).new o)
theorem Has.add(h:Has H0 Z H L)(r:Res)(e:Ext H H')(hp:r.P H')(hf:∀ b∈r.fp,H.next<=b/\b<H'.next)(hn:r.fp.Nodup):Has H0 Z H' (L++[r]):=by
 have g:=h.grow e;refine⟨g.ext,g.sub,λx hx =>?_,?_⟩
 ·rcases List.mem_append.1 hx with hx | hx
  ·exact g.all x hx
  ·simp only[List.mem_singleton]at hx;subst hx
   exact⟨hp,λb hb=>⟨Nat.le_trans h.ext.1 (hf b hb).1,(hf b hb).2,AH.get_ge _ (Nat.le_trans h.sub.1 (hf b hb).1)⟩⟩
 ·rw[List.flatMap_append,List.nodup_append]
  refine⟨h.nd,by simpa using hn,λa ha b hb =>?_⟩
  simp only[List.mem_flatMap]at ha;obtain⟨y,hy,ha⟩:=ha;have:=((h.all y hy).2 a ha).2.1;have:=(hf b (by simpa using hb)).1
  omega
theorem wS:∀ {L:List Res} (_:(L.flatMap Res.fp).Nodup) {i j:Nat} {r s:Res} (_:L[i]? = some r) (_:L[j]? = some s) (_:i≠j) {b:Nat} (_:b∈r.fp),b ∉ s.fp
 | [],_,i,j,r,s,hi,_,_,b,_=>by simp at hi
 | x :: L,hn,i,j,r,s,hi,hj,hij,b,hb=>by
  rw[List.flatMap_cons,List.nodup_append]at hn;obtain⟨_,h2,h3⟩:=hn;intro hs;cases i with
  | zero =>
   cases j with
   | zero=>exact hij rfl
   | succ j =>
    simp at hi;subst hi;exact h3 b hb b (List.mem_flatMap.2 ⟨s,List.mem_of_getElem? (by simpa using hj),hs⟩) rfl
  | succ i =>
   cases j with
   | zero =>
    simp at hj;subst hj;exact h3 b hs b (List.mem_flatMap.2 ⟨r,List.mem_of_getElem? (by simpa using hi),hb⟩) rfl
   | succ j=>exact wS h2 (by simpa using hi) (by simpa using hj) (by omega) hb hs
theorem aC4:∀ {L:List Res} (_:(L.flatMap Res.fp).Nodup) {n:Nat} (_:∀ r∈L,∀ b∈r.fp,b<n) {k:Nat} {r r':Res} (_:L[k]? = some r) (_:∀ b∈r'.fp,b∈r.fp\/n<=b) (_:r'.fp.Nodup),((L.set k r').flatMap Res.fp).Nodup
 | [],_,n,_,k,r,r',hk,_,_=>by simp at hk
 | x :: L,hn,n,hlt,k,r,r',hk,hf,hr=>by
  rw[List.flatMap_cons,List.nodup_append]at hn;obtain⟨h1,h2,h3⟩:=hn;cases k with
  | zero =>
   simp at hk;subst hk;rw[List.set_cons_zero,List.flatMap_cons,List.nodup_append];refine⟨hr,h2,λa ha b hb =>?_⟩;rcases hf a ha with h | h
   ·exact h3 a h b hb
   ·obtain⟨y,hy,hb⟩:=List.mem_flatMap.1 hb
    have:=hlt y (by simp[hy]) b hb
    omega
  | succ k =>
   rw[List.set_cons_succ,List.flatMap_cons,List.nodup_append];refine⟨h1,aC4 h2 (λr hr=>hlt r (by simp[hr])) (by simpa using hk) hf hr,λa ha b hb =>?_⟩
   obtain⟨y,hy,hb⟩:=List.mem_flatMap.1 hb;rcases List.mem_or_eq_of_mem_set hy with hy | e
   ·exact h3 a ha b (List.mem_flatMap.2 ⟨y,hy,hb⟩)
   ·subst e
    rcases hf b ‹b∈y.fp› with h | h
    ·exact h3 a ha b (List.mem_flatMap.2 ⟨r,List.mem_of_getElem? (by simpa using hk),h⟩)
    ·have:=hlt x (by simp) a ha
     omega
theorem Has.step(h:Has H0 Z H L){k:Nat}{r r':Res}(hk:L[k]? = some r)(u:Upd r r' H H'):Has H0 Z H' (L.set k r'):=by
 have hr:=h.all r (List.mem_of_getElem? hk);refine⟨u.only.ext h.ext λb hb=>(hr.2 b hb).1,h.sub.only u.only λb hb=>(hr.2 b hb).2.2,λx hx =>?_,aC4 h.nd (λr hr b hb=>((h.all r hr).2 b hb).2.1) hk (λb hb=>(u.fp b hb).1) u.nd⟩;obtain⟨j,hj,hjx⟩:=List.getElem_of_mem hx
 by_cases e:k=j
 ·subst e
  rw[List.getElem_set_self]at hjx;subst hjx;refine⟨u.holds,λb hb=>⟨?_,(u.fp b hb).2,?_⟩⟩
  ·rcases(u.fp b hb).1 with g | g
   ·exact(hr.2 b g).1
   ·exact Nat.le_trans h.ext.1 g
  ·rcases(u.fp b hb).1 with g | g
   ·exact(hr.2 b g).2.2
   ·exact AH.get_ge _ (Nat.le_trans h.sub.1 g)
 ·rw[List.getElem_set_ne e]at hjx
  have hj':j<L.length:=by simpa using hj
  have hjx':L[j]? = some x:=by rw[List.getElem?_eq_getElem hj',hjx]
  obtain⟨h1,h2⟩:=h.all x (List.mem_of_getElem? hjx');refine⟨x.keep h1 λb hb=>u.only.get (h2 b hb).2.1 (wS h.nd hjx' hk (Ne.symm e) hb),λb hb=>⟨(h2 b hb).1,Nat.lt_of_lt_of_le (h2 b hb).2.1 u.only.1,(h2 b hb).2.2⟩⟩
theorem tG:∀ {L:List Res} (_:(L.flatMap Res.fp).Nodup) (k:Nat),((L.eraseIdx k).flatMap Res.fp).Nodup
 | [],_,_=>by simp
 | x :: L,hn,0=>by
  rw[List.flatMap_cons,List.nodup_append]at hn;exact hn.2.1
 | x :: L,hn,k+1=>by
  rw[List.flatMap_cons,List.nodup_append]at hn;rw[List.eraseIdx_cons_succ,List.flatMap_cons,List.nodup_append];refine⟨hn.1,tG hn.2.1 k,λa ha b hb =>?_⟩;obtain⟨y,hy,hb⟩:=List.mem_flatMap.1 hb;exact hn.2.2 a ha b (List.mem_flatMap.2 ⟨y,List.mem_of_mem_eraseIdx hy,hb⟩)
theorem Has.drop(h:Has H0 Z H L)(k:Nat):Has H0 Z H (L.eraseIdx k) :=
 ⟨h.ext,h.sub,λr hr=>h.all r (List.mem_of_mem_eraseIdx hr),tG h.nd k⟩
theorem aBT(h:Sub Z H):∀ (l:List Nat),(∀ b∈l,b<H.next)->∃ Z',Sub Z Z'/\Sub Z' H/\(∀ b∈l,Z'.get b=H.get b)/\∀ b,b ∉ l->Z'.get b=Z.get b
 | [],_=>⟨Z,Sub.refl _,h,by simp,λ_ _=>rfl⟩
 | b :: l,hl=>by
  obtain⟨Z',h1,h2,h3,h4⟩:=aBT h l λx hx=>hl x (by simp[hx])
  have hb:=hl b (by simp)
  have hg:∀ x,(Z'.freeze H.next b (H.get b)).get x=if x=b then H.get b else Z'.get x:=λx=>AH.get_freeze _ _ _ _ _ h2.1 hb;refine⟨_,h1.trans (h2.to_freeze hb),h2.freeze hb,λx hx =>?_,λx hx =>?_⟩
  ·rw[hg]
   split
   ·rename_i e;rw[e]
   ·rename_i e;exact h3 x (by simpa[e] using hx)
  ·simp only[List.mem_cons,not_or]at hx
   rw[hg,if_neg hx.1,h4 x hx.2]
theorem Has.freeze(h:Has H0 Z H L){k:Nat}{r:Res}(hk:L[k]? = some r):∃ Z',Fz H0.next Z Z'/\r.P Z'/\Has H0 Z' H (L.eraseIdx k):=by
 have hr:=h.all r (List.mem_of_getElem? hk);obtain⟨Z',h1,h2,h3,h4⟩:=aBT h.sub r.fp λb hb=>(hr.2 b hb).2.1;refine⟨Z',⟨h1,λb hb=>h4 b λhm =>?_⟩,r.keep hr.1 h3,h.ext,h2,λx hx =>?_,tG h.nd k⟩
 ·have:=(hr.2 b hm).1
  omega
 obtain⟨j,hjk,hj⟩:=List.mem_eraseIdx_iff_getElem?.1 hx;obtain⟨g1,g2⟩:=h.all x (List.mem_of_getElem? hj);exact⟨g1,λb hb=>⟨(g2 b hb).1,(g2 b hb).2.1,by rw[h4 b (wS h.nd hj hk hjk hb)];exact(g2 b hb).2.2⟩⟩
end
def bF(b:Nat)(c:List Value):Res:=⟨[b],λH=>H.get b = .cells c none,λh e=>by rw[e _ (by simp)];exact h⟩
def zH:AH:=⟨0,λ_ => .dead⟩
theorem nF(b:Nat):zH.get b = .dead:=by simp[AH.get,zH]
def aY(sz:Nat)(v:Value)(rows:List (List Value)):Res:=⟨lM v,λH=>dJ zH H sz v rows,λh e=>h.keep λb hb _=>e b (gW.2 hb)⟩
def eU{K V:Type}[DecidableEq K](fk:K->Value)(fv:V->Value)(r:Nat)(l:List (K×V)):Res:=⟨[r],λH=>eE fk fv H r l,λh e=>h.keep (e _ (by simp))⟩
section
variable {H0 Z H H':AH}{L:List Res}
theorem wN(v:Value):(lM v).Nodup:=by unfold lM;split<;>simp
theorem Has.box(h:Has H0 Z H L){k b:Nat}{c:List Value}(hk:L[k]? = some (bF b c)):H.get b = .cells c none:=h.get hk
theorem Has.box_lt(h:Has H0 Z H L){k b:Nat}{c:List Value}(hk:L[k]? = some (bF b c)):b<H.next:=AH.lt_cells (h.box hk)
theorem Has.newbox(h:Has H0 Z H L)(c:List Value):Has H0 Z (H.new (.cells c none)) (L++[bF H.next c]) :=
 h.add _ ((Ext.refl H).new _) (AH.get_new_self _ _) (by simp[bF]) (by simp[bF])
theorem Has.put(h:Has H0 Z H L){k b:Nat}{c:List Value}(hk:L[k]? = some (bF b c))(c':List Value):Has H0 Z (H.put b (.cells c' none)) (L.set k (bF b c')) :=
 h.step hk ⟨(dU.refl _ _).put (.inl (by simp[bF])) _,AH.get_put_self _ _ (h.box_lt hk),λx hx=>⟨.inl hx,by simp[bF]at hx;subst hx;exact h.box_lt hk⟩,by simp[bF]⟩
theorem Has.nils(h:Has H0 Z H L)(sz:Nat):Has H0 Z H (L++[aY sz bY []]) :=
 h.add _ (Ext.refl H) (dJ.nil _ _ _) (by simp[aY,lM,blk]) (by simp[aY,lM,blk])
theorem Has.slice(h:Has H0 Z H L){k sz:Nat}{v:Value}{rows:List (List Value)}(hk:L[k]? = some (aY sz v rows)):dJ zH H sz v rows:=h.get hk
theorem Has.rows(h:Has H0 Z H L){k sz:Nat}{v:Value}{rows:List (List Value)}(hk:L[k]? = some (aY sz v rows)):Rows H sz v rows:=(h.slice hk).toRows
theorem dJ.upd{sz:Nat}{v v':Value}{rows rows':List (List Value)}(g:aHA H H' v v')(h':dJ zH H' sz v' rows'):Upd (aY sz v rows) (aY sz v' rows') H H' :=
 ⟨g.1,h',λb hb=>⟨(g.2 b (gW.1 hb)).imp gW.2 id,h'.blk_lt (gW.1 hb)⟩,wN v'⟩
theorem Has.app1(h:Has H0 Z H L){k sz:Nat}{v:Value}{rows:List (List Value)}(hk:L[k]? = some (aY sz v rows)){bytes:Nat}(new:List Value)(hl:new.length=sz)(hp:new.all plain1=true)(hs:sz≠0)(hb:bytes≠0)(h1:(rows.length+1)*bytes<=2 ^ 46):
  ∃ v' H',AM.app sz bytes v (slc H.next 0 1 1) (H.new (.cells new none))=some (v',H')/\plain1 v'=true/\Has H0 Z H' (L.set k (aY sz v' (rows++[new]))):=by
 obtain⟨v',H',a1,a2,a3⟩:=(h.slice hk).app1 (Nat.zero_le _) new hl hp hs hb h1;exact⟨v',H',a1,a2.plain,h.step hk (dJ.upd a3 a2)⟩
theorem Has.app(h:Has H0 Z H L){k sz:Nat}{v x:Value}{rows new:List (List Value)}(hk:L[k]? = some (aY sz v rows)){bytes:Nat}(hx:Rows H sz x new)(hp:∀ r∈new,r.all plain1=true)(hs:sz≠0)(hb:bytes≠0)(h1:(rows.length+new.length)*bytes<=2 ^ 46)(h2:rows.length+new.length<2 ^ 62):
  ∃ v' H',AM.app sz bytes v x H=some (v',H')/\plain1 v'=true/\Has H0 Z H' (L.set k (aY sz v' (rows++new))):=by
 obtain⟨v',H',a1,a2,a3⟩:=(h.slice hk).app (Nat.zero_le _) hx hp hs hb h1 h2;exact⟨v',H',a1,a2.plain,h.step hk (dJ.upd a3 a2)⟩
theorem Has.newroom(h:Has H0 Z H L)(sz:Nat):Has H0 Z (H.new (.cells [] none)) (L++[aY sz (slc H.next 0 0 0) []]) :=
 h.add _ ((Ext.refl H).new _) (dJ.room (nF _) (AH.get_new_self _ _) (by simp)) (by simp[aY,lM,blk]) (by simp[aY,lM,blk])
theorem Has.mapAt{K V:Type}[DecidableEq K]{fk:K->Value}{fv:V->Value}(h:Has H0 Z H L){k r:Nat}{l:List (K×V)}(hk:L[k]? = some (eU fk fv r l)):eE fk fv H r l:=h.get hk
theorem Has.newmap{K V:Type}[DecidableEq K](fk:K->Value)(fv:V->Value)(h:Has H0 Z H L):Has H0 Z (H.new (.map [] 0 true)) (L++[eU fk fv H.next ([]:List (K×V))]) :=
 h.add _ ((Ext.refl H).new _) (eE.new H) (by simp[eU]) (by simp[eU])
theorem Has.mapset{K V:Type}[DecidableEq K]{fk:K->Value}{fv:V->Value}(h:Has H0 Z H L){n r kd:Nat}{l:List (K×V)}(hn:L[n]? = some (eU fk fv r l))(hk:∀ a b,cA kd (fk a) (fk b)=some (decide (a=b)))(k:K)(v:V):
  ∃ H',eO kd (.map (some r)) (fk k) (fv v) H=some H'/\Has H0 Z H' (L.set n (eU fk fv r (fE k v l))):=by
 have hm:=h.mapAt hn;obtain⟨o,h1,h2,h3⟩:=hm.set hk k v;exact⟨_,h2,h.step hn ⟨(dU.refl _ _).put (.inl (by simp[eU])) _,h3,λx hx=>⟨.inl hx,by simp[eU]at hx;subst hx;exact hm.lt⟩,by simp[eU]⟩⟩
end
end
section
abbrev aAm:=List UInt8
abbrev bB{K V:Type}[DecidableEq K](k:K)(l:List (K×V)):Option V:=@List.lookup K V instBEqOfDecidableEq k l
theorem eL{K V:Type}[DecidableEq K](k:K)(e:K×V)(l:List (K×V)):bB k (e :: l)=if k=e.1 then some e.2 else bB k l:=by
 by_cases h:k=e.1
 ·subst h;simp[bB,List.lookup]
 ·have:(k == e.1)=false:=by simpa using h
  simp[bB,List.lookup,this,h]
end
section
theorem aAo{α:Type}{sz:Nat}:∀ (rows:List (List α)),(∀ r∈rows,r.length=sz)->∀ (i k:Nat) (x:α) (h:i<rows.length),k<sz->(rows.set i (rows[i].set k x)).flatten=rows.flatten.set (i*sz+k) x
 | [],_,i,k,x,h,_=>by simp at h
 | r :: rows,hl,0,k,x,h,hk=>by
  have h1:=hl r (by simp)
  simp only[List.set_cons_zero,List.getElem_cons_zero,List.flatten_cons,Nat.zero_mul,Nat.zero_add];rw[List.set_append_left _ _ (by omega)]
 | r :: rows,hl,i+1,k,x,h,hk=>by
  have h1:=hl r (by simp)
  have ih:=aAo rows (λy hy=>hl y (by simp[hy])) i k x (by simpa using h) hk
  simp only[List.set_cons_succ,List.getElem_cons_succ,List.flatten_cons,ih,Nat.succ_mul];rw[List.set_append_right _ _ (by omega)]
  congr 2
  omega
theorem dJ.store{Z H:AH}{sz:Nat}{v:Value}{rows:List (List Value)}(h:dJ Z H sz v rows){i k:Nat}(hi:i<rows.length)(hk:k<sz)(x:Value)(hx:plain1 x=true):
  ∃ b o H',aI sz v (vi i)=some (ptr b o)/\(H.get b).row o sz=some rows[i]/\bD (ptr b (o+k)) x H=some H'/\dJ Z H' sz v (rows.set i (rows[i].set k x))/\dU (lM v) H H':=by
 have hr:=h.toRows;rcases h.2 with ⟨rfl,_⟩ | ⟨b,f,c,cs,g1,rfl,g3,g4,g5,g6,g7⟩
 ·simp at hi
 ·have hlt:=AH.lt_cells g3
  have hle:(i+1)*sz<=rows.length*sz:=Nat.mul_le_mul_right _ hi;have hle2:rows.length*sz<=c*sz:=Nat.mul_le_mul_right _ g4;rw[Nat.succ_mul]at hle;obtain⟨b',o',e1,e2⟩:=hr.ix hi;have e3:=uC sz b 0 rows.length c i hi;rw[e3]at e1;simp only[Option.some.injEq,Value.pointer.injEq,Addr.mk.injEq,and_true]at e1;obtain⟨rfl,rfl⟩:=e1;refine⟨b,0+i*sz,H.put b (.cells (cs.set (i*sz+k) x) f),e3,e2,?_,⟨?_,.inr ⟨b,f,c,_,g1,by simp,AH.get_put_self _ _ hlt,by simpa using g4,by simpa using g5,?_,g7⟩⟩,(dU.refl _ _).put (.inl (by simp[lM,blk])) _⟩
  ·rw[eK,if_pos hx,g3]
   simp only;rw[if_pos (by omega),Nat.zero_add]
  ·intro r hr'
   rcases List.mem_or_eq_of_mem_set hr' with hr' | rfl
   ·exact h.1 r hr'
   ·obtain⟨q1,q2⟩:=h.1 _ (List.getElem_mem hi)
    refine⟨by simpa using q1,?_⟩
    rw[List.all_eq_true]at q2 ⊢;intro y hy;rcases List.mem_or_eq_of_mem_set hy with hy | rfl
    ·exact q2 y hy
    ·exact hx
  ·rw[List.length_set,List.take_set,g6,aAo rows (λr hr=>(h.1 r hr).1) i k x hi hk]
def rI(n:Nat)(v:Value):Prop:=∀ b,blk v=some b->n<=b
end
section
variable {E:Sy}{H:AH}{Q:Value->AH->Prop}
structure lC where
 m:Int
 i:BitVec 16
 deriving DecidableEq
def lC.cells(p:lC):List Value:=[vi p.m,u16 p.i]
structure wH where
 id:Int
 at_:lC
 root:BitVec 16
 held:Int
 deriving DecidableEq
def wH.cells(m:wH):List Value:=[vi m.id,vi m.at_.m,u16 m.at_.i,u16 m.root,vi m.held]
@[simp] theorem aPn(a:Addr):eW iU .eql (.pointer (some a)) (.pointer none)=some (.bool false):=rfl
@[simp] theorem aPo:eW iU .eql (.pointer none) (.pointer none)=some (.bool true):=rfl
@[simp] theorem aOt(a:Addr):eW iU .neq (.pointer (some a)) (.pointer none)=some (.bool true):=rfl
@[simp] theorem aOx:eW iU .neq (.pointer none) (.pointer none)=some (.bool false):=rfl
@[simp] theorem aPd(a:Addr):aO (.pointer (some a))=some (.pointer (some a)):=rfl
end
section
variable {E:Sy}{H:AH}{Q:Value->AH->Prop}
def aKW(p:lC)(m:wH):Bool:=decide (m.id≠0)&&decide (m.at_=p)
def aNQ(T:List wH):Nat->lC->lC
 | 0,p=>p
 | n+1,p=>match T.find? (aKW p) with
  | none=>p
  | some m=>aNQ T n ⟨m.id,m.root⟩
def eC(T:List wH)(p:lC):lC:=aNQ T T.length p
end
section
variable {E:Sy}{H:AH}{Q:Value->AH->Prop}
def aOV(r:Res)(H H':AH):Prop:=Ext H H'/\r.P H'/\(∀ b∈r.fp,H.next<=b/\b<H'.next)/\r.fp.Nodup
end
section
variable {E:Sy}{H0 Z H:AH}{L:List Res}{Q:Value->AH->Prop}
@[simp] theorem lC.cells_length(p:lC):p.cells.length=2:=rfl
@[simp] theorem wH.cells_length(m:wH):m.cells.length=5:=rfl
@[simp] theorem aNM(p:lC):p.cells.all plain1=true:=rfl
@[simp] theorem aMC(a b:Value)(p:lC):aT [a,b] 0 p.cells=p.cells:=rfl
@[simp] theorem aMy(q p:lC):aT q.cells 0 p.cells=p.cells:=rfl
@[simp] theorem aOw(p:lC):p.cells.take 2=p.cells:=rfl
@[simp] theorem aPc(p:wH):p.cells.all plain1=true:=rfl
@[simp] theorem aOL(a b c d e:Value)(p:wH):aT [a,b,c,d,e] 0 p.cells=p.cells:=rfl
@[simp] theorem aPx(p:wH):p.cells.take 5=p.cells:=rfl
end
section
variable {E:Sy}{H:AH}{Q:Value->AH->Prop}
structure iL where
 name:List UInt8
 pol:jS
 handled:BitVec 16
 paths:List (List UInt8×BitVec 16)
 ports:List (BitVec 16×BitVec 16)
def eS(H:AH)(x:iL)(cs:List Value):Prop:=∃ v pv qv,cs=[str x.name,u32 x.pol.default,v,u16 x.handled,pv,qv]/\cO dM H 3 v x.pol.rules /\
 Rows H 2 pv (x.paths.map λp=>[str p.1,u16 p.2])/\Rows H 2 qv (x.ports.map λp=>[u16 p.1,u16 p.2])
def iL.fits(x:iL):Prop:=x.name.length<2 ^ 63/\x.pol.rules.length<2 ^ 63/\x.paths.length<2 ^ 63/\x.ports.length<2 ^ 63
def iL.few(x:iL):Prop:=x.pol.rules.length<=80/\(∀ r∈x.pol.rules,r.conds.length<=20)/\x.paths.length<=50/\x.ports.length<=50
theorem cO.sub{α:Type}{R:AH->α->List Value->Prop}{sz:Nat}{v:Value}{l:List α}(h:cO R H sz v l)(hm:∀ (H H':AH) (a:α) (c:List Value),R H a c->Sub H H'->R H' a c){H':AH}(e:Sub H H'):cO R H' sz v l:=by
 obtain⟨rows,h1,h2,h3⟩:=h;exact⟨rows,h1.sub e,h2,λi a b=>hm _ _ _ _ (h3 i a b) e⟩
theorem dM.sub{H H':AH}{r:dI}{cs:List Value}(h:dM H r cs)(e:Sub H H'):dM H' r cs:=⟨h.1,h.2.choose,h.2.choose_spec.1,h.2.choose_spec.2.sub e⟩
theorem eS.sub{H H':AH}{x:iL}{cs:List Value}(h:eS H x cs)(e:Sub H H'):eS H' x cs:=by
 obtain⟨v,pv,qv,h1,h2,h3,h4⟩:=h;exact⟨v,pv,qv,h1,h2.sub (λ_ _ _ _ h e=>dM.sub h e) e,h3.sub e,h4.sub e⟩
theorem eS.mono{H H':AH}{x:iL}{cs:List Value}(h:eS H x cs)(e:Ext H H'):eS H' x cs:=h.sub e.sub
theorem eS.at_{x:iL}{cs:List Value}(h:eS H x cs)(hb:x.pol.rules.length<2 ^ 63):sB H x.pol cs:=by
 obtain⟨v,pv,qv,h1,h2,_⟩:=h;exact⟨hb,_,v,_,_,_,h1,h2⟩
end
section
variable {E:Sy}{H:AH}{Q:Value->AH->Prop}
def kX:List (BitVec 64):=[0#64,1#64,2#64,3#64,5#64,255#64,4294967295#64,4294967296#64,4294967297#64,8589934597#64,9223372036854775810#64,18446744073709551615#64]
theorem S.f84(hE:aX E)(hQ:∀ v H',Ext H H'->iT H' v (kX.map u64)->Q v H'):E.call 46 [] H Q:=by
 apply hE.f84;simp[F.f84];refine hQ _ _ ((Ext.refl _).new _) (iT.made (AH.get_new_self _ _) (.inl rfl) rfl)
structure iR where
 arg:BitVec 8
 op:BitVec 8
 mask:BitVec 8
 value:BitVec 8
def iR.cells(c:iR):List Value:=[u8 c.arg,u8 c.op,u8 c.mask,u8 c.value]
abbrev iR.v(c:iR):Value := .agg c.cells.toArray
def aHW(n:Nat):BitVec 64:=kX.getD n 0#64
def iR.cond(s:iR):bA :=
 if 1#8+s.op % 7#8=7#8 then⟨(s.arg % 6#8).toNat,7#8,aHW (1+s.mask.toNat % 11),aHW (s.value.toNat % 12)&&&aHW (1+s.mask.toNat % 11)⟩
 else⟨(s.arg % 6#8).toNat,1#8+s.op % 7#8,0#64,aHW (s.value.toNat % 12)⟩
theorem iT.get?{H:AH}{v:Value}{l:List Value}(h:iT H v l){i:Nat}{x:Value}(hi:l[i]? = some x):∃ b o,aI 1 v (vi i)=some (ptr b o)/\(H.get b).cell o=some x:=by
 obtain⟨hlt,rfl⟩:=List.getElem?_eq_some_iff.1 hi;exact h.elem hlt
theorem S.f79(hE:aX E)(c:iR)(hQ:∀ H',Ext H H'->Q c.cond.v H'):E.call 22 [c.v] H Q:=by
 apply hE.f79;simp[F.f79];refine S.f84 hE λv H3 h3 hv =>?_;have e3:Ext H H3:=(((Ext.refl H).new _).new _).trans h3;have k1:H3.get H.next = .cells c.cells none:=h3.cells (by simp[AH.get_new])
 have k2:H3.get (H.next+1) = .cells [vi 0,u8 0#8,u64 0#64,u64 0#64] none:=h3.cells (by simp[AH.get_new])
 have hl:=hv.lenSlc;have h12:((kX.map u64).length:Int)=((12:Nat):Int):=rfl;have hlt:=AH.lt_cells k2;have m12:kX.length=12:=rfl
 have hat:∀ n,n<12->(kX.map u64)[n]? = some (u64 (aHW n)):=λn hn=>by
  have:n<kX.length:=hn;simp[aHW,List.getD_eq_getElem?_getD,this]
 have r1:aA .rem (vi c.value.toNat) (vi 12)=some (vi ((c.value.toNat % 12:Nat):Int)):=kW c.value.toNat 12 (by decide)
 have r2:aA .rem (vi c.mask.toNat) (vi 11)=some (vi ((c.mask.toNat % 11:Nat):Int)):=kW c.mask.toNat 11 (by decide)
 have ea:((c.arg % 6#8).toNat:Int)=(c.arg.toNat:Int) % 6:=by simp
 unfold iR.cond at hQ;have hn1:c.value.toNat % 12<12:=Nat.mod_lt _ (by decide)
 have hn2:c.mask.toNat % 11<11:=Nat.mod_lt _ (by decide)
 generalize c.value.toNat % 12=n1 at *;generalize c.mask.toNat % 11=n2 at *;have r3:aA .add (vi 1) (vi (n2:Int))=some (vi ((1+n2:Nat):Int)):=bW 1 _ (by omega)
 have r4:aA .sub (vi 12) (vi 1)=some (vi 11):=rfl;obtain⟨b1,o1,f1,f2⟩:=hv.get? (hat n1 hn1);obtain⟨b2,o2,f3,f4⟩:=hv.get? (hat (1+n2) (by omega))
 have hb1:b1<H3.next:=AH.lt_of_get (λh=>by rw[h]at f2;cases f2)
 have hb2:b2<H3.next:=AH.lt_of_get (λh=>by rw[h]at f4;cases f4)
 generalize 1+n2=n3 at *;have hne:H.next+1≠H3.next:=Nat.ne_of_lt hlt;simp[k1,iR.cells,hl,m12,r1,f1,f2,aT,AH.get_new,Nat.ne_of_lt (Nat.lt_of_succ_lt hlt)]
 by_cases hop:1#8+c.op % 7#8=7#8
 ·rw[if_pos hop]at hQ
  simp[hop,r2,r3,r4,f3,f4,AH.get_new,AH.get_put,aT,k1,k2,hlt,hne,Nat.ne_of_lt hb2]
  simpa[bA.v,bA.cells,ea] using hQ _ ((e3.put (b:=H.next+1) (by omega) _).new _)
 ·rw[if_neg hop]at hQ
  simp[hop,AH.get_new,AH.get_put,hlt,hne,k2,aT]
  simpa[bA.v,bA.cells,ea] using hQ _ ((e3.put (b:=H.next+1) (by omega) _).new _)
end
section
variable {E:Sy}{H:AH}{Q:Value->AH->Prop}
def bJ:List (Nat×List UInt8×Nat):=[(0,[114,101,97,100],2),(1,[119,114,105,116,101],2),(2,[111,112,101,110],2),(3,[99,108,111,115,101],1),(4,[115,116,97,116],1),(8,[115,101,101,107],2),(32,[100,117,112],1),(39,[112,105,100],0),(41,[115,111,99,107,101,116],0),(42,[99,111,110,110,101,99,116],2),(49,[98,105,110,100],2),(50,[108,105,115,116,101,110],1),(57,[102,111,114,107],0),(60,[101,120,105,116],1),(77,[116,114,117,110,99,97,116,101],2),(78,[114,101,97,100,100,105,114],1),(79,[99,119,100],0),(80,[99,104,100,105,114],1),(82,[114,101,110,97,109,101],2),(83,[109,107,100,105,114],1),(84,[114,109,100,105,114],1),(86,[108,105,110,107],2),(87,[117,110,108,105,110,107],1),(88,[115,121,109,108,105,110,107],2),(89,[114,101,97,100,108,105,110,107],1),(157,[112,114,99,116,108],1),(165,[109,111,117,110,116],2),(166,[117,109,111,117,110,116],1),(317,[115,101,99,99,111,109,112],1),(446,[114,101,115,116,114,105,99,116],1)]
def kQ(c:Nat×List UInt8×Nat):List Value:=[vi c.1,str c.2.1,vi c.2.2]
theorem bv3(z0 z1 z2 a b c:Value)(ha:cU a=[a])(hb:cU b=[b])(hc:cU c=[c])(da:jV a=true)(db:jV b=true)(dc:jV c=true):aK [(0,1),(1,1),(2,1)] #[z0,z1,z2] [(0,a),(1,b),(2,c)]=some (.agg #[a,b,c]):=by
 simp[ha,hb,hc,da,db,dc,aT]
theorem S.f88'(hE:aX E)(hQ:Q (slc H.next 0 30 30) (H.new (.cells (bJ.map kQ).flatten none))):E.call 20 [] H Q:=by
 apply hE.f88;unfold F.f88
 repeat rw[bv3 _ _ _ _ _ _ rfl rfl rfl rfl rfl rfl,aP]
 rw[iZ 30 3 _ _ (bJ.map λc => .agg (kQ c).toArray) rfl ?_ rfl rfl ?_,aQ]
 ·exact hQ
 ·rfl
 ·intro r hr
  obtain⟨c,_,rfl⟩:=List.mem_map.1 hr
  rfl
def tE:List (List UInt8):=[[47],[47,97],[47,97,47,98],[47,102],[47,97,47,103],[47,99]]
theorem S.f80(hE:aX E)(hQ:∀ v H',Ext H H'->iT H' v (tE.map str)->Q v H'):E.call 24 [] H Q:=by
 apply hE.f80;simp[F.f80,aT];exact hQ _ _ ((Ext.refl _).new _) (iT.made (AH.get_new_self _ _) (.inl rfl) rfl)
def mK(k n:BitVec 8):BitVec 32:=if k % 4#8=0#8 then 2147483648#32 else if k % 4#8=1#8 then aNT (1+(n.toNat:Int)) else if k % 4#8=2#8 then 2147221504#32 else 2147418112#32
theorem S.f78(hE:aX E)(k n:BitVec 8)(hQ:Q (u32 (mK k n)) H):E.call 21 [u8 k,u8 n] H Q:=by
 apply hE.f78;unfold mK at hQ;have hn:=n.isLt;simp[F.f78,uA]
 by_cases h0:k % 4#8=0#8
 ·simp[h0]at hQ ⊢; exact hQ
 by_cases h1:k % 4#8=1#8
 ·simp[h1]at hQ ⊢
  rw[eB (by omega) (by omega),aP]
  exact S.f99 hE _ hQ
 by_cases h2:k % 4#8=2#8
 ·simp[h2]at hQ ⊢; exact hQ
 ·simp[h0,h1,h2]at hQ ⊢; exact hQ
end
section
variable {E:Sy}{H:AH}{Q:Value->AH->Prop}
theorem aN.cells_plain(r:aN):r.cells.all plain1=true:=by simp[aN.cells]
theorem aN.cells_ok{r:aN}(hr:r.ok):∃ n a t x0 x1 x2 x3 x4 x5,r.cells=[u32 n,u32 a,u64 t,u64 x0,u64 x1,u64 x2,u64 x3,u64 x4,u64 x5]:=by
 obtain⟨n,a,t,x0,x1,x2,x3,x4,x5,rfl⟩:=aN.ok_cases hr;exact⟨_,_,_,_,_,_,_,_,_,rfl⟩
def aN.setArg(r:aN)(k:Nat)(x:BitVec 64):aN:={ r with args:=r.args.set k x }
theorem aN.setArg_ok{r:aN}(hr:r.ok)(k:Nat)(x:BitVec 64):(r.setArg k x).ok:=by
 simpa[aN.setArg,aN.ok] using hr
theorem aN.setArg_cells(r:aN)(k:Nat)(x:BitVec 64):(r.setArg k x).cells=r.cells.set (3+k) (u64 x):=by
 simp[aN.setArg,aN.cells,List.map_set,Nat.add_comm 3 k]
theorem aGL(hE:aX E)(X0:List Value->AH->Prop)(cl:List bA)(hcl:cl.length<2 ^ 63)(w:Value)(Z:AH)(hw:Rows Z 4 w (cl.map bA.cells))(b3 b11:Nat)(t7:Value)(k:BitVec 8)(t17 t18:Value)(i:Nat)(hi:i<30)(outs:List (List Value))(ho:outs.length<=1000)(hZ:Sub Z H)(hG:dJ Z H 9 t7 outs)(hb11:Z.get b11 = .dead)(hne:blk t7≠some b11)(r:aN)(hr:r.ok)(h11:H.get b11 = .cells r.cells none)(hX0:∀ t7' H' r',aN.ok r'->dU (b11 :: lM t7) H H'->dJ Z H' 9 t7' (outs++[r'.cells])->(∀ b,blk t7'=some b->blk t7=some b\/H.next<=b)->X0 [ptr b3 0,t7',t17,t18,vi ((i+1:Nat):Int)] H'):
  aOG (F.f85_l2 E Q X0) [ptr b3 0,t7,u8 k,ptr b11 0,t17,t18,vi i,w,vi cl.length,vi 0] H:=by
 refine aZ.count cl.length (λj s H'=>s=[ptr b3 0,t7,u8 k,ptr b11 0,t17,t18,vi i,w,vi cl.length,vi j]/\dU [b11] H H'/\∃ r',aN.ok r'/\H'.get b11 = .cells r'.cells none) ?_ ⟨rfl,dU.refl _ _,r,hr,h11⟩;rintro j _ H' X hj hX ⟨rfl,e1,r',hr',k11⟩;have hZ':Sub Z H':=hZ.only e1 (by simpa using hb11)
 have hlt:=AH.lt_cells k11;simp only[F.f85_l2,sH,sA,sF,sG,vD,aCe,aDr,aHx,aKU,aKO,aF,aP];refine dO (λh =>?_) (λh =>?_)
 ·have hjl:j<cl.length:=by omega
  obtain⟨b,o,f1,f2⟩:=(hw.sub hZ').ix (i:=j) (by simpa using hjl)
  simp only[List.getElem_map]at f2;simp only[f1,aP,aJ,f2,Option.map_some];generalize cl[j]=c at *;simp[bA.cells,aT,AH.get_new]
  have hfin:∀ H3 r3,dU [b11] H H3->aN.ok r3->H3.get b11 = .cells r3.cells none->opt (aA BinOp.add (vi (j:Int)) (vi 1)) λv28=>X [ptr b3 0,t7,u8 k,ptr b11 0,t17,t18,vi i,w,vi cl.length,v28] H3:=by
   intro H3 r3 g1 g2 g3;rw[bE (by omega),aP]
   exact hX hjl _ _ ⟨rfl,g1,r3,g2,g3⟩
  by_cases h0:0<=c.arg
  ·by_cases h5:c.arg<=5
   ·obtain⟨a,ea⟩:∃ a:Nat,c.arg=a:=⟨c.arg.toNat,by omega⟩
    have ha6:a<6:=by omega
    have hl9:=aN.cells_len hr';have hrem:((j:Int) % 2)=((j % 2:Nat):Int):=by omega
    have hrm:aA .rem (vi j) (vi 2)=some (vi ((j % 2:Nat):Int)):=kW j 2 (by decide)
    generalize j % 2=jm at *;have h03:(0:Int)<=a:=by omega
    have h53:(a:Int)<=5:=by omega
    have hq:(k / 16#8) % 3#8=(k / 16#8) % 3#8:=rfl;simp[ea,h53,AH.get_new,hrm,aDs 6 1 b11 3 a ha6,Nat.ne_of_lt hlt,k11,hl9];rw[if_pos (by omega),aP]
    refine hfin _ (r'.setArg a (c.value+BitVec.setWidth 64 (k / 16#8 % 3#8) - BitVec.ofNat 64 jm*BitVec.setWidth 64 (k % 2#8))) ((e1.put (.inl (by simp)) _).new _) (aN.setArg_ok hr' _ _) ?_
    rw[AH.get_new_lt _ _ (by simpa using hlt),AH.get_put_self _ _ hlt,aN.setArg_cells]
   ·simp[h0,h5,AH.get_new]
    exact hfin _ r' (e1.new _) hr' (by rw[AH.get_new_lt _ _ hlt];exact k11)
  ·simp[h0]
   exact hfin _ r' (e1.new _) hr' (by rw[AH.get_new_lt _ _ hlt];exact k11)
 ·have hl9:=aN.cells_len hr'
  have:j=cl.length:=by omega
  subst this;have e9:=cH r'.cells none 9 hl9;obtain⟨n,a,t,x0,x1,x2,x3,x4,x5,hc⟩:=aN.cells_ok hr';have hbl:lM t7=lM t7:=rfl;have hG':dJ Z H' 9 t7 outs:=hG.only e1 (λb hb hm=>by simp at hm;subst hm;exact hne hb)
  obtain⟨v',H8,a1,a2,a3,a4⟩:=hG'.app1 hZ'.1 (bytes:=64) r'.cells hl9 (aN.cells_plain r') (by omega) (by omega) (by omega)
  simp[k11,e9,hl9,hc,aT];rw[<- hc,a1];simp;rw[bE (by omega),aP]
  refine hX0 v' H8 r' hr' ?_ a2 λb hb=>(a4 b hb).imp id λh=>Nat.le_trans e1.1 h;exact(e1.mono (λb hb => .inl (by simp at hb;simp[hb]))).trans' (a3.mono λb hb => .inl (by simp[hb]))
theorem aIB(hE:aX E)(p:jS)(cs:List Value)(hp:sB H p cs)(l:List aN)(lv:Value)(hl:Rows H 9 lv (l.map aN.cells))(hok:∀ r∈l,r.ok)(hn:l.length<=20)(picks:List (BitVec 8))(pv:Value)(hpk:iT H pv (picks.map u8))(hpn:picks.length<2 ^ 63)(hQ:∀ v H' (l':List aN),Ext H H'->(∃ Z,dJ Z H' 9 v (l'.map aN.cells))->(∀ b,blk v=some b->H.next<=b)->(∀ r∈l',aN.ok r)->l'.length<=50->Q v H'):E.call 9 [.agg cs.toArray,lv,pv] H Q:=by
 apply hE.f85;obtain⟨hb,a,v,b',c',d',rfl,hv⟩:=hp;have hkl:=hpk.lenSlc;rw[List.length_map]at hkl;simp[F.f85,hkl];have x1:Ext H (H.new (.cells [a,u32 p.default,v,b',c',d'] none)):=(Ext.refl H).new _;have x2:=x1.new (.cells [] none)
 have hG0:dJ ((H.new (.cells [a,u32 p.default,v,b',c',d'] none))) ((H.new (.cells [a,u32 p.default,v,b',c',d'] none)).new (.cells [] none)) 9 (slc (H.next+1) 0 0 0) [] :=
  dJ.room (AH.get_ge _ (Nat.le_refl _)) (AH.get_new_self _ _) rfl
 have hpl:∀ r∈l.map aN.cells,r.all plain1=true:=by
  intro r hr;obtain⟨x,_,rfl⟩:=List.mem_map.1 hr;exact aN.cells_plain x
 obtain⟨w,H3,a1,a2,a3,a4⟩:=hG0.app (Nat.le_succ _) (bytes:=64) (hl.mono x2) hpl (by omega) (by omega) (by simp;omega) (by simp;omega)
 generalize hZ:H.new (.cells [a,u32 p.default,v,b',c',d'] none)=Z at *;have hk1:Z.get H.next = .cells [a,u32 p.default,v,b',c',d'] none:=by subst hZ;simp
 have hzn:Z.next=H.next+1:=by subst hZ;rfl
 rw[a1];simp;have hZ3:Ext Z H3:=a3.ext ((Ext.refl Z).new _) (by intro b hb;rw[gW]at hb;simp[blk]at hb;omega)
 have hvZ:=hv.mono (λ_ _ _ _ h e=>dM.mono h e) x1;refine aZ.count picks.length (λi s H'=>∃ (t7:Value) (l':List aN),s=[ptr H.next 0,t7,pv,vi picks.length,vi i]/\i<=30/\Ext Z H'/\dJ Z H' 9 t7 (l'.map aN.cells)/\(∀ r∈l',aN.ok r)/\l'.length<=20+i/\∀ b,blk t7=some b->Z.next<=b) ?_ ⟨w,l,rfl,by omega,hZ3,by simpa using a2,hok,by omega,λb hb=>(a4 b hb).elim (λh=>by simp[blk]at h;omega) (λh=>by simp at h;omega)⟩
 rintro i _ H' X hi hX ⟨t7,l',rfl,hi30,e1,hG,hok',hlen,hbl⟩;simp only[F.f85_l1,sH,sA,sF,sG,vD,aF,aP];have hend:Q t7 H':=hQ t7 H' l' (x1.trans e1) ⟨_,hG⟩ (λb h=>by have:=hbl b h;omega) hok' (by omega)
 refine dO (λh =>?_) (λh =>?_)
 ·have hil:i<picks.length:=by omega
  obtain⟨b,o,f1,f2⟩:=(hpk.mono (x1.trans e1)).elem (i:=i) (by simpa using hil)
  simp only[List.getElem_map]at f2;generalize picks[i]=k at *;have k1:=e1.cells hk1;have hlr:=(hvZ.mono (λ_ _ _ _ h e=>dM.mono h e) e1).lenSlc;simp[f1,f2]
  by_cases h30:(30:Int)<=i
  ·simp[h30];exact hend
  ·simp[h30,k1,hlr]
   by_cases hz:p.rules=[]
   ·simp[hz];exact hend
   ·have hpos:p.rules.length≠0:=by simpa using hz
    simp[hz,k1,hlr];rw[kW _ _ hpos,aP];have hm:k.toNat % p.rules.length<p.rules.length:=Nat.mod_lt _ (by omega)
    generalize k.toNat % p.rules.length=m at *;obtain⟨b2,o2,cs2,f3,f4,f5⟩:=hvZ.ix (i:=m) hm;have f4:(H'.get b2).row o2 3=some cs2:=by rw[e1.get (AH.lt_of_get (iD f4))];exact f4
    generalize p.rules[m]=x at *;obtain⟨hxl,w2,rfl,hw2⟩:=f5;have hlw:=hw2.lenSlc;rw[List.length_map]at hlw;simp[f3,f4,aT,AH.get_new,Nat.add_assoc,hw2.plain,hlw];have hlt:=AH.lt_cells k1
    refine aGL hE X x.conds hxl w2 Z hw2 H.next (H'.next+1) t7 k pv _ i (by omega) (l'.map aN.cells) (by simp;omega) ((e1.sub.new _).new _) ((hG.ext ((Ext.refl _).new _)).ext ((Ext.refl _).new _)) (AH.get_ge _ (by omega)) (λh=>by have:=hG.blk_lt h;omega)
     ⟨x.number,3221225534#32,BitVec.setWidth 64 k,List.replicate 6 0#64⟩ rfl (by rw[<- AH.next_new,AH.get_new_self];rfl) λt7' H9 r' hr' g1 g2 g3 =>?_
    refine hX hil _ _ ⟨t7',l'++[r'],rfl,by omega,?_,by simpa using g2,?_,by simp;omega,λb hb=>(g3 b hb).elim (hbl b) λh=>by have:=e1.1;simp at h;omega⟩
    ·refine g1.ext ((e1.new _).new _) λb hb =>?_
     simp only[List.mem_cons,gW]at hb;rcases hb with rfl | hb
     ·omega
     ·exact hbl b hb
    ·intro r hr
     rcases List.mem_append.1 hr with hr | hr
     ·exact hok' r hr
     ·simp at hr;subst hr;exact hr'
 ·exact hend
end
section
variable {E:Sy}{H:AH}{Q:Value->AH->Prop}
abbrev aAR(b2 b3:Nat)(c2:List Value)(nm:Value)(d:BitVec 32)(rv hd pv qv:Value)(rows prows qrows:List (List Value)):List Res :=
 [bF b2 c2,bF b3 [nm,u32 d,rv,hd,pv,qv],aY 3 rv rows,aY 2 pv prows,aY 2 qv qrows]
end
section
variable {E:Sy}{H:AH}{Q:Value->AH->Prop}
structure xQ where
 call:BitVec 8
 action:BitVec 8
 errno:BitVec 8
 conds:List iR
structure eR where
 name:BitVec 8
 dflt:BitVec 8
 errno:BitVec 8
 rules:List xQ
 handled:BitVec 16
 paths:List (BitVec 8)
 rights:List (BitVec 16)
 ports:List (BitVec 8)
def nM(H:AH)(r:xQ)(cs:List Value):Prop:=r.conds.length<2 ^ 63/\∃ w,cs=[u8 r.call,u8 r.action,u8 r.errno,w]/\Rows H 4 w (r.conds.map iR.cells)
theorem nM.sub{H H':AH}{r:xQ}{cs:List Value}(h:nM H r cs)(e:Sub H H'):nM H' r cs:=⟨h.1,h.2.choose,h.2.choose_spec.1,h.2.choose_spec.2.sub e⟩
def mM(H:AH)(s:eR)(cs:List Value):Prop:=∃ v pv rv qv,cs=[u8 s.name,u8 s.dflt,u8 s.errno,v,u16 s.handled,pv,rv,qv]/\cO nM H 4 v s.rules/\iT H pv (s.paths.map u8)/\iT H rv (s.rights.map u16)/\iT H qv (s.ports.map u8) /\
 s.rules.length<2 ^ 63/\s.paths.length<2 ^ 63/\s.rights.length<2 ^ 63/\s.ports.length<2 ^ 63
theorem mM.sub{H H':AH}{s:eR}{cs:List Value}(h:mM H s cs)(e:Sub H H'):mM H' s cs:=by
 obtain⟨v,pv,rv,qv,h1,h2,h3,h4,h5,h6⟩:=h;exact⟨v,pv,rv,qv,h1,h2.sub (λ_ _ _ _ h e=>nM.sub h e) e,Rows.sub h3 e,Rows.sub h4 e,Rows.sub h5 e,h6⟩
def oS(n:Nat):BitVec 32:=BitVec.ofNat 32 (bJ.getD n (0,[],0)).1
def xQ.rule(r:xQ):dI:=⟨oS (r.call.toNat % 30),mK r.action r.errno,(r.conds.take 4).map iR.cond⟩
def eR.hd(s:eR):BitVec 16:=s.handled&&&51199#16
def eR.right(s:eR)(i:Nat)(kind:BitVec 16):BitVec 16:=match s.rights[i]? with | none=>s.hd&&&kind | some r=>r&&&s.hd&&&kind
def yI(s:eR)(l:List (List UInt8×BitVec 16))(i:Nat):List (List UInt8×BitVec 16) :=
 let p:=tE.getD ((s.paths.getD i 0#8).toNat % 6) []
 if p ∉ l.map Prod.fst/\s.right i 2047#16≠0#16 then l++[(p,s.right i 2047#16)] else l
def xP(s:eR)(l:List (BitVec 16×BitVec 16))(i:Nat):List (BitVec 16×BitVec 16) :=
 let n:BitVec 16:=(80#8+s.ports.getD i 0#8 % 4#8).setWidth 16
 if n ∉ l.map Prod.fst/\s.right i 49152#16≠0#16 then l++[(n,s.right i 49152#16)] else l
def eR.pathsTo(s:eR)(n:Nat):List (List UInt8×BitVec 16):=(List.range n).foldl (yI s) []
def eR.portsTo(s:eR)(n:Nat):List (BitVec 16×BitVec 16):=(List.range n).foldl (xP s) []
def aBR:List (List UInt8):=[[112],[112,111,108,45,49],[120,95,121]]
def eR.pol(s:eR):iL:=⟨aBR.getD (s.name % 3#8).toNat [],⟨mK s.dflt s.errno,(s.rules.take 12).map xQ.rule⟩,s.hd,s.pathsTo s.paths.length,s.portsTo s.ports.length⟩
theorem xJ(s:eR)(n:Nat):s.pathsTo (n+1)=yI s (s.pathsTo n) n:=by simp[eR.pathsTo,List.range_succ]
theorem xY(s:eR)(n:Nat):s.portsTo (n+1)=xP s (s.portsTo n) n:=by simp[eR.portsTo,List.range_succ]
theorem aCb{α β:Type}[DecidableEq α](l:List (α×β))(a:α)(b:β)(h:a ∉ l.map Prod.fst)(hn:(l.map Prod.fst).Nodup):((l++[(a,b)]).map Prod.fst).Nodup:=by
 rw[List.map_append,List.nodup_append];refine⟨hn,by simp,λx hx y hy =>?_⟩
 simp at hy;subst hy;rintro rfl;exact h hx
theorem qW(s:eR):∀ n,((s.pathsTo n).map Prod.fst).Nodup/\∀ x∈(s.pathsTo n).map Prod.fst,x∈tE
 | 0=>by simp[eR.pathsTo]
 | n+1=>by
  obtain⟨h1,h2⟩:=qW s n;rw[xJ];unfold yI;simp only
  split
  ·rename_i h
   refine⟨aCb _ _ _ h.1 h1,λx hx =>?_⟩;rw[List.map_append,List.mem_append]at hx;rcases hx with hx | hx
   ·exact h2 x hx
   ·simp only[List.map_cons,List.map_nil,List.mem_singleton]at hx
    subst hx;have:(s.paths.getD n 0#8).toNat % 6<tE.length:=Nat.mod_lt _ (by decide)
    rw[List.getD_eq_getElem?_getD,List.getElem?_eq_getElem this];exact List.getElem_mem this
  ·exact⟨h1,h2⟩
theorem aAG(s:eR)(n:Nat):(s.pathsTo n).length<=6:=by
 have:=qJ _ tE (qW s n).1 (qW s n).2
 simpa[tE] using this
def aBb:List (BitVec 16):=[80#16,81#16,82#16,83#16]
theorem aP2(x:BitVec 8):((80#8+x % 4#8).setWidth 16:BitVec 16)∈aBb:=by
 have h:∀ y:BitVec 8,y.toNat<4->((80#8+y).setWidth 16:BitVec 16)∈aBb:=by
  intro y hy;have:y=BitVec.ofNat 8 y.toNat:=by simp
  rw[this];generalize y.toNat=k at *
  match k,hy with
  | 0,_=>decide
  | 1,_=>decide
  | 2,_=>decide
  | 3,_=>decide
 exact h _ (by simp;omega)
theorem vV(s:eR):∀ n,((s.portsTo n).map Prod.fst).Nodup/\∀ x∈(s.portsTo n).map Prod.fst,x∈aBb
 | 0=>by simp[eR.portsTo]
 | n+1=>by
  obtain⟨h1,h2⟩:=vV s n;rw[xY];unfold xP;simp only
  split
  ·rename_i h
   refine⟨aCb _ _ _ h.1 h1,λx hx =>?_⟩;rw[List.map_append,List.mem_append]at hx;rcases hx with hx | hx
   ·exact h2 x hx
   ·simp only[List.map_cons,List.map_nil,List.mem_singleton]at hx
    subst hx;exact aP2 _
  ·exact⟨h1,h2⟩
theorem aAH(s:eR)(n:Nat):(s.portsTo n).length<=4:=by
 have:=qJ _ aBb (vV s n).1 (vV s n).2
 simpa[aBb] using this
theorem S.f83(hE:aX E)(s:eR)(cs:List Value)(hs:mM H s cs)(b1 b4:Nat)(h1:H.get b1 = .cells cs none)(c4:List Value)(h4:H.get b4 = .cells c4 none)(hc4:c4[3]? = some (u16 s.hd))(n:Nat)(k:BitVec 16)(hQ:Q (u16 (s.right n k)) H):
  E.call 23 [vi n,u16 k,ptr b1 0,ptr b4 0] H Q:=by
 apply hE.f83;obtain⟨v,pv,rv,qv,rfl,_,_,hr,_⟩:=hs;have hl:=hr.lenSlc;rw[List.length_map]at hl;unfold eR.right at hQ;simp[F.f83,h1,hl];refine dO (λh =>?_) (λh =>?_)
 ·rw[List.getElem?_eq_none (by omega)]at hQ
  simp[h4,hc4];exact hQ
 ·have hi:n<s.rights.length:=by omega
  rw[List.getElem?_eq_getElem hi]at hQ;obtain⟨b,o,f1,f2⟩:=hr.elem (i:=n) (by simpa using hi)
  simp[h1,h4,hc4,f1,f2];exact hQ
def aDj(p:List UInt8×BitVec 16):List Value:=[str p.1,u16 p.2]
def aB6(p:BitVec 16×BitVec 16):List Value:=[u16 p.1,u16 p.2]
theorem aJu(n:Nat)(h:n<6):(tE.map str)[n]? = some (str (tE.getD n [])):=by
 have:n<tE.length:=h;simp[List.getD_eq_getElem?_getD,this]
theorem aIT(hE:aX E)(s:eR)(cs:List Value)(H0 Z:AH)(hs:mM Z s cs)(b1 b2 b4 r:Nat)(h1:Z.get b1 = .cells cs none)(c2:List Value)(hc2:c2.length=6)(nm:Value)(hnm:plain1 nm=true)(d:BitVec 32)(rv pv:Value)(rows prows:List (List Value))(sv:Value)(hsv:iT Z sv (s.ports.map u8))(hn:s.ports.length<2 ^ 63)(hS:Has H0 Z H (aAR b2 b4 c2 nm d rv (u16 s.hd) pv bY rows prows []++[eU u16 vb r []]))(hQ:∀ H' qv c2,Has H0 Z H' (aAR b2 b4 c2 nm d rv (u16 s.hd) pv qv rows prows ((s.portsTo s.ports.length).map aB6))->Q (.agg #[nm,u32 d,rv,u16 s.hd,pv,qv]) H'):
  lp7 (F.f82_l2 E Q) [ptr b2 0,ptr b4 0,.func (.func 23) #[] #[ptr b1 0,ptr b4 0],.map (some r),sv,vi s.ports.length,vi 0] H:=by
 refine aZ.count s.ports.length (λj l H'=>∃ qv,l=[ptr b2 0,ptr b4 0,.func (.func 23) #[] #[ptr b1 0,ptr b4 0],.map (some r),sv,vi s.ports.length,vi j]/\plain1 qv=true /\
   Has H0 Z H' (aAR b2 b4 c2 nm d rv (u16 s.hd) pv qv rows prows ((s.portsTo j).map aB6)++[eU u16 vb r ((s.portsTo j).map λp=>(p.1,true))])) ?_ ⟨bY,rfl,rfl,hS⟩
 rintro j _ H' X hj hX ⟨qv,rfl,hqv,g1⟩;have k4:=g1.box (k:=1) rfl;have k2:=g1.box (k:=0) rfl;simp only[F.f82_l2,sH,sA,sF,sG,vD,aCe,aDr,aF,aP];refine dO (λh =>?_) (λh =>?_)
 ·have hjl:j<s.ports.length:=by omega
  obtain⟨b,o,f1,f2⟩:=(Rows.sub hsv g1.sub).ix (i:=j) (by simpa using hjl)
  simp only[List.getElem_map]at f2;have f2:=lD f2 (by omega:0<1)
  simp at f2;have hst:=xY s j;have hlen:=aAH s j;unfold xP at hst;simp only[List.getD_eq_getElem?_getD,List.getElem?_eq_getElem hjl,Option.getD_some]at hst;generalize s.ports[j]=c at *;simp[-fN,-gX,f1,f2];generalize hnn:(BitVec.setWidth 16 (80#8+c % 4#8):BitVec 16)=n at *;refine S.f83 hE s cs (hs.sub g1.sub) b1 b4 (g1.sub.cells h1) _ k4 rfl j 49152#16 ?_;have hm:=(g1.mapAt (k:=5) rfl).look (kd:=0) xG n (.bool false) false;rw[vZ]at hm
  by_cases hin:n∈(s.portsTo j).map Prod.fst
  ·rw[if_pos hin]at hm
   have hm:look 0 (.bool false) false (.map (some r)) (u16 n) H'=some (.bool true):=hm;simp only[hm,aP,aMe,Bool.not_true,aLl,aDS,aBY,kY];rw[eB (by omega) (by omega),aP]
   refine hX hjl _ _ ⟨qv,by simp,hqv,?_⟩
   rw[hst,if_neg (λh=>h.1 hin)];exact g1
  ·rw[if_neg hin]at hm
   have hm:look 0 (.bool false) false (.map (some r)) (u16 n) H'=some (.bool false):=hm
   by_cases hr:s.right j 49152#16=0#16
   ·simp[-fN,-gX,hm,hr]
    rw[eB (by omega) (by omega),aP]
    refine hX hjl _ _ ⟨qv,by simp,hqv,?_⟩
    rw[hst,if_neg (λh=>h.2 hr)];exact g1
   ·rw[if_pos ⟨hin,hr⟩]at hst
    simp[-fN,-gX,hm,hr];obtain⟨H4,m1,m2⟩:=g1.mapset (n:=5) rfl (kd:=0) xG n true;rw[aBN n true (λ_=>true) _ hin]at m2;rw[m1,aP,m2.box (k:=1) rfl];obtain⟨v',H5,a1,a2,a3⟩:=m2.app1 (k:=4) rfl (bytes:=4) (aB6 (n,s.right j 49152#16)) rfl rfl (by omega) (by omega) (by simp;omega)
    have e:=cX 2 [u16 0#16,u16 0#16] (aB6 (n,s.right j 49152#16)) rfl rfl;simp only[aB6]at e a1 ;simp[-fN,aT];rw[e,aQ,cL,a1];simp[a2,a3.box (k:=1) rfl];rw[eB (by omega) (by omega),aP]
    refine hX hjl _ _ ⟨v',by simp,a2,?_⟩
    rw[hst,List.map_append,List.map_append];exact a3.put (k:=1) rfl [nm,u32 d,rv,u16 s.hd,pv,v']
 ·have:j=s.ports.length:=by omega
  subst this;have hrv:=(g1.slice (k:=2) rfl).plain;have hpv:=(g1.slice (k:=3) rfl).plain;have e9:=cH [nm,u32 d,rv,u16 s.hd,pv,qv] none 6 rfl;have l2:=g1.box_lt (k:=0) rfl;have h4:=(g1.put (k:=0) rfl [nm,u32 d,rv,u16 s.hd,pv,qv]).drop 5;simp[k4,e9,k2,hc2,hnm,hrv,hpv,hqv,l2,aT];have e0:List.drop 6 c2=[]:=List.drop_eq_nil_of_le (by omega)
  rw[e0];exact hQ _ qv _ h4
end
section
variable {E:Sy}{H:AH}{Q:Value->AH->Prop}
theorem aIi(hE:aX E)(s:eR)(cs:List Value)(H0 Z:AH)(hs:mM Z s cs)(b1 b2 b4 r:Nat)(h1:Z.get b1 = .cells cs none)(c2:List Value)(hc2:c2.length=6)(nm:Value)(hnm:plain1 nm=true)(d:BitVec 32)(rv:Value)(rows:List (List Value))(sv:Value)(hsv:iT Z sv (s.paths.map u8))(hn:s.paths.length<2 ^ 63)(hS:Has H0 Z H (aAR b2 b4 c2 nm d rv (u16 s.hd) bY bY rows [] []++[eU str vb r []]))(hQ:∀ H' pv qv c2,Has H0 Z H' (aAR b2 b4 c2 nm d rv (u16 s.hd) pv qv rows ((s.pathsTo s.paths.length).map aDj) ((s.portsTo s.ports.length).map aB6))->Q (.agg #[nm,u32 d,rv,u16 s.hd,pv,qv]) H'):
  lp8 (F.f82_l1 E Q) [ptr b1 0,ptr b2 0,ptr b4 0,.map (some r),.func (.func 23) #[] #[ptr b1 0,ptr b4 0],sv,vi s.paths.length,vi 0] H:=by
 refine aZ.count s.paths.length (λj l H'=>∃ pv,l=[ptr b1 0,ptr b2 0,ptr b4 0,.map (some r),.func (.func 23) #[] #[ptr b1 0,ptr b4 0],sv,vi s.paths.length,vi j] /\
   Has H0 Z H' (aAR b2 b4 c2 nm d rv (u16 s.hd) pv bY rows ((s.pathsTo j).map aDj) []++[eU str vb r ((s.pathsTo j).map λp=>(p.1,true))])) ?_ ⟨bY,rfl,hS⟩
 rintro j _ H' X hj hX ⟨pv,rfl,g1⟩;have k4:=g1.box (k:=1) rfl;simp only[F.f82_l1,sH,sA,sF,sG,vD,aCe,aDr,aHx,aF,aP];refine dO (λh =>?_) (λh =>?_)
 ·have hjl:j<s.paths.length:=by omega
  obtain⟨b,o,f1,f2⟩:=(Rows.sub hsv g1.sub).ix (i:=j) (by simpa using hjl)
  simp only[List.getElem_map]at f2;have f2:=lD f2 (by omega:0<1)
  simp at f2;have hst:=xJ s j;have hlen:=aAG s j;unfold yI at hst;simp only[List.getD_eq_getElem?_getD (l:=s.paths),List.getElem?_eq_getElem hjl,Option.getD_some]at hst;generalize s.paths[j]=c at *;simp[-fN,-gX,f1,f2];refine S.f80 hE λw1 H1 e1 hw1 =>?_;refine S.f80 hE λw2 H2 e2 hw2 =>?_;have hl2:=hw2.lenSlc;have hl2:lenSlc w2=some (vi 6):=hl2;have hrm:aA .rem (vi c.toNat) (vi 6)=some (vi ((c.toNat % 6:Nat):Int)):=kW c.toNat 6 (by decide)
  have hm6:c.toNat % 6<6:=Nat.mod_lt _ (by decide)
  generalize c.toNat % 6=m at *;obtain⟨b3,o3,f3,f4⟩:=(hw1.mono e2).get? (aJu m hm6);generalize tE.getD m []=n at *;have g1:=(g1.grow e1).grow e2;have k4:=g1.box (k:=1) rfl;simp[-fN,-gX,hl2,hrm,f3,f4];refine S.f83 hE s cs (hs.sub g1.sub) b1 b4 (g1.sub.cells h1) _ k4 rfl j 2047#16 ?_;have hm:=(g1.mapAt (k:=5) rfl).look (kd:=1) tU n (.bool false) false;rw[vZ]at hm
  by_cases hin:n∈(s.pathsTo j).map Prod.fst
  ·rw[if_pos hin]at hm
   have hm:look 1 (.bool false) false (.map (some r)) (str n) H2=some (.bool true):=hm;simp only[hm,aP,aMe,Bool.not_true,aLl,aDS,aBY,kY];rw[eB (by omega) (by omega),aP]
   refine hX hjl _ _ ⟨pv,by simp,?_⟩
   rw[hst,if_neg (λh=>h.1 hin)];exact g1
  ·rw[if_neg hin]at hm
   have hm:look 1 (.bool false) false (.map (some r)) (str n) H2=some (.bool false):=hm
   by_cases hr:s.right j 2047#16=0#16
   ·simp[-fN,-gX,hm,hr]
    rw[eB (by omega) (by omega),aP]
    refine hX hjl _ _ ⟨pv,by simp,?_⟩
    rw[hst,if_neg (λh=>h.2 hr)];exact g1
   ·rw[if_pos ⟨hin,hr⟩]at hst
    simp[-fN,-gX,hm,hr];obtain⟨H4,m1,m2⟩:=g1.mapset (n:=5) rfl (kd:=1) tU n true;rw[aBN n true (λ_=>true) _ hin]at m2;rw[m1,aP,m2.box (k:=1) rfl];obtain⟨v',H5,a1,a2,a3⟩:=m2.app1 (k:=3) rfl (bytes:=24) (aDj (n,s.right j 2047#16)) rfl rfl (by omega) (by omega) (by simp;omega)
    have e:=cX 2 [str [],u16 0#16] (aDj (n,s.right j 2047#16)) rfl rfl;simp only[aDj]at e a1;simp[-fN,aT];rw[e,aQ,cL,a1];simp[a2,a3.box (k:=1) rfl];rw[eB (by omega) (by omega),aP]
    refine hX hjl _ _ ⟨v',by simp,?_⟩
    rw[hst,List.map_append,List.map_append];exact a3.put (k:=1) rfl [nm,u32 d,rv,u16 s.hd,v',bY]
 ·have:j=s.paths.length:=by omega
  subst this;have hs':=hs;obtain⟨v,pv',rv',qv,rfl,_,_,_,h5,_,_,_,h9⟩:=hs';have hl2:=(Rows.sub h5 g1.sub).lenSlc;simp only[List.length_map]at hl2;have g2:=(g1.drop 5).newmap u16 vb;have k1:=g2.sub.cells h1;simp[k1,hl2];exact aIT hE s _ H0 Z hs b1 b2 b4 H'.next h1 c2 hc2 nm hnm d rv pv rows _ qv h5 h9 g2 λH'' qv c2 g=>hQ _ _ _ _ g
theorem aJv(hE:aX E)(s:eR)(cs:List Value)(H0 Z:AH)(hs:mM Z s cs)(b1 b2 b4:Nat)(h1:Z.get b1 = .cells cs none)(c2:List Value)(hc2:c2.length=6)(nm:Value)(hnm:plain1 nm=true)(d:BitVec 32)(rv:Value)(rows:List (List Value))(hS:Has H0 Z H (aAR b2 b4 c2 nm d rv (u16 s.hd) bY bY rows [] []))(hQ:∀ H' pv qv c2,Has H0 Z H' (aAR b2 b4 c2 nm d rv (u16 s.hd) pv qv rows ((s.pathsTo s.paths.length).map aDj) ((s.portsTo s.ports.length).map aB6))->Q (.agg #[nm,u32 d,rv,u16 s.hd,pv,qv]) H'):
  F.f82_j1 E Q (ptr b1 0) (ptr b2 0) (ptr b4 0) H:=by
 have hs':=hs;obtain⟨v,pv',rv',qv,rfl,_,h4,_,_,_,h7,_,_⟩:=hs';have g2:=hS.newmap str vb;have hl2:=(Rows.sub h4 g2.sub).lenSlc;simp only[List.length_map]at hl2;have k1:=g2.sub.cells h1;simp[F.f82_j1,k1,hl2];exact aIi hE s _ H0 Z hs b1 b2 b4 H.next h1 c2 hc2 nm hnm d rv rows pv' h4 h7 g2 hQ
theorem aJp(hE:aX E)(X0:List Value->AH->Prop)(b1 b2 b4 b7:Nat)(t3 t38 t39:Value)(i:Nat)(hi:i<12)(x:xQ)(hx:x.conds.length<2 ^ 63)(w:Value)(H0 Z:AH)(hw:Rows Z 4 w (x.conds.map iR.cells))(c2:List Value)(nm:Value)(d nu ac:BitVec 32)(rv hd pv qv:Value)(rows prows qrows:List (List Value))(hr:rows.length=i)(hS:Has H0 Z H (aAR b2 b4 c2 nm d rv hd pv qv rows prows qrows++[bF b7 [u32 nu,u32 ac,bY]]))(hX0:∀ Z' H' rv' row,Fz H0.next Z Z'->dM Z' ⟨nu,ac,(x.conds.take 4).map iR.cond⟩ row->Has H0 Z' H' (aAR b2 b4 c2 nm d rv' hd pv qv (rows++[row]) prows qrows)->X0 [ptr b1 0,ptr b2 0,t3,ptr b4 0,t38,t39,vi ((i+1:Nat):Int)] H'):
  aPD (F.f82_l4 E Q X0) [ptr b1 0,ptr b2 0,t3,ptr b4 0,ptr b7 0,t38,t39,vi i,w,vi x.conds.length,vi 0] H:=by
 refine aZ.count x.conds.length (λj s H'=>∃ cv,s=[ptr b1 0,ptr b2 0,t3,ptr b4 0,ptr b7 0,t38,t39,vi i,w,vi x.conds.length,vi j]/\plain1 cv=true/\Has H0 Z H' (aAR b2 b4 c2 nm d rv hd pv qv rows prows qrows++[bF b7 [u32 nu,u32 ac,cv],aY 4 cv ((((x.conds.take 4).map iR.cond).take j).map bA.cells)])) ?_ ⟨bY,rfl,rfl,hS.nils 4⟩;rintro j _ H' X hj hX ⟨cv,rfl,hcv,h1⟩;have k6:=h1.box (k:=5) rfl;have h6:=h1.box_lt (k:=5) rfl;simp only[F.f82_l4,sH,sA,sF,sG,vD,aCe,aDr,aHx,aKU,aKO,aK4,aF,aP];refine dO (λh =>?_) (λh =>?_)
 ·have hjl:j<x.conds.length:=by omega
  obtain⟨b,o,f1,f2⟩:=(hw.sub h1.sub).ix (i:=j) (by simpa using hjl)
  simp only[List.getElem_map]at f2;have h2:=h1.new (.cells x.conds[j].cells none)
  by_cases hj4:j<4
  ·have htk:(((x.conds.take 4).map iR.cond).take (j+1)).map bA.cells=(((x.conds.take 4).map iR.cond).take j).map bA.cells++[x.conds[j].cond.cells]:=by
    rw[List.take_succ_eq_append_getElem (by simp;omega),List.map_append];simp
   generalize x.conds[j]=c at *;have hj4':(j:Int)<4:=by omega
   simp[-fN,f1,f2,iR.cells,aT,AH.get_new,Nat.ne_of_lt h6,k6,hj4'];refine S.f79 hE c λH3 e3 =>?_;have h3:=h2.grow e3;have k63:=h3.box (k:=5) rfl;obtain⟨v',H5,a1,a2,a3⟩:=h3.app1 (k:=6) rfl (bytes:=32) c.cond.cells rfl rfl (by omega) (by omega) (by simp;omega)
   have k65:=a3.box (k:=5) rfl;rw[k63];refine⟨rfl,?_⟩;rw[cX 4 [_,_,_,_] c.cond.cells rfl rfl,aQ,cL,a1];simp[a2,k65];rw[eB (by omega) (by omega),aP]
   refine hX hjl _ _ ⟨v',by simp,a2,?_⟩
   rw[htk];exact a3.put (k:=5) rfl [u32 nu,u32 ac,v']
  ·have htk:((x.conds.take 4).map iR.cond).take (j+1)=((x.conds.take 4).map iR.cond).take j:=by
    rw[List.take_of_length_le (i:=j+1) (by simp;omega),List.take_of_length_le (i:=j) (by simp;omega)]
   generalize x.conds[j]=c at *;have hj4':¬ (j:Int)<4:=by omega
   simp[-fN,f1,f2,iR.cells,aT,AH.get_new,Nat.ne_of_lt h6,k6,hj4'];rw[eB (by omega) (by omega),aP]
   refine hX hjl _ _ ⟨cv,by simp,hcv,?_⟩
   rw[htk];exact h2
 ·have:j=x.conds.length:=by omega
  subst this;rw[List.take_of_length_le (by simp;omega)]at h1
  have k3:=h1.box (k:=1) rfl;obtain⟨v',H8,a1,a2,a3⟩:=h1.app1 (k:=2) rfl (bytes:=32) [u32 nu,u32 ac,cv] rfl (by simp[hcv]) (by omega) (by omega) (by omega)
  have k38:=a3.box (k:=1) rfl;simp only[rS,aP,eM,aJ,k3,k6,cH [u32 nu,u32 ac,cv] none 3 rfl,aGT,Option.map_some];simp only[Nat.zero_add,List.getElem?_cons_succ,List.getElem?_cons_zero,aP];rw[cX 3 [_,_,_] [u32 nu,u32 ac,cv] rfl rfl,aQ,cL,a1];simp[a2,k38];rw[bE (by omega),aP]
  have h4:=a3.put (k:=1) rfl [nm,u32 d,v',hd,pv,qv];obtain⟨Z',z1,z2,z3⟩:=h4.freeze (k:=6) rfl;exact hX0 Z' _ v' [u32 nu,u32 ac,cv] z1 ⟨by simp;omega,cv,rfl,z2.toRows⟩ (z3.drop 5)
theorem aCA(n:Nat)(h:n<30):∃ c,(bJ.map kQ)[n]? = some (kQ c)/\BitVec.ofNat 32 c.1=oS n:=by
 have hn:n<bJ.length:=h;refine⟨bJ[n],by simp[hn],?_⟩
 simp[oS,List.getD_eq_getElem?_getD,hn]
theorem S.pinfoldlaw09_Small_PolicyZ(hE:aX E)(s:eR)(cs:List Value)(Z0:AH)(hz:Sub Z0 H)(hs:mM Z0 s cs)(hQ:∀ Z' H' cs',Ext H H'->Fz H.next Z0 Z'->Sub Z' H'->eS Z' s.pol cs'->Q (.agg cs'.toArray) H'):E.call 7 [.agg cs.toArray] H Q:=by
 apply hE.f82;simp[-fN,F.f82];obtain⟨Z,zf,zs,k1⟩:=hz.newfrozen (.cells cs none);have hS:=(Has.begin ((Ext.refl H).new (.cells cs none)) zs).newbox [str [],u32 0#32,bY,u16 0#16,bY,bY];simp only[AH.next_new]at hS;generalize hH2:(H.new _).new _=H2 at *;have hn2:H2.next=H.next+2:=by subst hH2;rfl
 refine S.f88' hE ?_
 have hG:dJ zH (H2.new (.cells (bJ.map kQ).flatten none)) 3 (slc H2.next 0 30 30) (bJ.map kQ):=dJ.made (nF _) (AH.get_new_self _ _) (.inl rfl) rfl (by
  intro r hr;obtain⟨c,_,rfl⟩:=List.mem_map.1 hr;exact⟨rfl,rfl⟩)
 have hS:=hS.add (aY 3 (slc H2.next 0 30 30) (bJ.map kQ)) ((Ext.refl H2).new _) hG (by simp[aY,lM,blk]) (by simp[aY,lM,blk])
 obtain⟨Z1,z1,z2,hS⟩:=hS.freeze (k:=1) rfl;have hs':=hs;obtain⟨v,pv,rv,qv,rfl,hv,hpv,hrv,hqv,n1,n2,n3,n4⟩:=hs';generalize hHT:H2.new _=HT at *;have hnT:HT.next=H2.next+1:=by subst hHT;rfl
 have kT:=hS.sub.cells (z1.1.cells k1);have ltT:=AH.lt_cells kT;have b2T:=hS.box (k:=0) rfl;have l2T:=hS.box_lt (k:=0) rfl;have hq3:(s.name % 3#8).toNat<3:=by simp;omega
 have hnm:(aBR.map str)[(s.name % 3#8).toNat]? = some (str (aBR.getD (s.name % 3#8).toNat [])):=by
  have:(s.name % 3#8).toNat<aBR.length:=hq3;simp only[List.getElem?_map,List.getElem?_eq_getElem this,List.getD_eq_getElem?_getD,Option.map_some,Option.getD_some]
 unfold eR.pol at hQ;generalize hq:s.name % 3#8=q at *;generalize aBR.getD q.toNat []=nm at *;have hnm:[str [112],str [112,111,108,45,49],str [120,95,121]][q.toNat]? = some (str nm):=hnm;have hss:s.handled&&&51199#16=s.hd:=rfl
 have hnm':[str [112],str [112,111,108,45,49],str [120,95,121]][q.toNat]'hq3=str nm:=by
  rw[List.getElem?_eq_getElem hq3]at hnm;exact Option.some.inj hnm
 have hne2:¬ H.next=HT.next+1:=by omega
 simp[-gX,aT,AH.get_new,Nat.ne_of_lt ltT,kT,hq,hq3,hnm',hss];refine S.f78 hE _ _ ?_;have hl:=(hv.sub (λ_ _ _ _ h e=>nM.sub h e) (zf.1.trans (z1.1.trans hS.sub))).lenSlc;simp[aT,AH.get_new,Nat.ne_of_lt ltT,hne2,kT,hnm',hl];refine⟨hnm,?_⟩;have hS:=((((hS.new (.cells [str [112],str [112,111,108,45,49],str [120,95,121]] none)).newbox [str nm,u32 (mK s.dflt s.errno),bY,u16 s.hd,bY,bY]).nils 3).nils 2).nils 2;generalize (HT.new _).new _=H5 at *;simp only[AH.next_new]at hS;have hsZ:=hs.sub (zf.1.trans z1.1);have k1Z:=z1.1.cells k1;clear hHT hH2 kT ltT b2T l2T hl
 refine aZ.count s.rules.length (λj l H'=>∃ Z' rv rows,l=[ptr H.next 0,ptr (H.next+1) 0,slc H2.next 0 30 30,ptr (HT.next+1) 0,v,vi s.rules.length,vi j]/\j<=12/\Fz H.next Z1 Z'/\Has H Z' H' (aAR (H.next+1) (HT.next+1) [str [],u32 0#32,bY,u16 0#16,bY,bY] (str nm) (mK s.dflt s.errno) rv (u16 s.hd) bY bY rows [] []) /\
   rows.length=j/\∀ i (h1:i<s.rules.length) (h2:i<rows.length),dM Z' s.rules[i].rule rows[i]) ?_ ⟨Z1,bY,[],rfl,by omega,Fz.refl _ _,hS,rfl,λi _ h=>by simp at h⟩
 rintro j _ H' X hj hX ⟨Z',rv',rows,rfl,hj12,y1,g1,g2,g3⟩
 have hend:∀ H'',(j=12\/j=s.rules.length)->Ext H' H''->F.f82_j1 E Q (ptr H.next 0) (ptr (H.next+1) 0) (ptr (HT.next+1) 0) H'':=by
  intro H'' hjj ex;refine aJv hE s _ H Z' (hsZ.sub y1.1) H.next (H.next+1) (HT.next+1) (y1.1.cells k1Z) _ rfl (str nm) rfl (mK s.dflt s.errno) rv' rows (g1.grow ex) λH3 pv3 qv3 c2 q =>?_;obtain⟨Z2,w1,w2,w3⟩:=q.freeze (k:=2) rfl;obtain⟨Z3,w4,w5,w6⟩:=w3.freeze (k:=2) rfl;obtain⟨Z4,w7,w8,w9⟩:=w6.freeze (k:=2) rfl;have r1:Rows Z4 3 rv' rows:=(dJ.toRows (show dJ zH Z2 3 rv' rows from w2)).sub (w4.1.trans w7.1);have r2:=(dJ.toRows (show dJ zH Z3 2 pv3 _ from w5)).sub w7.1;have r3:=dJ.toRows (show dJ zH Z4 2 qv3 _ from w8);refine hQ Z4 H3 [str nm,u32 (mK s.dflt s.errno),rv',u16 s.hd,pv3,qv3] q.ext ((((zf.trans z1).trans y1).trans w1).trans (w4.trans w7)) w9.sub ⟨rv',pv3,qv3,rfl,⟨rows,r1,?_,?_⟩,r2,r3⟩
  ·simp[g2];omega
  ·intro i a b
   have hi:i<s.rules.length:=by simp at a;omega
   simpa using(g3 i hi b).sub (w1.1.trans (w4.1.trans w7.1))
 simp only[F.f82_l3,sH,sA,sF,sG,vD,aCe,aDr,aF,aP];refine dO (λh =>?_) (λh =>?_)
 ·have hjl:j<s.rules.length:=by omega
  obtain⟨b,o,ccs,m1,m2,m3⟩:=(hv.sub (λ_ _ _ _ h e=>nM.sub h e) (zf.1.trans (z1.1.trans y1.1))).ix (i:=j) hjl;have m2:(H'.get b).row o 4=some ccs:=by rw[g1.sub.2 b (iD m2)];exact m2
  obtain⟨hxl,w,rfl,hw⟩:=m3;have hlw:=(hw.sub g1.sub).lenSlc;rw[List.length_map]at hlw
  by_cases h12:j=12
  ·have h12':(12:Int)<=j:=by omega
   simp[m1,m2,aT,AH.get_new,hw.plain,h12'];exact hend _ (.inl h12) ((Ext.refl _).new _)
  ·have hne:¬ (12:Int)<=j:=by omega
   have hrm:aA .rem (vi s.rules[j].call.toNat) (vi 30)=some (vi ((s.rules[j].call.toNat % 30:Nat):Int)):=kW _ 30 (by decide)
   have hrule:s.rules[j].rule=⟨oS (s.rules[j].call.toNat % 30),mK s.rules[j].action s.rules[j].errno,(s.rules[j].conds.take 4).map iR.cond⟩:=rfl;have hm30:s.rules[j].call.toNat % 30<30:=Nat.mod_lt _ (by decide)
   generalize s.rules[j].call.toNat % 30=m at *;obtain⟨c,c1,c2⟩:=aCA m hm30;obtain⟨hlt,c1⟩:=List.getElem?_eq_some_iff.1 c1;obtain⟨b5,o5,f3,f4⟩:=(((z2:dJ zH Z1 3 _ _).toRows).sub (y1.1.trans g1.sub)).ix (i:=m) hlt;rw[c1]at f4;have f5:=lD f4 (by omega:0<3)
   simp[kQ]at f5;have hlt5:b5<H'.next:=AH.lt_of_get (iD f4);simp[m1,m2,aT,AH.get_new,hw.plain,hne,hrm,f3,f5,Nat.ne_of_lt hlt5];refine S.f78 hE _ _ ?_;have hne5:¬ b5=H'.next+1:=by omega
   simp[aT,AH.get_new,hw.plain,hlw,f5,Nat.ne_of_lt hlt5,hne5,c2];have g4:=(g1.new (.cells [u8 s.rules[j].call,u8 s.rules[j].action,u8 s.rules[j].errno,w] none)).newbox [u32 (oS m),u32 (mK s.rules[j].action s.rules[j].errno),bY];refine aJp hE X H.next (H.next+1) (HT.next+1) (H'.next+1) _ v _ j (by omega) s.rules[j] hxl w H Z' hw _ _ _ _ _ rv' _ bY bY rows [] [] g2 g4 λZ2 H2' rv'' row q1 q2 q3 =>?_
   refine hX hjl _ _ ⟨Z2,rv'',rows++[row],rfl,by omega,y1.trans q1,q3,by simp[g2],λi h1 h2 =>?_⟩
   by_cases e:i<rows.length
   ·rw[List.getElem_append_left e]
    exact(g3 i h1 e).sub q1.1
   ·have:i=j:=by simp at h2;omega
    subst this;rw[List.getElem_append_right (by omega),hrule]
    simpa[g2] using q2
 ·exact hend H' (.inr (by omega)) (Ext.refl _)
end
section
variable {E:Sy}{H:AH}{Q:Value->AH->Prop}
abbrev aEU:Sh := .struct [.int .u32,.int .u32,.int .u64,.arr 6 (.int .u64)]
theorem SV.rec{cs:List Value}(h:SV H aEU cs):∃ r:aN,r.ok/\cs=r.cells:=by
 obtain⟨c1,c2,rfl,h1,c3,c4,rfl,h2,c5,c6,rfl,h3,c7,c8,rfl,h4,rfl⟩:=h;obtain⟨x1,rfl⟩:=h1.u32;obtain⟨x2,rfl⟩:=h2.u32;obtain⟨x3,rfl⟩:=h3.u64;obtain⟨rows,hl,rfl,hr⟩:=h4;obtain⟨l,rfl⟩:=aBK (f:=AM.u64) λr h=>(hr r h).u64;refine⟨⟨x1,x2,x3,l⟩,by simpa[aN.ok] using hl,?_⟩
 have:=oF (l.map AM.u64);rw[List.map_map]at this;simp only[aN.cells,List.cons_append,List.nil_append,List.append_nil]
 simpa[Function.comp_def] using this
end
section
variable {E:Sy}{H:AH}{Q:Value->AH->Prop}
abbrev aKL:Sh := .struct [.int .i64,.int .u8,.int .u64,.int .u64]
abbrev aKh:Sh := .struct [.int .u32,.int .u32,.slice 4 aKL]
abbrev aHM:Sh := .struct [.str,.int .u32,.slice 3 aKh,.int .u16,.slice 2 (.struct [.str,.int .u16]),.slice 2 (.struct [.int .u16,.int .u16])]
abbrev aDQ:Sh := .struct [.int .u8,.int .u8,.int .u8,.int .u8]
abbrev aAX:Sh := .struct [.int .u8,.int .u8,.int .u8,.slice 4 (.struct [.int .u8,.int .u8,.int .u8,.slice 4 aDQ]),.int .u16,.slice 1 (.int .u8),.slice 1 (.int .u16),.slice 1 (.int .u8)]
theorem aDf{α:Type}{f:α->List Value}:∀ {rows:List (List Value)},(∀ r∈rows,∃ x,r=f x)->∃ l:List α,rows=l.map f
 | [],_=>⟨[],rfl⟩
 | r :: rows,h=>by
  obtain⟨x,rfl⟩:=h r (by simp)
  obtain⟨l,rfl⟩:=aDf (rows:=rows) (λr hr=>h r (by simp[hr]))
  exact⟨x :: l,rfl⟩
theorem aFS{α:Type}{R:α->List Value->Prop}:∀ {rows:List (List Value)},(∀ r∈rows,∃ x,R x r)->∃ l:List α,rows.length=l.length/\∀ i (h1:i<l.length) (h2:i<rows.length),R l[i] rows[i]
 | [],_=>⟨[],rfl,λi h=>by simp at h⟩
 | r :: rows,h=>by
  obtain⟨x,hx⟩:=h r (by simp)
  obtain⟨l,h1,h2⟩:=aFS (rows:=rows) (λr hr=>h r (by simp[hr]))
  refine⟨x :: l,by simp[h1],λi a b =>?_⟩
  cases i with
  | zero=>exact hx
  | succ i=>exact h2 i (by simpa using a) (by simpa using b)
theorem SV.cond{cs:List Value}(h:SV H aKL cs):∃ d:bA,cs=d.cells:=by
 obtain⟨c1,c2,rfl,h1,c3,c4,rfl,h2,c5,c6,rfl,h3,c7,c8,rfl,h4,rfl⟩:=h;obtain⟨x1,rfl,_⟩:=h1.i64;obtain⟨x2,rfl⟩:=h2.u8;obtain⟨x3,rfl⟩:=h3.u64;obtain⟨x4,rfl⟩:=h4.u64;exact⟨⟨x1,x2,x3,x4⟩,rfl⟩
theorem SV.scond{cs:List Value}(h:SV H aDQ cs):∃ d:iR,cs=d.cells:=by
 obtain⟨c1,c2,rfl,h1,c3,c4,rfl,h2,c5,c6,rfl,h3,c7,c8,rfl,h4,rfl⟩:=h;obtain⟨x1,rfl⟩:=h1.u8;obtain⟨x2,rfl⟩:=h2.u8;obtain⟨x3,rfl⟩:=h3.u8;obtain⟨x4,rfl⟩:=h4.u8;exact⟨⟨x1,x2,x3,x4⟩,rfl⟩
theorem SV.sliceOf{α:Type}{R:AH->α->List Value->Prop}{sz:Nat}{e:Sh}{cs:List Value}(hf:∀ r,SV H e r->∃ x,R H x r)(h:SV H (.slice sz e) cs):∃ v,∃ l:List α,cs=[v]/\cO R H sz v l/\l.length<2 ^ 63:=by
 obtain⟨v,rows,rfl,h1,h2,h3⟩:=h;obtain⟨l,g1,g2⟩:=aFS (R:=R H) λr hr=>hf r (h3 r hr);exact⟨v,l,rfl,⟨rows,h1,g1,g2⟩,by omega⟩
theorem SV.rowsOf{α:Type}{f:α->List Value}{sz:Nat}{e:Sh}{cs:List Value}(hf:∀ r,SV H e r->∃ x,r=f x)(h:SV H (.slice sz e) cs):∃ v,∃ l:List α,cs=[v]/\Rows H sz v (l.map f)/\l.length<2 ^ 63:=by
 obtain⟨v,rows,rfl,h1,h2,h3⟩:=h;obtain⟨l,rfl⟩:=aDf λr hr=>hf r (h3 r hr);exact⟨v,l,rfl,h1,by simp at h2;omega⟩
theorem SV.rule{cs:List Value}(h:SV H aKh cs):∃ d:dI,dM H d cs:=by
 obtain⟨c1,c2,rfl,h1,c3,c4,rfl,h2,c5,c6,rfl,h3,rfl⟩:=h;obtain⟨x1,rfl⟩:=h1.u32;obtain⟨x2,rfl⟩:=h2.u32;obtain⟨v,l,rfl,h4,h5⟩:=SV.rowsOf (f:=bA.cells) (λr hr=>SV.cond hr) h3;exact⟨⟨x1,x2,l⟩,h5,v,rfl,h4⟩
theorem SV.srule{cs:List Value}(h:SV H (.struct [.int .u8,.int .u8,.int .u8,.slice 4 aDQ]) cs):∃ d:xQ,nM H d cs:=by
 obtain⟨c1,c2,rfl,h1,c3,c4,rfl,h2,c5,c6,rfl,h3,c7,c8,rfl,h4,rfl⟩:=h;obtain⟨x1,rfl⟩:=h1.u8;obtain⟨x2,rfl⟩:=h2.u8;obtain⟨x3,rfl⟩:=h3.u8;obtain⟨v,l,rfl,h4,h5⟩:=SV.rowsOf (f:=iR.cells) (λr hr=>SV.scond hr) h4;exact⟨⟨x1,x2,x3,l⟩,h5,v,rfl,h4⟩
theorem SV.pol{cs:List Value}(h:SV H aHM cs):∃ x:iL,eS H x cs/\x.fits:=by
 obtain⟨c1,c2,rfl,h1,c3,c4,rfl,h2,c5,c6,rfl,h3,c7,c8,rfl,h4,c9,c10,rfl,h5,c11,c12,rfl,h6,rfl⟩:=h;obtain⟨nm,rfl,hn⟩:=h1;obtain⟨x2,rfl⟩:=h2.u32;obtain⟨v,l,rfl,g1,g2⟩:=SV.sliceOf (R:=dM) (λr hr=>SV.rule hr) h3;obtain⟨x4,rfl⟩:=h4.u16
 obtain⟨pv,pl,rfl,g3,g4⟩:=SV.rowsOf (f:=λp:List UInt8×BitVec 16=>[AM.str p.1,AM.u16 p.2]) (λr hr=>by
  obtain⟨c1,c2,rfl,h1,c3,c4,rfl,h2,rfl⟩:=hr;obtain⟨s,rfl,_⟩:=h1;obtain⟨w,rfl⟩:=h2.u16;exact⟨(s,w),rfl⟩) h5
 obtain⟨qv,ql,rfl,g5,g6⟩:=SV.rowsOf (f:=λp:BitVec 16×BitVec 16=>[AM.u16 p.1,AM.u16 p.2]) (λr hr=>by
  obtain⟨c1,c2,rfl,h1,c3,c4,rfl,h2,rfl⟩:=hr;obtain⟨s,rfl⟩:=h1.u16;obtain⟨w,rfl⟩:=h2.u16;exact⟨(s,w),rfl⟩) h6
 exact⟨⟨nm,⟨x2,l⟩,x4,pl,ql⟩,⟨v,pv,qv,rfl,g1,g3,g5⟩,by simp;omega,g2,g4,g6⟩
theorem tB.pol{v:Value}(h:tB H aHM v):∃ (x:iL) (cs:List Value),v = .agg cs.toArray/\eS H x cs/\x.fits:=by
 obtain⟨cs,rfl,h⟩:=h;obtain⟨x,h1,h2⟩:=SV.pol (show SV H aHM cs from h);exact⟨x,cs,rfl,h1,h2⟩
theorem SV.small{cs:List Value}(h:SV H aAX cs):∃ x:eR,mM H x cs:=by
 obtain⟨c1,c2,rfl,h1,c3,c4,rfl,h2,c5,c6,rfl,h3,c7,c8,rfl,h4,c9,c10,rfl,h5,c11,c12,rfl,h6,c13,c14,rfl,h7,c15,c16,rfl,h8,rfl⟩:=h;obtain⟨x1,rfl⟩:=h1.u8;obtain⟨x2,rfl⟩:=h2.u8;obtain⟨x3,rfl⟩:=h3.u8;obtain⟨v,l,rfl,g1,g2⟩:=SV.sliceOf (R:=nM) (λr hr=>SV.srule hr) h4;obtain⟨x5,rfl⟩:=h5.u16;obtain⟨pv,pl,rfl,g3,g4⟩:=SV.vals (λr hr=>SV.u8 hr) h6;obtain⟨rv,rl,rfl,g5,g6⟩:=SV.vals (λr hr=>SV.u16 hr) h7;obtain⟨qv,ql,rfl,g7,g8⟩:=SV.vals (λr hr=>SV.u8 hr) h8;exact⟨⟨x1,x2,x3,l,x5,pl,rl,ql⟩,v,pv,rv,qv,rfl,g1,g3,g5,g7,g2,by simp;omega,by simp;omega,by simp;omega⟩
theorem tB.small{v:Value}(h:tB H aAX v):∃ (x:eR) (cs:List Value),v = .agg cs.toArray/\mM H x cs:=by
 obtain⟨cs,rfl,h⟩:=h;obtain⟨x,h1⟩:=SV.small (show SV H aAX cs from h);exact⟨x,cs,rfl,h1⟩
theorem aJg{rows:List (List Value)}(h:∀ r∈rows,SV H aEU r):∃ l:List aN,rows=l.map aN.cells/\∀ r∈l,r.ok:=by
 induction rows with
 | nil=>exact⟨[],rfl,by simp⟩
 | cons r rows ih =>
  obtain⟨x,hx,rfl⟩:=SV.rec (h r (by simp))
  obtain⟨l,rfl,hl⟩:=ih λr hr=>h r (by simp[hr])
  exact⟨x :: l,rfl,by simpa using⟨hx,hl⟩⟩
theorem tB.recs{v:Value}(h:tB H (.slice 9 aEU) v):∃ l:List aN,Rows H 9 v (l.map aN.cells)/\(∀ r∈l,r.ok):=by
 obtain⟨w,rows,e,h1,h2,h3⟩:=(show SV H (.slice 9 aEU) [v] from h);obtain rfl:v=w:=by simpa using e
 obtain⟨l,rfl,hl⟩:=aJg h3;exact⟨l,h1,hl⟩
theorem tB.u8s'{v:Value}(h:tB H (.slice 1 (.int .u8)) v):∃ l:List (BitVec 8),iT H v (l.map AM.u8)/\l.length<2 ^ 63:=by
 obtain⟨w,l,e,g3,g4⟩:=SV.vals (λr hr=>SV.u8 hr) (show SV H (.slice 1 (.int .u8)) [v] from h);obtain rfl:v=w:=by simpa using e
 exact⟨l,g3,by omega⟩
end
section
variable {E:Sy}{H:AH}{Q:Value->AH->Prop}
structure bM where
 code:BitVec 16
 jt:BitVec 8
 jf:BitVec 8
 k:BitVec 32
def bM.cells(x:bM):List Value:=[u16 x.code,u8 x.jt,u8 x.jf,u32 x.k]
abbrev bM.v(x:bM):Value := .agg x.cells.toArray
theorem aGK(size bytes n:Nat)(z:List Value)(hz:z.length=size)(h1:n*bytes<=2 ^ 47)(h2:n<2 ^ 62):sW size bytes z.toArray (vi 0) (vi n)=some (.cells (List.replicate n z).flatten none,λb=>slc b 0 0 n):=by
 simp only[sW];rw[if_pos ⟨by omega,by omega,by exact_mod_cast h1,by exact_mod_cast h2⟩]
 simp only[Int.toNat_natCast,Int.toNat_zero];rw[aDG n size _ (by simpa using hz)]
 rfl
end
section
set_option maxRecDepth 20000
variable {E:Sy}{H:AH}{Q:Value->AH->Prop}
theorem S.law09_Few_l2N(H0:AH)(b1:Nat)(x:iL)(hf:x.fits)(v pv qv:Value)(hv:cO dM H 3 v x.pol.rules)(hp:Rows H 2 pv (x.paths.map λp=>[str p.1,u16 p.2]))(hq:Rows H 2 qv (x.ports.map λp=>[u16 p.1,u16 p.2]))(h1:H.get b1 = .cells [str x.name,u32 x.pol.default,v,u16 x.handled,pv,qv] none)(hx:Ext H0 H)(hQ:∀ b H',Ext H0 H'->(b=true->(x.pol.rules.length<=80/\x.paths.length<=50/\x.ports.length<=50)/\∀ p∈x.paths,p.1.length<=200)->Q (vb b) H'):
  lp4 (F.f81_l2 E Q) [ptr b1 0,pv,vi x.paths.length,vi 0] H:=by
 have hp63:=hf.2.2.1;refine aZ.count x.paths.length (λi s H'=>s=[ptr b1 0,pv,vi x.paths.length,vi i]/\Ext H H'/\∀ j (hj:j<x.paths.length),j<i->x.paths[j].1.length<=200) ?_ ⟨rfl,Ext.refl _,λj _ h=>by omega⟩
 rintro i _ H' X hi hX ⟨rfl,e1,hc⟩;have k1:=e1.cells h1;simp[F.f81_l2];refine dO (λh =>?_) (λh =>?_)
 ·have hil:i<x.paths.length:=by omega
  obtain⟨b,o,f1,f2⟩:=(hp.mono e1).ix (i:=i) (by simpa using hil)
  rw[List.getElem_map]at f2;simp[f1,f2,AH.get_new,aT];refine dO (λh =>?_) (λh =>?_)
  ·exact hQ false _ (hx.trans (e1.trans ((Ext.refl _).new _))) (by simp)
  ·rw[eB (by omega) (by omega),aP]
   refine hX hil _ _ ⟨by simp,e1.trans ((Ext.refl _).new _),λj hj hji =>?_⟩
   by_cases e:j=i
   ·subst e;omega
   ·exact hc j hj (by omega)
 ·have hl3:=hv.lenSlc
  have hl4:=hp.lenSlc;have hl5:=hq.lenSlc;rw[List.length_map]at hl4 hl5;simp[k1,hl3,hl4,hl5]
  by_cases c1:x.pol.rules.length<=80
  ·have d1:((x.pol.rules.length:Int)<=80):=by omega
   by_cases c2:((x.paths.length:Int)<=50)
   ·by_cases c3:((x.ports.length:Int)<=50)
    ·simp[d1,c2,c3,k1,hl3,hl4,hl5]
     refine hQ _ _ (hx.trans e1) λ_=>⟨⟨c1,by omega,by omega⟩,λp hp =>?_⟩
     obtain⟨j,hj,rfl⟩:=List.getElem_of_mem hp;exact hc j hj (by omega)
    ·simp[d1,c2,c3,k1,hl3,hl4,hl5]
     exact hQ _ _ (hx.trans e1) (by simp)
   ·simp[d1,c2,k1,hl3,hl4,hl5]
    exact hQ _ _ (hx.trans e1) (by simp)
  ·have d1:¬ ((x.pol.rules.length:Int)<=80):=by omega
   simp[d1];exact hQ _ _ (hx.trans e1) (by simp)
theorem S.pinfoldlaw09_FewN(hE:aX E)(x:iL)(cs:List Value)(hp:eS H x cs)(hf:x.fits)(hQ:∀ b H',Ext H H'->(b=true->x.few/\∀ p∈x.paths,p.1.length<=200)->Q (vb b) H'):E.call 11 [.agg cs.toArray] H Q:=by
 apply hE.f81;obtain⟨v,pv,qv,hcs,hv,hpr,hqr⟩:=hp;have hr63:=hf.2.1;have hl:=hv.lenSlc;simp[F.f81,AH.get_new];generalize hH2:H.new _=H2;have x2:Ext H H2:=by subst hH2;exact(Ext.refl H).new _
 have k2:H2.get H.next = .cells cs none:=by subst hH2;simp[AH.get_new]
 clear hH2;subst hcs;simp[k2,hl];refine aZ.count x.pol.rules.length (λi s H'=>s=[ptr H.next 0,v,vi x.pol.rules.length,vi i]/\Ext H2 H'/\∀ j (hj:j<x.pol.rules.length),j<i->x.pol.rules[j].conds.length<=20) ?_ ⟨rfl,Ext.refl _,λj _ h=>by omega⟩
 rintro i _ H' X hi hX ⟨rfl,e1,hc⟩;have k1:=e1.cells k2;simp[F.f81_l1];refine dO (λh =>?_) (λh =>?_)
 ·have hil:i<x.pol.rules.length:=by omega
  obtain⟨b,o,ccs,f1,f2,f3⟩:=(hv.mono (λ_ _ _ _ h e=>dM.mono h e) (x2.trans e1)).ix (i:=i) hil;obtain⟨hxl,w,rfl,hw⟩:=f3;have hlw:=hw.lenSlc;rw[List.length_map]at hlw;simp[f1,f2,AH.get_new,aT,hw.plain,hlw];refine dO (λh =>?_) (λh =>?_)
  ·exact hQ false _ (x2.trans (e1.trans ((Ext.refl _).new _))) (by simp)
  ·rw[eB (by omega) (by omega),aP]
   refine hX hil _ _ ⟨by simp,e1.trans ((Ext.refl _).new _),λj hj hji =>?_⟩
   by_cases e:j=i
   ·subst e;omega
   ·exact hc j hj (by omega)
 ·have:i=x.pol.rules.length:=by omega
  subst this;have hl4:=(hpr.mono (x2.trans e1)).lenSlc;rw[List.length_map]at hl4;simp[k1,hl4];refine S.law09_Few_l2N H H.next x hf v pv qv (hv.mono (λ_ _ _ _ h e=>dM.mono h e) (x2.trans e1)) (hpr.mono (x2.trans e1)) (hqr.mono (x2.trans e1)) k1 (x2.trans e1) λb H'' h h' =>?_;refine hQ b H'' h λhb=>⟨⟨(h' hb).1.1,λx hx =>?_,(h' hb).1.2⟩,(h' hb).2⟩;obtain⟨j,hj,rfl⟩:=List.getElem_of_mem hx;exact hc j hj (by omega)
end
section
theorem nrf{α:Type}{a b:α}(h:a=b):a=b:=Eq.trans h rfl
def tk{α:Type}(x:α):α:=x
@[simp] theorem hU{α:Type}(x:α):tk x=x:=Eq.trans (Eq.refl x) (Eq.refl x)
@[congr] theorem aPu{v v':Value}{A B:Prop}(h:tk v=v'):ifB v A B=ifB v' A B:=by rw[<- h,hU]
@[congr] theorem aP0{α:Type}{o o':Option α}{K:α->Prop}(h:tk o=o'):opt o K=opt o' K:=by rw[<- h,hU]
@[congr] theorem aPl{α β:Type}{o o':Option (α×β)}{K:α->β->Prop}(h:tk o=o'):gN o K=gN o' K:=by rw[<- h,hU]
@[congr] theorem aQg{o o':Option (cT×(Nat->Value))}{H:AH}{K:Value->AH->Prop}(h:tk o=o'):AM.mk o H K=AM.mk o' H K:=by rw[<- h,hU]
@[congr] theorem aPm{E:Sy}{f f':FuncId}{a a':List Value}{H H':AH}{K:Value->AH->Prop}(h1:tk f=f')(h2:tk a=a')(h3:tk H=H'):E.call f a H K=E.call f' a' H' K:=by rw[<- h1,<- h2,<- h3];rfl
@[congr] theorem aO4{c:cJ}{f f':Value}{a a':List Value}{H H':AH}{K:Value->AH->Prop}(h1:tk f=f')(h2:tk a=a')(h3:tk H=H'):fQ c f a H K=fQ c f' a' H' K:=by rw[<- h1,<- h2,<- h3];rfl
@[congr] theorem aQk{v v':Value}{b:Bool}{m:(Value->AH->Prop)->Prop}{H:AH}{K:Value->AH->Prop}(h:tk v=v'):gd v b m H K=gd v' b m H K:=by rw[<- h,hU]
@[congr] theorem aOy{B:List Value->AH->(List Value->AH->Prop)->Prop}{l l':List Value}{H H':AH}(h1:tk l=l')(h2:tk H=H'):aZ B l H=aZ B l' H':=by rw[<- h1,<- h2];rfl
@[simp high] theorem aR(b:Nat):oP b=ptr b 0:=nrf rfl
@[simp high] theorem aEJ(c:List Value)(f:Option Nat)(i:Nat):(cT.cells c f).cell i=c[i]? :=nrf rfl
@[simp high] theorem aV(a:Array Value):eQ (.agg a)=some (.cells a.toList none,oP):=nrf rfl
@[simp high] theorem nR(o:Option Addr)(n c:Nat):lenSlc (.slice o n c)=some (.int .i64 n):=nrf rfl
@[simp high] theorem bX(b:Bool):un .not (.bool b)=some (.bool !b):=nrf rfl
@[simp high] theorem sV(x y:Value):pick (.bool true) x y=some x:=nrf rfl
@[simp high] theorem aEc(x y:Value):pick (.bool false) x y=some y:=nrf rfl
@[simp high] theorem aPp:(.int .u8 0:Value)=u8 0#8:=nrf rfl
@[simp high] theorem aN5(x:BitVec 8):plain1 (u8 x)=true:=nrf rfl
@[simp high] theorem aOr:(.int .u16 0:Value)=u16 0#16:=nrf rfl
@[simp high] theorem aNa(x:BitVec 16):plain1 (u16 x)=true:=nrf rfl
@[simp high] theorem aOa:(.int .u32 0:Value)=u32 0#32:=nrf rfl
@[simp high] theorem aOv(x:BitVec 32):jV (u32 x)=true:=nrf rfl
@[simp high] theorem aNq(x:BitVec 32):plain1 (u32 x)=true:=nrf rfl
@[simp high] theorem aOS:(.int .u64 0:Value)=u64 0#64:=nrf rfl
@[simp high] theorem aNK(x:BitVec 64):plain1 (u64 x)=true:=nrf rfl
@[simp high] theorem aNt(a:Array Value):cU (.agg a)=a.toList:=nrf rfl
@[simp high] theorem aNs(k:IntKind)(n:Int):cU (.int k n)=[.int k n]:=nrf rfl
@[simp high] theorem aML(x:BitVec 32):cU (u32 x)=[u32 x]:=nrf rfl
@[simp high] theorem aME(x:BitVec 64):cU (u64 x)=[u64 x]:=nrf rfl
@[simp high] theorem aMM(k:IntKind)(n:Int):plain1 (.int k n)=true:=nrf rfl
@[simp high] theorem aMz(b:Bool):plain1 (.bool b)=true:=nrf rfl
@[simp high] theorem aNU(place:Nat->Option (Nat×Nat))(cells:List Value):sU place cells []=some cells:=nrf rfl
@[simp high] theorem aPb(l:List UInt8):(.string ⟨l.toArray⟩:Value)=str l:=nrf rfl
@[simp high] theorem aMI(l:List UInt8):plain1 (str l)=true:=nrf rfl
@[simp high] theorem aJA:bH [] [] []=some true:=nrf rfl
@[simp high] theorem aIe(k:Nat)(ks:List Nat)(x y:Value)(xs ys:List Value):bH (k :: ks) (x :: xs) (y :: ys)=(cA k x y).bind λb=>(bH ks xs ys).map (b && ·):=nrf rfl
@[simp high] theorem aNX(a:Addr):aO (.pointer (some a))=some (.pointer (some a)):=nrf rfl
@[simp high] theorem AH.next_new_z(H:AH)(o:cT):(H.new o).next=H.next+1:=nrf rfl
theorem aBS{v:Value}(h:plain1 v=true):jV v=true:=by cases v<;>first | rfl | simp[plain1]at h
theorem yT{v:Value}(h:plain1 v=true):cU v=[v]:=by cases v<;>first | rfl | simp[plain1]at h
@[simp] theorem aEd(a:Addr):aO (.pointer (some a))=some (.pointer (some a)):=nrf rfl
def aC:=And.intro @sH<|And.intro @sA<|And.intro @sF<|And.intro @sG<|And.intro @vD<|And.intro @aCe<|And.intro @aDr<|And.intro @aHx<|And.intro @aKU<|And.intro @aKO<|And.intro @aK4<|And.intro @aOD<|And.intro @aOJ<|And.intro @aOE<|And.intro @aO0<|And.intro @aOq<|And.intro @aEd<|And.intro @rS<|And.intro @eM<|And.intro @aEJ<|And.intro @aL7<|And.intro @aPR<|And.intro @aLl<|And.intro @aPV<|And.intro @aDS<|And.intro @sV<|And.intro @aEc<|And.intro @bX<|And.intro @nX<|And.intro @aV<|And.intro @aR<|And.intro @AM.aQ<|And.intro @cL<|And.intro @nZ<|And.intro @AH.next_new_z<|And.intro @hU<|And.intro @aP<|And.intro @Nat.zero_add<|And.intro @Nat.add_zero<|And.intro @List.getElem?_cons_zero.{0}<|And.intro @List.getElem?_cons_succ.{0}<|And.intro Bool.not_true<|And.intro Bool.not_false<|And.intro @List.toList_toArray.{0}<|And.intro @oO @kY
@[congr] theorem aQl{g g':Value}{w:Bool}{o:Option Value}{H:AH}{K:VK}(h:tk g=g'):gO g w o H K=gO g' w o H K:=by rw[<- h,hU]
@[congr] theorem aQj{g g':Value}{w:Bool}{x:Value}{H:AH}{K:VK}(h:tk g=g'):gV g w x H K=gV g' w x H K:=by rw[<- h,hU]
end
section
theorem wW{K V:Type}[DecidableEq K](k:K)(v:V):∀ (l:List (K×V)),k ∉ l.map Prod.fst->fE k v l=l++[(k,v)]
 | [],_=>rfl
 | p :: l,h=>by
  simp only[List.map_cons,List.mem_cons,not_or]at h;have e:¬ p.1=k:=λx=>h.1 x.symm;simp[fE,e,wW k v l h.2]
end
section
theorem aCT(size bytes n:Nat)(z:List Value)(hz:z.length=size)(h1:n*bytes<=2 ^ 47)(h2:n<2 ^ 62):sW size bytes z.toArray (vi n) (vi n)=some (.cells (List.replicate n z).flatten none,λb=>slc b 0 n n):=by
 simp only[sW];rw[if_pos ⟨by omega,by omega,by exact_mod_cast h1,by exact_mod_cast h2⟩]
 simp only[Int.toNat_natCast];rw[aDG n size _ (by simpa using hz)]
 rfl
theorem aDH(n:Nat)(z:Value):(List.replicate n [z]).flatten=List.replicate n z:=by
 induction n with
 | zero=>rfl
 | succ n ih=>simp[List.replicate_succ,ih]
end
section
open Go.Sort (swp SWO PermIn SortedIn scanUp scanDown)
theorem bZ(a b:Nat)(h:b<=a)(ha:a<2 ^ 62):aA .sub (vi a) (vi b)=some (vi ((a - b:Nat):Int)):=by
 rw[iF (by omega) (by omega)];congr 2;omega
theorem eH(a:Nat)(h:1<=a)(ha:a<2 ^ 62):aA .sub (vi a) (vi 1)=some (vi ((a - 1:Nat):Int)):=bZ a 1 h ha
theorem cN(a:Nat)(ha:a<2 ^ 62):aA .add (vi a) (vi 1)=some (vi ((a+1:Nat):Int)):=bW a 1 (by omega)
theorem aMP(a:Nat)(ha:a<2 ^ 61):aA .mul (vi 2) (vi a)=some (vi ((2*a:Nat):Int)):=by
 rw[kD (by omega) (by omega)];congr 2
theorem aEy{α:Type}[Inhabited α](p:α->Bool)(d:Array α)(j:Nat):∀ (m i:Nat),j+1 - i<=m->i<=scanUp p d j i/\(i<=j+1->scanUp p d j i<=j+1)
 | 0,i,h=>by
  rw[scanUp,if_neg (by simp;omega)]
  exact⟨Nat.le_refl _,id⟩
 | m+1,i,h=>by
  rw[scanUp]
  split
  ·rename_i hc
   have:i<=j:=by simp at hc;exact hc.1
   have:=aEy p d j m (i+1) (by omega)
   exact⟨by omega,λ_=>this.2 (by omega)⟩
  ·exact⟨Nat.le_refl _,id⟩
theorem tF{α:Type}[Inhabited α](p:α->Bool)(d:Array α)(i:Nat):∀ j,scanDown p d i j<=j/\(i<=j+1->i<=scanDown p d i j+1)
 | 0=>⟨Nat.le_refl _,id⟩
 | j+1=>by
  rw[scanDown]
  split
  ·have:=tF p d i j
   rename_i hc;have:i<=j+1:=by simp at hc;exact hc.1
   exact⟨by omega,λ_=>by omega⟩
  ·exact⟨Nat.le_refl _,id⟩
end
section
def gF(cur:aAm):List UInt8->List aAm
 | []=>[cur]
 | c :: s=>if c=47 then cur :: gF [] s else gF (cur++[c]) s
end
section
open Go.Sort
section
variable {E:Sy}{H H':AH}{Q:Value->AH->Prop}
theorem vN(x k:Nat)(h:2 ^ k<=x):bitsLen x=bitsLen (x / 2 ^ k)+k:=by
 have hp:=Nat.two_pow_pos k;apply Nat.le_antisymm
 ·rw[bitsLen_le_iff,Nat.pow_add]
  have:=lt_two_pow_bitsLen (x / 2 ^ k);rw[Nat.div_lt_iff_lt_mul hp]at this;exact this
 ·have h1:k<=bitsLen x:=by
   apply Classical.byContradiction;intro hc;have:bitsLen x<=k:=by omega
   rw[bitsLen_le_iff]at this;omega
  have:bitsLen (x / 2 ^ k)<=bitsLen x - k:=by
   rw[bitsLen_le_iff,Nat.div_lt_iff_lt_mul hp,<- Nat.pow_add,Nat.sub_add_cancel h1];exact lt_two_pow_bitsLen x
  omega
def pO:List UInt8:=(List.range 256).map λn=>UInt8.ofNat (bitsLen n)
theorem aGl:∀ n<256,pO[n]? = some (UInt8.ofNat (bitsLen n)):=by decide +kernel
theorem aEV:∀ n<256,bitsLen n<=8:=by decide +kernel
theorem aMR(x:BitVec 8):iY (str pO) (u8 x)=some (u8 (BitVec.ofNat 8 (bitsLen x.toNat))):=by
 rw[aJP];have hx:=x.isLt;have hl:pO.length=256:=by decide +kernel
 have hlt:x.toNat<pO.length:=by omega
 rw[aAU pO x.toNat hlt];have:=aGl x.toNat (by omega)
 rw[List.getElem?_eq_getElem hlt]at this;simp only[Option.some.injEq]at this;rw[this]
 rfl
theorem aL5(l:List UInt8)(hl:l=pO)(x:BitVec 64)(hx:x.toNat<256)(k:Nat)(hk:k<1000)(hQ:Q (vi ((bitsLen x.toNat+k:Nat):Int)) H):
  (opt (aS .u8 (u64 x)) λv1=>opt (iY (.string ⟨l.toArray⟩) v1) λv2=>opt (aS .i64 v2) λv3=>opt (aA .add (vi k) v3) λv4=>Q v4 H):=by
 subst hl;have e1:(x.setWidth 8).toNat=x.toNat:=by rw[BitVec.toNat_setWidth,Nat.mod_eq_of_lt (by omega)]
 have e2:=aEV x.toNat hx;simp only[aCP,hU,aP];rw[show(Value.string ⟨pO.toArray⟩)=str pO from rfl,aMR,e1];simp only[aP,qA,hU,BitVec.toNat_ofNat];rw[Nat.mod_eq_of_lt (by omega),bW _ _ (by omega),aP,Nat.add_comm]
 exact hQ
set_option maxRecDepth 100000
theorem S.f66(hE:aX E)(x:BitVec 64)(hx:x.toNat<2 ^ 32)(hQ:Q (vi (bitsLen x.toNat:Nat)) H):E.call 97 [u64 x] H Q:=by
 apply hE.f66;simp only[F.f66,kY];apply hE.f68;have c0:¬ 4294967296<=x.toNat:=by omega
 have t3:∀ (y:BitVec 64) (k:Nat),y.toNat<256->k<1000->bitsLen x.toNat=bitsLen y.toNat+k->F.f68_j3 E Q (u64 y) (vi k) H:=by
  intro y k hy hk e;unfold F.f68_j3;refine aL5 _ ?_ y hy k hk ?_
  ·decide +kernel
  ·rw[<- e];exact hQ
 have t2:∀ (y:BitVec 64) (k:Nat),y.toNat<65536->k<900->bitsLen x.toNat=bitsLen y.toNat+k->F.f68_j2 E Q (u64 y) (vi k) H:=by
  intro y k hy hk e
  by_cases h:256<=y.toNat
  ·have h8:(y >>> 8).toNat=y.toNat / 256:=by rw[BitVec.toNat_ushiftRight,Nat.shiftRight_eq_div_pow]
   have hs:=vN y.toNat 8 (by omega)
   rw[show(2:Nat) ^ 8=256 from rfl]at hs;have hk8:aA .add (vi k) (vi 8)=some (vi ((k+8:Nat):Int)):=bW k 8 (by omega)
   simp only[F.f68_j2,aHB 256 (by decide),aEi,hU,aP]
   simp[h,hk8];have:=t3 (y >>> 8) (k+8) (by omega) (by omega) (by rw[e,hs,h8];omega)
   simpa using this
  ·simp only[F.f68_j2,aHB 256 (by decide),aEi,hU,aP]
   simp[h];exact t3 y k (by omega) (by omega) e
 by_cases h:65536<=x.toNat
 ·have h8:(x >>> 16).toNat=x.toNat / 65536:=by rw[BitVec.toNat_ushiftRight,Nat.shiftRight_eq_div_pow]
  have hs:=vN x.toNat 16 (by omega)
  rw[show(2:Nat) ^ 16=65536 from rfl]at hs;have hk8:aA .add (vi 0) (vi 16)=some (vi ((16:Nat):Int)):=bW 0 16 (by omega)
  simp[F.f68,F.f68_j1,c0,h,hk8];exact t2 (x >>> 16) 16 (by omega) (by omega) (by rw[hs,h8])
 ·simp[F.f68,F.f68_j1,c0,h]
  exact t2 x 0 (by omega) (by omega) rfl
theorem S.f121(hE:aX E)(x:Nat)(hx:x<2 ^ 32)(hQ:Q (u64 (BitVec.ofNat 64 (2 ^ bitsLen x))) H):E.call 137 [vi x] H Q:=by
 apply hE.f121;have e1:(BitVec.ofNat 64 x).toNat=x:=by rw[BitVec.toNat_ofNat,Nat.mod_eq_of_lt (by omega)]
 have hc:aS .u64 (vi x)=some (u64 (BitVec.ofNat 64 x)):=by
  rw[kL,BitVec.ofInt_natCast]
 simp only[F.f121,hc,hU,aP];refine S.f66 hE _ (by rw[e1];exact hx) ?_
 rw[e1];have:=aDZ 1#64 .i64 (bitsLen x);have l1:(.int .u64 1:Value)=u64 1#64:=rfl
 have e2:(1#64 <<< bitsLen x)=BitVec.ofNat 64 (2 ^ bitsLen x):=by
  apply BitVec.eq_of_toNat_eq;rw[BitVec.toNat_shiftLeft,Nat.shiftLeft_eq];simp
 rw[l1,this,aP,e2];exact hQ
theorem S.f133(hE:aX E)(r:Nat)(x:BitVec 64)(hr:H.get r = .cells [u64 x] none)(hQ:∀ y,Q (u64 y) (H.put r (.cells [u64 y] none))):E.call 138 [ptr r 0] H Q:=by
 apply hE.f133;have hlt:=AH.lt_cells hr;have l1:(.int .u64 13:Value)=u64 13#64:=rfl;have l2:(.int .u64 7:Value)=u64 7#64:=rfl;have l3:(.int .u64 17:Value)=u64 17#64:=rfl;simp[F.f133,hr,l1,l2,l3,AH.get_put,hlt];exact hQ _
end
end
section
open Go.Sort (SWO PermIn SortedIn)
def pX(l:List aAm):List (List Value):=l.map λs=>[str s]
theorem aAh(l:List aAm):(pX l).length=l.length:=by simp[pX]
end
section
section
variable {E:Sy}{H:AH}{Q:Value->AH->Prop}
def nK:List UInt8->Option (List UInt8×List UInt8)
 | []=>none
 | c :: s=>if c=47 then some ([],s) else(nK s).map λp=>(c :: p.1,p.2)
theorem wL:∀ (s cur:List UInt8),gF cur s=match nK s with
  | none=>[cur++s]
  | some p=>(cur++p.1) :: gF [] p.2
 | [],cur=>by simp[gF,nK]
 | c :: s,cur=>by
  by_cases h:c=47
  ·simp[gF,nK,h]
  ·simp only[gF,nK,h,if_false]
   rw[wL s (cur++[c])];cases nK s<;>simp
theorem aAO:∀ s:List UInt8,Lib.indexByte s 47=match nK s with | none => -1 | some p=>(p.1.length:Int)
 | []=>rfl
 | c :: s=>by
  have ih:=aAO s
  by_cases h:c=47
  ·subst h;simp[Lib.indexByte,nK]
  ·have h':(c == 47)=false:=by simpa using h
   simp only[Lib.indexByte,h',nK,h,if_false,ih];cases hc:nK s with
   | none=>simp
   | some p=>simp
theorem aCi:∀ {s:List UInt8} {p:List UInt8×List UInt8},nK s=some p->s=p.1++47 :: p.2
 | [],p,h=>by simp[nK]at h
 | c :: s,p,h=>by
  by_cases k:c=47
  ·subst k;simp[nK]at h;subst h;rfl
  ·simp only[nK,k,if_false,Option.map_eq_some_iff]at h
   obtain⟨q,h1,rfl⟩:=h;simp[aCi h1]
theorem jJ:∀ (s cur:List UInt8),(gF cur s).length=s.count 47+1
 | [],_=>rfl
 | c :: s,cur=>by
  by_cases h:c=47
  ·subst h;simp[gF,jJ s []]
  ·simp[gF,h,jJ s (cur++[c])]
theorem aFJ(s:List UInt8):s.count 47<=s.length:=List.count_le_length
theorem S.f134(hE:aX E)(s:List UInt8)(hQ:Q (vi (s.count 47:Nat)) H):E.call 145 [str s,str [47]] H Q:=by
 apply hE.f134;have h1:iY (str [47]) (vi 0)=some (.int .u8 47):=rfl;simp[F.f134,h1];apply hE.f23;exact hQ
theorem S.f135(hE:aX E)(s:List UInt8)(hQ:Q (vi (Lib.indexByte s 47)) H):E.call 146 [str s,str [47]] H Q:=by
 apply hE.f135;simp only[F.f135];apply hE.f28;have h1:iY (str [47]) (vi 0)=some (.int .u8 47):=rfl
 by_cases hs:[47]=s
 ·subst hs
  simp[F.f28];exact hQ
 ·simp[F.f28,h1,hs]
  apply hE.f29;simp only[F.f29];apply hE.f25;exact hQ
theorem aAu(l:List UInt8)(a b:Nat):(⟨l.toArray⟩:ByteArray).extract a b=⟨((l.take b).drop a).toArray⟩:=by
 apply ByteArray.ext;rw[ByteArray.data_extract];simp[List.extract_eq_take_drop,List.drop_take]
theorem aGn(l:List UInt8)(n:Nat)(h:n<=l.length):lN (str l) none (some (vi n))=some (str (l.take n)):=by
 have h':n<=(⟨l.toArray⟩:ByteArray).size:=h;simp only[str,lN,bnd];rw[if_pos ⟨by omega,by exact_mod_cast h'⟩]
 simp[aAu]
theorem aCg(l:List UInt8)(n:Nat)(h:n<=l.length):lN (str l) (some (vi n)) none=some (str (l.drop n)):=by
 have h':n<=(⟨l.toArray⟩:ByteArray).size:=h;have hz:(⟨l.toArray⟩:ByteArray).size=l.length:=rfl;simp only[str,lN,bnd,Option.bind_some];rw[if_pos ⟨by omega,by rw[hz];exact_mod_cast h⟩]
 simp[aAu,hz]
def jY(done:List aAm)(n:Nat):List (List Value):=pX done++List.replicate n [str []]
theorem aDp(done:List aAm)(n:Nat)(s:aAm):(jY done (n+1)).set done.length [str s]=jY (done++[s]) n:=by
 have h:(pX done).length=done.length:=aAh done;unfold jY;rw[<- h,List.set_append_right _ _ (Nat.le_refl _),Nat.sub_self,List.replicate_succ,List.set_cons_zero];simp[pX]
theorem jH(done:List aAm)(n:Nat):(jY done n).length=done.length+n:=by simp[jY,pX]
theorem S.f136(hE:aX E)(s:List UInt8)(hs:s.length<2 ^ 40)(hQ:∀ v H',Ext H H'->Rows H' 1 v (pX (gF [] s))->Q v H'):E.call 107 [str s,str [47]] H Q:=by
 apply hE.f136;simp only[F.f136];apply hE.f138;have hc:=aFJ s;have hn1:aA .add (vi (s.count 47:Nat)) (vi 1)=some (vi ((s.count 47+1:Nat):Int)):=bE (by omega)
 have hl1:aA .add (vi (s.length:Nat)) (vi 1)=some (vi ((s.length+1:Nat):Int)):=bE (by omega)
 simp[F.f138];refine S.f134 hE s ?_;have hcnt:=jJ s [];generalize hN:s.count 47=c at *
 have hmin:oV min2 [vi ((c+1:Nat):Int),vi ((s.length+1:Nat):Int)]=some (vi ((c+1:Nat):Int)):=by
  rw[aHk];rw[if_neg (by omega)]
 have hsub:aA .sub (vi ((c+1:Nat):Int)) (vi 1)=some (vi (c:Nat)):=by
  rw[iF (by omega) (by omega)];simp
 have hmk:=aCT 1 16 (c+1) [str []] rfl (by omega) (by omega)
 simp only[F.f138_j1,hn1,oT,hl1,hmin,hU,aP];rw[show(#[(.string ⟨#[]⟩)]:Array Value)=[str []].toArray from rfl,hmk];simp only[AM.aQ,hsub,hU,aP]
 have g0:dJ zH (H.new (.cells (List.replicate (c+1) [str []]).flatten none)) 1 (slc H.next 0 (c+1) (c+1)) (jY [] (c+1)) :=
  dJ.made (f:=none) (nF _) (by rw[AH.get_new_self];simp[jY,pX]) (.inl rfl) (by simp[jY,pX]) (by
   intro r hr;simp[jY,pX]at hr;subst hr;exact⟨rfl,rfl⟩)
 refine aZ.count c (λj ls H'=>∃ done rest,ls=[str rest,str [47],vi 0,vi c,slc H.next 0 (c+1) (c+1),vi j]/\done.length=j/\gF [] s=done++gF [] rest/\rest.length<=s.length/\Ext H H'/\dJ zH H' 1 (slc H.next 0 (c+1) (c+1)) (jY done (c+1 - j))) ?_ ⟨[],s,rfl,rfl,rfl,Nat.le_refl _,(Ext.refl H).new _,g0⟩;rintro j _ H1 X hj hX ⟨done,rest,rfl,hd,hsp,hrl,e1,g1⟩
 have hrc:rest.count 47+j=c:=by
  have h1:=congrArg List.length hsp;rw[hcnt,List.length_append,jJ,hd]at h1;omega
 by_cases hjc:j<c
 ·have hX:=hX hjc
  have hjc':(j:Int)<c:=by omega
  have hjj:=bE (i:=j) (by omega)
  have hix:=aAO rest;have hcut:=wL rest [];cases hcs:nK rest with
  | none =>
   rw[hcs]at hcut;have h1:=jJ rest [];rw[hcut]at h1;simp at h1;omega
  | some p =>
   rw[hcs]at hix hcut;have hre:=aCi hcs;have hpl:p.1.length+p.2.length+1=rest.length:=by rw[hre];simp;omega
   have hge:¬ ((p.1.length:Int)<0):=by omega
   have hadd0:aA .add (vi (p.1.length:Nat)) (vi 0)=some (vi (p.1.length:Nat)):=by rw[eB (by omega) (by omega)];simp
   have hadd1:aA .add (vi (p.1.length:Nat)) (vi 1)=some (vi ((p.1.length+1:Nat):Int)):=bE (by omega)
   have hsl1:lN (str rest) none (some (vi (p.1.length:Nat)))=some (str p.1):=by
    rw[aGn _ _ (by omega),hre,List.take_left' rfl]
   have hsl2:lN (str rest) (some (vi ((p.1.length+1:Nat):Int))) none=some (str p.2):=by
    rw[aCg _ _ (by omega),hre]
    congr 2
    rw[show p.1++47 :: p.2=(p.1++[47])++p.2 by simp,show p.1.length+1=(p.1++[47]).length by simp,List.drop_left' rfl]
   obtain⟨b,o,H2,q1,q2,q3,q4,q5⟩:=g1.store (i:=j) (k:=0) (by rw[jH];omega) (by omega) (str p.1) rfl
   have hlast:(jY done (c+1 - j)).set j (((jY done (c+1 - j))[j]'(by rw[jH];omega)).set 0 (str p.1))=jY (done++[p.1]) (c+1 - (j+1)):=by
    have e:c+1 - j=(c+1 - (j+1))+1:=by omega
    have h2:(jY done (c+1 - j))[j]'(by rw[jH];omega)=[str []]:=by
     subst hd;simp[jY,pX]
    rw[h2];subst hd;rw[e];exact aDp done _ p.1
   rw[hlast]at q4;simp[F.f138_l1,hjc'];refine S.f135 hE rest ?_;rw[hix];have q3':bD (ptr b o) (str p.1) H1=some H2:=by simpa using q3
   simp[-Int.natCast_add,hge,hadd0,hadd1,hsl1,hsl2,q1,q3',hjj];refine hX _ _ ⟨done++[p.1],p.2,rfl,by simp[hd],by rw[hsp,hcut];simp,by omega,?_,q4⟩
   exact q5.ext e1 λb hb=>by rw[gW]at hb;simp[blk]at hb;omega
 ·have hjc':¬ (j:Int)<c:=by omega
  have hje:j=c:=by omega
  have hrest:gF [] rest=[rest]:=by
   have hcut:=wL rest [];cases hcs:nK rest with
   | none=>rw[hcs]at hcut;simpa using hcut
   | some p =>
    have:=aCi hcs;rw[this]at hrc;simp at hrc;omega
  have hjj:aA .add (vi (j:Nat)) (vi 1)=some (vi ((j+1:Nat):Int)):=bE (by omega)
  obtain⟨b,o,H2,q1,q2,q3,q4,q5⟩:=g1.store (i:=j) (k:=0) (by rw[jH];omega) (by omega) (str rest) rfl
  have hlast:(jY done (c+1 - j)).set j (((jY done (c+1 - j))[j]'(by rw[jH];omega)).set 0 (str rest))=jY (done++[rest]) (c+1 - (j+1)):=by
   have e:c+1 - j=(c+1 - (j+1))+1:=by omega
   have h2:(jY done (c+1 - j))[j]'(by rw[jH];omega)=[str []]:=by
    subst hd;simp[jY,pX]
   rw[h2];subst hd;rw[e];exact aDp done _ rest
  rw[hlast]at q4;have q3':bD (ptr b o) (str rest) H1=some H2:=by simpa using q3
  have e2:Ext H H2:=q5.ext e1 λb hb=>by rw[gW]at hb;simp[blk]at hb;omega
  have hrows:Rows H2 1 (slc H.next 0 (c+1) (c+1)) (pX (gF [] s)):=by
   have:=q4.toRows;have h0:c+1 - (j+1)=0:=by omega
   rw[h0]at this;rw[hsp,hrest]
   simpa[jY] using this
  have hlen:(pX (gF [] s)).length=j+1:=by rw[aAh,hcnt];omega
  obtain⟨hsl,hrows2⟩:=hrows.slice' (lo:=none) (hi:=some (vi ((j+1:Nat):Int))) (i:=0) (j:=j+1) (.inr ⟨rfl,rfl⟩) (.inl rfl) (by omega) (by omega)
  rw[List.take_of_length_le (by omega),List.drop_zero]at hrows2
  simp[-Int.natCast_add,F.f138_l1,hjc',F.f138_j2,q1,q3',hjj,hsl];exact hQ _ _ e2 hrows2
theorem aGI(s:List UInt8):(gF [] s).length<=s.length+1:=by
 rw[jJ];have:=aFJ s;omega
end
end
section
section
variable {E:Sy}{H H' H0 Z:AH}{Q:Value->AH->Prop}{t:Nat}{M:List wH}{L:List Res}
theorem Has.callee(h:Has H0 Z H L)(e:Ext H H'):∃ Z',Fz H.next Z Z'/\Has H0 Z' H' L/\∀ sz v rows,Rows H' sz v rows->rI H.next v->Rows Z' sz v rows:=by
 have hg:∀ b,(AH.mk H'.next λb=>if b<H.next then Z.get b else H'.get b).get b=if b<H.next then Z.get b else H'.get b:=by
  intro b;simp only[AH.get]
  by_cases hb:b<H'.next
  ·rw[if_pos hb]
  ·have h1:¬ b<H.next:=λhb'=>hb (Nat.lt_of_lt_of_le hb' e.1)
   have h2:¬ b<H'.next:=hb;simp[h1,h2]
 refine⟨⟨H'.next,λb=>if b<H.next then Z.get b else H'.get b⟩,⟨⟨Nat.le_trans h.sub.1 e.1,λb hb =>?_⟩,λb hb=>by rw[hg,if_pos hb]⟩,?_,?_⟩
 ·rw[hg]
  split
  ·rfl
  ·rename_i hn
   exact(hb (AH.get_ge _ (Nat.le_trans h.sub.1 (by omega)))).elim
 ·refine h.refreeze e ⟨⟨Nat.le_trans h.sub.1 e.1,λb hb =>?_⟩,λb hb=>by rw[hg,if_pos hb]⟩ ⟨Nat.le_refl _,λb hb =>?_⟩
  ·rw[hg]
   split
   ·rfl
   ·rename_i hn
    exact(hb (AH.get_ge _ (Nat.le_trans h.sub.1 (by omega)))).elim
  ·rw[hg]at hb ⊢
   split
   ·rename_i hlt
    rw[if_pos hlt]at hb;rw[e.get hlt];exact h.sub.2 b hb
   ·rfl
 ·intro sz v rows hr hf
  refine⟨hr.len,?_⟩;rcases hr.at_ with g | ⟨b,o,c,g1,g2,g3,g4⟩
  ·exact .inl g
  ·by_cases hrn:rows=[]
   ·have hz:¬ b<H.next:=by
     have:=hf b (by rw[g1];rfl)
     omega
    exact .inr ⟨b,o,c,g1,g2,by rw[hg,if_neg hz];exact g3,by rw[hg,if_neg hz];exact g4⟩
   ·have hz:¬ b<H.next:=by
     have:=hf b (by rw[g1];rfl)
     omega
    exact .inr ⟨b,o,c,g1,g2,by rw[hg,if_neg hz];exact g3,by rw[hg,if_neg hz];exact g4⟩
end
end
section
section
variable {E:Sy}{H H' H'':AH}{Q:Value->AH->Prop}{t:Nat}{nv nv' nv'' mv:Value}{nx:Int}{mr:List (List Value)}
theorem aHh(sz:Nat)(z:List Value)(hz:z.length=sz):bO 0 sz z.toArray []=some (.cells [] none,fC 0 0):=by
 rw[fN _ _ _ _ hz];simp;rfl
end
end
section
section
variable {E:Sy}{X:List Res}{H H' H0 Z:AH}{Q:Value->AH->Prop}{w:Nat}{M M':List wH}{nx nx':Int}{L:List Res}
theorem newbox(H:AH)(c:List Value):aOV (bF H.next c) H (H.new (.cells c none)):=⟨(Ext.refl H).new _,AH.get_new_self _ _,λb hb=>by simp[bF]at hb;subst hb;simp,by simp[bF]⟩
end
end
section
section
variable {E:Sy}{X:List Res}{H H' H0 Z:AH}{Q:Value->AH->Prop}{t w:Nat}{M M':List wH}{nx nx':Int}{L:List Res}{s:Nat}
theorem oB{H:AH}{z c:List Value}(hz:z.length=2)(hc:c.length=2)(hp:c.all plain1=true):aH 2 (ptr H.next 0) (.agg c.toArray) (H.new (.cells z none))=some (H.new (.cells c none)):=by
 rw[cM,AH.get_new_self];have:AM.aT z 0 c=c:=by simp[aT,hz,hc]
 simp only[List.size_toArray,List.toList_toArray,hc,hz,hp,Nat.zero_add,Nat.le_refl,and_self,if_true,this,AH.new_put]
end
end
section
set_option maxRecDepth 20000
section
variable {X:List Res}{E:Sy}{H H' H0 Z:AH}{Q:Value->AH->Prop}{w t:Nat}{M:List wH}{v v':Value}{nx:Int}
theorem aBD(a b:Nat)(h:a+b<2 ^ 62):∃ y:BitVec 64,aS .u64 (vi ((a+b:Nat):Int))=some (u64 (BitVec.ofInt 64 ((a+b:Nat):Int)))/\aA .shr (u64 (BitVec.ofInt 64 ((a+b:Nat):Int))) (.int .u64 1)=some (u64 y)/\aS .i64 (u64 y)=some (vi (((a+b) / 2:Nat):Int)):=by
 refine⟨BitVec.ofInt 64 ((a+b:Nat):Int) >>> 1,kL _,aAY _ .u64 1,?_⟩
 have hy:(BitVec.ofInt 64 ((a+b:Nat):Int) >>> 1).toNat=(a+b) / 2:=by
  rw[BitVec.toNat_ushiftRight,BitVec.ofInt_natCast,BitVec.toNat_ofNat,Nat.mod_eq_of_lt (by omega),Nat.shiftRight_eq_div_pow]
 generalize BitVec.ofInt 64 ((a+b:Nat):Int) >>> 1=y at *;rw[<- hy];have hlt:y.toNat<2 ^ 62:=by omega
 rw[dP,fA,mS (by omega) (by omega)]
end
end
section
set_option maxRecDepth 20000
section
variable {E:Sy}{H H' H0 Z:AH}{Q:Value->AH->Prop}{L:List Res}
def aOb(a b:Int):Int:=if a<b then -1 else if b<a then 1 else 0
def aCM(a b:BitVec 32):Int:=if a.toNat<b.toNat then -1 else if b.toNat<a.toNat then 1 else 0
theorem S.f6(hE:aX E)(a b:Int)(hQ:Q (vi (aOb a b)) H):E.call 64 [vi a,vi b] H Q:=by
 have nn:∀ (x:Int) (K:Value->AH->Prop),K (vb false) H->E.call 92 [vi x] H K:=by
  intro x K hK;apply hE.f8;simp only[F.f8,eG,ne_eq,not_true,decide_false,aC];exact hK
 apply hE.f6;simp only[F.f6];refine nn a _ (nn b _ ?_);unfold aOb at hQ;simp only[aF,cI,gt_iff_lt,aC]
 by_cases h1:a<b
 ·rw[if_pos h1]at hQ
  simp only[h1,decide_true,aC];exact hQ
 ·rw[if_neg h1]at hQ
  simp only[h1,decide_false,cI,gt_iff_lt,aC]
  by_cases h2:b<a
  ·rw[if_pos h2]at hQ
   simp only[h2,decide_true,aC];exact hQ
  ·rw[if_neg h2]at hQ
   simp only[h2,decide_false,aC];exact hQ
theorem S.f7(hE:aX E)(a b:BitVec 32)(hQ:Q (vi (aCM a b)) H):E.call 69 [u32 a,u32 b] H Q:=by
 have nn:∀ (x:BitVec 32) (K:Value->AH->Prop),K (vb false) H->E.call 98 [u32 x] H K:=by
  intro x K hK;apply hE.f9;simp only[F.f9,yK,ne_eq,not_true,decide_false,aC];exact hK
 apply hE.f7;simp only[F.f7];refine nn a _ (nn b _ ?_);unfold aCM at hQ;simp only[aNu,aC]
 by_cases h1:a.toNat<b.toNat
 ·rw[if_pos h1]at hQ
  simp only[h1,decide_true,aC];exact hQ
 ·rw[if_neg h1]at hQ
  simp only[h1,decide_false,aDL,aC]
  by_cases h2:b.toNat<a.toNat
  ·rw[if_pos h2]at hQ
   simp only[h2,decide_true,aC];exact hQ
  ·rw[if_neg h2]at hQ
   simp only[h2,decide_false,aC];exact hQ
def ixL{α:Type}[DecidableEq α](x:α)(l:List α):Int:=match l.findIdx? λy=>decide (x=y) with
 | some i=>(i:Int)
 | none => -1
def pC(l:List (BitVec 32)):List (List Value):=l.map λx=>[u32 x]
theorem S.f111(hE:aX E){v:Value}{l:List (BitVec 32)}(hv:Rows H 1 v (pC l))(hl:l.length<2 ^ 60)(x:BitVec 32)(hQ:Q (vi (ixL x l)) H):E.call 93 [v,u32 x] H Q:=by
 apply hE.f111;have hlv:=hv.lenSlc;have hlr:(pC l).length=l.length:=by simp[pC]
 rw[hlr]at hlv;have i0:vi 0=vi ((0:Nat):Int):=rfl;simp only[F.f111,hlv,i0,aC];refine aZ.count l.length (λj ls H'=>ls=[v,u32 x,vi (l.length:Int),vi j]/\H=H'/\∀ i (hi:i<l.length),i<j->¬ x=l[i]) ?_ ⟨rfl,rfl,λi _ h=>by omega⟩
 rintro j _ _ X hj hX ⟨rfl,rfl,hno⟩
 by_cases hjl:j<l.length
 ·have hjl':(j:Int)<l.length:=by omega
  have hjj:=bE (i:=j) (by omega)
  obtain⟨b,o,f1,f2⟩:=hv.ix (i:=j) (by rw[hlr];exact hjl)
  have hrow:(pC l)[j]'(by rw[hlr];exact hjl)=[u32 l[j]]:=by simp[pC]
  rw[hrow]at f2;have f3:(H.get b).cell o=some (u32 l[j]):=by have:=lD f2 (j:=0) (by omega);simpa using this
  by_cases he:x=l[j]
  ·have hfi:l.findIdx? (λy=>decide (x=y))=some j:=List.findIdx?_eq_some_iff_getElem.2 ⟨hjl,by simpa using he,λi hi=>by simpa using hno i (by omega) hi⟩
   have hix:ixL x l=(j:Int):=by unfold ixL;rw[hfi]
   rw[hix]at hQ;simp only[F.f111_l1,aF,hjl',decide_true,f1,f3,pL,<- he,aC];exact hQ
  ·simp only[F.f111_l1,aF,hjl',decide_true,f1,f3,pL,he,decide_false,hjj,aC]
   refine hX hjl _ _ ⟨rfl,rfl,λi hi hij =>?_⟩
   by_cases e:i=j
   ·subst e;exact he
   ·exact hno i hi (by omega)
 ·have hjl':¬ (j:Int)<l.length:=by omega
  have hfi:l.findIdx? (λy=>decide (x=y))=none:=by
   rw[List.findIdx?_eq_none_iff];intro y hy;obtain⟨i,hi,rfl⟩:=List.getElem_of_mem hy
   simpa using hno i hi (by omega)
  have hix:ixL x l = -1:=by unfold ixL;rw[hfi]
  rw[hix]at hQ;simp only[F.f111_l1,aF,hjl',decide_false,aC];exact hQ
def nE:List (BitVec 32):=[2147483648#32,327680#32,2147221504#32,2147418112#32]
theorem aJO(a:BitVec 32):ixL (qE a) nE=(jC a:Int):=by
 rw[(qL a).2];unfold bR
 have hk:qE a=327680#32\/qE a=2147221504#32\/qE a=2147418112#32\/qE a=2147483648#32:=by
  unfold qE
  repeat' split
  all_goals simp
 rcases hk with h | h | h | h<;>rw[h]<;>decide
theorem S.f38(hE:aX E)(a:BitVec 32)(hQ:∀ H',Ext H H'->Q (vi (jC a:Nat)) H'):E.call 65 [u32 a] H Q:=by
 apply hE.f38;have hbv:aD5 1 #[(.int .u32 0),(.int .u32 0),(.int .u32 0),(.int .u32 0)] [(0,(.int .u32 2147483648)),(1,(.int .u32 327680)),(2,(.int .u32 2147221504)),(3,(.int .u32 2147418112))]=some (.agg (nE.map u32).toArray):=rfl;have x1:Ext H (H.new (.cells (nE.map u32) none)):=(Ext.refl _).new _;have b1:=AH.get_new_self H (.cells (nE.map u32) none)
 have hst:aH 4 (ptr H.next 0) (.agg (nE.map u32).toArray) (H.new (.cells [(.int .u32 0),(.int .u32 0),(.int .u32 0),(.int .u32 0)] none))=some (H.new (.cells (nE.map u32) none)):=by
  rw[cM,AH.get_new_self];have h3:AM.aT [(.int .u32 0),(.int .u32 0),(.int .u32 0),(.int .u32 0)] 0 (nE.map u32)=nE.map u32:=rfl;have h4:(nE.map u32).all plain1=true:=rfl;have h5:(nE.map u32).length=4:=rfl;simp only[List.size_toArray,List.toList_toArray,h4,h5,List.length_cons,List.length_nil,Nat.zero_add,Nat.le_refl,and_self,if_true,h3,AH.new_put]
 have hsl:oZ 4 1 (ptr H.next 0) none none none=some (slc H.next 0 4 4):=rfl;simp only[F.f38,hbv,aW,hst,hsl,aC];apply S.f97 hE
 have hr:Rows (H.new (.cells (nE.map u32) none)) 1 (slc H.next 0 4 4) (pC nE):=Rows.made (f:=none) (by rw[b1];rfl) (.inl rfl) rfl (by
  intro r hr;obtain⟨x,_,rfl⟩:=List.mem_map.1 hr
  rfl)
 refine S.f111 hE hr (by decide) _ ?_
 rw[aJO];exact hQ _ x1
theorem lZ{c:bA}{b:Nat}{H:AH}(hb:H.get b = .cells c.cells none):aE 4 (ptr b 0) H=some c.v:=by rw[aJ,hb];rfl
theorem oC(c:bA)(H:AH):aH 4 (ptr H.next 0) c.v (H.new (.cells [vi 0,(.int .u8 0),(.int .u64 0),(.int .u64 0)] none))=some (H.new (.cells c.cells none)):=by
 rw[cM,AH.get_new_self];have h3:AM.aT [vi 0,(.int .u8 0),(.int .u64 0),(.int .u64 0)] 0 c.cells=c.cells:=rfl;have h4:c.cells.all plain1=true:=rfl;have h5:c.cells.length=4:=rfl;simp only[List.size_toArray,List.toList_toArray,h4,h5,List.length_cons,List.length_nil,Nat.zero_add,Nat.le_refl,and_self,if_true,h3,AH.new_put]
theorem S.f35(hE:aX E)(c:bA)(hQ:∀ H',Ext H H'->Q (vb (mN c)) H'):E.call 117 [c.v] H Q:=by
 apply hE.f35;have x1:Ext H (H.new (.cells c.cells none)):=(Ext.refl _).new _;have b1:=AH.get_new_self H (.cells c.cells none);have c0:c.cells[0]? = some (vi c.arg):=rfl;have c1:c.cells[1]? = some (u8 c.op):=rfl;have c3:c.cells[3]? = some (u64 c.value):=rfl;have hQ:=hQ _ x1;unfold mN aMa at hQ;have k6:(.int .u8 6:Value)=u8 6#8:=rfl;have k4:(.int .u8 4:Value)=u8 4#8:=rfl;have k0:(.int .u64 0:Value)=u64 0#64:=rfl;have kM:(.int .u64 18446744073709551615:Value)=u64 18446744073709551615#64:=rfl;simp only[F.f35,aV,AM.aQ,aR,List.toList_toArray,b1,c0,c1,c3,aF,aC]
 by_cases h0:c.arg<0
 ·have:decide (0<=c.arg)=false:=by rw[decide_eq_false_iff_not];omega
  rw[this]at hQ;simp only[Bool.false_and]at hQ;simp only[h0,decide_true,aC];exact hQ
 ·have h0':decide (0<=c.arg)=true:=by rw[decide_eq_true_iff];omega
  rw[h0',Bool.true_and]at hQ;simp only[h0,decide_false,b1,c0,cI,gt_iff_lt,aC]
  by_cases h5:5<c.arg
  ·have:decide (c.arg<=5)=false:=by rw[decide_eq_false_iff_not];omega
   rw[this]at hQ;simp only[Bool.false_and]at hQ;simp only[h5,decide_true,aC];exact hQ
  ·have h5':decide (c.arg<=5)=true:=by rw[decide_eq_true_iff];omega
   rw[h5',Bool.true_and]at hQ;simp only[h5,decide_false,b1,c1,k6,eJ,aC]
   by_cases h6:c.op=6#8
   ·have h4:¬ c.op=4#8:=by rw[h6];decide
    simp only[h6,decide_true,Bool.true_and,show decide ((6#8:BitVec 8)=4#8)=false from rfl,Bool.false_and,Bool.or_false]at hQ;simp only[h6,decide_true,b1,c3,k0,yG,aC];exact hQ
   ·simp only[h6,decide_false,Bool.false_and,Bool.false_or]at hQ
    simp only[h6,decide_false,k4,eJ,aC]
    by_cases h4:c.op=4#8
    ·simp only[h4,decide_true,Bool.true_and]at hQ
     simp only[h4,decide_true,b1,c3,kM,yG,aC];exact hQ
    ·simp only[h4,decide_false,Bool.false_and]at hQ
     simp only[h4,decide_false,aC];exact hQ
def gI(l:List bA):List (List Value):=l.map bA.cells
theorem dL(l:List bA):(gI l).length=l.length:=by simp[gI]
theorem aE7(c d:bA):iE [0,0,0,0] .eql c.v d.v=some (vb (decide (c=d))):=by
 obtain⟨a1,a2,a3,a4⟩:=c;obtain⟨b1,b2,b3,b4⟩:=d;simp[iE,bA.cells]
theorem qY{v:Value}{l:List bA}(hv:Rows H 4 v (gI l)){j:Nat}(hj:j<l.length):∃ b o,aI 4 v (vi j)=some (ptr b o)/\(∀ H',Ext H H'->aE 4 (ptr b o) H'=some (l[j]).v):=by
 obtain⟨b,o,f1,f2⟩:=hv.ix (i:=j) (by rw[dL];exact hj)
 have hrow:(gI l)[j]'(by rw[dL];exact hj)=(l[j]).cells:=by simp[gI]
 rw[hrow]at f2;exact⟨b,o,f1,λH' e=>by rw[aJ,e.get (AH.lt_of_get (iD f2)),f2];rfl⟩
theorem S.f109(hE:aX E){v:Value}{l:List bA}(hv:Rows H 4 v (gI l))(hl:l.length<2 ^ 60)(c:bA)(hQ:∀ H',Ext H H'->Q (vb (decide (c∈l))) H'):E.call 118 [v,c.v] H Q:=by
 apply hE.f109;have x1:Ext H (H.new (.cells c.cells none)):=(Ext.refl _).new _;have b1:=AH.get_new_self H (.cells c.cells none);simp only[F.f109,aV,AM.aQ,aR,List.toList_toArray,lZ b1,aC];generalize H.new (.cells c.cells none)=H1 at *;apply hE.f110;have x2:Ext H1 (H1.new (.cells c.cells none)):=(Ext.refl _).new _;have b2:=AH.get_new_self H1 (.cells c.cells none);have hlv:=hv.lenSlc;rw[dL]at hlv;have i0:vi 0=vi ((0:Nat):Int):=rfl;simp only[F.f110,aV,AM.aQ,aR,List.toList_toArray,hlv,i0,aC];have x12:=x1.trans x2;generalize H1.new (.cells c.cells none)=H2 at *;generalize H1.next=bc at *;refine aZ.count l.length (λj ls H'=>ls=[v,ptr bc 0,vi (l.length:Int),vi j]/\H2=H'/\∀ i (hi:i<l.length),i<j->¬ c=l[i]) ?_ ⟨rfl,rfl,λi _ h=>by omega⟩
 rintro j _ _ X hj hX ⟨rfl,rfl,hno⟩
 by_cases hjl:j<l.length
 ·have hjl':(j:Int)<l.length:=by omega
  have hjj:=bE (i:=j) (by omega)
  obtain⟨b,o,f1,f2⟩:=qY hv hjl
  by_cases he:c=l[j]
  ·have hm:decide (c∈l)=true:=by rw[decide_eq_true_iff,he];exact List.getElem_mem hjl
   rw[hm]at hQ;have hge:(0:Int)<=j:=by omega
   simp only[F.f110_l1,aF,hjl',decide_true,f1,f2 _ x12,lZ b2,aE7,<- he,dW,ge_iff_le,hge,aC];exact hQ _ x12
  ·simp only[F.f110_l1,aF,hjl',decide_true,f1,f2 _ x12,lZ b2,aE7,he,decide_false,hjj,aC]
   refine hX hjl _ _ ⟨rfl,rfl,λi hi hij =>?_⟩
   by_cases e:i=j
   ·subst e;exact he
   ·exact hno i hi (by omega)
 ·have hjl':¬ (j:Int)<l.length:=by omega
  have hm:decide (c∈l)=false:=by
   rw[decide_eq_false_iff_not];intro hm;obtain⟨i,hi,he⟩:=List.getElem_of_mem hm;exact hno i hi (by omega) he.symm
  rw[hm]at hQ;have hge:¬ (0:Int) <= -1:=by decide
  simp only[F.f110_l1,aF,hjl',decide_false,dW,ge_iff_le,hge,aC];exact hQ _ x12
theorem aAJ:∀ (l out:List bA),(fJ out l).length<=out.length+l.length
 | [],out=>by simp[fJ]
 | c :: l,out=>by
  rw[fJ];have:=aAJ l (if mN c=false/\c ∉ out then out++[c] else out)
  split at this
  ·rename_i hc;rw[if_pos hc];simp at this ⊢; omega
  ·rename_i hc;rw[if_neg hc];simp at this ⊢; omega
theorem S.f39(hE:aX E){v:Value}{l:List bA}(hv:Rows H 4 v (gI l))(hl:l.length<2 ^ 30)(hQ:∀ v' H',Ext H H'->Rows H' 4 v' (gI (oK l))->rI H.next v'->Q v' H'):E.call 94 [v] H Q:=by
 apply hE.f39;have hlv:=hv.lenSlc;rw[dL]at hlv;have i0:vi 0=vi ((0:Nat):Int):=rfl;simp only[F.f39,hlv,i0,aC];refine aZ.count l.length (λj ls H'=>∃ w out,ls=[w,v,vi (l.length:Int),vi j]/\Has H zH H' [aY 4 w (gI out)]/\oK l=fJ out (l.drop j)/\out.length<=j) ?_ ⟨bY,[],rfl,(Has.begin (Ext.refl H) ⟨Nat.zero_le _,λb hb=>(hb (nF b)).elim⟩).nils 4,rfl,by simp⟩
 rintro j _ H1 X hj hX ⟨w,out,rfl,g,ht,hol⟩
 by_cases hjl:j<l.length
 rotate_left
 ·have hjl':¬ (j:Int)<l.length:=by omega
  rw[List.drop_of_length_le (by omega),fJ]at ht
  simp only[F.f39_l1,aF,hjl',decide_false,aC];refine hQ w _ g.ext ?_ λb hb=>((g.all (aY 4 w (gI out)) (by simp)).2 b (gW.2 hb)).1
  rw[ht];exact g.rows (k:=0) rfl
 have hX:=hX hjl;have hjl':(j:Int)<l.length:=by omega
 have hjj:=bE (i:=j) (by omega)
 obtain⟨b,o,f1,f2⟩:=qY hv hjl;rw[List.drop_eq_getElem_cons hjl,fJ]at ht;generalize l[j]=c at *;have x2:Ext H1 (H1.new (.cells c.cells none)):=(Ext.refl _).new _;have b2:=AH.get_new_self H1 (.cells c.cells none);simp only[F.f39_l1,aF,hjl',decide_true,f1,f2 _ g.ext,aW,oC,lZ b2,aC];have g2:=g.grow x2;generalize H1.new (.cells c.cells none)=H2 at *;generalize H1.next=bc at *;refine S.f35 hE c λH3 e3 =>?_;have b3:=e3.cells b2;have g3:=g2.grow e3;cases ha:mN c with
 | true =>
  rw[ha,if_neg (by simp)]at ht
  simp only[hjj,aC];exact hX _ _ ⟨w,out,rfl,g3,ht,by omega⟩
 | false =>
  simp only[lZ b3,aC];refine S.f109 hE (g3.rows (k:=0) rfl) (by omega) c λH4 e4 =>?_
  have b4:=e4.cells b3;have g4:=g3.grow e4;rw[ha]at ht
  by_cases hm:c∈out
  ·rw[if_neg (by simp[hm])]at ht
   have hd:decide (c∈out)=true:=by simpa using hm
   simp only[hd,hjj,aC];exact hX _ _ ⟨w,out,rfl,g4,ht,by omega⟩
  ·rw[if_pos (by simp[hm])]at ht
   have hd:decide (c∈out)=false:=by simpa using hm
   have hbS:bO 1 4 #[vi 0,(.int .u8 0),(.int .u64 0),(.int .u64 0)] [(0,c.v)]=some (.cells c.cells none,fC 1 1):=cX 4 [vi 0,u8 0#8,u64 0#64,u64 0#64] c.cells rfl rfl;obtain⟨w',H5,a1,a2,g5⟩:=g4.app1 (k:=0) (bytes:=32) rfl c.cells rfl rfl (by decide) (by decide) (by rw[dL];omega)
   have g5:Has H zH H5 [aY 4 w' (gI (out++[c]))]:=by simpa[gI] using g5
   simp only[hd,lZ b4,hbS,AM.aQ,cL,a1,nZ,hjj,aC];exact hX _ _ ⟨w',out++[c],rfl,g5,ht,by simp;omega⟩
end
end
section
set_option maxRecDepth 20000
section
variable {E:Sy}{H H' H0 Z:AH}{Q:Value->AH->Prop}{L:List Res}
theorem aJ1(hE:aX E){X0:List Value->AH->Prop}{t0 t7 t8:Value}{i:Nat}(hi:i<2 ^ 60){bc:Nat}{c:bA}(hb:H.get bc = .cells c.cells none){v:Value}{l:List bA}(hv:Rows H 4 v (gI l))(hl:l.length<2 ^ 60)(hQ:l.any (jZ c)=true->∀ H',Ext H H'->Q (vb true) H')(hX:l.any (jZ c)=false->∀ H',Ext H H'->X0 [t0,t7,t8,vi ((i+1:Nat):Int)] H'):
  lp8 (F.f37_l2 E Q X0) [t0,ptr bc 0,t7,t8,vi i,v,vi (l.length:Int),vi ((0:Nat):Int)] H:=by
 have c0:∀ c:bA,c.cells[0]? = some (vi c.arg):=λ_=>rfl;have c1:∀ c:bA,c.cells[1]? = some (u8 c.op):=λ_=>rfl;have c3:∀ c:bA,c.cells[3]? = some (u64 c.value):=λ_=>rfl;have k1:(.int .u8 1:Value)=u8 1#8:=rfl;refine aZ.count l.length (λj ls H'=>ls=[t0,ptr bc 0,t7,t8,vi i,v,vi (l.length:Int),vi j]/\Ext H H'/\∀ i (hi:i<l.length),i<j->jZ c l[i]=false) ?_ ⟨rfl,Ext.refl _,λi _ h=>by omega⟩
 rintro j _ H1 X1 hj hX1 ⟨rfl,e1,hno⟩
 by_cases hjl:j<l.length
 rotate_left
 ·have hjl':¬ (j:Int)<l.length:=by omega
  have hii:=bE (i:=i) (by omega)
  have ha:l.any (jZ c)=false:=by
   rw[List.any_eq_false];intro x hx;obtain⟨i,hi,rfl⟩:=List.getElem_of_mem hx;rw[hno i hi (by omega)]
   simp
  simp only[F.f37_l2,aF,hjl',decide_false,hii,aC];exact hX ha _ e1
 have hjl':(j:Int)<l.length:=by omega
 have hjj:=bE (i:=j) (by omega)
 have hX1:=hX1 hjl;obtain⟨b,o,f1,f2⟩:=qY (hv.mono e1) hjl
 have hstep:jZ c l[j]=false->∀ i (hi:i<l.length),i<j+1->jZ c l[i]=false:=by
  intro h i hi hij
  by_cases e:i=j
  ·subst e;exact h
  ·exact hno i hi (by omega)
 have hyes:jZ c l[j]=true->l.any (jZ c)=true:=λh=>List.any_eq_true.2 ⟨_,List.getElem_mem hjl,h⟩;generalize l[j]=d at *;have x2:Ext H1 (H1.new (.cells d.cells none)):=(Ext.refl _).new _;have b2:=AH.get_new_self H1 (.cells d.cells none);have e2:=e1.trans x2;have bb:=e2.cells hb;simp only[F.f37_l2,aF,hjl',decide_true,f1,f2 _ (Ext.refl _),aW,oC,aC];generalize H1.new (.cells d.cells none)=H2 at *;generalize H1.next=bd at *;simp only[bb,c0,b2,cZ,aC]
 by_cases h1:c.arg=d.arg
 rotate_left
 ·have hd:jZ c d=false:=by simp[jZ,h1]
  simp only[h1,decide_false,hjj,aC];exact hX1 _ _ ⟨rfl,e2,hstep hd⟩
 simp only[h1,decide_true,bb,c1,k1,eJ,aC]
 by_cases h2:c.op=1#8
 rotate_left
 ·have hd:jZ c d=false:=by simp[jZ,h2]
  simp only[h2,decide_false,hjj,aC];exact hX1 _ _ ⟨rfl,e2,hstep hd⟩
 simp only[h2,decide_true,b2,c1,k1,eJ,aC]
 by_cases h3:d.op=1#8
 rotate_left
 ·have hd:jZ c d=false:=by simp[jZ,h3]
  simp only[h3,decide_false,hjj,aC];exact hX1 _ _ ⟨rfl,e2,hstep hd⟩
 simp only[h3,decide_true,bb,b2,c3,aDC,aC]
 by_cases h4:c.value=d.value
 ·have hd:jZ c d=false:=by simp[jZ,h4]
  have hz:decide (c.value≠d.value)=false:=by simp[h4]
  simp only[hz,hjj,aC];exact hX1 _ _ ⟨rfl,e2,hstep hd⟩
 ·have hd:jZ c d=true:=by simp[jZ,h1,h2,h3,h4]
  have hz:decide (c.value≠d.value)=true:=by simp[h4]
  simp only[hz,aC];exact hQ (hyes hd) _ e2
theorem S.f37(hE:aX E){v:Value}{l:List bA}(hv:Rows H 4 v (gI l))(hl:l.length<2 ^ 30)(hQ:∀ H',Ext H H'->Q (vb (aBo l)) H'):E.call 95 [v] H Q:=by
 have c1:∀ c:bA,c.cells[1]? = some (u8 c.op):=λ_=>rfl;have c3:∀ c:bA,c.cells[3]? = some (u64 c.value):=λ_=>rfl;have k3:(.int .u8 3:Value)=u8 3#8:=rfl;have k5:(.int .u8 5:Value)=u8 5#8:=rfl;have k0:(.int .u64 0:Value)=u64 0#64:=rfl;have kM:(.int .u64 18446744073709551615:Value)=u64 18446744073709551615#64:=rfl;apply hE.f37;have hlv:=hv.lenSlc;rw[dL]at hlv;have i0:vi 0=vi ((0:Nat):Int):=rfl;simp only[F.f37,hlv,i0,aC];refine aZ.count l.length (λj ls H'=>ls=[v,v,vi (l.length:Int),vi j]/\Ext H H'/\aBo l=kS (l.take j) (l.drop j)) ?_ ⟨rfl,Ext.refl _,rfl⟩;rintro j _ H1 X hj hX ⟨rfl,e1,hn⟩
 by_cases hjl:j<l.length
 rotate_left
 ·have hjl':¬ (j:Int)<l.length:=by omega
  rw[List.drop_of_length_le (by omega),kS]at hn
  rw[hn]at hQ;simp only[F.f37_l1,aF,hjl',decide_false,aC];exact hQ _ e1
 have hX:=hX hjl;have hjl':(j:Int)<l.length:=by omega
 obtain⟨b,o,f1,f2⟩:=qY (hv.mono e1) hjl;have htk:l.take (j+1)=l.take j++[l[j]]:=List.take_succ_eq_append_getElem hjl;rw[List.drop_eq_getElem_cons hjl,kS,<- htk]at hn;have hpl:(l.take j).length=j:=by rw[List.length_take];omega
 obtain⟨v',s1,s2⟩:=(hv.mono e1).slice (lo:=none) (hi:=some (vi j)) (i:=0) (j:=j) (.inr ⟨rfl,rfl⟩) (.inl rfl) (by omega) (by rw[dL];omega)
 have s2:Rows H1 4 v' (gI (l.take j)):=by
  have:((gI l).take j).drop 0=gI (l.take j):=by simp[gI]
  rwa [this]at s2
 generalize l[j]=c at *;have x2:Ext H1 (H1.new (.cells c.cells none)):=(Ext.refl _).new _;have b2:=AH.get_new_self H1 (.cells c.cells none);have e2:=e1.trans x2
 have aBD:rP c=false->∀ (H3:AH),Ext H1 H3->H3.get H1.next = .cells c.cells none->F.f37_j1 E Q X v (vi j) (ptr H1.next 0) v (vi (l.length:Int)) (vi j) (vb false) H3:=by
  intro h1 H3 e3 b3
  have hs:kV 4 v none (some (vi j)) none H3=some v':=by
   have:=((hv.mono e1).mono e3).slice' (lo:=none) (hi:=some (vi j)) (i:=0) (j:=j) (.inr ⟨rfl,rfl⟩) (.inl rfl) (by omega) (by rw[dL];omega)
   have h0:=(hv.mono e1).slice' (lo:=none) (hi:=some (vi j)) (i:=0) (j:=j) (.inr ⟨rfl,rfl⟩) (.inl rfl) (by omega) (by rw[dL];omega)
   rw[h0.1]at s1;rw[this.1,s1]
  have s3:=s2.mono e3;have hl3:=s3.lenSlc;rw[dL]at hl3;simp only[F.f37_j1,hs,hl3,i0,aC];refine aJ1 hE (by omega) b3 s3 (by rw[hpl];omega) (λha H' e' =>?_) (λha H' e' =>?_)
  ·rw[hn,ha]at hQ
   simp only[Bool.or_true,Bool.true_or]at hQ;exact hQ _ ((e1.trans e3).trans e')
  ·refine hX _ _ ⟨rfl,(e1.trans e3).trans e',?_⟩
   rw[hn,h1,ha];simp
 have yes:rP c=true->∀ (H3:AH),Ext H1 H3->F.f37_j1 E Q X v (vi j) (ptr H1.next 0) v (vi (l.length:Int)) (vi j) (vb true) H3:=by
  intro h1 H3 e3;rw[hn,h1]at hQ;simp only[Bool.true_or]at hQ;simp only[F.f37_j1,aC];exact hQ _ (e1.trans e3)
 simp only[F.f37_l1,aF,hjl',decide_true,f1,f2 _ (Ext.refl _),aW,oC,aC];simp only[b2,c1,k3,eJ,aC]
 have second:(decide (c.op=3#8)&&decide (c.value=0#64))=false->(opt (aA .eql (u8 c.op) (.int .u8 5)) λv14 =>
   gO v14 true (aB (ptr H1.next 0) 3) (H1.new (.cells c.cells none)) λv15 H6 =>
   gO v14 true (aD v15 H6) H6 λv16 H7 =>
   gO v14 true (aA .eql v16 (.int .u64 18446744073709551615)) H7 λv17 H8 =>
   opt (pick v14 v17 (.bool false)) λv18=>F.f37_j1 E Q X v (vi j) (ptr H1.next 0) v (vi (l.length:Int)) (vi j) v18 H8):=by
  intro hfirst;simp only[k5,eJ,aC]
  by_cases h5:c.op=5#8
  ·simp only[h5,decide_true,b2,c3,kM,yG,aC]
   by_cases hv:c.value=18446744073709551615#64
   ·simp only[hv,decide_true,aC]
    exact yes (by simp[rP,h5,hv]) _ x2
   ·simp only[hv,decide_false,aC]
    exact aBD (by unfold rP;rw[hfirst];simp[h5,hv]) _ x2 b2
  ·simp only[h5,decide_false,aC]
   exact aBD (by unfold rP;rw[hfirst];simp[h5]) _ x2 b2
 by_cases h3:c.op=3#8
 ·simp only[h3,decide_true,b2,c3,k0,yG,aC]
  by_cases hv:c.value=0#64
  ·simp only[hv,decide_true,aC]
   exact yes (by simp[rP,h3,hv]) _ x2
  ·have:=second (by simp[hv])
   simp only[h3]at this;simp only[hv,decide_false,b2,c1,h3,aC];exact this
 ·have:=second (by simp[h3])
  simp only[h3,decide_false,b2,c1,aC];exact this
def gC(n:Nat)(H:AH)(b:dK)(cs:List Value):Prop:=b.conds.length<2 ^ 30/\∃ v,cs=[v,u32 b.action]/\Rows H 4 v (gI b.conds)/\rI n v
theorem gC.sub{n:Nat}{H H':AH}{b:dK}{cs:List Value}(h:gC n H b cs)(e:Sub H H'):gC n H' b cs:=by
 obtain⟨h0,v,h1,h2,h3⟩:=h;exact⟨h0,v,h1,h2.sub e,h3⟩
def aAP{α:Type}(R:α->List Value->Prop)(rows:List (List Value))(l:List α):Prop:=rows.length=l.length/\∀ i (h1:i<l.length) (h2:i<rows.length),R l[i] rows[i]
theorem aAP.nil{α:Type}(R:α->List Value->Prop):aAP R [] ([]:List α):=⟨rfl,λi h=>by simp at h⟩
theorem aAP.snoc{α:Type}{R:α->List Value->Prop}{rows:List (List Value)}{l:List α}(h:aAP R rows l){r:List Value}{x:α}(hr:R x r):aAP R (rows++[r]) (l++[x]):=by
 obtain⟨h0,h⟩:=h;refine⟨by simp[h0],λi h1 h2 =>?_⟩
 by_cases hi:i<l.length
 ·rw[List.getElem_append_left hi,List.getElem_append_left (by omega)]
  exact h i hi (by omega)
 ·have:i=l.length:=by simp at h1;omega
  subst this;simp only[List.getElem_append_right (Nat.le_refl l.length)];simp only[Nat.sub_self,List.getElem_cons_zero]
  have:(rows++[r])[l.length]'h2=r:=by
   rw[List.getElem_append_right (by omega)]
   simp[h0]
  rw[this];exact hr
theorem aAP.imp{α:Type}{R R':α->List Value->Prop}{rows:List (List Value)}{l:List α}(h:aAP R rows l)(hi:∀ a c,R a c->R' a c):aAP R' rows l:=⟨h.1,λi h1 h2=>hi _ _ (h.2 i h1 h2)⟩
theorem S.f36(hE:aX E){v:Value}{l:List dI}(hv:cO dM H 3 v l)(hl:l.length<2 ^ 30)(hc:∀ r∈l,r.conds.length<2 ^ 20)(hQ:∀ v' H',Ext H H'->cO (gC H.next) H' 2 v' (dX l)->rI H.next v'->Q v' H'):E.call 66 [v] H Q:=by
 apply hE.f36;have hlv:=hv.lenSlc;have i0:vi 0=vi ((0:Nat):Int):=rfl;simp only[F.f36,hlv,i0,aC]
 refine aZ.count l.length (λj ls H'=>∃ w out rows Z,ls=[w,v,vi (l.length:Int),vi j]/\Has H Z H' [aY 2 w rows]/\aAP (gC H.next Z) rows out/\dX l=out++dX (l.drop j)/\out.length<=j) ?_
  ⟨bY,[],[],zH,rfl,(Has.begin (Ext.refl H) ⟨Nat.zero_le _,λb hb=>(hb (nF b)).elim⟩).nils 2,aAP.nil _,rfl,by simp⟩
 rintro j _ H1 X hj hX ⟨w,out,rows,Z,rfl,g,hea,hb,hol⟩
 have fin:dX l=out->Q w H1:=by
  intro he;refine hQ w _ g.ext ?_ λb hb=>((g.all (aY 2 w rows) (by simp)).2 b (gW.2 hb)).1
  rw[he];exact⟨rows,g.rows (k:=0) rfl,hea.1,λi h1 h2=>(hea.2 i h1 h2).sub g.sub⟩
 by_cases hjl:j<l.length
 rotate_left
 ·have hjl':¬ (j:Int)<l.length:=by omega
  rw[List.drop_of_length_le (by omega),dX,List.append_nil]at hb
  simp only[F.f36_l1,aF,hjl',decide_false,aC];exact fin hb
 have hX:=hX hjl;have hjl':(j:Int)<l.length:=by omega
 have hjj:=bE (i:=j) (by omega)
 obtain⟨b,o,cs,f1,f2,f3⟩:=(hv.mono (λ_ _ _ _ h e=>dM.mono h e) g.ext).ix (i:=j) hjl;rw[List.drop_eq_getElem_cons hjl,dX]at hb;have hcl:=hc _ (List.getElem_mem hjl);generalize l[j]=r at *;obtain⟨hrl,cv,rfl,hcv⟩:=f3;have hpl:=hcv.plain;have lo1:aE 3 (ptr b o) H1=some (.agg [u32 r.number,u32 r.action,cv].toArray):=by rw[aJ,f2];rfl
 have g2:=g.newbox [u32 r.number,u32 r.action,cv]
 have st2:aH 3 (ptr H1.next 0) (.agg [u32 r.number,u32 r.action,cv].toArray) (H1.new (.cells [(.int .u32 0),(.int .u32 0),(.slice none 0 0)] none))=some (H1.new (.cells [u32 r.number,u32 r.action,cv] none)):=by
  rw[cM,AH.get_new_self];have h3:AM.aT [(.int .u32 0),(.int .u32 0),(.slice none 0 0)] 0 [u32 r.number,u32 r.action,cv]=[u32 r.number,u32 r.action,cv]:=rfl;have h4:[u32 r.number,u32 r.action,cv].all plain1=true:=by simp[hpl]
  have h5:[u32 r.number,u32 r.action,cv].length=3:=rfl;simp only[List.size_toArray,List.toList_toArray,h4,h5,List.length_cons,List.length_nil,Nat.zero_add,Nat.le_refl,and_self,if_true,h3,AH.new_put]
 have x2:Ext H1 (H1.new (.cells [u32 r.number,u32 r.action,cv] none)):=(Ext.refl _).new _;have b2:=AH.get_new_self H1 (.cells [u32 r.number,u32 r.action,cv] none);simp only[F.f36_l1,aF,hjl',decide_true,f1,lo1,aW,st2,aC];have hcv2:=hcv.mono x2;generalize H1.new (.cells [u32 r.number,u32 r.action,cv] none)=H2 at *;generalize H1.next=br at *;simp only[b2,aW,aC];have g3:=g2.newbox [(.slice none 0 0),(.int .u32 0)];have x3:Ext H2 (H2.new (.cells [(.slice none 0 0),(.int .u32 0)] none)):=(Ext.refl _).new _;have b3:=AH.get_new_self H2 (.cells [(.slice none 0 0),(.int .u32 0)] none);have hcv3:=hcv2.mono x3;have b23:=x3.cells b2;generalize H2.new (.cells [(.slice none 0 0),(.int .u32 0)] none)=H3 at *;generalize H2.next=bb at *;refine S.f39 hE hcv3 (by omega) λtv H4 e4 tr tf =>?_
 have b4:=e4.cells b3;have b24:=e4.cells b23;obtain⟨Z4,fz,g4,keep⟩:=g3.callee e4;have tr4:=keep _ _ _ tr tf;have htl:(oK r.conds).length<=r.conds.length:=by have:=aAJ r.conds [];simpa[oK] using this
 have hn3:H.next<=H3.next:=g3.ext.1;have tf0:rI H.next tv:=λb hb=>Nat.le_trans hn3 (tf b hb);have htp:=tr.plain
 have hbv:aK [(0,1),(1,1)] #[(.slice none 0 0),(.int .u32 0)] [(0,tv),(1,u32 r.action)]=some (.agg [tv,u32 r.action].toArray):=by
  have hd:=aBS htp;have hvc:=yT htp;simp[hd,hvc,aT]
 have st4:aH 2 (ptr bb 0) (.agg [tv,u32 r.action].toArray) H4=some (H4.put bb (.cells [tv,u32 r.action] none)):=by
  rw[cM,b4];have h3:AM.aT [(.slice none 0 0),(.int .u32 0)] 0 [tv,u32 r.action]=[tv,u32 r.action]:=rfl;have h4:[tv,u32 r.action].all plain1=true:=by simp[htp]
  simp only[List.size_toArray,List.toList_toArray,h4,List.length_cons,List.length_nil,Nat.zero_add,Nat.le_refl,and_self,if_true,h3]
 have g5:=g4.put (k:=2) (b:=bb) rfl [tv,u32 r.action];refine⟨by rw[b4,b3],by rw[eM,eM,b24,b2],?_⟩
 simp only[hbv,st4,aC];generalize H4.put bb (.cells [tv,u32 r.action] none)=H5 at *;have g5:Has H Z4 H5 [aY 2 w rows,bF br [u32 r.number,u32 r.action,cv],bF bb [tv,u32 r.action]]:=g5;have b5:=g5.box (k:=2) (b:=bb) rfl;have tr5:=tr4.sub g5.sub;simp only[b5,aC];refine S.f37 hE tr5 (by omega) λH6 e6 =>?_
 have g6:=g5.grow e6;have hea4:aAP (gC H.next Z4) rows out:=hea.imp λa c h=>h.sub fz.1;cases hnv:aBo (oK r.conds) with
 | true =>
  rw[if_pos hnv]at hb;simp only[hjj,aC];exact hX _ _ ⟨w,out,rows,Z4,rfl,(g6.drop 2).drop 1,hea4,hb,by omega⟩
 | false =>
  rw[if_neg (by rw[hnv];decide)]at hb
  have b6:=g6.box (k:=2) (b:=bb) rfl;have lo6:aE 2 (ptr bb 0) H6=some (.agg [tv,u32 r.action].toArray):=by rw[aJ,b6];rfl
  have hbS:bO 1 2 #[(.slice none 0 0),(.int .u32 0)] [(0,.agg [tv,u32 r.action].toArray)]=some (.cells [tv,u32 r.action] none,fC 1 1):=cX 2 [bY,u32 0#32] _ rfl rfl;obtain⟨w',H7,a1,a2,g7⟩:=g6.app1 (k:=0) (bytes:=32) rfl [tv,u32 r.action] rfl (by simp[htp]) (by decide) (by decide) (by rw[hea.1];omega)
  have g7:Has H Z4 H7 [aY 2 w' (rows++[[tv,u32 r.action]]),bF br [u32 r.number,u32 r.action,cv],bF bb [tv,u32 r.action]]:=g7;have b7:=g7.box (k:=2) (b:=bb) rfl;have hlt:=tr4.lenSlc;rw[dL]at hlt;have hea7:aAP (gC H.next Z4) (rows++[[tv,u32 r.action]]) (out++[⟨oK r.conds,r.action⟩]):=hea4.snoc ⟨by show(oK r.conds).length<_;omega,tv,rfl,tr4,tf0⟩
  simp only[lo6,hbS,AM.aQ,cL,a1,nZ,b7,hlt,cZ,aC]
  by_cases h0:oK r.conds=[]
  ·rw[if_pos h0]at hb
   have hz:decide (((oK r.conds).length:Int)=0)=true:=by rw[h0];rfl
   simp only[hz,aC];refine hQ w' _ g7.ext ?_ λb hb=>((g7.all (aY 2 w' (rows++[[tv,u32 r.action]])) (by simp)).2 b (gW.2 hb)).1
   rw[hb,<- h0];exact⟨_,g7.rows (k:=0) rfl,hea7.1,λi h1 h2=>(hea7.2 i h1 h2).sub g7.sub⟩
  ·rw[if_neg h0]at hb
   have hz:decide (((oK r.conds).length:Int)=0)=false:=by
    rw[decide_eq_false_iff_not];intro h;exact h0 (List.length_eq_zero_iff.1 (by omega))
   simp only[hz,hjj,aC];exact hX _ _ ⟨w',_,_,Z4,rfl,(g7.drop 2).drop 1,hea7,by rw[hb];simp,by simp;omega⟩
end
end
section
open Go.Sort (swp SWO PermIn SortedIn)
section
variable {α:Type}[Inhabited α]{sz:Nat}{enc:α->List Value}{H H' H'':AH}{b c n:Nat}{d d':Array α}{tail:List Value}{f:Option Nat}
def fX(enc:α->List Value)(d:Array α)(tail:List Value)(f:Option Nat):cT := .cells (d.toList.flatMap enc++tail) f
structure fO(sz:Nat)(enc:α->List Value):Prop where
 len:∀ x,(enc x).length=sz
 plain:∀ x,(enc x).all plain1=true
theorem bU{i:Nat}(h:i<n):aI sz (slc b 0 n c) (vi (i:Int))=some (ptr b (i*sz)):=by
 rw[uC _ _ _ _ _ _ h,Nat.zero_add]
theorem fO.flat(he:fO sz enc):∀ l:List α,(l.flatMap enc).length=l.length*sz
 | []=>by simp
 | x :: l=>by
  rw[List.flatMap_cons,List.length_append,he.len,he.flat l,List.length_cons,Nat.succ_mul,Nat.add_comm]
theorem aM(he:fO sz enc)(hg:H.get b=fX enc d tail f){i:Nat}(hi:i<d.size):aE sz (ptr b (i*sz)) H=some (.agg (enc d[i]!).toArray):=by
 have hle:i*sz+sz<=d.size*sz:=by rw[<- Nat.succ_mul];exact Nat.mul_le_mul_right _ hi
 have hl:(d.toList.flatMap enc).length=d.size*sz:=by rw[he.flat d.toList];simp
 rw[aJ,hg,fX,kR,if_pos (by rw[List.length_append,hl];omega)]
 have hp:=lI (d.toList.map enc) (sz:=sz) (λr hr=>by obtain⟨x,_,rfl⟩:=List.mem_map.1 hr;exact he.len x) i (by simpa using hi)
 rw[<- List.flatMap_def]at hp;rw[List.drop_append_of_le_length (by omega),List.take_append_of_le_length (by rw[List.length_drop];omega),hp]
 simp[hi]
theorem aDO(A B v:List Value)(k:Nat):aT (A++B) (A.length+k) v=A++aT B k v:=by
 unfold aT;rw[List.take_length_add_append,Nat.add_assoc,List.drop_length_add_append,List.append_assoc,List.append_assoc];simp only[List.append_assoc]
theorem aAx(he:fO sz enc):∀ (l:List α) (i:Nat) (x:α) (tail:List Value),i<l.length->aT (l.flatMap enc++tail) (i*sz) (enc x)=(l.set i x).flatMap enc++tail
 | [],i,x,tail,h=>by simp at h
 | y :: l,0,x,tail,h=>by
  have h1:=he.len x;have h2:=he.len y;simp only[Nat.zero_mul,aT,List.take_zero,List.nil_append,Nat.zero_add,List.set_cons_zero,List.flatMap_cons,h1,List.append_assoc];rw[<- h2,List.drop_left]
 | y :: l,i+1,x,tail,h=>by
  have h1:=he.len y;have ih:=aAx he l i x tail (by simpa using h)
  simp only[List.set_cons_succ,List.flatMap_cons,List.append_assoc];rw[<- ih,show(i+1)*sz=(enc y).length+i*sz by rw[h1,Nat.succ_mul,Nat.add_comm],aDO]
theorem aC0(he:fO sz enc)(hg:H.get b=fX enc d tail f){i:Nat}(hi:i<d.size)(x:α):aH sz (ptr b (i*sz)) (.agg (enc x).toArray) H=some (H.put b (fX enc (d.setIfInBounds i x) tail f)):=by
 have hle:i*sz+sz<=d.size*sz:=by rw[<- Nat.succ_mul];exact Nat.mul_le_mul_right _ hi
 have hl:(d.toList.flatMap enc).length=d.size*sz:=by rw[he.flat d.toList];simp
 rw[cM,hg,fX];simp only[List.size_toArray,List.toList_toArray,he.len,he.plain];rw[if_pos ⟨trivial,by rw[List.length_append,hl];omega,trivial⟩,aAx he _ _ _ _ (by simpa using hi)]
 simp only[fX,Array.toList_setIfInBounds]
theorem sO(hg:H.get b=fX enc d tail f):b<H.next:=AH.lt_cells hg
theorem eV(he:fO sz enc)(hg:H.get b=fX enc d tail f){i j:Nat}(hi:i<d.size)(hj:j<d.size):
  aH sz (ptr b (i*sz)) (.agg (enc d[j]!).toArray) H=some (H.put b (fX enc (d.setIfInBounds i d[j]!) tail f)) /\
  aH sz (ptr b (j*sz)) (.agg (enc d[i]!).toArray) (H.put b (fX enc (d.setIfInBounds i d[j]!) tail f))=some (H.put b (fX enc (swp d i j) tail f)):=by
 refine⟨aC0 he hg hi _,?_⟩;rw[aC0 he (AH.get_put_self _ _ (sO hg)) (by simpa using hj),AH.put_put]
 rfl
structure bC(H:AH)(b:Nat)(enc:α->List Value)(tail:List Value)(f:Option Nat)(d':Array α)(H':AH):Prop where
 only:dU [b] H H'
 get:H'.get b=fX enc d' tail f
theorem bC.refl(hg:H.get b=fX enc d tail f):bC H b enc tail f d H:=⟨dU.refl _ _,hg⟩
theorem bC.trans(h:bC H b enc tail f d H')(h':bC H' b enc tail f d' H''):bC H b enc tail f d' H'':=⟨h.only.trans' h'.only,h'.get⟩
theorem bC.put(h:bC H b enc tail f d H')(d':Array α):bC H b enc tail f d' (H'.put b (fX enc d' tail f)) :=
 ⟨h.only.put (.inl (by simp)) _,AH.get_put_self _ _ (sO h.get)⟩
theorem bC.ext(h:bC H b enc tail f d H')(e:Ext H' H''):bC H b enc tail f d H'' :=
 ⟨h.only.trans' e.only,by rw[e.get (sO h.get)];exact h.get⟩
def jF(E:Sy)(fv:Value)(enc:α->List Value)(LT:α->α->Bool):Prop:=∀ (x y:α) (H:AH) (K:Value->AH->Prop),(∀ (z:Int) H',Ext H H'->decide (z<0)=LT x y->K (vi z) H')->fQ E.call fv [.agg (enc x).toArray,.agg (enc y).toArray] H K
end
section
variable {α:Type}[Inhabited α](rk:α->Nat)
def ltK(x y:α):Bool:=decide (rk x<rk y)
theorem aHl:SWO (ltK rk):=⟨λx=>by simp[ltK],λx y z=>by simp only[ltK,decide_eq_true_eq];omega,λx y z=>by simp only[ltK,decide_eq_false_iff_not];omega⟩
def dE(l l':List α):Prop:=∀ k,l'.filter (λx=>decide (rk x=k))=l.filter λx=>decide (rk x=k)
theorem dE.refl(l:List α):dE rk l l:=λ_=>rfl
theorem dE.trans{l l' l'':List α}(h:dE rk l l')(h':dE rk l' l''):dE rk l l'':=λk=>(h' k).trans (h k)
theorem dE.app{a a' b b':List α}(h:dE rk a a')(h':dE rk b b'):dE rk (a++b) (a'++b'):=λk=>by rw[List.filter_append,List.filter_append,h k,h' k]
theorem dE.swap2{x y:α}(h:rk x≠rk y)(p q:List α):dE rk (p++x :: y :: q) (p++y :: x :: q):=by
 refine(dE.refl rk p).app rk λk =>?_
 by_cases h1:rk x=k
 ·have h2:¬ rk y=k:=λe=>h (h1.trans e.symm)
  simp[List.filter_cons,h1,h2]
 ·simp[List.filter_cons,h1]
theorem aJX(d:Array α){j:Nat}(h:j+1<d.size):∃ p q,d.toList=p++d[j]! :: d[j+1]! :: q/\(swp d (j+1) j).toList=p++d[j+1]! :: d[j]! :: q/\p.length=j:=by
 have h1:d.toList=d.toList.take j++d[j]! :: d[j+1]! :: d.toList.drop (j+2):=by
  conv=>lhs;rw[<- List.take_append_drop j d.toList]
  congr 1
  rw[List.drop_eq_getElem_cons (by simpa using Nat.lt_of_succ_lt h),List.drop_eq_getElem_cons (by simpa using h)]
  have e1:d[j]! = d.toList[j]'(by simpa using Nat.lt_of_succ_lt h):=by
   rw[getElem!_pos d j (by omega)];simp
  have e2:d[j+1]! = d.toList[j+1]'(by simpa using h):=by
   rw[getElem!_pos d (j+1) h];simp
  rw[e1,e2]
 refine⟨_,_,h1,?_,by rw[List.length_take,Array.length_toList];omega⟩
 unfold Go.Sort.swp;rw[Array.toList_setIfInBounds,Array.toList_setIfInBounds];generalize d[j]! = x at *;generalize d[j+1]! = y at *;have hl:(d.toList.take j).length=j:=by rw[List.length_take,Array.length_toList];omega
 rw[h1];generalize d.toList.drop (j+2)=q;generalize d.toList.take j=p at *;subst hl;rw[List.set_append_right _ _ (by omega),List.set_append_right _ _ (by omega)]
 simp
theorem vB(a:Nat):∀ (j:Nat) (d:Array α),j<d.size->dE rk d.toList (Go.Sort.insInner (ltK rk) a j d).toList/\(Go.Sort.insInner (ltK rk) a j d).size=d.size
 | 0,d,_=>⟨dE.refl rk _,rfl⟩
 | j+1,d,h=>by
  rw[Go.Sort.insInner]
  split
  ·rename_i hc
   simp only[Bool.and_eq_true,ltK,decide_eq_true_eq]at hc;obtain⟨p,q,h1,h2,_⟩:=aJX d h;have ih:=vB a j (swp d (j+1) j) (by rw[Go.Sort.size_swp];omega)
   rw[Go.Sort.size_swp]at ih;refine⟨dE.trans rk ?_ ih.1,ih.2⟩;rw[h1,h2];exact dE.swap2 rk (by omega) p q
  ·exact⟨dE.refl rk _,rfl⟩
theorem vP(a b:Nat):∀ (m i:Nat) (d:Array α),b - i<=m->b<=d.size->dE rk d.toList (Go.Sort.insOuter (ltK rk) a b i d).toList
 | 0,i,d,h,hb=>by
  rw[Go.Sort.insOuter,if_neg (by omega)]
  exact dE.refl rk _
 | m+1,i,d,h,hb=>by
  rw[Go.Sort.insOuter]
  split
  ·rename_i hc
   obtain⟨h1,h2⟩:=vB rk a i d (by omega)
   exact dE.trans rk h1 (vP a b m (i+1) _ (by omega) (by omega))
  ·exact dE.refl rk _
theorem oN(d:Array α)(a b:Nat)(hb:b<=d.size):dE rk d.toList (Go.Sort.insertionSort (ltK rk) d a b).toList:=vP rk a b _ _ d (Nat.le_refl _) hb
def fU(l:List α):Nat->List α
 | 0=>[]
 | n+1=>fU l n++l.filter λx=>decide (rk x=n)
theorem tM:∀ (l:List α),l.Pairwise (λx y=>rk x<=rk y)->∀ n,l.filter (λx=>decide (rk x<n+1))=l.filter (λx=>decide (rk x<n))++l.filter λx=>decide (rk x=n)
 | [],_,n=>rfl
 | x :: l,hs,n=>by
  have hx:=List.pairwise_cons.1 hs;have ih:=tM l hx.2 n
  by_cases h1:rk x<n
  ·rw[List.filter_cons_of_pos (by simpa using Nat.lt_succ_of_lt h1),List.filter_cons_of_pos (by simpa using h1),List.filter_cons_of_neg (by simp;omega),ih]
   rfl
  ·have hnone:(x :: l).filter (λx=>decide (rk x<n))=[]:=by
    rw[List.filter_eq_nil_iff];intro y hy;simp only[decide_eq_true_eq];rcases List.mem_cons.1 hy with rfl | hy
    ·exact h1
    ·have:=hx.1 y hy;omega
   have hnone2:l.filter (λx=>decide (rk x<n))=[]:=by
    rw[List.filter_eq_nil_iff];intro y hy;simp only[decide_eq_true_eq];have:=hx.1 y hy;omega
   rw[hnone,List.nil_append];rw[hnone2,List.nil_append]at ih
   by_cases h2:rk x=n
   ·rw[List.filter_cons_of_pos (by simp;omega),List.filter_cons_of_pos (by simpa using h2),ih]
   ·rw[List.filter_cons_of_neg (by simp;omega),List.filter_cons_of_neg (by simpa using h2),ih]
theorem vK(l:List α)(hs:l.Pairwise λx y=>rk x<=rk y):∀ n,l.filter (λx=>decide (rk x<n))=fU rk l n
 | 0=>by simp[fU]
 | n+1=>by rw[fU,<- vK l hs n,tM rk l hs n]
theorem aAL{l l':List α}(h:dE rk l l'):∀ n,fU rk l' n=fU rk l n
 | 0=>rfl
 | n+1=>by rw[fU,fU,aAL h n,h n]
theorem aDh{l l':List α}(h:dE rk l l')(hs:l'.Pairwise λx y=>rk x<=rk y){n:Nat}(hn:∀ x∈l',rk x<n):l'=fU rk l n:=by
 rw[<- aAL rk h,<- vK rk l' hs n,List.filter_eq_self.2];intro x hx
 simpa using hn x hx
theorem yE{d:Array α}(h:SortedIn (ltK rk) 0 d.size d):d.toList.Pairwise λx y=>rk x<=rk y:=by
 rw[List.pairwise_iff_getElem];intro i j hi hj hij;have hi':i<d.size:=by simpa using hi
 have hj':j<d.size:=by simpa using hj
 have:=h i j (Nat.zero_le _) hij hj';rw[getElem!_pos d i hi',getElem!_pos d j hj']at this;simp only[ltK,decide_eq_false_iff_not]at this;simp only[Array.getElem_toList];omega
end
end
section
open Go.Sort
set_option maxRecDepth 20000
section
variable {α:Type}[Inhabited α]{E:Sy}{H H':AH}{Q:Value->AH->Prop}{b c n:Nat}{enc:α->List Value}{LT:α->α->Bool}{fv:Value}{d:Array α}{tail:List Value}{f:Option Nat}
theorem S.f118(hE:aX E)(he:fO 3 enc)(hC:jF E fv enc LT)(hg:H.get b=fX enc d tail f)(hn:d.size=n)(hsz:n<2 ^ 60)(a e:Nat)(hae:a<=e)(hle:e<=n)(hQ:∀ H',bC H b enc tail f (insertionSort LT d a e) H'->Q (.tuple #[]) H'):E.call 115 [slc b 0 n c,vi a,vi e,fv] H Q:=by
 apply hE.f118;have a1:aA .add (vi a) (vi 1)=some (vi ((a+1:Nat):Int)):=cN a (by omega)
 simp only[F.f118,a1,aC];unfold insertionSort at hQ;obtain⟨R,hR⟩:∃ R,R=insOuter LT a e (a+1) d:=⟨_,rfl⟩;rw[<- hR]at hQ;refine aZ.ind (λm l H'=>∃ (j:Nat) (d':Array α),l=[slc b 0 n c,vi a,vi e,fv,vi j]/\bC H b enc tail f d' H'/\d'.size=n/\R=insOuter LT a e j d'/\a<j/\m=e - j) ?_ (e - (a+1)) ⟨a+1,d,rfl,.refl hg,hn,hR,by omega,rfl⟩
 rintro m _ H1 X hX ⟨j,d1,rfl,s1,n1,r1,haj,rfl⟩;unfold insOuter at r1
 by_cases hj:j<e
 ·rw[if_pos hj]at r1
  have hj':(j:Int)<e:=by omega
  have hjj:aA .add (vi j) (vi 1)=some (vi ((j+1:Nat):Int)):=cN j (by omega)
  simp only[F.f118_l1,aF,hj',decide_true,aC];refine aZ.ind (λm l H2=>∃ (k:Nat) (d2:Array α),l=[slc b 0 n c,vi a,vi e,fv,vi j,vi k]/\bC H b enc tail f d2 H2/\d2.size=n/\insInner LT a j d1=insInner LT a k d2/\k<=j/\m=k) ?_ j ⟨j,d1,rfl,s1,n1,rfl,Nat.le_refl _,rfl⟩;rintro m _ H2 X1 hX1 ⟨k,d2,rfl,s2,n2,r2,hkj,rfl⟩
  have done:insInner LT a m d2=d2->∀ H3,Ext H2 H3->X [slc b 0 n c,vi a,vi e,fv,vi ((j+1:Nat):Int)] H3:=by
   intro e2 H3 e3;rw[e2]at r2;rw[r2]at r1;exact hX (e - (j+1)) (by omega) _ _ ⟨j+1,d2,rfl,s2.ext e3,n2,r1,by omega,rfl⟩
  by_cases hka:a<m
  ·obtain⟨k,rfl⟩:∃ k,m=k+1:=⟨m - 1,by omega⟩
   have hka':(a:Int)<((k+1:Nat):Int):=by omega
   have f1:aI 3 (slc b 0 n c) (vi ((k+1:Nat):Int))=some (ptr b ((k+1)*3)):=bU (by omega)
   have f2:aI 3 (slc b 0 n c) (vi (k:Int))=some (ptr b (k*3)):=bU (by omega)
   have g1:=aM he s2.get (i:=k+1) (by omega)
   have g2:=aM he s2.get (i:=k) (by omega)
   have hd:aA .sub (vi ((k+1:Nat):Int)) (vi 1)=some (vi (k:Int)):=eH (k+1) (by omega) (by omega)
   simp only[F.f118_l2,cI,gt_iff_lt,hka',decide_true,f1,f2,g1,g2,hd,aC];refine hC _ _ _ _ λz H3 e3 hz =>?_;have s3:=s2.ext e3;have g1:=aM he s3.get (i:=k+1) (by omega)
   have g2:=aM he s3.get (i:=k) (by omega)
   obtain⟨w1,w2⟩:=eV he s3.get (i:=k+1) (j:=k) (by omega) (by omega)
   simp only[aF,hz,aC];have hka2:k+1 > a:=hka;cases hl:LT d2[k+1]! d2[k]! with
   | true =>
    rw[insInner,if_pos (by simp[hka2,hl])]at r2
    simp only[hd,f1,f2,g1,g2,w1,w2,aC];exact hX1 k (by omega) _ _ ⟨k,_,rfl,s3.put _,by rw[size_swp];exact n2,r2,by omega,rfl⟩
   | false =>
    simp only[hjj,aC];exact done (by rw[insInner,if_neg (by simp[hl])]) _ e3
  ·have hka':¬ (a:Int)<(m:Int):=by omega
   simp only[F.f118_l2,cI,gt_iff_lt,hka',decide_false,hjj,aC];refine done ?_ _ (Ext.refl _);cases m with
   | zero=>rfl
   | succ k=>rw[insInner,if_neg (by simp;omega)]
 ·rw[if_neg hj]at r1
  subst r1;have hj':¬ (j:Int)<e:=by omega
  simp only[F.f118_l1,aF,hj',decide_false,aC];exact hQ _ s1
theorem S.slices_SortStableFunc_few(hE:aX E)(he:fO 3 enc)(hC:jF E fv enc LT)(hg:H.get b=fX enc d tail f)(hn:d.size=n)(hsz:n<20)(hQ:∀ H',bC H b enc tail f (insertionSort LT d 0 n) H'->Q (.tuple #[]) H'):E.call 62 [slc b 0 n c,fv] H Q:=by
 apply hE.f113;simp only[F.f113,nR,aC];apply hE.f130;simp only[F.f130];have h20:¬ (20:Int)<=(n:Int):=by omega
 have h21:¬ (20:Int)<(n:Int):=by omega
 refine aZ.step λX _ =>?_;simp only[F.f130_l1,cS,h20,decide_false,aC];have i0:vi 0=vi ((0:Nat):Int):=rfl;rw[i0];refine S.f118 hE he hC hg hn (by omega) 0 n (Nat.zero_le _) (Nat.le_refl _) λH' s =>?_
 refine aZ.step λX _ =>?_;simp only[F.f130_l2,aF,h21,decide_false,aC];exact hQ _ s
end
end
section
open Go.Sort
set_option maxRecDepth 20000
section
variable {α:Type}[Inhabited α]{E:Sy}{H H':AH}{Q:Value->AH->Prop}{b c n:Nat}{enc:α->List Value}{LT:α->α->Bool}{fv:Value}{d:Array α}{tail:List Value}{f:Option Nat}
theorem S.f117(hE:aX E)(he:fO 2 enc)(hC:jF E fv enc LT)(hg:H.get b=fX enc d tail f)(hn:d.size=n)(hsz:n<2 ^ 60)(a e:Nat)(hae:a<=e)(hle:e<=n)(hQ:∀ H',bC H b enc tail f (insertionSort LT d a e) H'->Q (.tuple #[]) H'):E.call 119 [slc b 0 n c,vi a,vi e,fv] H Q:=by
 apply hE.f117;have a1:aA .add (vi a) (vi 1)=some (vi ((a+1:Nat):Int)):=cN a (by omega)
 simp only[F.f117,a1,aC];unfold insertionSort at hQ;obtain⟨R,hR⟩:∃ R,R=insOuter LT a e (a+1) d:=⟨_,rfl⟩;rw[<- hR]at hQ;refine aZ.ind (λm l H'=>∃ (j:Nat) (d':Array α),l=[slc b 0 n c,vi a,vi e,fv,vi j]/\bC H b enc tail f d' H'/\d'.size=n/\R=insOuter LT a e j d'/\a<j/\m=e - j) ?_ (e - (a+1)) ⟨a+1,d,rfl,.refl hg,hn,hR,by omega,rfl⟩
 rintro m _ H1 X hX ⟨j,d1,rfl,s1,n1,r1,haj,rfl⟩;unfold insOuter at r1
 by_cases hj:j<e
 ·rw[if_pos hj]at r1
  have hj':(j:Int)<e:=by omega
  have hjj:aA .add (vi j) (vi 1)=some (vi ((j+1:Nat):Int)):=cN j (by omega)
  simp only[F.f117_l1,aF,hj',decide_true,aC];refine aZ.ind (λm l H2=>∃ (k:Nat) (d2:Array α),l=[slc b 0 n c,vi a,vi e,fv,vi j,vi k]/\bC H b enc tail f d2 H2/\d2.size=n/\insInner LT a j d1=insInner LT a k d2/\k<=j/\m=k) ?_ j ⟨j,d1,rfl,s1,n1,rfl,Nat.le_refl _,rfl⟩;rintro m _ H2 X1 hX1 ⟨k,d2,rfl,s2,n2,r2,hkj,rfl⟩
  have done:insInner LT a m d2=d2->∀ H3,Ext H2 H3->X [slc b 0 n c,vi a,vi e,fv,vi ((j+1:Nat):Int)] H3:=by
   intro e2 H3 e3;rw[e2]at r2;rw[r2]at r1;exact hX (e - (j+1)) (by omega) _ _ ⟨j+1,d2,rfl,s2.ext e3,n2,r1,by omega,rfl⟩
  by_cases hka:a<m
  ·obtain⟨k,rfl⟩:∃ k,m=k+1:=⟨m - 1,by omega⟩
   have hka':(a:Int)<((k+1:Nat):Int):=by omega
   have f1:aI 2 (slc b 0 n c) (vi ((k+1:Nat):Int))=some (ptr b ((k+1)*2)):=bU (by omega)
   have f2:aI 2 (slc b 0 n c) (vi (k:Int))=some (ptr b (k*2)):=bU (by omega)
   have g1:=aM he s2.get (i:=k+1) (by omega)
   have g2:=aM he s2.get (i:=k) (by omega)
   have hd:aA .sub (vi ((k+1:Nat):Int)) (vi 1)=some (vi (k:Int)):=eH (k+1) (by omega) (by omega)
   simp only[F.f117_l2,cI,gt_iff_lt,hka',decide_true,f1,f2,g1,g2,hd,aC];refine hC _ _ _ _ λz H3 e3 hz =>?_;have s3:=s2.ext e3;have g1:=aM he s3.get (i:=k+1) (by omega)
   have g2:=aM he s3.get (i:=k) (by omega)
   obtain⟨w1,w2⟩:=eV he s3.get (i:=k+1) (j:=k) (by omega) (by omega)
   simp only[aF,hz,aC];have hka2:k+1 > a:=hka;cases hl:LT d2[k+1]! d2[k]! with
   | true =>
    rw[insInner,if_pos (by simp[hka2,hl])]at r2
    simp only[hd,f1,f2,g1,g2,w1,w2,aC];exact hX1 k (by omega) _ _ ⟨k,_,rfl,s3.put _,by rw[size_swp];exact n2,r2,by omega,rfl⟩
   | false =>
    simp only[hjj,aC];exact done (by rw[insInner,if_neg (by simp[hl])]) _ e3
  ·have hka':¬ (a:Int)<(m:Int):=by omega
   simp only[F.f117_l2,cI,gt_iff_lt,hka',decide_false,hjj,aC];refine done ?_ _ (Ext.refl _);cases m with
   | zero=>rfl
   | succ k=>rw[insInner,if_neg (by simp;omega)]
 ·rw[if_neg hj]at r1
  subst r1;have hj':¬ (j:Int)<e:=by omega
  simp only[F.f117_l1,aF,hj',decide_false,aC];exact hQ _ s1
theorem S.slices_SortFunc_few(hE:aX E)(hS:SWO LT)(he:fO 2 enc)(hC:jF E fv enc LT)(hg:H.get b=fX enc d tail f)(hn:d.size=n)(hsz:n<=12)(hQ:∀ d' H',PermIn 0 n d d'->SortedIn LT 0 n d'->bC H b enc tail f d' H'->Q (.tuple #[]) H'):E.call 67 [slc b 0 n c,fv] H Q:=by
 apply hE.f112;have e1:(BitVec.ofNat 64 n).toNat=n:=by rw[BitVec.toNat_ofNat,Nat.mod_eq_of_lt (by omega)]
 have hc:aS .u64 (vi (n:Int))=some (u64 (BitVec.ofNat 64 n)):=by rw[kL,BitVec.ofInt_natCast]
 simp only[F.f112,nR,hc,aC];refine S.f66 hE _ (by rw[e1];omega) ?_
 apply hE.f126;simp only[F.f126];have i0:vi 0=vi ((0:Nat):Int):=rfl;rw[i0];refine aZ.step λX _ =>?_
 have a1:aA .sub (vi (n:Int)) (vi ((0:Nat):Int))=some (vi (n:Int)):=by
  rw[iF (by omega) (by omega)];simp
 have c12:(n:Int)<=12:=by omega
 simp only[F.f126_l1,a1,cS,c12,decide_true,aC];refine S.f117 hE he hC hg hn (by omega) 0 n (Nat.zero_le _) (Nat.le_refl _) λH' s =>?_
 obtain⟨h1,h2⟩:=insertionSort_holds hS d 0 n (Nat.zero_le _) (by omega)
 exact hQ _ _ h1 h2 s
theorem S.slices_SortFunc_nil(hE:aX E)(hQ:Q (.tuple #[]) H):E.call 67 [bY,fv] H Q:=by
 apply hE.f112;have hc:aS .u64 (vi 0)=some (u64 0#64):=by rw[kL];rfl
 have hl:AM.lenSlc bY=some (vi 0):=rfl;simp only[F.f112,hl,hc,aC];refine S.f66 hE _ (by decide) ?_
 apply hE.f126;simp only[F.f126];refine aZ.step λX _ =>?_;have a1:aA .sub (vi 0) (vi 0)=some (vi 0):=iF (by decide) (by decide)
 simp only[F.f126_l1,a1,cS,show((0:Int)<=12)=True by simp,decide_true,aC]
 apply hE.f117;have ha:aA .add (vi 0) (vi 1)=some (vi 1):=eB (by decide) (by decide)
 simp only[F.f117,ha,aC];refine aZ.step λX _ =>?_;have h10:¬ (1:Int)<0:=by decide
 simp only[F.f117_l1,aF,h10,decide_false,aC];exact hQ
end
end
section
open Go.Sort (SWO PermIn SortedIn insertionSort)
set_option maxRecDepth 20000
abbrev PlV:={v:Value // plain1 v=true}
structure cC where
 r:dI
 v:PlV
def cC.cells(x:cC):List Value:=[u32 x.r.number,u32 x.r.action,x.v.1]
instance:Inhabited cC:=⟨⟨⟨0,0,[]⟩,⟨bY,rfl⟩⟩⟩
structure fB where
 c:cV
 v:PlV
def fB.cells(x:fB):List Value:=[u32 x.c.number,x.v.1]
instance:Inhabited fB:=⟨⟨⟨0,[]⟩,⟨bY,rfl⟩⟩⟩
theorem qC:fO 3 cC.cells:=⟨λ_=>rfl,λx=>by simp[cC.cells,x.v.2]⟩
theorem aBp:fO 2 fB.cells:=⟨λ_=>rfl,λx=>by simp[fB.cells,x.v.2]⟩
def rkR(x:cC):Nat:=jC x.r.action
def ltC(x y:fB):Bool:=decide (x.c.number.toNat<y.c.number.toNat)
theorem aHs:SWO ltC:=⟨λx=>by simp[ltC],λx y z=>by simp only[ltC,decide_eq_true_eq];omega,λx y z=>by simp only[ltC,decide_eq_false_iff_not];omega⟩
def gJ(n:Nat)(H:AH)(c:cV)(cs:List Value):Prop:=∃ v,cs=[u32 c.number,v]/\cO (gC n) H 2 v c.branches
def oY(H:AH)(p:iJ)(cs:List Value):Prop:=∃ v,cs=[v,u32 p.default]/\cO (gJ 0) H 2 v p.cases
theorem rI.zero(v:Value):rI 0 v:=λ_ _=>Nat.zero_le _
theorem gJ.sub{n:Nat}{H H':AH}{c:cV}{cs:List Value}(h:gJ n H c cs)(e:Sub H H'):gJ n H' c cs:=by
 obtain⟨v,h1,h2⟩:=h;exact⟨v,h1,h2.sub (λ_ _ _ _ h e=>gC.sub h e) e⟩
section
variable {E:Sy}{H H' H0 Z:AH}{Q:Value->AH->Prop}{L:List Res}
theorem aCL{v:Value}{l:List dI}(h:cO dM H 3 v l):∃ es:List cC,es.map cC.r=l/\Rows H 3 v (es.map cC.cells)/\∀ e∈es,dM H e.r e.cells:=by
 obtain⟨rows,h1,h2,h3⟩:=h
 have key:∀ (l:List dI) (rows:List (List Value)),rows.length=l.length->(∀ i (h1:i<l.length) (h2:i<rows.length),dM H l[i] rows[i])->∃ es:List cC,es.map cC.r=l/\es.map cC.cells=rows/\∀ e∈es,dM H e.r e.cells:=by
  intro l
  induction l with
  | nil =>
   intro rows h1 _;have:rows=[]:=List.length_eq_zero_iff.1 h1;subst this;exact⟨[],rfl,rfl,by simp⟩
  | cons r l ih =>
   intro rows h1 h2
   match rows,h1 with
   | row :: rows,h1 =>
    obtain⟨es,e1,e2,e3⟩:=ih rows (by simpa using h1) λi a b=>h2 (i+1) (by simpa using a) (by simpa using b)
    have h0:=h2 0 (by simp) (by simp)
    simp only[List.getElem_cons_zero]at h0;obtain⟨hl,cv,hc,hr⟩:=id h0;have he:cC.cells ⟨r,⟨cv,hr.plain⟩⟩=row:=by rw[hc];rfl
    refine⟨⟨r,⟨cv,hr.plain⟩⟩ :: es,by simp[e1],by simp[e2,he],λe hm =>?_⟩
    rcases List.mem_cons.1 hm with rfl | hm
    ·rw[he];exact h0
    ·exact e3 e hm
 obtain⟨es,e1,e2,e3⟩:=key l rows h2 h3;exact⟨es,e1,by rw[e2];exact h1,e3⟩
theorem aCv{v:Value}{es:List cC}(h:Rows H 3 v (es.map cC.cells))(ha:∀ e∈es,dM H e.r e.cells):cO dM H 3 v (es.map cC.r) :=
 ⟨_,h,by simp,λi h1 h2=>by
  simp only[List.getElem_map];exact ha _ (List.getElem_mem _)⟩
theorem aC5(hE:aX E):jF E (.func (.func 63) #[] #[]) cC.cells (ltK rkR):=by
 intro x y H K hK;rw[rK];simp only[List.nil_append,List.append_nil];apply hE.f31;have x2:Ext H ((H.new (.cells x.cells none)).new (.cells y.cells none)):=((Ext.refl _).new _).new _;have b1:((H.new (.cells x.cells none)).new (.cells y.cells none)).get H.next = .cells x.cells none:=by rw[AH.get_new_ne _ _ (by rw[AH.next_new];omega),AH.get_new_self]
 have b2:((H.new (.cells x.cells none)).new (.cells y.cells none)).get (H.next+1) = .cells y.cells none:=AH.get_new_self (H.new _) _;have c1:∀ z:cC,z.cells[1]? = some (u32 z.r.action):=λ_=>rfl;simp only[F.f31,aV,AM.aQ,aR,List.toList_toArray,AH.next_new_z,b1,b2,c1,aC];refine S.f38 hE _ λH3 e3 =>?_;refine⟨by rw[eM,eM,e3.cells b2];simp only[hU,b2],?_⟩
 refine S.f38 hE _ λH4 e4 =>?_;refine S.f6 hE _ _ ?_;refine hK _ _ (x2.trans (e3.trans e4)) ?_;unfold aOb ltK rkR
 by_cases h:jC x.r.action<jC y.r.action
 ·rw[if_pos (by omega)];simp[h]
 ·rw[if_neg (by omega)]
  split<;>simp[h]
theorem aCY(hE:aX E):jF E (.func (.func 68) #[] #[]) fB.cells ltC:=by
 intro x y H K hK;rw[rK];simp only[List.nil_append,List.append_nil];apply hE.f32;have x2:Ext H ((H.new (.cells x.cells none)).new (.cells y.cells none)):=((Ext.refl _).new _).new _;have b1:((H.new (.cells x.cells none)).new (.cells y.cells none)).get H.next = .cells x.cells none:=by rw[AH.get_new_ne _ _ (by rw[AH.next_new];omega),AH.get_new_self]
 have b2:((H.new (.cells x.cells none)).new (.cells y.cells none)).get (H.next+1) = .cells y.cells none:=AH.get_new_self (H.new _) _;have c0:∀ z:fB,z.cells[0]? = some (u32 z.c.number):=λ_=>rfl;simp only[F.f32,aV,AM.aQ,aR,List.toList_toArray,AH.next_new_z,b1,b2,c0,aC];refine S.f7 hE _ _ ?_;refine hK _ _ x2 ?_;unfold aCM ltC
 by_cases h:x.c.number.toNat<y.c.number.toNat
 ·rw[if_pos h];simp[h]
 ·rw[if_neg h]
  split<;>simp[h]
def kI(E:Sy)(m:Nat):Prop:=∀ {H:AH} {Q:Value->AH->Prop} {b c:Nat} {d:Array fB} {tail:List Value} {f:Option Nat},H.get b=fX fB.cells d tail f->d.size<=m ->
 (∀ d' H',PermIn 0 d.size d d'->SortedIn ltC 0 d.size d'->bC H b fB.cells tail f d' H'->Q (.tuple #[]) H')->E.call 67 [slc b 0 d.size c,.func (.func 68) #[] #[]] H Q
def jP(E:Sy)(m:Nat):Prop:=∀ {H:AH} {Q:Value->AH->Prop} {b c:Nat} {d:Array cC} {tail:List Value} {f:Option Nat},H.get b=fX cC.cells d tail f->d.size<=m ->
 (∀ d' H',d'.toList=fU rkR d.toList 4->bC H b cC.cells tail f d' H'->Q (.tuple #[]) H')->E.call 62 [slc b 0 d.size c,.func (.func 63) #[] #[]] H Q
theorem aG2(hE:aX E):kI E 12:=λhg hm hQ=>S.slices_SortFunc_few hE aHs aBp (aCY hE) hg rfl hm hQ
theorem aMr(x:cC):rkR x<4:=by have:=(qL x.r.action).1;unfold rkR;omega
theorem aGc(hE:aX E):jP E 19:=fun {H Q b c d tail f} hg hm hQ=>by
 refine S.slices_SortStableFunc_few hE qC (aC5 hE) hg rfl (by omega) λH' s=>hQ _ _ ?_ s
 obtain⟨h1,h2⟩:=Go.Sort.insertionSort_holds (aHl rkR) d 0 d.size (Nat.zero_le _) (Nat.le_refl _);have hsz:=h1.1;have h2:SortedIn (ltK rkR) 0 (insertionSort (ltK rkR) d 0 d.size).size (insertionSort (ltK rkR) d 0 d.size):=by rw[hsz];exact h2
 exact aDh rkR (oN rkR d 0 d.size (Nat.le_refl _)) (yE rkR h2) λx _=>aMr x
theorem dJ.arrE{α:Type}[Inhabited α]{enc:α->List Value}{sz:Nat}{v:Value}{l:List α}(h:dJ zH H sz v (l.map enc))(he:fO sz enc)(hne:l≠[]):
  ∃ b c tail f,v=slc b 0 l.length c/\H.get b=fX enc l.toArray tail f/\∀ (d':Array α) H',d'.size=l.length->bC H b enc tail f d' H'->Upd (aY sz v (l.map enc)) (aY sz v (d'.toList.map enc)) H H':=by
 rcases h.2 with ⟨h0,_⟩ | ⟨b,f,c,cs,g1,rfl,g3,g4,g5,g6,g7⟩
 ·exact(hne (List.map_eq_nil_iff.1 h0)).elim
 ·rw[List.length_map]at g4 g6 ⊢
  have hfl:(l.map enc).flatten=l.flatMap enc:=(List.flatMap_def).symm;rw[hfl]at g6
  have hcs:cs=l.flatMap enc++cs.drop (l.length*sz):=by
   conv=>lhs;rw[<- List.take_append_drop (l.length*sz) cs,g6]
  refine⟨b,c,cs.drop (l.length*sz),f,rfl,by rw[g3];unfold fX;rw[<- hcs],λd' H' hd s=>⟨?_,?_,?_,by have h:=wN (slc b 0 l.length c);exact h⟩⟩
  ·exact s.only
  ·refine⟨λr hr =>?_,.inr ⟨b,f,c,d'.toList.flatMap enc++cs.drop (l.length*sz),g1,?_,s.get,?_,?_,?_,g7⟩⟩
   ·obtain⟨x,_,rfl⟩:=List.mem_map.1 hr
    exact⟨he.len x,he.plain x⟩
   ·simp[hd]
   ·simp[hd,g4]
   ·have h1:(d'.toList.flatMap enc).length=l.length*sz:=by rw[he.flat];simp[hd]
    have h2:=he.flat l;have h3:=congrArg List.length hcs;rw[List.length_append,h2]at h3;rw[List.length_append,h1];omega
   ·have h1:(d'.toList.flatMap enc).length=l.length*sz:=by rw[he.flat];simp[hd]
    rw[List.length_map,show d'.toList.length=l.length by simp[hd],<- h1,List.take_left]
    exact List.flatMap_def
  ·intro x hx
   refine⟨.inl hx,?_⟩
   have hb:x=b:=by
    have:lM (slc b 0 l.length c)=[b]:=rfl;have hx:x∈lM (slc b 0 l.length c):=hx;rw[this]at hx
    simpa using hx
   subst hb;exact sO s.get
end
end
section
open Go.Sort (SWO PermIn SortedIn insertionSort)
set_option maxRecDepth 20000
structure dR where
 n:BitVec 32
 v:PlV
 l:List cC
def dR.kv(e:dR):BitVec 32×PlV:=(e.n,e.v)
def pQ(e:dR):Res:=aY 3 e.v.1 (e.l.map cC.cells)
def pv(v:PlV):Value:=v.1
def aD6(es:List cC)(n:BitVec 32):List cC:=es.filter λx=>decide (x.r.number=n)
structure Grp(es:List cC)(al:List dR):Prop where
 nd:(al.map dR.n).Nodup
 all:∀ e∈al,e.l=aD6 es e.n/\e.l≠[]
 mem:∀ x∈es,x.r.number∈al.map dR.n
section
variable {E:Sy}{H H' H0 Z:AH}{Q:Value->AH->Prop}{L:List Res}
theorem aCW:∀ (al:List dR) (n:BitVec 32),bB n (al.map dR.kv)=(al.find? λe=>decide (n=e.n)).map dR.v
 | [],n=>rfl
 | e :: al,n=>by
  rw[List.map_cons,eL,List.find?_cons]
  by_cases h:n=e.n
  ·simp[h,dR.kv]
  ·simp[h,dR.kv,aCW al n]
theorem uG(es:List cC)(x:cC)(n:BitVec 32):aD6 (es++[x]) n=if x.r.number=n then aD6 es n++[x] else aD6 es n:=by
 unfold aD6;rw[List.filter_append]
 by_cases h:x.r.number=n<;>simp[h]
theorem Grp.old{es:List cC}{al:List dR}(g:Grp es al){x:cC}{i:Nat}(hi:i<al.length)(hn:al[i].n=x.r.number)(v':PlV):Grp (es++[x]) (al.set i ⟨al[i].n,v',al[i].l++[x]⟩):=by
 have hnm:(al.set i ⟨al[i].n,v',al[i].l++[x]⟩).map dR.n=al.map dR.n:=by
  rw[List.map_set]
  show(al.map dR.n).set i al[i].n=_
  have:=List.set_getElem_self (as:=al.map dR.n) (i:=i) (by simpa using hi)
  rw[List.getElem_map]at this;exact this
 refine⟨by rw[hnm];exact g.nd,λe he =>?_,λy hy =>?_⟩
 ·obtain⟨j,hj,rfl⟩:=List.getElem_of_mem he
  have hj':j<al.length:=by simpa using hj
  rw[List.getElem_set]
  split
  ·rename_i hij
   subst hij;obtain⟨h1,_⟩:=g.all _ (List.getElem_mem hi);refine⟨?_,by simp⟩
   simp only;rw[uG,if_pos hn.symm,h1]
  ·rename_i hij
   obtain⟨h1,h2⟩:=g.all _ (List.getElem_mem hj');refine⟨?_,h2⟩;rw[uG,if_neg,h1];intro e;have hnd:=g.nd;have:=(List.getElem_inj (xs:=al.map dR.n) (i:=i) (j:=j) (h₀:=by simpa using hi) (h₁:=by simpa using hj') hnd).1 (by rw[List.getElem_map,List.getElem_map,hn,e])
   exact hij this
 ·rw[hnm]
  rcases List.mem_append.1 hy with hy | hy
  ·exact g.mem y hy
  ·simp only[List.mem_singleton]at hy
   subst hy;rw[<- hn];exact List.mem_map.2 ⟨_,List.getElem_mem hi,rfl⟩
theorem Grp.new{es:List cC}{al:List dR}(g:Grp es al){x:cC}(hn:x.r.number ∉ al.map dR.n)(v':PlV):Grp (es++[x]) (al++[⟨x.r.number,v',[x]⟩]):=by
 have hno:aD6 es x.r.number=[]:=by
  unfold aD6;rw[List.filter_eq_nil_iff];intro y hy;simp only[decide_eq_true_eq];intro e;exact hn (by rw[<- e];exact g.mem y hy)
 refine⟨?_,λe he =>?_,λy hy =>?_⟩
 ·rw[List.map_append,List.nodup_append]
  exact⟨g.nd,by simp,λa ha b hb=>by simp at hb;subst hb;rintro rfl;exact hn ha⟩
 ·rcases List.mem_append.1 he with he | he
  ·obtain⟨h1,h2⟩:=g.all e he
   refine⟨?_,h2⟩;rw[uG,if_neg,h1];intro e';exact hn (by rw[e'];exact List.mem_map.2 ⟨e,he,rfl⟩)
  ·simp only[List.mem_singleton]at he
   subst he;refine⟨?_,by simp⟩
   simp only;rw[uG,if_pos rfl,hno]
   rfl
 ·rw[List.map_append]
  rcases List.mem_append.1 hy with hy | hy
  ·exact List.mem_append_left _ (g.mem y hy)
  ·simp only[List.mem_singleton]at hy
   subst hy;simp
theorem aAl:∀ (al:List dR) (i:Nat) (hi:i<al.length) (v':PlV) (l':List cC),(al.map dR.n).Nodup->fE al[i].n v' (al.map dR.kv)=(al.set i ⟨al[i].n,v',l'⟩).map dR.kv
 | e :: al,0,hi,v',l',_=>by simp[fE,dR.kv]
 | e :: al,i+1,hi,v',l',hnd=>by
  have hi':i<al.length:=by simpa using hi
  rw[List.map_cons,List.nodup_cons]at hnd;have hne:¬ e.n=al[i].n:=λh=>hnd.1 (by rw[h];exact List.mem_map.2 ⟨_,List.getElem_mem hi',rfl⟩)
  have ih:=aAl al i hi' v' l' hnd.2;simp only[List.getElem_cons_succ,List.map_cons,List.set_cons_succ,fE];have h0:(e.kv).1=e.n:=rfl;rw[h0,if_neg hne,ih]
theorem aAz:∀ (al:List dR) (n:BitVec 32) (v':PlV),n ∉ al.map dR.n->fE n v' (al.map dR.kv)=al.map dR.kv++[(n,v')]
 | [],n,v',_=>rfl
 | e :: al,n,v',h=>by
  simp only[List.map_cons,List.mem_cons,not_or]at h;have h0:(e.kv).1=e.n:=rfl;rw[List.map_cons,fE,h0,if_neg (λx=>h.1 x.symm),aAz al n v' h.2]
  rfl
def gL(t2 t3 r:Nat)(c2 c3:List Value)(al:List dR):List Res:=[bF t2 c2,bF t3 c3,eU u32 pv r (al.map dR.kv)]++al.map pQ
theorem aJj(x:cC)(H:AH):aH 3 (ptr H.next 0) (.agg x.cells.toArray) (H.new (.cells [(.int .u32 0),(.int .u32 0),(.slice none 0 0)] none))=some (H.new (.cells x.cells none)):=by
 rw[cM,AH.get_new_self];have h3:AM.aT [(.int .u32 0),(.int .u32 0),(.slice none 0 0)] 0 x.cells=x.cells:=rfl;have h4:x.cells.all plain1=true:=qC.plain x;have h5:x.cells.length=3:=rfl;simp only[List.size_toArray,List.toList_toArray,h4,h5,List.length_cons,List.length_nil,Nat.zero_add,Nat.le_refl,and_self,if_true,h3,AH.new_put]
theorem aNv{t2 t3 r:Nat}{c2 c3:List Value}{al:List dR}{es:List cC}(g:Has H0 Z H (gL t2 t3 r c2 c3 al))(gr:Grp es al)(hlen:es.length<1000)(x:cC){R:AH->Prop}(next:∀ al' H',Has H0 Z H' (gL t2 t3 r c2 c3 al')->Grp (es++[x]) al'->R H'){b4:Nat}(hb4:b4=H.next):
  opt (look 0 (.slice none 0 0) false (.map (some r)) (u32 x.r.number) (H.new (.cells x.cells none))) λv9 =>
  gN (app 3 32 v9 (slc (H.next+1) 0 1 1) ((H.new (.cells x.cells none)).new (.cells x.cells none))) λv12 H4 =>
  aD (ptr b4 0) H4=aD (ptr b4 0) (H.new (.cells x.cells none))/\opt (eO 0 (.map (some r)) (u32 x.r.number) v12 H4) λH5=>R H5:=by
 subst hb4;have g2:=g.newbox x.cells;have hbl:(gL t2 t3 r c2 c3 al).length=3+al.length:=by simp[gL];omega
 have hm:=g2.mapAt (k:=2) (fk:=u32) (fv:=pv) (r:=r) (l:=al.map dR.kv) (by simp[gL])
 have hl:=hm.look (kd:=0) lE x.r.number (.slice none 0 0) false;have hl2:(al.map dR.kv).lookup x.r.number=(al.find? λe=>decide (x.r.number=e.n)).map dR.v:=aCW al x.r.number;rw[hl2]at hl
 have hbx:∀ {L':List Res} {H'':AH},Has H0 Z H'' L'->L'[3+al.length]? = some (bF H.next x.cells)->aD (ptr H.next 0) H''=aD (ptr H.next 0) (H.new (.cells x.cells none)):=by
  intro L' H'' g' h';rw[eM,eM,g'.box h',AH.get_new_self]
 have hnx:(H.new (.cells x.cells none)).next=H.next+1:=rfl;cases hf:al.find? λe=>decide (x.r.number=e.n) with
 | some e =>
  rw[hf]at hl;have hl:look 0 (.slice none 0 0) false (.map (some r)) (u32 x.r.number) (H.new (.cells x.cells none))=some e.v.1:=hl;obtain⟨h1,i,hi,rfl,_⟩:=List.find?_eq_some_iff_getElem.1 hf;simp only[decide_eq_true_eq]at h1
  have hk:(gL t2 t3 r c2 c3 al++[bF H.next x.cells])[3+i]? = some (aY 3 al[i].v.1 (al[i].l.map cC.cells)):=by
   rw[List.getElem?_append_left (by rw[hbl];omega)]
   simp only[gL];rw[List.getElem?_append_right (by simp)]
   simp[hi,pQ]
  have hle:al[i].l.length<=es.length:=by rw[(gr.all _ (List.getElem_mem hi)).1];exact List.length_filter_le _ _
  obtain⟨v',H4,a1,a2,g4⟩:=g2.app1 (k:=3+i) (bytes:=32) hk x.cells rfl (qC.plain x) (by decide) (by decide) (by rw[List.length_map];omega)
  rw[hnx]at a1;simp only[hl,a1,aC]
  have hset:(gL t2 t3 r c2 c3 al++[bF H.next x.cells]).set (3+i) (aY 3 v' (al[i].l.map cC.cells++[x.cells]))=[bF t2 c2,bF t3 c3,eU u32 pv r (al.map dR.kv)]++((al.set i ⟨al[i].n,⟨v',a2⟩,al[i].l++[x]⟩).map pQ++[bF H.next x.cells]):=by
   rw[List.set_append_left _ _ (by rw[hbl];omega)]
   simp only[gL];rw[List.set_append_right _ _ (by simp),List.append_assoc]
   congr 2
   rw[List.map_set];simp[pQ]
  rw[hset]at g4;have hbq:=hbx g4 (by rw[List.getElem?_append_right (by simp),List.getElem?_append_right (by simp),List.length_map,List.length_set,show 3+al.length - [bF t2 c2,bF t3 c3,eU u32 pv r (al.map dR.kv)].length - al.length=0 by simp];rfl)
  refine⟨hbq,?_⟩;obtain⟨H5,m1,g5⟩:=g4.mapset (n:=2) (r:=r) (l:=al.map dR.kv) (fk:=u32) (fv:=pv) (by simp) lE x.r.number ⟨v',a2⟩
  have m1:eO 0 (.map (some r)) (u32 x.r.number) v' H4=some H5:=m1;simp only[m1,aC];rw[h1,aAl al i hi ⟨v',a2⟩ (al[i].l++[x]) gr.nd]at g5;have g6:=g5.drop (3+al.length);refine next (al.set i ⟨al[i].n,⟨v',a2⟩,al[i].l++[x]⟩) H5 ?_ (gr.old hi h1.symm ⟨v',a2⟩)
  have he:(([bF t2 c2,bF t3 c3,eU u32 pv r (al.map dR.kv)]++((al.set i ⟨al[i].n,⟨v',a2⟩,al[i].l++[x]⟩).map pQ++[bF H.next x.cells])).set 2 (eU u32 pv r ((al.set i ⟨al[i].n,⟨v',a2⟩,al[i].l++[x]⟩).map dR.kv))).eraseIdx (3+al.length)=gL t2 t3 r c2 c3 (al.set i ⟨al[i].n,⟨v',a2⟩,al[i].l++[x]⟩):=by
   simp only[gL,List.cons_append,List.nil_append,List.set_cons_succ,List.set_cons_zero];rw[show 3+al.length=al.length+1+1+1 by omega,List.eraseIdx_cons_succ,List.eraseIdx_cons_succ,List.eraseIdx_cons_succ,List.eraseIdx_append_of_length_le (by simp)]
   simp
  rw[he]at g6;exact g6
 | none =>
  rw[hf]at hl;have hl:look 0 (.slice none 0 0) false (.map (some r)) (u32 x.r.number) (H.new (.cells x.cells none))=some bY:=hl
  have hno:x.r.number ∉ al.map dR.n:=by
   intro hm;obtain⟨e,he,hen⟩:=List.mem_map.1 hm;rw[List.find?_eq_none]at hf;have:=hf e he;simp[hen]at this
  have g3:=g2.nils 3;obtain⟨v',H4,a1,a2,g4⟩:=g3.app1 (k:=3+al.length+1) (sz:=3) (v:=bY) (rows:=[]) (bytes:=32) (by rw[List.getElem?_append_right (by rw[List.length_append,hbl];simp)];simp[hbl]) x.cells rfl (qC.plain x) (by decide) (by decide) (by simp)
  rw[hnx]at a1;simp only[hl,a1,aC]
  have hset:(gL t2 t3 r c2 c3 al++[bF H.next x.cells]++[aY 3 bY []]).set (3+al.length+1) (aY 3 v' ([]++[x.cells]))=gL t2 t3 r c2 c3 al++[bF H.next x.cells]++[pQ ⟨x.r.number,⟨v',a2⟩,[x]⟩]:=by
   rw[List.set_append_right _ _ (by rw[List.length_append,hbl];simp)]
   simp[hbl,pQ]
  rw[hset]at g4;have hbq:=hbx g4 (by rw[List.getElem?_append_left (by rw[List.length_append,hbl];simp),List.getElem?_append_right (by rw[hbl];omega)];simp[hbl])
  refine⟨hbq,?_⟩;obtain⟨H5,m1,g5⟩:=g4.mapset (n:=2) (r:=r) (l:=al.map dR.kv) (fk:=u32) (fv:=pv) (by simp[gL]) lE x.r.number ⟨v',a2⟩
  have m1:eO 0 (.map (some r)) (u32 x.r.number) v' H4=some H5:=m1;simp only[m1,aC];rw[aAz al x.r.number ⟨v',a2⟩ hno]at g5;have g6:=g5.drop (3+al.length);refine next (al++[⟨x.r.number,⟨v',a2⟩,[x]⟩]) H5 ?_ (gr.new hno ⟨v',a2⟩)
  have he:((gL t2 t3 r c2 c3 al++[bF H.next x.cells]++[pQ ⟨x.r.number,⟨v',a2⟩,[x]⟩]).set 2 (eU u32 pv r (al.map dR.kv++[(x.r.number,⟨v',a2⟩)]))).eraseIdx (3+al.length)=gL t2 t3 r c2 c3 (al++[⟨x.r.number,⟨v',a2⟩,[x]⟩]):=by
   simp only[gL,List.cons_append,List.nil_append,List.set_cons_succ,List.set_cons_zero,List.append_assoc];rw[show 3+al.length=al.length+1+1+1 by omega,List.eraseIdx_cons_succ,List.eraseIdx_cons_succ,List.eraseIdx_cons_succ,List.eraseIdx_append_of_length_le (by simp)]
   simp[dR.kv]
  rw[he]at g6;exact g6
end
end
end Go.AM
