/- CONTRACTS ON THE PRINTED FUNCTIONS. -/
import Derived.Test.YtlfflgnaoelplaaGreatDoorV1207C2
set_option linter.all false
namespace Go.AM
section
set_option maxRecDepth 20000
structure aI1 where
 M:List aX
 nx:Int
 e:Int
def iS(T:Tr)(M:List aX)(nx:Int)(a b:aG):aI1 :=
 if gK T M a=false\/gK T M b=false then⟨M,nx,20⟩
 else if(T.node a.i).links=0\/(T.node b.i).links=0 then⟨M,nx,2⟩
 else⟨(dJ M nx a.i b).T,(dJ M nx a.i b).nx,(dJ M nx a.i b).e⟩
def tF(T:Tr)(n:BitVec 16)(at_ many:Int):List (BitVec 8)×Int :=
 if(T.node n).kind=0#8 then([],2) else if(T.node n).kind=2#8 then([],21) else if(T.node n).kind≠1#8\/at_<0\/many<0 then([],22)
 else if((T.node n).data.length:Int)<=at_ then([],0)
 else(((T.node n).data.take (at_.toNat+min many.toNat ((T.node n).data.length - at_.toNat))).drop at_.toNat,0)
def mB(x:Nd):Nat:=if x.kind=1#8 then x.data.length else if x.kind=2#8 then x.ents.length else if x.kind=3#8 then x.text.length else 0
section
variable {X:List Res}{E:Sy}{H H' H0:AH}{Q:Value->AH->Prop}{w:Nat}{T:Tr}{M:List aX}{nx:Int}{v:Value}
theorem lV{p:aG}(h:gK T M p=true):(T.node p.i).kind=2#8:=by
 unfold gK at h;simp only[Bool.and_eq_true,decide_eq_true_eq]at h;exact h.2
theorem S.f120(hE:bF E)(h:WkO X H0 H w T M nx)(a b:aG)(tok:sW (dJ M nx a.i b).T (dJ M nx a.i b).nx)(hQ:∀ H',WkO X H0 H' w T (iS T M nx a b).M (iS T M nx a b).nx->Q (vi (iS T M nx a b).e) H'):E.call 28 [ptr w 0,a.v,b.v] H Q:=by
 apply hE.f120;have h2:=(h.box a.cells).box b.cells;have h2:WkO ((X++[bE H.next a.cells])++[bE (H.next+1) b.cells]) H0 ((H.new (.cells a.cells none)).new (.cells b.cells none)) w T M nx:=h2;simp only[F.f120,fQ,AM.cX,fK,List.toList_toArray,fN,aI];generalize (H.new (.cells a.cells none)).new (.cells b.cells none)=H2 at *;have la:∀ {H'},H'.get H.next = .cells a.cells none->aH 2 (ptr H.next 0) H'=some a.v:=λe=>by rw[aQ,e];rfl
 have lb:∀ {H'},H'.get (H.next+1) = .cells b.cells none->aH 2 (ptr (H.next+1) 0) H'=some b.v:=λe=>by rw[aQ,e];rfl
 have nt:un .not (vb true)=some (vb false):=rfl;have nf:un .not (vb false)=some (vb true):=rfl;unfold iS at hQ;simp only[la h2.held2,aI];refine S.f130 hE h2.at_ a λH3 e3 =>?_;have h3:=h2.mono e3;cases hda:gK T M a with
 | false =>
  rw[if_pos (.inl hda)]at hQ;simp only[nf,aI];exact hQ _ h3.drop.drop
 | true =>
 simp only[nt,lb h3.held,aI];refine S.f130 hE h3.at_ b λH4 e4 =>?_;have h4:=h3.mono e4;cases hdb:gK T M b with
 | false =>
  rw[if_pos (.inr hdb)]at hQ;simp only[nf,aI];exact hQ _ h4.drop.drop
 | true =>
 rw[if_neg (by rw[hda,hdb];simp)]at hQ
 have ka:=lV hda;have kb:=lV hdb;have a1:a.cells[1]? = some (u16 a.i):=rfl;have b1:b.cells[1]? = some (u16 b.i):=rfl;obtain⟨p,q,hw,⟨m,L,hi,_⟩,_⟩:=h4.open_;have hA:=h4.held2;have hB:=h4.held;simp only[nt,hw,hA,a1,aI];refine S.f8 hE hi a.i ?_;rcases hi.get a.i with ⟨k0,_⟩ | ⟨kk,yy,k0,k1,k3,k4,k5⟩
 ·rw[ka]at k0;exact absurd k0 (by decide)
 rw[bG hi.cov.nd k1];have d6:(inC a.i (T.node a.i) yy)[6]? = some (vi (T.node a.i).links):=rfl;have i0:(.int .i64 0:Value)=vi 0:=rfl
 by_cases hla:(T.node a.i).links=0
 ·rw[if_pos (.inl hla)]at hQ
  have s1:aA .eql (vi (T.node a.i).links) (vi 0)=some (vb true):=by rw[hla];exact uW 0
  simp only[k4,d6,i0,s1,aI];exact hQ _ h4.drop.drop
 have s1:aA .eql (vi (T.node a.i).links) (vi 0)=some (vb false):=by rw[aW];simp[hla]
 simp only[k4,d6,i0,s1,hw,hB,b1,aI];refine S.f8 hE hi b.i ?_;rcases hi.get b.i with ⟨k0',_⟩ | ⟨kk',yy',k0',k1',k3',k4',k5'⟩
 ·rw[kb]at k0'; exact absurd k0' (by decide)
 rw[bG hi.cov.nd k1'];have d6':(inC b.i (T.node b.i) yy')[6]? = some (vi (T.node b.i).links):=rfl
 by_cases hlb:(T.node b.i).links=0
 ·rw[if_pos (.inr hlb)]at hQ
  have s2:aA .eql (vi (T.node b.i).links) (vi 0)=some (vb true):=by rw[hlb];exact uW 0
  simp only[k4',d6',i0,s2,aI];exact hQ _ h4.drop.drop
 have s2:aA .eql (vi (T.node b.i).links) (vi 0)=some (vb false):=by rw[aW];simp[hlb]
 rw[if_neg (by simp[hla,hlb])]at hQ
 obtain⟨p',q',hw',_,⟨v,ht,hnd,back⟩⟩:=h4.open_;simp only[k4',d6',i0,s2,hw',hA,a1,lb hB,aI];refine S.f34 hE q' v M nx ht hnd h4.tab a.i b λv' H1 u1 =>?_;simp only[aI];exact hQ _ (back _ _ _ _ u1 tok).drop.drop
theorem S.f123(hE:bF E)(hw:lU H w T M)(n:BitVec 16)(at_ many:Int)(hd:(T.node n).data.length<=1024)(ha : -9223372036854775808<=at_/\at_<9223372036854775808)(hm : -9223372036854775808<=many/\many<9223372036854775808)(hQ:∀ v H',Ext H H'->Rows H' 1 v (bP (tF T n at_ many).1)->Q (.tuple #[v,vi (tF T n at_ many).2]) H'):E.call 62 [ptr w 0,u16 n,vi at_,vi many] H Q:=by
 apply hE.f123;obtain⟨⟨p,m,Ly,q',nx,q1,q2,q3⟩,_⟩:=hw;simp only[F.f123,fN,q1,aI];refine S.f8 hE q2 n ?_;unfold tF at hQ;have hbn:bU dB .eql (.pointer none) (.pointer none)=some (vb true):=rfl;have rn:∀ {x:List (BitVec 8)},x=[]->Rows H 1 aZ (bP x):=λe=>by subst e;exact Rows.nil _ _ _
 rcases q2.get n with ⟨k0,_⟩ | ⟨kk,yy,k0,k1,k3,k4,k5⟩
 ·rw[dO q2.cov k0]
  rw[if_pos k0]at hQ;simp only[hbn,aI];exact hQ aZ H (Ext.refl _) (rn rfl)
 rw[bG q2.cov.nd k1];rw[if_neg k0]at hQ;have d1:(inC n (T.node n) yy)[1]? = some (u8 (T.node n).kind):=rfl;have d2:(inC n (T.node n) yy)[2]? = some yy.data:=rfl;have c1:(.int .u8 1:Value)=u8 1#8:=rfl;have c2:(.int .u8 2:Value)=u8 2#8:=rfl;have i0:(.int .i64 0:Value)=vi 0:=rfl
 by_cases h2:(T.node n).kind=2#8
 ·rw[if_pos h2]at hQ
  have s1:aA .eql (u8 (T.node n).kind) (u8 2#8)=some (vb true):=by rw[fH];simp[h2]
  simp only[fN,k4,d1,c2,s1,aI];exact hQ aZ H (Ext.refl _) (rn rfl)
 rw[if_neg h2]at hQ;have s1:aA .eql (u8 (T.node n).kind) (u8 2#8)=some (vb false):=by rw[fH];simp[h2]
 by_cases h1:(T.node n).kind=1#8
 rotate_left
 ·rw[if_pos (.inl h1)]at hQ
  have s2:aA .neq (u8 (T.node n).kind) (u8 1#8)=some (vb true):=by rw[rY];simp[h1]
  simp only[fN,k4,d1,c1,c2,s1,s2,aI];exact hQ aZ H (Ext.refl _) (rn rfl)
 have s2:aA .neq (u8 (T.node n).kind) (u8 1#8)=some (vb false):=by rw[rY];simp[h1]
 by_cases hat:at_<0
 ·rw[if_pos (.inr (.inl hat))]at hQ
  have s3:aA .lss (vi at_) (vi 0)=some (vb true):=by rw[bS];simp[hat]
  simp only[fN,k4,d1,c1,c2,s1,s2,i0,s3,aI];exact hQ aZ H (Ext.refl _) (rn rfl)
 have s3:aA .lss (vi at_) (vi 0)=some (vb false):=by rw[bS];simp[hat]
 by_cases hmn:many<0
 ·rw[if_pos (.inr (.inr hmn))]at hQ
  have s4:aA .lss (vi many) (vi 0)=some (vb true):=by rw[bS];simp[hmn]
  simp only[fN,k4,d1,c1,c2,s1,s2,i0,s3,s4,aI];exact hQ aZ H (Ext.refl _) (rn rfl)
 have s4:aA .lss (vi many) (vi 0)=some (vb false):=by rw[bS];simp[hmn]
 rw[if_neg (by simp[h1,hat,hmn])]at hQ
 have rd:=(cM.bytes (q2.node k1)).toRows;have hlen:AM.lenSlc yy.data=some (vi (T.node n).data.length):=by have:=rd.lenSlc;rw[bP,List.length_map]at this;exact this
 obtain⟨a,rfl⟩:∃ a:Nat,at_=(a:Int):=⟨at_.toNat,by omega⟩
 obtain⟨b,rfl⟩:∃ b:Nat,many=(b:Int):=⟨many.toNat,by omega⟩
 by_cases hge:(T.node n).data.length<=a
 ·rw[if_pos (by omega)]at hQ
  have s5:aA .geq (vi (a:Int)) (vi (T.node n).data.length)=some (vb true):=by rw[dL];simp;omega
  simp only[fN,k4,d1,d2,c1,c2,s1,s2,i0,s3,s4,hlen,s5,aI];exact hQ aZ H (Ext.refl _) (rn rfl)
 rw[if_neg (by omega)]at hQ
 have s5:aA .geq (vi (a:Int)) (vi (T.node n).data.length)=some (vb false):=by rw[dL];simp;omega
 have hbS:buildS 0 1 #[(.int .u8 0)] []=some (.cells [] none,eA 0 0):=by
  have:=fJ 0 1 [u8 0#8] [] [] rfl rfl rfl rfl (by simp)
  simpa using this
 have hsub:aA .sub (vi ((T.node n).data.length:Int)) (vi (a:Int))=some (vi (((T.node n).data.length - a:Nat):Int)):=by
  rw[fZ (by omega) (by omega)]
  congr 2
  omega
 have hmin:fY min2 [vi (b:Int),vi (((T.node n).data.length - a:Nat):Int)]=some (vi ((min b ((T.node n).data.length - a):Nat):Int)):=by
  rw[vZ]
  congr 2
  split<;>omega
 have hadd:aA .add (vi (a:Int)) (vi ((min b ((T.node n).data.length - a):Nat):Int))=some (vi ((a+min b ((T.node n).data.length - a):Nat):Int)):=cV a _ (by omega)
 have g1:=(Has.start (Ext.refl H)).newroom 1;have g1:Has H H (H.new (.cells [] none)) [cQ 1 (slc H.next 0 0 0) []]:=g1;have x1:Ext H (H.new (.cells [] none)):=(Ext.refl _).new _;have k4':=x1.cells k4;obtain⟨v',t1,t2⟩:=(rd.mono x1).slice (lo:=some (vi (a:Int))) (hi:=some (vi ((a+min b ((T.node n).data.length - a):Nat):Int))) (i:=a) (j:=a+min b ((T.node n).data.length - a)) (.inl rfl) (.inl rfl) (by omega) (by rw[bP,List.length_map];omega)
 have hdt:((bP (T.node n).data).take (a+min b ((T.node n).data.length - a))).drop a=bP (((T.node n).data.take (a+min b ((T.node n).data.length - a))).drop a):=by simp[bP,List.map_drop,List.map_take]
 rw[hdt]at t2
 obtain⟨v2,H2,w1,w2,w3⟩:=g1.app (k:=0) (bytes:=1) rfl t2 (λr hr=>by
  obtain⟨x,_,rfl⟩:=List.mem_map.1 hr
  rfl) (by decide) (by decide) (by rw[bP,List.length_map,List.length_drop,List.length_take];simp;omega) (by rw[bP,List.length_map,List.length_drop,List.length_take];simp;omega)
 simp only[fN,k4,d1,d2,c1,c2,s1,s2,i0,s3,s4,hlen,s5,hbS,AM.cX,eN,aI];simp only[k4',d2,hlen,hsub,hmin,hadd,t1,w1,aI];exact hQ v2 _ w3.ext (w3.rows (k:=0) rfl)
theorem S.f128(hE:bF E)(hw:lU H w T M)(n:BitVec 16)(hno:(T.node n).kind=0#8->∀ H',Ext H H'->Q (.tuple #[.agg [u16 0#16,u8 0#8,vi 0,vi 0].toArray,vi 2]) H')(hyes:(T.node n).kind≠0#8->∀ H',Ext H H'->Q (.tuple #[.agg [u16 n,u8 (T.node n).kind,vi (T.node n).links,vi (mB (T.node n))].toArray,vi 0]) H'):E.call 63 [ptr w 0,u16 n] H Q:=by
 apply hE.f128;have z4:([(.int .u16 0),(.int .u8 0),vi 0,vi 0]:List Value)=[u16 0#16,u8 0#8,vi 0,vi 0]:=rfl
 have st:∀ {K:AH} {b:Nat} {c c':List Value},K.get b = .cells c none->c.length=4->c'.length=4->c'.all plain1=true->storeN 4 (ptr b 0) (.agg c'.toArray) K=some (K.put b (.cells c' none)):=fun {K b c c'} hb hc hc' hp=>by
  rw[bJ,hb];have h3:AM.splice c 0 c'=c':=by simp[splice,hc,hc']
  simp only[List.size_toArray,List.toList_toArray,hc',hp,hc,Nat.zero_add,Nat.le_refl,and_self,if_true,h3]
 have g1:=(Has.start (Ext.refl H)).newbox [u16 0#16,u8 0#8,vi 0,vi 0];have g1:Has H H (H.new (.cells [u16 0#16,u8 0#8,vi 0,vi 0] none)) [bE H.next [u16 0#16,u8 0#8,vi 0,vi 0]]:=g1;obtain⟨⟨p,m,Ly,q',nx,q1,q2,q3⟩,_⟩:=hw.mono g1.ext;simp only[F.f128,z4,bD,fN,q1,aI];generalize H.new (.cells [u16 0#16,u8 0#8,vi 0,vi 0] none)=H1 at *;refine S.f8 hE q2 n ?_;have hbn:bU dB .eql (.pointer none) (.pointer none)=some (vb true):=rfl
 have fin:∀ (c:List Value) (x:Int) (K:AH) (rest:List Res),Has H H K (bE H.next [u16 0#16,u8 0#8,vi 0,vi 0] :: rest)->c.length=4->c.all plain1=true->(∀ H',Ext H H'->Q (.tuple #[.agg c.toArray,vi x]) H')->(opt (storeN 4 (ptr H.next 0) (.agg c.toArray) K) λH8=>opt (aH 4 (ptr H.next 0) H8) λv30=>Q (.tuple #[v30,vi x]) H8):=by
  intro c x K rest g hc hp hq;have hb:=g.box (k:=0) (b:=H.next) rfl;have g2:=g.put (k:=0) (b:=H.next) rfl c;have lo:aH 4 (ptr H.next 0) (K.put H.next (.cells c none))=some (.agg c.toArray):=by rw[aQ,g2.box (k:=0) (b:=H.next) rfl,oN _ _ 4 hc];rfl
  simp only[st hb rfl hc hp,lo,aI];exact hq _ g2.ext
 have hbz:aV [(0,1),(1,1),(2,1),(3,1)] #[(.int .u16 0),(.int .u8 0),vi 0,vi 0] []=some (.agg [u16 0#16,u8 0#8,vi 0,vi 0].toArray):=rfl;have hbz2:aV [(0,1),(1,1),(2,1),(3,1)] [u16 0#16,u8 0#8,vi 0,vi 0].toArray []=some (.agg [u16 0#16,u8 0#8,vi 0,vi 0].toArray):=rfl;rcases q2.get n with ⟨k0,_⟩ | ⟨kk,yy,k0,k1,k3,k4,k5⟩
 ·rw[dO q2.cov k0]
  simp only[hbn,hbz,hbz2,aI];exact fin [u16 0#16,u8 0#8,vi 0,vi 0] 2 H1 [] g1 rfl rfl (hno k0)
 rw[bG q2.cov.nd k1];have d1:(inC n (T.node n) yy)[1]? = some (u8 (T.node n).kind):=rfl;have d2:(inC n (T.node n) yy)[2]? = some yy.data:=rfl;have d3:(inC n (T.node n) yy)[3]? = some (.map yy.nm):=rfl;have d5:(inC n (T.node n) yy)[5]? = some (str (T.node n).text):=rfl;have d6:(inC n (T.node n) yy)[6]? = some (vi (T.node n).links):=rfl;have hbv:aV [(0,1),(1,1),(2,1),(3,1)] #[(.int .u16 0),(.int .u8 0),vi 0,vi 0] [(0,u16 n),(1,u8 (T.node n).kind),(2,vi (T.node n).links)]=some (.agg [u16 n,u8 (T.node n).kind,vi (T.node n).links,vi 0].toArray):=rfl;have hbv2:aV [(0,1),(1,1),(2,1),(3,1)] [u16 0#16,u8 0#8,vi 0,vi 0].toArray [(0,u16 n),(1,u8 (T.node n).kind),(2,vi (T.node n).links)]=some (.agg [u16 n,u8 (T.node n).kind,vi (T.node n).links,vi 0].toArray):=rfl;have g2:=g1.newbox [u16 0#16,u8 0#8,vi 0,vi 0];have g2:Has H H (H1.new (.cells [u16 0#16,u8 0#8,vi 0,vi 0] none)) [bE H.next [u16 0#16,u8 0#8,vi 0,vi 0],bE H1.next [u16 0#16,u8 0#8,vi 0,vi 0]]:=g2;have g3:=g2.put (k:=1) (b:=H1.next) rfl [u16 n,u8 (T.node n).kind,vi (T.node n).links,vi 0];have g3:Has H H ((H1.new (.cells [u16 0#16,u8 0#8,vi 0,vi 0] none)).put H1.next (.cells [u16 n,u8 (T.node n).kind,vi (T.node n).links,vi 0] none)) [bE H.next [u16 0#16,u8 0#8,vi 0,vi 0],bE H1.next [u16 n,u8 (T.node n).kind,vi (T.node n).links,vi 0]]:=g3;have e13:Ext H1 ((H1.new (.cells [u16 0#16,u8 0#8,vi 0,vi 0] none)).put H1.next (.cells [u16 n,u8 (T.node n).kind,vi (T.node n).links,vi 0] none)):=((Ext.refl _).new _).put (Nat.le_refl _) _;have hs:=st (c':=[u16 n,u8 (T.node n).kind,vi (T.node n).links,vi 0]) (g2.box (k:=1) (b:=H1.next) rfl) rfl rfl rfl;have hyes:=hyes k0;have k1c:(.int .u8 1:Value)=u8 1#8:=rfl;have k2c:(.int .u8 2:Value)=u8 2#8:=rfl;have k3c:(.int .u8 3:Value)=u8 3#8:=rfl;simp only[fN,k4,d1,d6,hbv,hbv2,z4,bD,hs,aI];generalize (H1.new (.cells [u16 0#16,u8 0#8,vi 0,vi 0] none)).put H1.next (.cells [u16 n,u8 (T.node n).kind,vi (T.node n).links,vi 0] none)=H3 at *;have k43:=e13.cells k4;have hb3:=g3.box (k:=1) (b:=H1.next) rfl
 have rd:=(cM.bytes (q2.node k1)).toRows;have hlen:AM.lenSlc yy.data=some (vi (T.node n).data.length):=by have:=rd.lenSlc;rw[bP,List.length_map]at this;exact this
 have sized:∀ z:Nat,mB (T.node n)=z->(opt (aR (ptr H1.next 3) (vi (z:Int)) H3) λH7=>opt (aH 4 (ptr H1.next 0) H7) λv29=>opt (storeN 4 (ptr H.next 0) v29 H7) λH8=>opt (aH 4 (ptr H.next 0) H8) λv30=>Q (.tuple #[v30,vi 0]) H8):=by
  intro z hz;rw[hz]at hyes;have g4:=g3.put (k:=1) (b:=H1.next) rfl [u16 n,u8 (T.node n).kind,vi (T.node n).links,vi (z:Int)];have g4:Has H H (H3.put H1.next (.cells [u16 n,u8 (T.node n).kind,vi (T.node n).links,vi (z:Int)] none)) [bE H.next [u16 0#16,u8 0#8,vi 0,vi 0],bE H1.next [u16 n,u8 (T.node n).kind,vi (T.node n).links,vi (z:Int)]]:=g4
  have hst:aR (ptr H1.next 3) (vi (z:Int)) H3=some (H3.put H1.next (.cells [u16 n,u8 (T.node n).kind,vi (T.node n).links,vi (z:Int)] none)):=by
   rw[aO,if_pos (show plain1 (vi _)=true from rfl),hb3];rfl
  have lo:aH 4 (ptr H1.next 0) (H3.put H1.next (.cells [u16 n,u8 (T.node n).kind,vi (T.node n).links,vi (z:Int)] none))=some (.agg [u16 n,u8 (T.node n).kind,vi (T.node n).links,vi (z:Int)].toArray):=by rw[aQ,g4.box (k:=1) (b:=H1.next) rfl];rfl
  simp only[hst,lo,aI];have:=fin [u16 n,u8 (T.node n).kind,vi (T.node n).links,vi (z:Int)] 0 _ _ g4 rfl rfl hyes;simp only[aI]at this;exact this
 simp only[k43,d1,k1c,fH,aI]
 by_cases h1:(T.node n).kind=1#8
 ·have:=sized (T.node n).data.length (by unfold mB;rw[if_pos h1])
  simp only[aI]at this;have s1:aA .eql (u8 (T.node n).kind) (u8 1#8)=some (vb true):=by rw[fH];simp[h1]
  simp only[decide_eq_true h1,k43,d2,hlen,aI];exact this
 by_cases h2:(T.node n).kind=2#8
 ·have:=sized (T.node n).ents.length (by unfold mB;rw[if_neg h1,if_pos h2])
  simp only[aI]at this;obtain⟨r,hr,_,_,hlm⟩:=q2.name k1 h2 [] (.int .u16 0) false
  have hlm3:iB (.map (some r)) H3=some (vi (T.node n).ents.length):=by
   have hm:=cM.names (q2.node k1) hr;have h5:=(hm.keep (e13.get hm.lt)).len;rw[k5.perm.length_eq]at h5;exact h5
  rw[hr]at d3;simp only[decide_eq_false h1,decide_eq_true h2,k2c,fH,k43,d3,hlm3,aI];exact this
 by_cases h3:(T.node n).kind=3#8
 ·have:=sized (T.node n).text.length (by unfold mB;rw[if_neg h1,if_neg h2,if_pos h3])
  simp only[aI]at this;simp only[decide_eq_false h1,decide_eq_false h2,decide_eq_true h3,k2c,k3c,fH,k43,d5,dN,aI];exact this
 ·have hz:mB (T.node n)=0:=by unfold mB;rw[if_neg h1,if_neg h2,if_neg h3]
  rw[hz]at hyes;have lo:aH 4 (ptr H1.next 0) H3=some (.agg [u16 n,u8 (T.node n).kind,vi (T.node n).links,vi 0].toArray):=by rw[aQ,hb3];rfl
  simp only[decide_eq_false h1,decide_eq_false h2,decide_eq_false h3,k2c,k3c,fH,lo,aI];have:=fin [u16 n,u8 (T.node n).kind,vi (T.node n).links,vi 0] 0 _ _ g3 rfl rfl hyes;simp only[aI]at this;exact this
end
end
section
set_option maxRecDepth 20000
section
variable {X:List Res}{E:Sy}{H H' H0:AH}{Q:Value->AH->Prop}{w:Nat}{T:Tr}{M:List aX}{nx:Int}{v:Value}
theorem xI{s:aK}(h:cP s=true):s.length<=14:=by
 simp only[cP,Bool.and_eq_true,decide_eq_true_eq]at h;exact h.1.1.2
theorem S.vfs_RightO(hE:bF E)(hw:lU H w T M)(wf:T.WF)(hM:M.length<=1000)(hQ:∀ H',Ext H H'->Q (vb (sG T M)) H'):E.call 30 [ptr w 0] H Q:=by
 have h16:=wf.len16;refine S.f126 hE hw (by omega) hM (λn e he =>?_) (λn=>by have:=wf.size n;omega) hQ
 have hok:=(wf.ents n e.1 e.2 he).2.2.1;have:e.1.length<=14:=xI hok;omega
theorem S.f53(hE:bF E)(hQ:∀ H',Ext H H'->Q (vb true) H'):E.call 4 [] H Q:=by
 apply hE.f53;have sa:(.string ⟨#[47,97]⟩:Value)=str [47,97]:=rfl;have sab:(.string ⟨#[47,97,47,98]⟩:Value)=str [47,97,47,98]:=rfl;have s0:(.string ⟨#[]⟩:Value)=str []:=rfl;have k2:(.int .u8 2:Value)=u8 2#8:=rfl;have i0:(.int .i64 0:Value)=vi 0:=rfl;have i22:(.int .i64 22:Value)=vi 22:=rfl;have eq0:aA .eql (vi 0) (vi 0)=some (vb true):=rfl;have eq22:aA .eql (vi 22) (vi 22)=some (vb true):=rfl;simp only[F.f53,aI];refine S.f129 hE 9 λw H1 h1 =>?_;have wf1:=Tr.new_wf 9;have kd1:=Tr.KD.new 9;refine S.f44 hE λH2 e2 =>?_;have h2:=h1.mono e2;simp only[sa,aI];have f1:cA (Tr.new 9) jM ⟨0,1#16⟩ [47,97]=(⟨⟨0,1#16⟩,[97],0#16⟩,0):=by decide +kernel
 refine S.f127 hE h2.at_ wf1 (Tr.KD.lt kd1) ⟨0,1#16⟩ [47,97] (by decide) λH3 e3 =>?_
 rw[f1];have lo4:∀ (K:AH) (s:dX) (H':AH),Ext (K.new (.cells s.cells none)) H'->aH 4 (ptr K.next 0) H'=some s.v:=λK s H' e=>by rw[aQ,e.cells (AH.get_new_self _ _)];rfl
 have h3:=(h2.mono e3).mono ((Ext.refl H3).new (.cells (dX.cells ⟨⟨0,1#16⟩,[97],0#16⟩) none));simp only[bD,st4,lo4 H3 _ _ (Ext.refl _),k2,aI];generalize H3.new (.cells (dX.cells ⟨⟨0,1#16⟩,[97],0#16⟩) none)=H5 at *;have f2:((Tr.new 9).make 1#16 [97] 2#8 []).2=(2#16,0):=by decide +kernel
 have wf2:=wf1.make 1#16 [97] 2#8 [];have kd2:=kd1.make gE 1#16 [97] 2#8 [];have ti2:=(Tr.Tidy.new 9).make 1#16 [97] 2#8 [];refine S.f122 hE h3 wf1 ⟨⟨0,1#16⟩,[97],0#16⟩ (by decide) 2#8 [] (by decide) (by decide) λH6 h6 =>?_
 have h6:WkO [] H H6 w ((Tr.new 9).make 1#16 [97] 2#8 []).1 jM 1:=h6;have f2':((Tr.new 9).make (dX.dir ⟨⟨0,1#16⟩,[97],0#16⟩).i (dX.name ⟨⟨0,1#16⟩,[97],0#16⟩) 2#8 []).2=(2#16,0):=f2;rw[f2'];have g3:cA ((Tr.new 9).make 1#16 [97] 2#8 []).1 jM ⟨0,1#16⟩ [47,97]=(⟨⟨0,1#16⟩,[97],2#16⟩,0):=by decide +kernel
 have g4:cA ((Tr.new 9).make 1#16 [97] 2#8 []).1 jM ⟨0,1#16⟩ [47,97,47,98]=(⟨⟨0,2#16⟩,[98],0#16⟩,0):=by decide +kernel
 have g5:(fG ((Tr.new 9).make 1#16 [97] 2#8 []).1 jM ⟨⟨0,1#16⟩,[97],2#16⟩ ⟨⟨0,2#16⟩,[98],0#16⟩).2=22:=by decide +kernel
 have g6:(fG ((Tr.new 9).make 1#16 [97] 2#8 []).1 jM ⟨⟨0,1#16⟩,[97],2#16⟩ ⟨⟨0,2#16⟩,[98],0#16⟩).1=((Tr.new 9).make 1#16 [97] 2#8 []).1:=by decide +kernel
 have co2:((Tr.new 9).make 1#16 [97] 2#8 []).1.CO:=by decide +kernel
 generalize ((Tr.new 9).make 1#16 [97] 2#8 []).1=T2 at *;simp only[ne_eq,not_true,if_false,bD,st2,aI];have x7:Ext H6 (H6.new (.cells (aG.cells ⟨0,2#16⟩) none)):=(Ext.refl _).new _;have hb7:=AH.get_new_self H6 (.cells (aG.cells ⟨0,2#16⟩) none);have h7:=h6.mono x7;have st2':=st2 H6 ⟨0,2#16⟩;simp only[st2',aI];generalize H6.new (.cells (aG.cells ⟨0,2#16⟩) none)=H8 at *;refine S.f44 hE λH9 e9 =>?_;simp only[sa,aI];refine S.f127 hE (h7.mono e9).at_ wf2 (Tr.KD.lt kd2) ⟨0,1#16⟩ [47,97] (by decide) λH10 e10 =>?_
 rw[g3];have x11:Ext H10 (H10.new (.cells (dX.cells ⟨⟨0,1#16⟩,[97],2#16⟩) none)):=(Ext.refl _).new _;have hb11:=AH.get_new_self H10 (.cells (dX.cells ⟨⟨0,1#16⟩,[97],2#16⟩) none);have l11:=lo4 H10 ⟨⟨0,1#16⟩,[97],2#16⟩;simp only[bD,st4,aI];generalize H10.new (.cells (dX.cells ⟨⟨0,1#16⟩,[97],2#16⟩) none)=H12 at *;have e812:=e9.trans (e10.trans x11);refine S.f44 hE λH13 e13 =>?_;simp only[sab,aI];refine S.f127 hE (h7.mono (e812.trans e13)).at_ wf2 (Tr.KD.lt kd2) ⟨0,1#16⟩ [47,97,47,98] (by decide) λH14 e14 =>?_
 rw[g4];have x15:Ext H14 (H14.new (.cells (dX.cells ⟨⟨0,2#16⟩,[98],0#16⟩) none)):=(Ext.refl _).new _;have l15:=lo4 H14 ⟨⟨0,2#16⟩,[98],0#16⟩;simp only[bD,st4,aI];generalize H14.new (.cells (dX.cells ⟨⟨0,2#16⟩,[98],0#16⟩) none)=H16 at *;have e1216:=e13.trans (e14.trans x15);have h16:=h7.mono (e812.trans e1216);have hbp:=(e812.trans e1216).cells hb7;have hbf:=e1216.cells hb11;have c3:(dX.cells ⟨⟨0,1#16⟩,[97],2#16⟩)[3]? = some (u16 2#16):=rfl;have d1:(aG.cells ⟨0,2#16⟩)[1]? = some (u16 2#16):=rfl;simp only[i0,eq0,hbf,hbp,c3,d1,vW,decide_true,aI];simp only[i0,eq0,hbf,hbp,c3,d1,vW,decide_true,l11 _ e1216,l15 _ (Ext.refl _),aI];refine S.f125 hE h16 wf2 ⟨⟨0,1#16⟩,[97],2#16⟩ ⟨⟨0,2#16⟩,[98],0#16⟩ (by decide) co2 λH17 h17 =>?_
 rw[g6]at h17;rw[g5];simp only[i22,eq22,aI];refine S.vfs_RightO hE h17.at_ wf2 (by decide) λH18 e18 =>?_
 rw[aBG wf2 ti2 (λm hm =>?_)]
 ·simp only[aI]
  exact hQ _ (h17.ext.trans e18)
 ·simp[jM]at hm
  subst hm;exact⟨wf2.root.1,λh=>(h rfl).elim⟩
end
end
section
set_option maxRecDepth 20000
def bM:List aX:=[⟨0,⟨0,0#16⟩,1#16,0⟩,⟨1,⟨0,3#16⟩,2#16,0⟩]
section
variable {T T':Tr}
theorem aFY{n:BitVec 16}(h:(T.node n).kind=2#8)(s:aK):T.look n s=match bX s (T.node n).ents with | some k=>(k,0) | none=>(0#16,2):=by
 unfold Tr.look;rw[if_neg (by simp[Tr.dir_zero.2 h])]
 rfl
structure aKd(T:Tr)(q:aK)(at_:aG):Prop where
 step:∀ left f,dI T bM ⟨bT,q :: left,0⟩ f=(⟨at_,left,0⟩,0)
 dir:gK T bM at_=true
 ino:at_.i=2#16
theorem aGS{q:aK}{at_:aG}(w:aKd T q at_)(f:Bool):eE T bM f ⟨bT,[q],0⟩=(⟨at_,[],0⟩,0):=by
 show mN T bM f (1088+1+1) ⟨bT,[q],0⟩=_
 rw[mN,if_neg (by simp),w.step]
 rw[if_neg (by simp),mN,if_pos rfl]
structure aIJ(p:List UInt8)(q x:aK):Prop where
 ne:p≠[]
 len:p.length<=120
 head:p.head? = some 47
 parts:dR p=[q,x]
 slash:dS p=false
theorem aFc:seen bM bT=bT:=by decide
theorem aJw{p:List UInt8}{q x:aK}(h:aIJ p q x):eL bM bT p=(⟨bT,[q,x],0⟩,0):=by
 unfold eL;rw[if_neg h.ne,if_neg (by have:=h.len;omega),if_pos h.head,aFc,h.parts]
theorem wQ{p:List UInt8}{q x:aK}{at_:aG}(h:aIJ p q x)(w:aKd T q at_)(hx:cP x=true)(hd:x≠[46,46]):bW T bM bT p=(at_,x,0):=by
 have hl:=xI hx;have hb:=aJw h;unfold bW;rw[hb];simp only[ne_eq,not_true,if_false,List.getLast?_cons_cons,List.getLast?_singleton,List.dropLast_cons₂,List.dropLast_singleton,if_neg hd,aGS w,w.dir];rw[if_neg (by decide),if_neg (by omega),if_neg (by rw[hx];decide)]
theorem aAh(h1:1<=T.N.length)(h2:T.N.length<=60000)(a:BitVec 16)(s:aK)(k:BitVec 8)(text:List UInt8){n:BitVec 16}(hn:(T.node n).kind≠0#8):((T.make a s k text).1.node n).kind=(T.node n).kind:=by
 have hf:=Tr.free_ok h1 h2;unfold Tr.make
 repeat' split
 all_goals try rfl
 show(((T.put T.free (Nd.made a k text)).upd a (Nd.addE s (BitVec.ofNat 16 T.free))).node n).kind=_
 have hne:n≠BitVec.ofNat 16 T.free:=by rintro rfl;exact hn hf.zero
 have hp:(T.put T.free (Nd.made a k text)).node n=T.node n:=by rw[Tr.node_put hf.le hf.lt,if_neg hne]
 rcases(T.put T.free (Nd.made a k text)).upd_or a n (Nd.addE s (BitVec.ofNat 16 T.free)) with e | e
 ·rw[e,hp]
 ·rw[e,hp];rfl
end
end
section
set_option maxRecDepth 20000
def rwC(a b:aN)(lv:Value)(n:Int):List Value:=[vi a.mount,vi a.inode,vi b.mount,vi b.inode,lv,vi n]
abbrev rwV(a b:aN)(lv:Value)(n:Int):Value := .agg (rwC a b lv n).toArray
structure WB(H0 H:AH)(b c:Nat)(p q:aN)(lv:Value)(n:Int):Prop where
 ext:Ext H0 H
 hb:H.get b = .cells (rwC p q lv n) none
 hc:∃ cs,H.get c = .cells cs none/\cs.length=6
 nb:H0.next<=b
 nc:H0.next<=c
 ne:b≠c
 pl:plain1 lv=true
section
variable {X:List Res}{E:Sy}{H0 H H' H'':AH}{Q:Value->AH->Prop}{w t s:Nat}{T T':Tr}{M M':List aX}{nx nx' k l:Int}{b c:Nat}{p q:aN}{lv:Value}{n:Int}
theorem WB.mono(h:WB H0 H b c p q lv n)(e:Ext H H'):WB H0 H' b c p q lv n:=by
 obtain⟨cs,h1,h2⟩:=h.hc;exact⟨h.ext.trans e,e.cells h.hb,⟨cs,e.cells h1,h2⟩,h.nb,h.nc,h.ne,h.pl⟩
theorem WB.put(h:WB H0 H b c p q lv n)(p' q':aN){lv':Value}(hl:plain1 lv'=true)(n':Int):WB H0 (H.put b (.cells (rwC p' q' lv' n') none)) b c p' q' lv' n':=by
 obtain⟨cs,h1,h2⟩:=h.hc;refine⟨h.ext.put h.nb _,AH.get_put_self _ _ (AH.lt_cells h.hb),⟨cs,?_,h2⟩,h.nb,h.nc,h.ne,hl⟩;rw[AH.get_put_ne _ _ h.ne.symm];exact h1
theorem WB.ld(h:WB H0 H b c p q lv n):aH 6 (ptr b 0) H=some (rwV p q lv n):=by rw[aQ,h.hb];rfl
theorem WB.ld0(h:WB H0 H b c p q lv n):aH 2 (ptr b 0) H=some p.v:=by rw[aQ,h.hb];rfl
theorem WB.at1(h:WB H0 H b c p q lv n):(H.get b).cell 1=some (vi p.inode):=by rw[h.hb];rfl
theorem WB.at0(h:WB H0 H b c p q lv n):(H.get b).cell 0=some (vi p.mount):=by rw[h.hb];rfl
theorem WB.at4(h:WB H0 H b c p q lv n):(H.get b).cell 4=some lv:=by rw[h.hb];rfl
theorem WB.at5(h:WB H0 H b c p q lv n):(H.get b).cell 5=some (vi n):=by rw[h.hb];rfl
theorem WB.st0(h:WB H0 H b c p q lv n)(p':aN):storeN 2 (ptr b 0) p'.v H=some (H.put b (.cells (rwC p' q lv n) none)):=by rw[bJ,h.hb];rfl
theorem WB.st2(h:WB H0 H b c p q lv n)(q':aN):storeN 2 (ptr b 2) q'.v H=some (H.put b (.cells (rwC p q' lv n) none)):=by rw[bJ,h.hb];rfl
theorem WB.st4(h:WB H0 H b c p q lv n){lv':Value}(hl:plain1 lv'=true):aR (ptr b 4) lv' H=some (H.put b (.cells (rwC p q lv' n) none)):=by rw[aO,if_pos hl,h.hb];rfl
theorem WB.st5(h:WB H0 H b c p q lv n)(n':Int):aR (ptr b 5) (vi n') H=some (H.put b (.cells (rwC p q lv n') none)):=by rw[aO,if_pos (show plain1 (vi n')=true from rfl),h.hb];rfl
theorem WB.fin(h:WB H0 H b c p q lv n)(e:Value)(hQ:∀ H',Ext H0 H'->(∀ x,x≠c->H'.get x=H.get x)->Q (.tuple #[rwV p q lv n,e]) H'):
  opt (aH 6 (ptr b 0) H) λv=>opt (storeN 6 (ptr c 0) v H) λH'=>opt (aH 6 (ptr c 0) H') λv'=>Q (.tuple #[v',e]) H':=by
 obtain⟨cs,h1,h2⟩:=h.hc
 have hs:storeN 6 (ptr c 0) (rwV p q lv n) H=some (H.put c (.cells (rwC p q lv n) none)):=by
  rw[bJ,h1];have hl:(rwC p q lv n).length=6:=rfl;have hp:(rwC p q lv n).all plain1=true:=by simp only[rwC,List.all_cons,h.pl,List.all_nil];rfl
  have hsp:AM.splice cs 0 (rwC p q lv n)=rwC p q lv n:=by simp[splice,hl,h2]
  simp only[List.size_toArray,List.toList_toArray,hl,hp,h2,Nat.zero_add,Nat.le_refl,and_self,if_true,hsp]
 have hl2:aH 6 (ptr c 0) (H.put c (.cells (rwC p q lv n) none))=some (rwV p q lv n):=by rw[aQ,AH.get_put_self _ _ (AH.lt_cells h1)];rfl
 simp only[h.ld,hs,hl2,aI];exact hQ _ (h.ext.put h.nc _) λx hx=>AH.get_put_ne _ _ hx
theorem aBg(hE:bF E)(h:WB H0 H b c p q lv n){left:List aK}(hl:Rows H0 1 lv (cL left))(hll:left.length<2 ^ 38){bb o:Nat}{x:Nd}(d4:(H.get bb).cell (o+4)=some (str x.text))(htx:x.text.length<=120)(hQ:∀ lv' H',Ext H0 H'->Rows H' 1 lv' (cL (dR x.text++left))->Q (.tuple #[rwV p q lv' n,vi 0]) H'):F.f84_j1 E Q (ptr b 0) (ptr c 0) (ptr bb o) H:=by
 simp only[F.f84_j1,d4,h.at4,aI];refine S.rParts hE x.text (by omega) λv H1 e1 g1 f1 =>?_
 have h1:=h.mono e1;refine⟨by rw[aE,aE,h1.at4,h.at4],?_⟩
 have hpl:=qU x.text;obtain⟨v',H2,a1,a2,a3⟩:=g1.app (bytes:=16) (Nat.zero_le _) (hl.mono h1.ext) (by intro r hr;obtain⟨s,_,rfl⟩:=List.mem_map.1 hr;rfl) (by decide) (by decide) (by rw[dP,dP];omega) (by rw[dP,dP];omega)
 have f1':eQ H0.next v:=λb hb=>Nat.le_trans h.ext.1 (f1 b hb);obtain⟨e2,f2⟩:=gS a3 h1.ext f1';have e2':Ext H1 H2\/True := .inr trivial;obtain⟨e12,_⟩:=gS (H0:=H) a3 e1 f1;have h2:=h.mono e12;have hs:=h2.st4 a2.plain;have h3:=h2.put p q a2.plain n;have hrow:cL (dR x.text)++cL left=cL (dR x.text++left):=by simp[cL]
 rw[hrow]at a2
 have hfl:∀ bl,blk v'=some bl->bl≠b/\bl≠c:=by
  intro bl hbl
  have hge:H.next<=bl:=by
   rcases a3.2 bl hbl with hx | hx
   ·exact f1 bl hx
   ·exact Nat.le_trans e1.1 hx
  obtain⟨cs,q1,_⟩:=h.hc;have:=AH.lt_cells h.hb;have:=AH.lt_cells q1;omega
 simp only[a1,hs,aI];refine h3.fin (vi 0) λH4 e4 hg=>hQ v' H4 e4 ?_;refine cB.toRows (Z:=zH) (a2.keep λbl hbl _ =>?_);obtain⟨n1,n2⟩:=hfl bl hbl;rw[hg bl n2,AH.get_put_ne _ _ n1]
theorem S.rStep(hE:bF E)(h:lW H t T M)(wf:T.WF)(kd:T.KD)(a:aG)(q:aN)(lv:Value)(name:aK)(left:List aK)(n:Nat)(hl:Rows H 1 lv (cL (name :: left)))(hll:left.length<2 ^ 36)(hnn:n<2 ^ 36)(follow:Bool)(hQ:∀ q' lv' H',Ext H H'->Rows H' 1 lv' (cL (dI T M ⟨a,name :: left,n⟩ follow).1.left)->Q (.tuple #[rwV (dI T M ⟨a,name :: left,n⟩ follow).1.at_.toI q' lv' ((dI T M ⟨a,name :: left,n⟩ follow).1.links:Int),vi (dI T M ⟨a,name :: left,n⟩ follow).2]) H'):
  E.call 37 [ptr t 0,rwV a.toI q lv n,vb follow] H Q:=by
 apply hE.f84;have hpl:=hl.plain
 have hbo:eX (rwV a.toI q lv n)=some (.cells (rwC a.toI q lv n) none,λb=>ptr b 0):=by
  have:(rwC a.toI q lv n).all plain1=true:=by simp only[rwC,List.all_cons,hpl,List.all_nil];rfl
  first
   | rfl
   | simp[eX,this]
 have x2:Ext H ((H.new (.cells (rwC a.toI q lv n) none)).new (.cells [vi 0,vi 0,vi 0,vi 0,aZ,vi 0] none)):=((Ext.refl H).new _).new _;have w2:WB H ((H.new (.cells (rwC a.toI q lv n) none)).new (.cells [vi 0,vi 0,vi 0,vi 0,aZ,vi 0] none)) H.next (H.next+1) a.toI q lv n:=⟨x2,by simp[AH.get_new],⟨[vi 0,vi 0,vi 0,vi 0,aZ,vi 0],by rw[show H.next+1=(H.new (.cells (rwC a.toI q lv n) none)).next from rfl,AH.get_new_self],rfl⟩,by omega,by omega,by omega,hpl⟩
 have z0:([vi 0,vi 0,vi 0,vi 0,(.slice none 0 0),vi 0]:List Value)=[vi 0,vi 0,vi 0,vi 0,aZ,vi 0]:=rfl;have hl2:=hl.mono x2;have h2:=h.mono x2;simp only[F.f84,hbo,bD,z0,aI];generalize (H.new (.cells (rwC a.toI q lv n) none)).new (.cells [vi 0,vi 0,vi 0,vi 0,aZ,vi 0] none)=H2 at *;obtain⟨bl,o,p1,p2⟩:=hl2.ix (i:=0) (by simp[cL])
 have p2:(H2.get bl).row o 1=some [str name]:=p2;have p3:(H2.get bl).cell o=some (str name):=by have:=eG p2 (j:=0) (by omega);simpa using this
 have i0:vi 0=vi ((0:Nat):Int):=rfl;have i1:(.int .i64 1:Value)=vi ((1:Nat):Int):=rfl;have hlen:(cL (name :: left)).length=left.length+1:=by simp[cL]
 have hs:=hl2.slice' (lo:=some (vi ((1:Nat):Int))) (hi:=none) (i:=1) (j:=left.length+1) (.inl rfl) (.inr ⟨rfl,hlen.symm⟩) (by omega) (by omega)
 have s1:=hs.1;have s2:=(hl.slice' (lo:=some (vi ((1:Nat):Int))) (hi:=none) (i:=1) (j:=left.length+1) (.inl rfl) (.inr ⟨rfl,hlen.symm⟩) (by omega) (by omega)).2
 have s2:Rows H 1 (gZ 1 lv 1 (left.length+1)) (cL left):=by
  rw[List.take_of_length_le (by omega)]at s2
  exact s2
 generalize gZ 1 lv 1 (left.length+1)=lv1 at *;have hp1:=s2.plain;have w3:=w2.put a.toI q hp1 n;have ix0:aP 1 lv (vi 0)=some (ptr bl o):=p1;have sl1:dQ 1 lv (some (vi 1)) none none H2=some lv1:=s1;simp only[w2.at4,ix0,p3,sl1,w2.st4 hp1,w3.ld0,aI];generalize H2.put H.next (.cells (rwC a.toI q lv1 n) none)=H3 at *;refine S.rDir hE (h.mono w3.ext) a λH4 e4 =>?_;have w4:=w3.mono e4;cases hd:gK T M a with
 | false =>
  have hst:dI T M ⟨a,name :: left,n⟩ follow=(⟨a,left,n⟩,20):=by simp[dI,hd]
  rw[hst]at hQ;simp only[aI];exact w4.fin (vi 20) λH' e _=>hQ q lv1 H' e (s2.mono e)
 | true =>
 have s46:(.string ⟨#[46,46]⟩:Value)=str [46,46]:=rfl
 by_cases hdd:name=[46,46]
 ·simp only[s46,eI,hdd,decide_true,w4.ld0,aI]
  refine S.rUp hE (h.mono w4.ext) a λH5 e5 =>?_;have w5:=w4.mono e5;have w6:=w5.put (upP T M a).toI q hp1 n;have w7:=w6.put (upP T M a).toI (upP T M a).toI hp1 n;have up1:(upP T M a).toI.inode=((upP T M a).i.toNat:Int):=rfl;have w7a:=w7.at1;rw[up1]at w7a;simp only[w5.st0,w6.ld0,w6.st2,w7a,aI];generalize (H5.put H.next (.cells (rwC (upP T M a).toI q lv1 n) none)).put H.next (.cells (rwC (upP T M a).toI (upP T M a).toI lv1 n) none)=H7 at *;refine(h.mono w7.ext).node hE (upP T M a).i λbb oo y H8 e8 hn =>?_;have w8:=w7.mono e8;obtain⟨d0,_⟩:=hn.cell;have k0:=tE (T.node (upP T M a).i).kind
  by_cases hk:(T.node (upP T M a).i).kind=0#8
  ·have hst:dI T M ⟨a,name :: left,n⟩ follow=(⟨upP T M a,left,n⟩,0):=by simp[dI,hd,hdd,hk]
   rw[hst]at hQ;have d0':(H8.get bb).cell oo=some (vi 0):=by rw[d0,hk];rfl
   simp only[d0',bR,ne_eq,not_true,decide_false,aI];exact w8.fin (vi 0) λH' e _=>hQ _ lv1 H' e (s2.mono e)
  ·simp only[d0,bR,k0,hk,ne_eq,not_false_eq_true,decide_true,w8.ld0,aI]
   refine S.rDir hE (h.mono w8.ext) (upP T M a) λH9 e9 =>?_;have w9:=w8.mono e9;cases hd2:gK T M (upP T M a) with
   | true =>
    have hst:dI T M ⟨a,name :: left,n⟩ follow=(⟨upP T M a,left,n⟩,0):=by simp[dI,hd,hdd,hd2]
    rw[hst]at hQ;simp only[aI];exact w9.fin (vi 0) λH' e _=>hQ _ lv1 H' e (s2.mono e)
   | false =>
    have hst:dI T M ⟨a,name :: left,n⟩ follow=(⟨upP T M a,left,n⟩,2):=by simp[dI,hd,hdd,hd2,hk]
    rw[hst]at hQ;simp only[aI];exact w9.fin (vi 2) λH' e _=>hQ _ lv1 H' e (s2.mono e)
 have hls:=dN name
 by_cases h14:14<name.length
 ·have hst:dI T M ⟨a,name :: left,n⟩ follow=(⟨a,left,n⟩,36):=by simp[dI,hd,hdd,h14]
  rw[hst]at hQ;have h14':(14:Int)<name.length:=by omega
  simp only[s46,eI,hdd,decide_false,hls,bL,gt_iff_lt,h14',decide_true,aI];exact w4.fin (vi 36) λH' e _=>hQ q lv1 H' e (s2.mono e)
 have h14':¬ (14:Int)<name.length:=by omega
 have ai:a.toI.inode=(a.i.toNat:Int):=rfl;have w4a:=w4.at1;rw[ai]at w4a;simp only[s46,eI,hdd,decide_false,hls,bL,gt_iff_lt,h14',w4a,aI];obtain⟨nv,mv,nx,Y,k,hT,hpin⟩:=id (h.mono w4.ext);refine S.f70 hE hT wf.small a.i name λH5 e5 =>?_;have w5:=w4.mono e5
 by_cases hlk:(T.look a.i name).2=0
 rotate_left
 ·have hst:dI T M ⟨a,name :: left,n⟩ follow=(⟨a,left,n⟩,(T.look a.i name).2):=by simp[dI,hd,hdd,h14,hlk]
  rw[hst]at hQ;simp only[bR,hlk,ne_eq,not_false_eq_true,decide_true,aI];exact w5.fin (vi (T.look a.i name).2) λH' e _=>hQ q lv1 H' e (s2.mono e)
 have hk0:=(wf.look_bd a.i name hlk).1;generalize hm:(T.look a.i name).1=m at *;simp only[bR,hlk,ne_eq,not_true,decide_false,aI];refine(h.mono w5.ext).node hE m λbb oo y H6 e6 hn =>?_;have w6:=w5.mono e6;obtain⟨d0,d1,d2,d3,d4,_⟩:=hn.cell;have k3:=aFw (T.node m).kind;have k2:=mT (T.node m).kind
 have s2len:∀ {H'},Ext H H'->AM.lenSlc lv1=some (vi left.length):=λe=>by
  have:=(s2.mono e).lenSlc
  rwa [show(cL left).length=left.length by simp[cL]]at this
 have hlv1:=s2len w6.ext
 have stay:((T.node m).kind=3#8/\(follow=true\/left≠[]))=False ->
   opt (aH 2 (ptr H.next 0) H6) λv90=>opt (storeN 2 (ptr H.next 2) v90 H6) λH34=>opt (aC (ptr H.next 0) H34) λv94=>opt (aV [(0,1),(1,1)] #[vi 0,vi 0] [(0,v94),(1,vi (m.toNat:Int))]) λv95=>opt (storeN 2 (ptr H.next 0) v95 H34) λH35 =>
   opt (aC (ptr bb oo) H35) λv99=>opt (aA .eql v99 (vi 2)) λv100=>ifB v100 (
   opt (aH 2 (ptr H.next 0) H35) λv102=>E.call 60 [ptr t 0,v102] H35 λv103 H36=>opt (storeN 2 (ptr H.next 0) v103 H36) λH37=>opt (aH 2 (ptr H.next 0) H37) λv106=>opt (storeN 2 (ptr H.next 2) v106 H37) λH38 =>
   opt (aH 6 (ptr H.next 0) H38) λv108=>opt (storeN 6 (ptr (H.next+1) 0) v108 H38) λH39=>opt (aH 6 (ptr (H.next+1) 0) H39) λv109=>Q (.tuple #[v109,vi 0]) H39) (
   opt (aH 6 (ptr H.next 0) H35) λv110=>opt (storeN 6 (ptr (H.next+1) 0) v110 H35) λH40=>opt (aH 6 (ptr (H.next+1) 0) H40) λv111=>Q (.tuple #[v111,vi 0]) H40):=by
  intro hno;have w7:=w6.put a.toI a.toI hp1 n;have hbv:aV [(0,1),(1,1)] #[vi 0,vi 0] [(0,vi a.m),(1,vi (m.toNat:Int))]=some (aG.toI ⟨a.m,m⟩).v:=rfl;have am:a.toI.mount=a.m:=rfl;have w7a:=w7.at0;rw[am]at w7a;have w8:=w7.put (aG.toI ⟨a.m,m⟩) a.toI hp1 n
  have hbb:bb≠H.next:=by
   rintro rfl;have:=hn.1;rw[w6.hb,gG]at this;have hl6:(rwC a.toI q lv1 n).length=6:=rfl;rw[hl6,if_neg (by omega)]at this
   simp at this
  have hst:dI T M ⟨a,name :: left,n⟩ follow=(if(T.node m).kind=2#8 then⟨seen M ⟨a.m,m⟩,left,n⟩ else⟨⟨a.m,m⟩,left,n⟩,0):=by
   simp only[dI,hd,hm,hlk];rw[if_neg (by simp),if_neg hdd,if_neg h14,if_neg (by simp),if_neg (by rw[hno];exact id)]
   split<;>rfl
  rw[hst]at hQ;have kk:((H6.put H.next (.cells (rwC a.toI a.toI lv1 n) none)).put H.next (.cells (rwC (aG.toI ⟨a.m,m⟩) a.toI lv1 n) none)).get bb=H6.get bb:=by rw[AH.get_put_ne _ _ hbb,AH.get_put_ne _ _ hbb]
  simp only[w6.ld0,w6.st2,w7a,hbv,w7.st0,kk,d0,aI];generalize (H6.put H.next (.cells (rwC a.toI a.toI lv1 n) none)).put H.next (.cells (rwC (aG.toI ⟨a.m,m⟩) a.toI lv1 n) none)=H8 at *;have e2i:(.int .i64 2:Value)=vi 2:=rfl
  by_cases hk2:(T.node m).kind=2#8
  ·rw[if_pos hk2]at hQ
   have kv:vi ((T.node m).kind.toNat:Int)=vi 2:=by rw[hk2];rfl
   simp only[kv,aW,decide_true,w8.ld0,aI];refine S.rSeen hE (h.mono w8.ext) ⟨a.m,m⟩ λH9 e9 =>?_;have w9:=w8.mono e9;have w10:=w9.put (seen M ⟨a.m,m⟩).toI a.toI hp1 n;have w11:=w10.put (seen M ⟨a.m,m⟩).toI (seen M ⟨a.m,m⟩).toI hp1 n;simp only[w9.st0,w10.ld0,w10.st2,aI];exact w11.fin (vi 0) λH' e _=>hQ _ lv1 H' e (s2.mono e)
  ·rw[if_neg hk2]at hQ
   simp only[aW,k2,hk2,decide_false,aI];exact w8.fin (vi 0) λH' e _=>hQ _ lv1 H' e (s2.mono e)
 by_cases hk3:(T.node m).kind=3#8
 rotate_left
 ·have:=stay (by simp[hk3])
  simp only[d0,aW,k3,hk3,decide_false,aI]at this ⊢;exact this
 have d0':(H6.get bb).cell oo=some (vi 3):=by rw[d0,hk3];rfl
 by_cases hf:follow=true\/left≠[]
 rotate_left
 ·have h1:follow=false:=by cases follow<;>simp at hf ⊢
  have h2':left=[]:=by
   refine Classical.byContradiction λhc=>hf (.inr hc)
  have hz:(left.length:Int)=0:=by rw[h2'];rfl
  have:=stay (by simp[h1,h2'])
  subst h1;simp only[d0',aW,decide_true,w6.at4,hlv1,hz,bL,gt_iff_lt,Int.lt_irrefl,decide_false,aI]at this ⊢;exact this
 obtain⟨htx1,htx2⟩:=(kd m).text hk3;have hinc:aA .add (vi (n:Int)) (vi 1)=some (vi ((n+1:Nat):Int)):=cS (by omega)
 have w7:=w6.put a.toI q hp1 ((n+1:Nat):Int);have w7a:=w7.at5
 have hbb:bb≠H.next:=by
  rintro rfl;have:=hn.1;rw[w6.hb,gG]at this;have hl6:(rwC a.toI q lv1 n).length=6:=rfl;rw[hl6,if_neg (by omega)]at this
  simp at this
 have d4':((H6.put H.next (.cells (rwC a.toI q lv1 ((n+1:Nat):Int)) none)).get bb).cell (oo+4)=some (str (T.node m).text):=by rw[AH.get_put_ne _ _ hbb];exact d4
 have hst:dI T M ⟨a,name :: left,n⟩ follow=if 8<n+1 then(⟨a,left,n+1⟩,40) else(⟨if(T.node m).text.head? = some 47 then seen M bT else a,dR (T.node m).text++left,n+1⟩,0):=by
  simp only[dI,hd,hm,hlk];rw[if_neg (by simp),if_neg hdd,if_neg h14,if_neg (by simp),if_pos ⟨hk3,hf⟩]
 have st5:=w6.st5 ((n+1:Nat):Int);have w6a:=w6.at5
 have go:opt (aC (ptr H.next 5) H6) λv70=>opt (aA .add v70 (vi 1)) λv71=>opt (aR (ptr H.next 5) v71 H6) λH28=>opt (aC (ptr H.next 5) H28) λv74=>opt (aA .gtr v74 (vi 8)) λv75=>ifB v75 (
   opt (aH 6 (ptr H.next 0) H28) λv76=>opt (storeN 6 (ptr (H.next+1) 0) v76 H28) λH29=>opt (aH 6 (ptr (H.next+1) 0) H29) λv77=>Q (.tuple #[v77,vi 40]) H29) (
   opt (aC (ptr bb (oo+4)) H28) λv80=>opt (eZ v80 (vi 0)) λv81=>opt (aA .eql v81 (.int .u8 47)) λv82=>ifB v82 (
   E.call 7 [] H28 λv83 H30=>E.call 60 [ptr t 0,v83] H30 λv84 H31=>opt (storeN 2 (ptr H.next 0) v84 H31) λH32=>opt (aH 2 (ptr H.next 0) H32) λv87=>opt (storeN 2 (ptr H.next 2) v87 H32) λH33 =>
   F.f84_j1 E Q (ptr H.next 0) (ptr (H.next+1) 0) (ptr bb oo) H33) (
   F.f84_j1 E Q (ptr H.next 0) (ptr (H.next+1) 0) (ptr bb oo) H28)):=by
  rw[hst]at hQ;generalize hn1:n+1=n1 at *;simp only[w6a,hinc,st5,w7a,aI];generalize H6.put H.next (.cells (rwC a.toI q lv1 (n1:Int)) none)=H7 at *
  by_cases h8:8<n1
  ·have h8':(8:Int)<n1:=by omega
   rw[if_pos h8]at hQ;simp only[bL,gt_iff_lt,h8',decide_true,aI];exact w7.fin (vi 40) λH' e _=>hQ q lv1 H' e (s2.mono e)
  have h8':¬ (8:Int)<n1:=by omega
  rw[if_neg h8]at hQ;have hlen0:0<(T.node m).text.length:=List.length_pos_iff.2 htx1;have hix:=qQ (T.node m).text 0 hlen0;have hix:eZ (str (T.node m).text) (vi 0)=some (u8 (T.node m).text[0].toBitVec):=hix;have hhd:(T.node m).text.head? = some (T.node m).text[0]:=by rw[List.head?_eq_getElem?];exact List.getElem?_eq_getElem hlen0
  have e47:aA .eql (u8 (T.node m).text[0].toBitVec) (.int .u8 47)=some (vb (decide ((T.node m).text[0].toBitVec=47#8))):=fH _ 47#8;have c47:((T.node m).text[0].toBitVec=47#8)↔(T.node m).text[0]=47:=⟨λh=>UInt8.toBitVec_inj.1 h,λh=>by rw[h];rfl⟩
  rw[hhd]at hQ;simp only[bL,gt_iff_lt,h8',decide_false,d4',hix,e47,aI]
  by_cases hc:(T.node m).text[0]=47
  ·rw[if_pos (by rw[hc])]at hQ
   simp only[c47.2 hc,decide_true,aI];refine S.rTop hE λH8 e8 =>?_;have w8:=w7.mono e8;refine S.rSeen hE (h.mono w8.ext) bT λH9 e9 =>?_;have w9:=w8.mono e9;have w10:=w9.put (seen M bT).toI q hp1 (n1:Int);have w11:=w10.put (seen M bT).toI (seen M bT).toI hp1 (n1:Int);simp only[w9.st0,w10.ld0,w10.st2,aI];refine aBg hE w11 s2 (by omega) (x:=T.node m) ?_ htx2 λlv' H' e r=>hQ _ lv' H' e r
   rw[AH.get_put_ne _ _ hbb,AH.get_put_ne _ _ hbb,(e8.trans e9).get (AH.lt_of_get (by intro hz;rw[hz]at d4'; simp[cZ.cell]at d4'))]
   exact d4'
  ·have hc':¬ ((T.node m).text[0].toBitVec=47#8):=λhx=>hc (c47.1 hx)
   rw[if_neg (by simpa using hc)]at hQ
   simp only[hc',decide_false,aI];exact aBg hE w7 s2 (by omega) (x:=T.node m) d4' htx2 λlv' H' e r=>hQ _ lv' H' e r
 rcases hf with rfl | hf
 ·simp only[d0',aW,decide_true,aI]at go ⊢
  exact go
 ·cases follow with
  | true =>
   simp only[d0',aW,decide_true,aI]at go ⊢;exact go
  | false =>
   have hlp:(0:Int)<left.length:=by
    have:=List.length_pos_iff.2 hf;omega
   simp only[d0',aW,decide_true,w6.at4,hlv1,bL,gt_iff_lt,hlp,aI]at go ⊢;exact go
end
end
section
set_option maxRecDepth 20000
section
variable {X:List Res}{E:Sy}{H0 H H' H'':AH}{Q:Value->AH->Prop}{w t s:Nat}{T T':Tr}{M M':List aX}{nx nx' k l:Int}{b c:Nat}{p q:aN}{lv:Value}{n:Int}
theorem wS{v:Value}{l:List aK}{cs c':List Value}(h:Rows H 1 v (cL l))(hb:H.get b = .cells cs none)(hcs:∀ s,str s ∉ cs)(hl:c'.length=cs.length):Rows (H.put b (.cells c' none)) 1 v (cL l):=by
 refine⟨h.len,?_⟩;rcases h.at_ with g | ⟨bl,o,cp,g1,g2,g3,g4⟩
 ·exact .inl g
 ·by_cases e:bl=b
  ·subst e
   have hlt:=AH.lt_cells hb
   have hlz:l=[]:=by
    cases l with
    | nil=>rfl
    | cons s l =>
     rw[hb,gG]at g4
     split at g4
     ·have g4:=Option.some.inj g4
      have:str s∈((cs.drop o).take ((cL (s :: l)).length*1)):=by rw[g4];simp[cL]
      exact(hcs s (List.mem_of_mem_drop (List.mem_of_mem_take this))).elim
     ·simp at g4
   subst hlz;refine .inr ⟨bl,o,cp,g1,g2,?_,?_⟩
   ·rw[AH.get_put_self _ _ hlt];simp[fits]
   ·rw[AH.get_put_self _ _ hlt,gG]
    rw[hb,gG]at g4;simp only[cL,List.map_nil,List.length_nil,Nat.zero_mul,Nat.add_zero,List.flatten_nil]at g4 ⊢
    split at g4
    ·rename_i hc
     rw[if_pos (by omega)];simp
    ·simp at g4
  ·refine .inr ⟨bl,o,cp,g1,g2,?_,?_⟩
   ·rw[AH.get_put_ne _ _ e];exact g3
   ·rw[AH.get_put_ne _ _ e];exact g4
theorem uU{lv:Value}{l:List aK}(h:Rows H 1 lv (cL l))(p q:aN)(n:Int):∀ s,str s ∉ rwC p q lv n:=by
 intro s hs;simp only[rwC,List.mem_cons,List.not_mem_nil,or_false]at hs;rcases hs with hs | hs | hs | hs | hs | hs
 ·rw[gD]at hs;cases hs
 ·rw[gD]at hs;cases hs
 ·rw[gD]at hs;cases hs
 ·rw[gD]at hs;cases hs
 ·rcases h.at_ with ⟨_,c,hx⟩ | ⟨b,o,c,hx,_⟩
  ·rw[hx,gD]at hs;cases hs
  ·rw[hx,gD]at hs;cases hs
 ·rw[gD]at hs;cases hs
theorem S.rBegin(hE:bF E)(h:lW H t T M)(cwd:aG)(path:List UInt8)(hp:path.length<2 ^ 62)(hbad:(eL M cwd path).2≠0->∀ H',Ext H H'->Q (.tuple #[rwV aN.zero aN.zero aZ 0,vi (eL M cwd path).2]) H')(hok:(eL M cwd path).2=0->∀ q lv H',Ext H H'->Rows H' 1 lv (cL (eL M cwd path).1.left)->Q (.tuple #[rwV (eL M cwd path).1.at_.toI q lv 0,vi 0]) H'):
  E.call 36 [ptr t 0,cwd.toI.v,str path] H Q:=by
 apply hE.f79;have x2:Ext H ((H.new (.cells cwd.toI.cells none)).new (.cells [vi 0,vi 0,vi 0,vi 0,aZ,vi 0] none)):=((Ext.refl H).new _).new _;have hb1:((H.new (.cells cwd.toI.cells none)).new (.cells [vi 0,vi 0,vi 0,vi 0,aZ,vi 0] none)).get H.next = .cells cwd.toI.cells none:=by simp[AH.get_new]
 have w2:WB H ((H.new (.cells cwd.toI.cells none)).new (.cells [vi 0,vi 0,vi 0,vi 0,aZ,vi 0] none)) (H.next+1) H.next aN.zero aN.zero aZ 0->True:=λ_=>trivial;have hb2:((H.new (.cells cwd.toI.cells none)).new (.cells [vi 0,vi 0,vi 0,vi 0,aZ,vi 0] none)).get (H.next+1) = .cells [vi 0,vi 0,vi 0,vi 0,aZ,vi 0] none:=by rw[show H.next+1=(H.new (.cells cwd.toI.cells none)).next from rfl,AH.get_new_self]
 have z0:([vi 0,vi 0,vi 0,vi 0,(.slice none 0 0),vi 0]:List Value)=[vi 0,vi 0,vi 0,vi 0,aZ,vi 0]:=rfl;have z1:(#[vi 0,vi 0,vi 0,vi 0,(.slice none 0 0),vi 0]:Array Value)=[vi 0,vi 0,vi 0,vi 0,aZ,vi 0].toArray:=rfl;have s0:(.string ⟨#[]⟩:Value)=str []:=rfl;have h2:=h.mono x2;have hz:rwC aN.zero aN.zero aZ 0=[vi 0,vi 0,vi 0,vi 0,aZ,vi 0]:=rfl;have bz:aV [(0,2),(2,2),(4,1),(5,1)] [vi 0,vi 0,vi 0,vi 0,aZ,vi 0].toArray []=some (rwV aN.zero aN.zero aZ 0):=rfl;simp only[F.f79,bD,z0,z1,s0,aI];generalize (H.new (.cells cwd.toI.cells none)).new (.cells [vi 0,vi 0,vi 0,vi 0,aZ,vi 0] none)=H2 at *
 have st6:∀ {H':AH} {b:Nat} {cs:List Value} (p q:aN) (lv:Value) (n:Int),H'.get b = .cells cs none->cs.length=6->plain1 lv=true->storeN 6 (ptr b 0) (rwV p q lv n) H'=some (H'.put b (.cells (rwC p q lv n) none))/\aH 6 (ptr b 0) (H'.put b (.cells (rwC p q lv n) none))=some (rwV p q lv n):=by
  intro H' b cs p q lv n hb hl hp;have h1:(rwC p q lv n).length=6:=rfl;have h2:(rwC p q lv n).all plain1=true:=by simp only[rwC,List.all_cons,hp,List.all_nil];rfl
  have h3:AM.splice cs 0 (rwC p q lv n)=rwC p q lv n:=by simp[splice,h1,hl]
  constructor
  ·rw[bJ,hb]
   simp only[List.size_toArray,List.toList_toArray,h1,h2,hl,Nat.zero_add,Nat.le_refl,and_self,if_true,h3]
  ·rw[aQ,AH.get_put_self _ _ (AH.lt_cells hb)];rfl
 unfold eL at hbad hok
 by_cases hp0:path=[]
 ·rw[if_pos hp0]at hbad
  obtain⟨s1,s2⟩:=st6 aN.zero aN.zero aZ 0 hb2 rfl rfl;simp only[hp0,eI,decide_true,bz,s1,s2,aI];exact hbad (by simp) _ (x2.put (by omega) _)
 rw[if_neg hp0]at hbad hok;have hls:=dN path
 by_cases hp1:120<path.length
 ·have hp1':(120:Int)<path.length:=by omega
  rw[if_pos hp1]at hbad;obtain⟨s1,s2⟩:=st6 aN.zero aN.zero aZ 0 hb2 rfl rfl;simp only[hp0,eI,decide_false,hls,bL,gt_iff_lt,hp1',decide_true,bz,s1,s2,aI];exact hbad (by simp) _ (x2.put (by omega) _)
 have hp1':¬ (120:Int)<path.length:=by omega
 rw[if_neg hp1]at hbad hok;have lo1:∀ {H'},Ext H2 H'->aH 2 (ptr H.next 0) H'=some cwd.toI.v:=λe=>by rw[aQ,e.cells hb1];rfl
 have x3:Ext H2 (H2.new (.cells [vi 0,vi 0,vi 0,vi 0,aZ,vi 0] none)):=(Ext.refl _).new _;have hb3:=AH.get_new_self H2 (.cells [vi 0,vi 0,vi 0,vi 0,aZ,vi 0] none);simp only[hp0,eI,decide_false,hls,bL,gt_iff_lt,hp1',lo1 (Ext.refl _),aI];refine S.rParts hE path (by omega) λv H4 e4 g4 f4 =>?_
 have e24:=x3.trans e4;refine⟨e4.cells hb3 |>.trans hb3.symm,(lo1 e24).trans (lo1 (Ext.refl _)).symm,(lo1 e24).trans (lo1 (Ext.refl _)).symm,?_⟩;have hb4:=e4.cells hb3
 have bz2:aV [(0,2),(2,2),(4,1),(5,1)] [vi 0,vi 0,vi 0,vi 0,aZ,vi 0].toArray [(0,cwd.toI.v),(1,cwd.toI.v),(2,v)]=some (rwV cwd.toI cwd.toI v 0):=by
  rcases g4.2 with ⟨_,rfl⟩ | ⟨b,f,c,cs,_,rfl,_⟩<;>rfl
 have hb5:∀ b,blk v=some b->b≠H2.next/\b≠H.next+1:=by
  intro b hb;have h1:=f4 b hb;have h2:=AH.lt_cells hb2;simp at h1;omega
 obtain⟨s1,s2⟩:=st6 cwd.toI cwd.toI v 0 hb4 rfl g4.plain;have hlt4:=AH.lt_cells hb4;have g5:cB zH (H4.put H2.next (.cells (rwC cwd.toI cwd.toI v 0) none)) 1 v (cL (dR path)):=g4.keep λb hb _=>AH.get_put_ne _ _ (hb5 b hb).1;have x5:Ext H (H4.put H2.next (.cells (rwC cwd.toI cwd.toI v 0) none)):=(x2.trans e24).put x2.1 _
 have hb2':(H4.put H2.next (.cells (rwC cwd.toI cwd.toI v 0) none)).get (H.next+1) = .cells [vi 0,vi 0,vi 0,vi 0,aZ,vi 0] none:=by
  rw[AH.get_put_ne _ _ (by have:=AH.lt_cells hb2;omega)]
  exact e24.cells hb2
 have w5:WB H (H4.put H2.next (.cells (rwC cwd.toI cwd.toI v 0) none)) H2.next (H.next+1) cwd.toI cwd.toI v 0:=⟨x5,AH.get_put_self _ _ hlt4,⟨_,hb2',rfl⟩,x2.1,by omega,by have:=AH.lt_cells hb2;omega,g4.plain⟩
 have hlen0:0<path.length:=List.length_pos_iff.2 hp0;have hix:eZ (str path) (vi 0)=some (u8 path[0].toBitVec):=qQ path 0 hlen0;have hhd:path.head? = some path[0]:=by rw[List.head?_eq_getElem?];exact List.getElem?_eq_getElem hlen0
 have e47:aA .eql (u8 path[0].toBitVec) (.int .u8 47)=some (vb (decide (path[0].toBitVec=47#8))):=fH _ 47#8;have c47:(path[0].toBitVec=47#8)↔path[0]=47:=⟨λh=>UInt8.toBitVec_inj.1 h,λh=>by rw[h];rfl⟩
 rw[hhd]at hok;simp only[bz2,s1,hix,e47,aI];generalize H4.put H2.next (.cells (rwC cwd.toI cwd.toI v 0) none)=H5 at *
 by_cases hc:path[0]=47
 ·rw[if_pos (by rw[hc])]at hok
  simp only[c47.2 hc,decide_true,aI];refine S.rTop hE λH6 e6 =>?_;have w6:=w5.mono e6;refine S.rSeen hE (h.mono w6.ext) bT λH7 e7 =>?_;have w7:=w6.mono e7;have w8:=w7.put (seen M bT).toI cwd.toI g4.plain 0;have w9:=w8.put (seen M bT).toI (seen M bT).toI g4.plain 0;have g7:=(g5.ext (e6.trans e7));simp only[w7.st0,w8.ld0,w8.st2,aI];refine w9.fin (vi 0) λH' e hg=>hok rfl _ v H' e ?_;refine cB.toRows (Z:=zH) (g7.keep λb hb _ =>?_);obtain⟨n1,n2⟩:=hb5 b hb;rw[hg b n2,AH.get_put_ne _ _ n1,AH.get_put_ne _ _ n1]
 ·have hc':¬ (path[0].toBitVec=47#8):=λhx=>hc (c47.1 hx)
  rw[if_neg (by simpa using hc)]at hok
  simp only[hc',decide_false,aI];refine w5.fin (vi 0) λH' e hg=>hok rfl _ v H' e ?_;refine cB.toRows (Z:=zH) (g5.keep λb hb _ =>?_);obtain⟨n1,n2⟩:=hb5 b hb;rw[hg b n2]
theorem aBL{b2 b3:Nat}{c2 c3:List Value}(h2:H.get b2 = .cells c2 none)(h3:H.get b3 = .cells c3 none)(l2:c2.length=2)(l3:c3.length=2)(hne:b2≠b3)(n2:H0.next<=b2)(n3:H0.next<=b3)(e:Ext H0 H)(p q:aN)(ev:Value)(hQ:∀ H',Ext H0 H'->Q (.tuple #[p.v,q.v,ev]) H'):
  opt (storeN 2 (ptr b2 0) p.v H) λH7=>opt (storeN 2 (ptr b3 0) q.v H7) λH8=>opt (aH 2 (ptr b2 0) H8) λv12=>opt (aH 2 (ptr b3 0) H8) λv13=>Q (.tuple #[v12,v13,ev]) H8:=by
 have st:∀ {H:AH} {b:Nat} {c:List Value} (p:aN),H.get b = .cells c none->c.length=2->storeN 2 (ptr b 0) p.v H=some (H.put b (.cells p.cells none)):=by
  intro H b c p hb hl;rw[bJ,hb];have h1:p.cells.length=2:=rfl;have h2:p.cells.all plain1=true:=rfl;have h3:AM.splice c 0 p.cells=p.cells:=by simp[splice,h1,hl]
  simp only[List.size_toArray,List.toList_toArray,h1,h2,hl,Nat.zero_add,Nat.le_refl,and_self,if_true,h3]
 have h3':(H.put b2 (.cells p.cells none)).get b3 = .cells c3 none:=by rw[AH.get_put_ne _ _ (Ne.symm hne)];exact h3
 have g2:((H.put b2 (.cells p.cells none)).put b3 (.cells q.cells none)).get b2 = .cells p.cells none:=by rw[AH.get_put_ne _ _ hne];exact AH.get_put_self _ _ (AH.lt_cells h2)
 have g3:((H.put b2 (.cells p.cells none)).put b3 (.cells q.cells none)).get b3 = .cells q.cells none:=AH.get_put_self _ _ (AH.lt_cells h3');have lo2:aH 2 (ptr b2 0) ((H.put b2 (.cells p.cells none)).put b3 (.cells q.cells none))=some p.v:=by rw[aQ,g2];rfl
 have lo3:aH 2 (ptr b3 0) ((H.put b2 (.cells p.cells none)).put b3 (.cells q.cells none))=some q.v:=by rw[aQ,g3];rfl
 simp only[st p h2 l2,st q h3' l3,lo2,lo3,aI];exact hQ _ ((e.put n2 _).put n3 _)
theorem S.rFind(hE:bF E)(h:lW H t T M)(wf:T.WF)(kd:T.KD)(cwd:aG)(path:List UInt8)(hp:path.length<2 ^ 62)(follow:Bool)(hQ:∀ q H',Ext H H'->Q (.tuple #[(iT T M cwd path follow).1.toI.v,aN.v q,vi (iT T M cwd path follow).2]) H'):E.call 15 [ptr t 0,cwd.toI.v,str path,vb follow] H Q:=by
 apply hE.f66;have lt:T.LT:=Tr.KD.lt kd;have x3:Ext H (((H.new (.cells cwd.toI.cells none)).new (.cells [vi 0,vi 0] none)).new (.cells [vi 0,vi 0] none)):=(((Ext.refl H).new _).new _).new _
 have hb1:(((H.new (.cells cwd.toI.cells none)).new (.cells [vi 0,vi 0] none)).new (.cells [vi 0,vi 0] none)).get H.next = .cells cwd.toI.cells none:=by
  rw[AH.get_new_ne _ _ (by rw[AH.next_new,AH.next_new];omega),AH.get_new_ne _ _ (by rw[AH.next_new];omega),AH.get_new_self]
 have hb2:(((H.new (.cells cwd.toI.cells none)).new (.cells [vi 0,vi 0] none)).new (.cells [vi 0,vi 0] none)).get (H.next+1) = .cells [vi 0,vi 0] none:=by
  rw[AH.get_new_ne _ _ (by rw[AH.next_new,AH.next_new];omega),show H.next+1=(H.new (.cells cwd.toI.cells none)).next from rfl,AH.get_new_self]
 have hb3:(((H.new (.cells cwd.toI.cells none)).new (.cells [vi 0,vi 0] none)).new (.cells [vi 0,vi 0] none)).get (H.next+1+1) = .cells [vi 0,vi 0] none:=by
  rw[show H.next+1+1=((H.new (.cells cwd.toI.cells none)).new (.cells [vi 0,vi 0] none)).next from rfl,AH.get_new_self]
 have z2:([vi 0,vi 0]:List Value)=[vi 0,vi 0]:=rfl;have z2a:(#[vi 0,vi 0]:Array Value)=[vi 0,vi 0].toArray:=rfl;have z0:([vi 0,vi 0,vi 0,vi 0,(.slice none 0 0),vi 0]:List Value)=[vi 0,vi 0,vi 0,vi 0,aZ,vi 0]:=rfl;have bz:aV [(0,1),(1,1)] [vi 0,vi 0].toArray []=some aN.zero.v:=rfl;have h3:=h.mono x3;have hlo:aH 2 (ptr H.next 0) (((H.new (.cells cwd.toI.cells none)).new (.cells [vi 0,vi 0] none)).new (.cells [vi 0,vi 0] none))=some cwd.toI.v:=by rw[aQ,hb1];rfl
 simp only[F.f66,bD,z2,hlo,aI];generalize ((H.new (.cells cwd.toI.cells none)).new (.cells [vi 0,vi 0] none)).new (.cells [vi 0,vi 0] none)=H3 at *;have hzI:aG.zero.toI=aN.zero:=rfl;unfold iT at hQ;refine S.rBegin hE h3 cwd path hp (λhbad H4 e4 =>?_) λhgood q lv H4 e4 r4 =>?_
 ·rw[if_pos hbad]at hQ
  simp only[hzI]at hQ;have x5:Ext H4 (H4.new (.cells (rwC aN.zero aN.zero aZ 0) none)):=(Ext.refl _).new _
  have hst:storeN 6 (ptr H4.next 0) (rwV aN.zero aN.zero aZ 0) (H4.new (.cells [vi 0,vi 0,vi 0,vi 0,aZ,vi 0] none))=some (H4.new (.cells (rwC aN.zero aN.zero aZ 0) none)):=by
   rw[bJ,AH.get_new_self];have h1:(rwC aN.zero aN.zero aZ 0).length=6:=rfl;have h2:(rwC aN.zero aN.zero aZ 0).all plain1=true:=rfl;have h3:AM.splice [vi 0,vi 0,vi 0,vi 0,aZ,vi 0] 0 (rwC aN.zero aN.zero aZ 0)=rwC aN.zero aN.zero aZ 0:=rfl;simp only[List.size_toArray,List.toList_toArray,h1,h2,List.length_cons,List.length_nil,Nat.zero_add,Nat.reduceAdd,Nat.le_refl,and_self,if_true,h3,AH.new_put]
  simp only[bD,z0,hst,bR,hbad,ne_eq,not_false_eq_true,decide_true,z2a,bz,aI];have e5:=e4.trans x5;exact aBL (e5.cells hb2) (e5.cells hb3) rfl rfl (by omega) (by omega) (by omega) (x3.trans e5) aN.zero aN.zero _ λH' e=>hQ _ H' e
 have hp0:path≠[]:=by
  rintro rfl;simp[eL]at hgood
 rw[if_neg (by simp[hgood])]at hQ
 simp only[hzI]at hQ;obtain⟨hlk0,hll0⟩:=lK M cwd path;generalize (eL M cwd path).1=w0 at *;have hpl4:=r4.plain
 have hst:storeN 6 (ptr H4.next 0) (rwV w0.at_.toI q lv 0) (H4.new (.cells [vi 0,vi 0,vi 0,vi 0,aZ,vi 0] none))=some (H4.new (.cells (rwC w0.at_.toI q lv 0) none)):=by
  rw[bJ,AH.get_new_self];have h1:(rwC w0.at_.toI q lv 0).length=6:=rfl;have h2:(rwC w0.at_.toI q lv 0).all plain1=true:=by simp only[rwC,List.all_cons,hpl4,List.all_nil];rfl
  have h3:AM.splice [vi 0,vi 0,vi 0,vi 0,aZ,vi 0] 0 (rwC w0.at_.toI q lv 0)=rwC w0.at_.toI q lv 0:=rfl;simp only[List.size_toArray,List.toList_toArray,h1,h2,List.length_cons,List.length_nil,Nat.zero_add,Nat.reduceAdd,Nat.le_refl,and_self,if_true,h3,AH.new_put]
 have hls:=dN path;have hlen:0<path.length:=List.length_pos_iff.2 hp0
 have hsub:aA .sub (vi path.length) (vi 1)=some (vi ((path.length - 1:Nat):Int)):=by
  show aA .sub (vi path.length) (vi 1)=_
  rw[fZ (by omega) (by omega)];congr 2;omega
 have hix:=qQ path (path.length - 1) (by omega)
 have e47:aA .eql (u8 (path[path.length - 1]'(by omega)).toBitVec) (.int .u8 47)=some (vb (dS path)):=by
  have h1:=fH (path[path.length - 1]'(by omega)).toBitVec 47#8
  have h2:dS path=decide ((path[path.length - 1]'(by omega)).toBitVec=47#8):=by
   unfold dS;rw[List.getLast?_eq_getElem?,List.getElem?_eq_getElem (by omega)]
   rw[decide_eq_decide,Option.some.injEq];exact⟨λh=>by rw[h];rfl,λh=>UInt8.toBitVec_inj.1 h⟩
  rw[h2];exact h1
 simp only[bD,z0,hst,bR,ne_eq,not_true,decide_false,hls,hsub,hix,e47,aI];have x5:Ext H4 (H4.new (.cells (rwC w0.at_.toI q lv 0) none)):=(Ext.refl _).new _;have hb5:=AH.get_new_self H4 (.cells (rwC w0.at_.toI q lv 0) none);have e5:=e4.trans x5;have r5:=r4.mono x5;have n8:H.next+1+1<H4.next:=Nat.lt_of_lt_of_le (AH.lt_cells hb3) e4.1;generalize H4.new (.cells (rwC w0.at_.toI q lv 0) none)=H5 at *;generalize hb8:H4.next=b8 at *
 refine bY.ind (λm ls H'=>∃ (w:fV) (q:aN) (lv:Value),m=w.need/\ls=[ptr t 0,vb follow,ptr (H.next+1) 0,ptr (H.next+1+1) 0,ptr b8 0,vb (dS path)]/\Ext H H'/\w.links<=8/\eE T M (follow||dS path) w=eE T M (follow||dS path) w0 /\
  H'.get b8 = .cells (rwC w.at_.toI q lv w.links) none/\Rows H' 1 lv (cL w.left)/\H'.get (H.next+1) = .cells [vi 0,vi 0] none/\H'.get (H.next+1+1) = .cells [vi 0,vi 0] none/\w.need<=5000) ?_ w0.need
  ⟨w0,q,lv,rfl,rfl,x3.trans e5,by omega,rfl,by rw[hlk0];exact hb5,r5,e5.cells hb2,e5.cells hb3,by unfold fV.need;omega⟩
 rintro m _ H6 X hX ⟨w,q,lv,rfl,rfl,e6,hlk,hww,hb6,r6,m2,m3,hlt⟩;have hlv:=r6.lenSlc;rw[show(cL w.left).length=w.left.length by simp[cL]]at hlv
 have c4:(H6.get b8).cell 4=some lv:=by rw[hb6];rfl
 have c1:(H6.get b8).cell 1=some (vi (w.at_.i.toNat:Int)):=by rw[hb6];rfl
 have h6:=h.mono e6;cases hleft:w.left with
 | nil =>
  rw[qJ _ hleft]at hww;rw[<- hww]at hQ;simp only[ne_eq,not_true,if_false]at hQ;have hz:(w.left.length:Int)=0:=by rw[hleft];rfl
  simp only[F.f66_l1,c4,hlv,hz,bL,gt_iff_lt,Int.lt_irrefl,decide_false,c1,aI];refine h6.node hE w.at_.i λbb oo y H7 e7 hn =>?_;obtain⟨d0,_⟩:=hn.cell;have k0:=tE (T.node w.at_.i).kind
  by_cases hk:(T.node w.at_.i).kind=0#8
  ·rw[if_pos hk]at hQ
   have kv:vi ((T.node w.at_.i).kind.toNat:Int)=vi 0:=by rw[hk];rfl
   simp only[d0,kv,aW,decide_true,z2a,bz,aI];exact aBL (e7.cells m2) (e7.cells m3) rfl rfl (by omega) (by omega) (by omega) (e6.trans e7) aN.zero aN.zero _ λH' e=>hQ _ H' e
  rw[if_neg hk]at hQ;have lo0:∀ {H'},Ext H6 H'->aH 2 (ptr b8 0) H'=some w.at_.toI.v:=λe=>by rw[aQ,e.cells hb6];rfl
  have lo2:∀ {H'},Ext H6 H'->aH 2 (ptr b8 2) H'=some q.v:=λe=>by rw[aQ,e.cells hb6];rfl
  have fin:∀ H8,Ext H6 H8->(∀ q H',Ext H H'->Q (.tuple #[w.at_.toI.v,aN.v q,vi 0]) H') ->
    opt (aH 2 (ptr b8 0) H8) λv39=>opt (aH 2 (ptr b8 2) H8) λv41=>opt (storeN 2 (ptr (H.next+1) 0) v39 H8) λH16=>aH 2 (ptr b8 2) H16=aH 2 (ptr b8 2) H8/\opt (storeN 2 (ptr (H.next+1+1) 0) v41 H16) λH17=>opt (aH 2 (ptr (H.next+1) 0) H17) λv42=>opt (aH 2 (ptr (H.next+1+1) 0) H17) λv43=>Q (.tuple #[v42,v43,vi 0]) H17:=by
   intro H8 e8 hQ;have:=aBL (H0:=H) (Q:=Q) (e8.cells m2) (e8.cells m3) rfl rfl (by omega) (by omega) (by omega) (e6.trans e8) w.at_.toI q (vi 0) λH' e=>hQ q H' e
   have hs:storeN 2 (ptr (H.next+1) 0) w.at_.toI.v H8=some (H8.put (H.next+1) (.cells w.at_.toI.cells none)):=by rw[bJ,e8.cells m2];rfl
   simp only[lo0 e8,lo2 e8,hs,aI]at this ⊢;refine⟨?_,this⟩;rw[aQ,AH.get_put_ne _ _ (by omega),e8.cells hb6];rfl
  cases hes:dS path with
  | false =>
   rw[hes]at hQ;rw[if_neg (by simp)]at hQ
   have:=fin H7 e7 hQ;simp only[d0,aW,k0,hk,decide_false,lo0 e7,lo2 e7,aI]at this ⊢;exact this
  | true =>
   rw[hes]at hQ;simp only[d0,aW,k0,hk,decide_false,lo0 e7,aI];refine S.rDir hE (h6.mono e7) w.at_ λH8 e8 =>?_;have e68:=e7.trans e8;cases hd:gK T M w.at_ with
   | true =>
    rw[if_neg (by simp[hd])]at hQ
    have:=fin H8 e68 hQ;simp only[lo0 e68,lo2 e68,aI]at this ⊢;exact this
   | false =>
    rw[if_pos (by simp[hd])]at hQ
    simp only[z2a,bz,aI];exact aBL (e68.cells m2) (e68.cells m3) rfl rfl (by omega) (by omega) (by omega) (e6.trans e68) aN.zero aN.zero _ λH' e=>hQ _ H' e
 | cons name left =>
  have hne:w.left≠[]:=by rw[hleft];simp
  have hneed:w.left.length<=w.need:=by unfold fV.need;omega
  have hpos:(0:Int)<(w.left.length:Nat):=by have:=List.length_pos_iff.2 hne;omega
  have hlo8:aH 6 (ptr b8 0) H6=some (rwV w.at_.toI q lv w.links):=by rw[aQ,hb6];rfl
  have hpk:∀ (K:Value->AH->Prop),K (vb (follow||dS path)) H6->gd (vb follow) false (λk=>k (vb (dS path)) H6) H6 λv5 H1=>opt (pick (vb follow) (.bool true) v5) λv6=>K v6 H1:=by
   intro K hK;cases follow<;>simpa using hK
  have hweq:(⟨w.at_,name :: left,w.links⟩:fV)=w:=by rw[<- hleft]
  have hst7:=oK (M:=M) lt (follow||dS path) hne hlk;have hnd7:=kG (M:=M) lt (follow||dS path) hne hlk;have hll1:w.left.length=left.length+1:=by rw[hleft];rfl
  have hll:left.length<2 ^ 36:=by omega
  simp only[F.f66_l1,c4,hlv,bL,gt_iff_lt,hpos,decide_true,hlo8,aI];refine hpk _ ?_;refine S.rStep hE h6 wf kd w.at_ q lv name left w.links (hleft▸r6) hll (by omega) (follow||dS path) λq' lv' H7 e7 r7 =>?_
  rw[hweq]at r7 ⊢;generalize dI T M w (follow||dS path)=st at *;have hb7:=e7.cells hb6;have hp7:=r7.plain
  have hst8:storeN 6 (ptr b8 0) (rwV st.1.at_.toI q' lv' st.1.links) H7=some (H7.put b8 (.cells (rwC st.1.at_.toI q' lv' st.1.links) none)):=by
   rw[bJ,hb7];have h1:(rwC st.1.at_.toI q' lv' st.1.links).length=6:=rfl;have h2:(rwC st.1.at_.toI q' lv' st.1.links).all plain1=true:=by simp only[rwC,List.all_cons,hp7,List.all_nil];rfl
   have h3:AM.splice (rwC w.at_.toI q lv w.links) 0 (rwC st.1.at_.toI q' lv' st.1.links)=rwC st.1.at_.toI q' lv' st.1.links:=rfl;have h4:(rwC w.at_.toI q lv w.links).length=6:=rfl;simp only[List.size_toArray,List.toList_toArray,h1,h2,h4,Nat.zero_add,Nat.le_refl,and_self,if_true,h3]
  have r8:=wS (c':=rwC st.1.at_.toI q' lv' st.1.links) r7 hb7 (uU (r6.mono e7) _ _ _) rfl;have hg8:=AH.get_put_self H7 (.cells (rwC st.1.at_.toI q' lv' st.1.links) none) (AH.lt_cells hb7);have m2':(H7.put b8 (.cells (rwC st.1.at_.toI q' lv' st.1.links) none)).get (H.next+1) = .cells [vi 0,vi 0] none:=by rw[AH.get_put_ne _ _ (by omega)];exact e7.cells m2
  have m3':(H7.put b8 (.cells (rwC st.1.at_.toI q' lv' st.1.links) none)).get (H.next+1+1) = .cells [vi 0,vi 0] none:=by rw[AH.get_put_ne _ _ (by omega)];exact e7.cells m3
  have x8:Ext H (H7.put b8 (.cells (rwC st.1.at_.toI q' lv' st.1.links) none)):=(e6.trans e7).put (by omega) _
  simp only[hst8,bR,aI];generalize H7.put b8 (.cells (rwC st.1.at_.toI q' lv' st.1.links) none)=H8 at *
  by_cases h0:st.2=0
  ·rw[if_neg (by simpa using h0)]at hst7
   obtain⟨n1,n2⟩:=hnd7 h0;simp only[ne_eq,h0,not_true,decide_false,aI];exact hX _ n1 _ _ ⟨st.1,q',lv',rfl,rfl,x8,n2,by rw[<- hww,hst7],hg8,r8,m2',m3',by omega⟩
  ·rw[if_pos (by simpa using h0)]at hst7
   rw[<- hww,hst7,if_pos (by simpa using h0)]at hQ
   simp only[hzI]at hQ;simp only[ne_eq,h0,not_false_eq_true,decide_true,z2a,bz,aI];exact aBL m2' m3' rfl rfl (by omega) (by omega) (by omega) x8 aN.zero aN.zero _ λH' e=>hQ _ H' e
end
end
section
set_option maxRecDepth 20000
section
variable {X:List Res}{E:Sy}{H0 H H' H'':AH}{Q:Value->AH->Prop}{w t s:Nat}{T T':Tr}{M M':List aX}{nx nx' k l:Int}{b c:Nat}{p q:aN}{lv:Value}{n:Int}
theorem vP{b2:Nat}{c2:List Value}(h2:H.get b2 = .cells c2 none)(l2:c2.length=2)(n2:H0.next<=b2)(e:Ext H0 H)(p:aN)(nm ev:Value)(hQ:∀ H',Ext H0 H'->Q (.tuple #[p.v,nm,ev]) H'):
  opt (storeN 2 (ptr b2 0) p.v H) λH7=>opt (aH 2 (ptr b2 0) H7) λv12=>Q (.tuple #[v12,nm,ev]) H7:=by
 have st:storeN 2 (ptr b2 0) p.v H=some (H.put b2 (.cells p.cells none)):=by
  rw[bJ,h2];have h1:p.cells.length=2:=rfl;have h2:p.cells.all plain1=true:=rfl;have h3:AM.splice c2 0 p.cells=p.cells:=by simp[splice,h1,l2]
  simp only[List.size_toArray,List.toList_toArray,h1,h2,l2,Nat.zero_add,Nat.le_refl,and_self,if_true,h3]
 have lo:aH 2 (ptr b2 0) (H.put b2 (.cells p.cells none))=some p.v:=by rw[aQ,AH.get_put_self _ _ (AH.lt_cells h2)];rfl
 simp only[st,lo,aI];exact hQ _ (e.put n2 _)
theorem st6{b:Nat}{c:List Value}(hb:H.get b = .cells c none)(hc:c.length=6)(p q:aN){lv:Value}(n:Int)(hp:plain1 lv=true):storeN 6 (ptr b 0) (rwV p q lv n) H=some (H.put b (.cells (rwC p q lv n) none)):=by
 rw[bJ,hb];have h1:(rwC p q lv n).length=6:=rfl;have h2:(rwC p q lv n).all plain1=true:=by simp only[rwC,List.all_cons,hp,List.all_nil];rfl
 have h3:AM.splice c 0 (rwC p q lv n)=rwC p q lv n:=by simp[splice,h1,hc]
 simp only[List.size_toArray,List.toList_toArray,h1,h2,hc,Nat.zero_add,Nat.le_refl,and_self,if_true,h3]
theorem aFE(hE:bF E)(h:lW H t T M)(wf:T.WF)(kd:T.KD){b2 b8:Nat}(h28:b2≠b8)(n2:H.next<=b2)(n8:H.next<=b8)(w0:fV)(name:aK)(hn0:w0.need<=5000)(hk0:w0.links<=8){q:aN}{lv:Value}(e5:Ext H H')(hb2:H'.get b2 = .cells [vi 0,vi 0] none)(hb8:H'.get b8 = .cells (rwC w0.at_.toI q lv w0.links) none)(hr:Rows H' 1 lv (cL w0.left))(hQ:∀ H',Ext H H'->Q (.tuple #[(if(eE T M true w0).2≠0 then(aG.zero,([]:aK),(eE T M true w0).2)
    else if gK T M (eE T M true w0).1.at_=false then(aG.zero,[],20)
    else if 14<name.length then(aG.zero,[],36)
    else if cP name=false then(aG.zero,[],22)
    else((eE T M true w0).1.at_,name,0)).1.toI.v,str (if(eE T M true w0).2≠0 then(aG.zero,([]:aK),(eE T M true w0).2)
    else if gK T M (eE T M true w0).1.at_=false then(aG.zero,[],20)
    else if 14<name.length then(aG.zero,[],36)
    else if cP name=false then(aG.zero,[],22)
    else((eE T M true w0).1.at_,name,0)).2.1,vi (if(eE T M true w0).2≠0 then(aG.zero,([]:aK),(eE T M true w0).2)
    else if gK T M (eE T M true w0).1.at_=false then(aG.zero,[],20)
    else if 14<name.length then(aG.zero,[],36)
    else if cP name=false then(aG.zero,[],22)
    else((eE T M true w0).1.at_,name,0)).2.2]) H'):
  lp4 (F.f68_l1 E Q) [ptr t 0,ptr b2 0,ptr b8 0,str name] H':=by
 have lt:T.LT:=Tr.KD.lt kd;have z2a:(#[vi 0,vi 0]:Array Value)=[vi 0,vi 0].toArray:=rfl;have bz:aV [(0,1),(1,1)] [vi 0,vi 0].toArray []=some aN.zero.v:=rfl;have bz':aV [(0,1),(1,1)] #[vi 0,vi 0] []=some aN.zero.v:=rfl;have hzI:aG.zero.toI=aN.zero:=rfl;have s0:(.string ⟨#[]⟩:Value)=str []:=rfl;have i0:vi 0=vi ((0:Nat):Int):=rfl;have i14:(.int .i64 14:Value)=vi 14:=rfl
 refine bY.ind (λm ls H'=>∃ (w:fV) (q:aN) (lv:Value),m=w.need/\ls=[ptr t 0,ptr b2 0,ptr b8 0,str name]/\Ext H H'/\w.links<=8/\eE T M true w=eE T M true w0 /\
  H'.get b8 = .cells (rwC w.at_.toI q lv w.links) none/\Rows H' 1 lv (cL w.left)/\H'.get b2 = .cells [vi 0,vi 0] none/\w.need<=5000) ?_ w0.need
  ⟨w0,q,lv,rfl,rfl,e5,hk0,rfl,hb8,hr,hb2,hn0⟩
 rintro m _ H6 X hX ⟨w,q,lv,rfl,rfl,e6,hlk,hww,hb6,r6,m2,hlt⟩;have hlv:=r6.lenSlc;rw[show(cL w.left).length=w.left.length by simp[cL]]at hlv
 have c4:(rwC w.at_.toI q lv w.links)[4]? = some lv:=rfl;have h6:=h.mono e6;cases hleft:w.left with
 | nil =>
  rw[qJ _ hleft]at hww;rw[<- hww]at hQ;simp only[ne_eq,not_true,if_false]at hQ;have hz:AM.lenSlc lv=some (vi ((0:Nat):Int)):=by rw[hlv,hleft];rfl
  have hg:aA .gtr (vi ((0:Nat):Int)) (vi ((0:Nat):Int))=some (vb false):=by rw[bL];simp
  have lo0:∀ {H'},Ext H6 H'->aH 2 (ptr b8 0) H'=some w.at_.toI.v:=λe=>by rw[aQ,e.cells hb6];rfl
  simp only[F.f68_l1,hb6,c4,hz,i0,hg,lo0 (Ext.refl _),aI];refine S.rDir hE h6 w.at_ λH7 e7 =>?_;cases hd:gK T M w.at_ with
  | false =>
   rw[hd]at hQ;simp only[if_true]at hQ;have nt:un .not (vb false)=some (vb true):=rfl;simp only[nt,bz',aI];exact vP (e7.cells m2) rfl n2 (e6.trans e7) aN.zero _ _ λH' e=>hQ H' e
  | true =>
  rw[hd]at hQ;simp only[Bool.true_eq_false,if_false]at hQ;have nt:un .not (vb true)=some (vb false):=rfl
  by_cases h14:14<name.length
  ·rw[if_pos h14]at hQ
   have sg:aA .gtr (vi (name.length:Int)) (vi 14)=some (vb true):=by rw[bL];simp;omega
   simp only[nt,dN,i14,sg,bz',aI];exact vP (e7.cells m2) rfl n2 (e6.trans e7) aN.zero _ _ λH' e=>hQ H' e
  rw[if_neg h14]at hQ;have sg:aA .gtr (vi (name.length:Int)) (vi 14)=some (vb false):=by rw[bL];simp;omega
  simp only[nt,dN,i14,sg,aI];refine S.f56 hE name (by omega) ?_
  cases hok:cP name with
  | false =>
   rw[hok]at hQ;simp only[if_true]at hQ;have nt:un .not (vb false)=some (vb true):=rfl;simp only[nt,bz',aI];exact vP (e7.cells m2) rfl n2 (e6.trans e7) aN.zero _ _ λH' e=>hQ H' e
  | true =>
   rw[hok]at hQ;simp only[Bool.true_eq_false,if_false]at hQ;simp only[nt,lo0 e7,aI];exact vP (e7.cells m2) rfl n2 (e6.trans e7) w.at_.toI _ _ λH' e=>hQ H' e
 | cons nm left =>
  have hne:w.left≠[]:=by rw[hleft];simp
  have hneed:w.left.length<=w.need:=by unfold fV.need;omega
  have hpos:0<w.left.length:=List.length_pos_iff.2 hne;have hg:aA .gtr (vi (w.left.length:Int)) (vi ((0:Nat):Int))=some (vb true):=by rw[bL];simp;omega
  have hlo8:aH 6 (ptr b8 0) H6=some (rwV w.at_.toI q lv w.links):=by rw[aQ,hb6];rfl
  have hweq:(⟨w.at_,nm :: left,w.links⟩:fV)=w:=by rw[<- hleft]
  have hst7:=oK (M:=M) lt true hne hlk;have hnd7:=kG (M:=M) lt true hne hlk;have hll1:w.left.length=left.length+1:=by rw[hleft];rfl
  simp only[F.f68_l1,hb6,c4,hlv,i0,hg,hlo8,aI];refine S.rStep hE h6 wf kd w.at_ q lv nm left w.links (hleft▸r6) (by omega) (by omega) true λq' lv' H7 e7 r7 =>?_
  rw[hweq]at r7 ⊢;generalize dI T M w true=st at *;have hb7:=e7.cells hb6;have hp7:=r7.plain;have hst8:=st6 hb7 rfl st.1.at_.toI q' st.1.links hp7;have r8:=wS (c':=rwC st.1.at_.toI q' lv' st.1.links) r7 hb7 (uU (r6.mono e7) _ _ _) rfl;have hg8:=AH.get_put_self H7 (.cells (rwC st.1.at_.toI q' lv' st.1.links) none) (AH.lt_cells hb7);have m2':(H7.put b8 (.cells (rwC st.1.at_.toI q' lv' st.1.links) none)).get b2 = .cells [vi 0,vi 0] none:=by rw[AH.get_put_ne _ _ h28];exact e7.cells m2
  have x8:Ext H (H7.put b8 (.cells (rwC st.1.at_.toI q' lv' st.1.links) none)):=(e6.trans e7).put (by omega) _
  simp only[hst8,aI];generalize H7.put b8 (.cells (rwC st.1.at_.toI q' lv' st.1.links) none)=H8 at *
  by_cases h0:st.2=0
  ·rw[if_neg (by simpa using h0)]at hst7
   obtain⟨n1,n2⟩:=hnd7 h0;have s:aA .neq (vi st.2) (vi ((0:Nat):Int))=some (vb false):=by rw[h0];exact(show aA .neq (vi 0) (vi 0)=some (vb false) from rfl)
   simp only[i0,s,aI];exact hX _ n1 _ _ ⟨st.1,q',lv',rfl,rfl,x8,n2,by rw[<- hww,hst7],hg8,r8,m2',by omega⟩
  ·rw[if_pos (by simpa using h0)]at hst7
   rw[<- hww,hst7]at hQ;rw[if_pos (by simpa using h0)]at hQ
   have s:aA .neq (vi st.2) (vi ((0:Nat):Int))=some (vb true):=by rw[bR];simp[h0]
   simp only[i0,s,bz',aI];exact vP m2' rfl n2 x8 aN.zero _ _ λH' e=>hQ H' e
theorem S.rLast(hE:bF E)(h:lW H t T M)(wf:T.WF)(kd:T.KD)(cwd:aG)(path:List UInt8)(hp:path.length<2 ^ 62)(hQ:∀ H',Ext H H'->Q (.tuple #[(bW T M cwd path).1.toI.v,str (bW T M cwd path).2.1,vi (bW T M cwd path).2.2]) H'):E.call 11 [ptr t 0,cwd.toI.v,str path] H Q:=by
 apply hE.f68;have z2:([vi 0,vi 0]:List Value)=[vi 0,vi 0]:=rfl;have z0:([vi 0,vi 0,vi 0,vi 0,(.slice none 0 0),vi 0]:List Value)=[vi 0,vi 0,vi 0,vi 0,aZ,vi 0]:=rfl;have bz':aV [(0,1),(1,1)] #[vi 0,vi 0] []=some aN.zero.v:=rfl;have hzI:aG.zero.toI=aN.zero:=rfl;have i0:vi 0=vi ((0:Nat):Int):=rfl;have g2:=((Has.start (Ext.refl H)).newbox cwd.toI.cells).newbox [vi 0,vi 0];have g2:Has H H ((H.new (.cells cwd.toI.cells none)).new (.cells [vi 0,vi 0] none)) [bE H.next cwd.toI.cells,bE (H.next+1) [vi 0,vi 0]]:=g2;have hlo:aH 2 (ptr H.next 0) ((H.new (.cells cwd.toI.cells none)).new (.cells [vi 0,vi 0] none))=some cwd.toI.v:=by rw[aQ,g2.box (k:=0) (b:=H.next) rfl];rfl
 simp only[F.f68,bD,z2,hlo,aI];have hb2:=g2.box (k:=1) (b:=H.next+1) rfl;have x2:=g2.ext;generalize (H.new (.cells cwd.toI.cells none)).new (.cells [vi 0,vi 0] none)=H2 at *;unfold bW at hQ;refine S.rBegin hE (h.mono x2) cwd path hp (λhbad H4 e4 =>?_) λhgood q lv H4 e4 r4 =>?_
 ·rw[if_pos hbad]at hQ
  simp only[hzI]at hQ;have x5:Ext H4 (H4.new (.cells [vi 0,vi 0,vi 0,vi 0,aZ,vi 0] none)):=(Ext.refl _).new _;have hb5:=AH.get_new_self H4 (.cells [vi 0,vi 0,vi 0,vi 0,aZ,vi 0] none);have hst:=st6 hb5 rfl aN.zero aN.zero (lv:=aZ) 0 rfl;have x6:Ext H4 ((H4.new (.cells [vi 0,vi 0,vi 0,vi 0,aZ,vi 0] none)).put H4.next (.cells (rwC aN.zero aN.zero aZ 0) none)):=x5.put (Nat.le_refl _) _
  have s:aA .neq (vi (eL M cwd path).2) (vi 0)=some (vb true):=by
   show aA .neq (vi (eL M cwd path).2) (vi 0)=_
   rw[bR];simpa using hbad
  simp only[bD,z0,hst,s,bz',aI];exact vP ((e4.trans x6).cells hb2) rfl (by omega) (x2.trans (e4.trans x6)) aN.zero _ _ λH' e=>hQ H' e
 rw[if_neg (by simp[hgood])]at hQ
 simp only[hzI]at hQ;obtain⟨hlk0,hll0⟩:=lK M cwd path;generalize (eL M cwd path).1=w0 at *;have hpl4:=r4.plain;have x5:Ext H4 (H4.new (.cells [vi 0,vi 0,vi 0,vi 0,aZ,vi 0] none)):=(Ext.refl _).new _;have hb5:=AH.get_new_self H4 (.cells [vi 0,vi 0,vi 0,vi 0,aZ,vi 0] none);have hst:=st6 hb5 rfl w0.at_.toI q 0 hpl4;have x6:Ext H4 ((H4.new (.cells [vi 0,vi 0,vi 0,vi 0,aZ,vi 0] none)).put H4.next (.cells (rwC w0.at_.toI q lv 0) none)):=x5.put (Nat.le_refl _) _;have hb6:((H4.new (.cells [vi 0,vi 0,vi 0,vi 0,aZ,vi 0] none)).put H4.next (.cells (rwC w0.at_.toI q lv 0) none)).get H4.next = .cells (rwC w0.at_.toI q lv 0) none:=AH.get_put_self _ _ (AH.lt_cells hb5);have s:aA .neq (vi 0) (vi 0)=some (vb false):=rfl;have n8:H.next+1<H4.next:=Nat.lt_of_lt_of_le (AH.lt_cells hb2) e4.1;have c4:(rwC w0.at_.toI q lv 0)[4]? = some lv:=rfl;have hlv:=r4.lenSlc;rw[show(cL w0.left).length=w0.left.length by simp[cL]]at hlv
 simp only[bD,z0,hst,s,hb6,c4,hlv,aI];have e6:=e4.trans x6;have r6:=r4.mono x6;generalize hb8:H4.next=b8 at *;generalize (H4.new (.cells [vi 0,vi 0,vi 0,vi 0,aZ,vi 0] none)).put b8 (.cells (rwC w0.at_.toI q lv 0) none)=H6 at *;have hb26:=e6.cells hb2;have xx:=x2.trans e6;have s16:(.int .i64 16:Value)=vi 16:=rfl;rcases List.eq_nil_or_concat w0.left with hnil | ⟨ini,name,hcon⟩
 ·rw[hnil]at hQ
  simp only[List.getLast?_nil]at hQ
  have hsub:aA .sub (vi ((w0.left.length:Nat):Int)) (vi 1)=some (vi (-1)):=by
   show aA .sub (vi ((w0.left.length:Nat):Int)) (vi 1)=_
   rw[hnil,fZ (by simp) (by simp)];rfl
  have hls:aA .lss (vi (-1)) (vi 0)=some (vb true):=rfl;simp only[hsub,hls,bz',aI];exact vP hb26 rfl (by omega) xx aN.zero _ _ λH' e=>hQ H' e
 have hcon:w0.left=ini++[name]:=by rw[hcon,List.concat_eq_append]
 rw[hcon]at hQ;simp only[List.getLast?_concat,List.dropLast_concat]at hQ;have hlen:w0.left.length=ini.length+1:=by rw[hcon];simp
 have hsub:aA .sub (vi ((w0.left.length:Nat):Int)) (vi 1)=some (vi ((ini.length:Nat):Int)):=by
  show aA .sub (vi ((w0.left.length:Nat):Int)) (vi 1)=_
  rw[fZ (by omega) (by omega)];congr 2;omega
 have hls:aA .lss (vi ((ini.length:Nat):Int)) (vi 0)=some (vb false):=by
  show aA .lss (vi ((ini.length:Nat):Int)) (vi 0)=_
  rw[bS];simp
 have hin:ini.length<w0.left.length:=by omega
 obtain⟨b1,o1,p1,p2,_⟩:=tO r6 (i:=ini.length) hin;have hnm:w0.left[ini.length]=name:=by simp[hcon]
 rw[hnm]at p2;have sdd:(.string ⟨#[46,46]⟩:Value)=str [46,46]:=rfl;simp only[hsub,hls,hb6,c4,p1,p2,sdd,aI]
 by_cases hdd:name=[46,46]
 ·rw[if_pos hdd]at hQ
  have sd:cH .eql (str name) (str [46,46])=some (vb true):=by rw[eI];simp[hdd]
  simp only[sd,bz',aI];exact vP hb26 rfl (by omega) xx aN.zero _ _ λH' e=>hQ H' e
 rw[if_neg hdd]at hQ;have sd:cH .eql (str name) (str [46,46])=some (vb false):=by rw[eI];simp[hdd]
 have hbS:buildS 0 1 #[(.string ⟨#[]⟩)] []=some (.cells [] none,eA 0 0):=by
  have:=fJ 0 1 [str []] [] [] rfl rfl rfl rfl (by simp)
  simpa using this
 have x7:Ext H6 (H6.new (.cells [] none)):=(Ext.refl _).new _;have hb7:=x7.cells hb6;simp only[sd,hb6,c4,p1,p2,hbS,AM.cX,eN,aI];have g7:=(Has.start (Ext.refl H6)).newroom 1;have g7:Has H6 H6 (H6.new (.cells [] none)) [cQ 1 (slc H6.next 0 0 0) []]:=g7;obtain⟨v32,t1,t2⟩:=(r6.mono x7).slice (lo:=none) (hi:=some (vi ((ini.length:Nat):Int))) (i:=0) (j:=ini.length) (.inr ⟨rfl,rfl⟩) (.inl rfl) (Nat.zero_le _) (by simp[cL,hlen])
 have htk:((cL w0.left).take ini.length).drop 0=cL ini:=by simp[cL,hcon]
 rw[htk]at t2
 obtain⟨v33,H15,w1,w2,w3⟩:=g7.app (k:=0) (bytes:=16) rfl t2 (λr hr=>by
  obtain⟨x,_,rfl⟩:=List.mem_map.1 hr
  rfl) (by decide) (by decide) (by simp[cL];omega) (by simp[cL];omega)
 simp only[hb7,c4,t1,w1,aI];have r15:Rows H15 1 v33 (cL ini):=w3.rows (k:=0) rfl;have e15:Ext H6 H15:=w3.ext;have hb15:=e15.cells hb6
 have hst16:aR (ptr b8 4) v33 H15=some (H15.put b8 (.cells (rwC w0.at_.toI q v33 0) none)):=by
  rw[aO,if_pos w2,hb15];rfl
 have r16:=wS (c':=rwC w0.at_.toI q v33 0) r15 hb15 (uU (r6.mono e15) _ _ _) rfl;have hg16:=AH.get_put_self H15 (.cells (rwC w0.at_.toI q v33 0) none) (AH.lt_cells hb15);have m2:(H15.put b8 (.cells (rwC w0.at_.toI q v33 0) none)).get (H.next+1) = .cells [vi 0,vi 0] none:=by rw[AH.get_put_ne _ _ (by omega)];exact e15.cells hb26
 have x16:Ext H (H15.put b8 (.cells (rwC w0.at_.toI q v33 0) none)):=(xx.trans e15).put (by omega) _
 simp only[hst16,aI];refine aFE (b2:=H.next+1) (b8:=b8) hE h wf kd (by omega) (by omega) (by omega) ⟨w0.at_,ini,w0.links⟩ name (by unfold fV.need;simp only;omega) (by simp only;omega) x16 m2 (by simp only[hlk0];exact hg16) r16 λH' e=>hQ H' e
end
end
section
set_option maxRecDepth 20000
structure PlI(k:Int)(T:Tr)(M:List aX)(nx:Int):Prop where
 k0:0<=k
 wf:T.WF
 kd:T.KD
 ti:T.Tidy
 c0:0<=T.change
 c1:T.change<=2*k
 pin:nE M nx k
 mnt:∀ m∈M,(T.node m.root).kind=2#8/\(m.id≠0->(T.node m.at_.i).kind=2#8)
section
variable {T T':Tr}{M:List aX}{nx k l:Int}
theorem GI.play(g:GI k T M nx l):PlI k T M nx:=⟨g.k0,g.wf,g.kd,g.tidy,g.c0,g.c1,g.pin,λm hm=>by
 obtain⟨a,_,c⟩:=g.mnt m hm;exact⟨a,λh=>(c h).2.1⟩⟩
theorem PlI.co(p:PlI k T M nx)(hk:k<=1000):T.CO:=⟨by have:=p.c0;omega,by have:=p.c1;omega⟩
theorem PlI.right(p:PlI k T M nx):sG T M=true:=aBG p.wf p.ti p.mnt
theorem PlI.up(p:PlI k T M nx):PlI (k+1) T M nx:={ p with k0:=by have:=p.k0;omega,c1:=by have:=p.c1;omega,pin:=p.pin.mono (by omega) }
theorem PlI.step(p:PlI k T M nx)(wf:T'.WF)(kd:T'.KD)(ti:T'.Tidy)(cb:T.CB T')(hk:∀ m∈M,(T'.node m.root).kind=(T.node m.root).kind/\(m.id≠0->(T'.node m.at_.i).kind=(T.node m.at_.i).kind)):PlI (k+1) T' M nx where
 k0:=by have:=p.k0;omega
 wf:=wf
 kd:=kd
 ti:=ti
 c0:=by have:=p.c0;have:=cb.1;omega
 c1:=by have:=p.c1;have:=cb.2;omega
 pin:=p.pin.mono (by omega)
 mnt:=λm hm=>by
  obtain⟨a,b⟩:=p.mnt m hm;obtain⟨c,d⟩:=hk m hm;exact⟨by rw[c];exact a,λh=>by rw[d h];exact b h⟩
theorem PlI.make(p:PlI k T M nx)(a:BitVec 16)(s:aK)(kk:BitVec 8)(text:List UInt8):PlI (k+1) (T.make a s kk text).1 M nx:=by
 have h16:=p.wf.len16;have h2:=p.wf.len.1;refine p.step (p.wf.make _ _ _ _) (p.kd.make gE _ _ _ _) (p.ti.make _ _ _ _) (.make _ _ _ _) λm hm =>?_;obtain⟨x,y⟩:=p.mnt m hm;exact⟨aAh (by omega) (by omega) _ _ _ _ (by rw[x];decide),λh=>aAh (by omega) (by omega) _ _ _ _ (by rw[y h];decide)⟩
theorem aB9(a:BitVec 16)(s:aK)(b n:BitVec 16):((T.add a s b).1.node n).kind=(T.node n).kind:=by
 unfold Tr.add
 repeat' split
 all_goals try rfl
 show(((T.upd a (Nd.addE s b)).upd b (Nd.addL 1)).node n).kind=_
 rcases(T.upd a (Nd.addE s b)).upd_or b n (Nd.addL 1) with e | e<;>rw[e]<;>rcases T.upd_or a n (Nd.addE s b) with e | e<;>rw[e]<;>rfl
theorem PlI.add(p:PlI k T M nx)(a:BitVec 16)(s:aK)(b:BitVec 16):PlI (k+1) (T.add a s b).1 M nx :=
 p.step (p.wf.add _ _ _) (Tr.Did.kd (up:=true) (.add a s b) p.kd) (p.ti.add p.wf _ _ _) (.add _ _ _) λm _=>⟨aB9 _ _ _ _,λ_=>aB9 _ _ _ _⟩
theorem aIe(U:Tr){n m:BitVec 16}(h:m≠n):(U.tidy n).node m=U.node m:=by
 unfold Tr.tidy
 split
 ·exact Tr.node_upd_ne h _
 ·rfl
theorem rQ(a:BitVec 16)(s:aK)(d:Bool){n:BitVec 16}(hn:(T.look a s).2=0->n≠(T.look a s).1):((T.drop a s d).1.node n).kind=(T.node n).kind:=by
 unfold Tr.drop
 split
 ·rfl
 ·rename_i h0
  have h0:(T.look a s).2=0:=Classical.byContradiction λh=>h0 h
  split
  ·rfl
  split
  ·rfl
  split
  ·rfl
  show((Tr.tidy _ _).node n).kind=_
  rw[aIe _ (hn h0)]
  show(((T.upd a (Nd.delE s)).upd (T.look a s).1 (Nd.addL (-1))).node n).kind=_
  rw[Tr.node_upd_ne (hn h0)];rcases T.upd_or a n (Nd.delE s) with e | e<;>rw[e]<;>rfl
theorem aCG(U:Tr)(fr:BitVec 16)(s:aK)(to:BitVec 16)(o:aK)(m n:BitVec 16):((Tr.moved U fr s to o m).node n).kind=(U.node n).kind:=by
 have h2:(((U.upd fr (Nd.delE s)).upd to (Nd.addE o m)).node n).kind=(U.node n).kind:=by
  rcases(U.upd fr (Nd.delE s)).upd_or to n (Nd.addE o m) with e | e<;>rw[e]<;>rcases U.upd_or fr n (Nd.delE s) with e | e<;>rw[e]<;>rfl
 unfold Tr.moved;simp only
 split
 ·show((((U.upd fr (Nd.delE s)).upd to (Nd.addE o m)).upd m _).node n).kind=_
  rcases((U.upd fr (Nd.delE s)).upd to (Nd.addE o m)).upd_or m n (λx=>{ x with parent:=to }) with e | e
  ·rw[e];exact h2
  ·rw[e];exact h2
 ·exact h2
theorem zQ(fr:BitVec 16)(s:aK)(to:BitVec 16)(o:aK){n:BitVec 16}(hn:(T.look to o).2=0->n≠(T.look to o).1):((T.move fr s to o).1.node n).kind=(T.node n).kind:=by
 unfold Tr.move
 split
 ·rfl
 split
 ·rfl
 split
 ·rfl
 split
 ·rfl
 split
 ·rfl
 rw[aCG]
 split
 ·exact rQ _ _ _ hn
 ·rfl
theorem aAO{n:BitVec 16}(h:M.any (nF n)=false):∀ m∈M,m.root≠n/\(m.id≠0->m.at_.i≠n):=λm hm=>by
 have:=List.any_eq_false.1 h m hm;unfold nF at this;simp only[Bool.or_eq_true,decide_eq_true_eq,Bool.and_eq_true,not_or,not_and]at this;exact this
theorem PlI.drop(p:PlI k T M nx)(a:BitVec 16)(s:aK)(d:Bool)(hu:(T.look a s).2=0->M.any (nF (T.look a s).1)=false):PlI (k+1) (T.drop a s d).1 M nx :=
 p.step (p.wf.drop _ _ _) (p.kd.drop gE _ _ _) (p.ti.drop _ _ _) (.drop _ _ _) λm hm=>⟨rQ _ _ _ λh=>(aAO (hu h) m hm).1,λh0=>rQ _ _ _ λh=>(aAO (hu h) m hm).2 h0⟩
theorem PlI.move(p:PlI k T M nx)(fr:BitVec 16)(s:aK)(to:BitVec 16)(o:aK)(hu:(T.look to o).2=0->M.any (nF (T.look to o).1)=false):PlI (k+1) (T.move fr s to o).1 M nx :=
 p.step (p.wf.move _ _ _ _) (Tr.Did.kd (up:=true) (.move fr s to o) p.kd) (p.ti.move _ _ _ _) (.move _ _ _ _) λm hm=>⟨zQ _ _ _ _ λh=>(aAO (hu h) m hm).1,λh0=>zQ _ _ _ _ λh=>(aAO (hu h) m hm).2 h0⟩
theorem PlI.bind(p:PlI k T M nx)(a b:aG):PlI (k+1) T (iS T M nx a b).M (iS T M nx a b).nx:=by
 unfold iS
 split
 ·exact p.up
 ·rename_i hd
  have ha:(T.node a.i).kind=2#8:=lV (by simpa using λh=>hd (.inl h))
  have hb:(T.node b.i).kind=2#8:=lV (by simpa using λh=>hd (.inr h))
  split
  ·exact p.up
  ·refine { p.up with pin:=p.pin.bind a.i b,mnt:=λm hm =>?_ }
   have hm':m∈M\/m=⟨nx,b,a.i,0⟩:=by
    simp only[dJ]at hm
    split at hm
    ·exact .inl hm
    ·split at hm
     ·exact .inl hm
     ·split at hm
      ·exact .inl hm
      ·rcases List.mem_append.1 hm with h | h
       ·exact .inl h
       ·exact .inr (by simpa using h)
   rcases hm' with hm' | rfl
   ·exact p.mnt m hm'
   ·exact⟨ha,λ_=>hb⟩
theorem rW{c:aG}{path:List UInt8}(h:(cA T M c path).2=0):(bW T M c path).2.2=0/\(cA T M c path).1.dir=(bW T M c path).1/\(cA T M c path).1.name=(bW T M c path).2.1/\(cA T M c path).1.ino=(T.look (bW T M c path).1.i (bW T M c path).2.1).1:=by
 unfold cA at h ⊢
 split at h
 ·rename_i h0;exact absurd h h0
 ·rename_i h0
  rw[if_neg h0]
  split at h
  ·rename_i h1;exact absurd h h1.1
  ·rename_i h1
   rw[if_neg h1];exact⟨Classical.byContradiction h0,rfl,rfl,rfl⟩
end
end
section
set_option maxRecDepth 20000
section
variable {X:List Res}{E:Sy}{H0 H H':AH}{Q:Value->AH->Prop}{w t:Nat}{T:Tr}{M:List aX}{nx:Int}{lv:Value}
def jE:List aK:=[[97],[98],[99],[100,46,101],[102],[103],[46,46],[46],[],[110,111,116,104,105,110,103],[97,98,99,100,101,102,103,104,105,106,107,108,109,110,111],[120,32,121],[97,47]]
theorem aCm:∀ s∈jE,s.length<=15:=by decide
theorem aDC(hE:bF E){pv:Value}(rp:Rows H 1 pv (cL jE)){l:List (BitVec 8)}(hl:Rows H 1 lv (bP l))(hll:l.length<2 ^ 63)(s0:aK)(h0:s0.length<=1)(hQ:∀ s:aK,s.length<=300->Q (str s) H):F.f51_j1 E Q lv pv (str s0) H:=by
 have hlv:AM.lenSlc lv=some (vi l.length):=by have:=hl.lenSlc;rw[bP,List.length_map]at this;exact this
 have i0:vi 0=vi ((0:Nat):Int):=rfl;simp only[F.f51_j1,hlv,i0,aI];refine bY.count 12 (λj ls H'=>∃ s:aK,ls=[pv,str s,lv,vi l.length,vi j]/\H'=H/\s.length<=1+16*j) ?_ ⟨s0,rfl,rfl,by omega⟩
 rintro j _ H1 X0 hj hX ⟨s,rfl,hH,hs⟩;rw[hH];rcases Nat.lt_or_ge j l.length with hjl | hjl
 rotate_left
 ·have sl:=aAg (show ¬ j<l.length by omega)
  simp only[F.f51_l1,sl,aI];exact hQ s (by omega)
 have sl:=zY hjl;obtain⟨b,o,p1,p2⟩:=hl.ix (i:=j) (by rw[bP,List.length_map];exact hjl)
 have hrw:(bP l)[j]'(by rw[bP,List.length_map];exact hjl)=[u8 l[j]]:=by simp[bP]
 rw[hrw]at p2;have p3:(H.get b).cell o=some (u8 l[j]):=by have:=eG p2 (j:=0) (by omega);simpa using this
 generalize l[j]=kk at *;rcases Nat.lt_or_ge j 12 with hj12 | hj12
 rotate_left
 ·have hge:aA .geq (vi (j:Int)) (vi 12)=some (vb true):=by
   show aA .geq (vi (j:Int)) (vi 12)=_
   rw[dL];simp;omega
  simp only[F.f51_l1,sl,p1,p3,hge,aI];exact hQ s (by omega)
 have hX:=hX hj12
 have hge:aA .geq (vi (j:Int)) (vi 12)=some (vb false):=by
  show aA .geq (vi (j:Int)) (vi 12)=_
  rw[dL];simp;omega
 have hjj:=cS (i:=j) (by omega)
 have hl13:AM.lenSlc pv=some (vi ((13:Nat):Int)):=rp.lenSlc;have hrem:aA .rem (vi (kk.toNat:Int)) (vi ((13:Nat):Int))=some (vi ((kk.toNat % 13:Nat):Int)):=kW kk.toNat 13 (by decide)
 have hlt:kk.toNat % 13<jE.length:=Nat.mod_lt _ (by decide)
 obtain⟨b2,o2,q1,q2,_⟩:=tO rp (i:=kk.toNat % 13) hlt;have hpl:=aCm _ (List.getElem_mem hlt);generalize jE[kk.toNat % 13]=part at *;generalize kk.toNat % 13=kx at *
 have last:∀ s':aK,s'.length<=s.length+1->F.f51_j2 E Q X0 pv (str s') (u8 kk) lv (vi l.length) (vi j) H:=by
  intro s' hs';have ha:=sA s' part (by omega)
  simp only[F.f51_j2,kO,hl13,hrem,q1,q2,ha,hjj,aI];exact hX _ _ ⟨s'++part,rfl,rfl,by rw[List.length_append];omega⟩
 have s47:(.string ⟨#[47]⟩:Value)=str [47]:=rfl;simp only[F.f51_l1,sl,p1,p3,hge,aI]
 by_cases h0:0<j
 ·have sg:aA .gtr (vi (j:Int)) (vi 0)=some (vb true):=by
   show aA .gtr (vi (j:Int)) (vi 0)=_
   rw[bL];simp;omega
  have ha:=sA s [47] (by simp;omega)
  simp only[sg,s47,ha,aI];exact last _ (by simp)
 ·have sg:aA .gtr (vi (j:Int)) (vi 0)=some (vb false):=by
   show aA .gtr (vi (j:Int)) (vi 0)=_
   rw[bL];simp;omega
  simp only[sg,aI];exact last s (by omega)
theorem S.f51(hE:bF E){l:List (BitVec 8)}(hl:Rows H 1 lv (bP l))(hll:l.length<2 ^ 63)(from_:Bool)(hQ:∀ (s:aK) H',Ext H H'->s.length<=300->Q (str s) H'):E.call 8 [lv,vb from_] H Q:=by
 apply hE.f51;have hbS:buildS 13 1 #[(.string ⟨#[]⟩)] [(0,(.string ⟨#[97]⟩)),(1,(.string ⟨#[98]⟩)),(2,(.string ⟨#[99]⟩)),(3,(.string ⟨#[100,46,101]⟩)),(4,(.string ⟨#[102]⟩)),(5,(.string ⟨#[103]⟩)),(6,(.string ⟨#[46,46]⟩)),(7,(.string ⟨#[46]⟩)),(8,(.string ⟨#[]⟩)),(9,(.string ⟨#[110,111,116,104,105,110,103]⟩)),(10,(.string ⟨#[97,98,99,100,101,102,103,104,105,106,107,108,109,110,111]⟩)),(11,(.string ⟨#[120,32,121]⟩)),(12,(.string ⟨#[97,47]⟩))]=some (.cells (jE.map str) none,eA 13 13):=fJ 13 1 [str []] _ (jE.map str) rfl rfl rfl rfl (by intro v hv;obtain⟨x,_,rfl⟩:=List.mem_map.1 hv;rfl)
 have x1:Ext H (H.new (.cells (jE.map str) none)):=(Ext.refl _).new _;have rp:Rows (H.new (.cells (jE.map str) none)) 1 (slc H.next 0 13 13) (cL jE):=Rows.made (rows:=cL jE) (AH.get_new_self _ _) (.inl rfl) rfl (by simp[cL])
 have s47:(.string ⟨#[47]⟩:Value)=str [47]:=rfl;have s0:(.string ⟨#[]⟩:Value)=str []:=rfl;simp only[F.f51,hbS,AM.cX,eN,aI];cases from_ with
 | true =>
  simp only[s47,aI];exact aDC hE rp (hl.mono x1) hll [47] (by simp) λs hs=>hQ s _ x1 hs
 | false =>
  simp only[aI];exact aDC hE rp (hl.mono x1) hll [] (by simp) λs hs=>hQ s _ x1 hs
theorem aHZ(wf:T.WF)(kd:T.KD){n:BitVec 16}(hk:(T.node n).kind≠0#8):mB (T.node n)=(T.node n).data.length+(T.node n).ents.length+(T.node n).text.length:=by
 have he:(T.node n).kind≠2#8->(T.node n).ents=[]:=λh=>Tr.ents_dir wf h;have ht:(T.node n).kind≠3#8->(T.node n).text=[]:=λh=>(kd n).notext h;have hd:(T.node n).kind≠1#8->(T.node n).data=[]:=λh=>(kd n).nodata h;unfold mB
 by_cases h1:(T.node n).kind=1#8
 ·rw[if_pos h1,he (by rw[h1];decide),ht (by rw[h1];decide)];simp
 ·rw[if_neg h1]
  by_cases h2:(T.node n).kind=2#8
  ·rw[if_pos h2,hd h1,ht (by rw[h2];decide)];simp
  ·rw[if_neg h2,hd h1,he h2]
   by_cases h3:(T.node n).kind=3#8
   ·rw[if_pos h3];simp
   ·rw[if_neg h3,ht h3];rfl
end
end
section
set_option maxRecDepth 20000
section
variable {X:List Res}{E:Sy}{H0 H H':AH}{Q:Value->AH->Prop}{w t:Nat}{T:Tr}{M:List aX}{nx:Int}{lv:Value}{n:BitVec 16}
def lH(T:Tr)(n:BitVec 16):List Value:=if(T.node n).kind=0#8 then[u16 0#16,u8 0#8,vi 0,vi 0] else[u16 n,u8 (T.node n).kind,vi (T.node n).links,vi (mB (T.node n))]
theorem sO(hE:bF E)(wf:T.WF)(kd:T.KD){sb nb o:Nat}{y:RLy}(hs:H.get sb = .cells (lH T n) none)(hn:vT H nb o (T.node n) y){rv wv:Value}{rl:List (BitVec 8)}(hr:Rows H 1 rv (bP rl))(hw:Rows H 1 wv (bP rl))(e:Int)(hQ:∀ H',Ext H H'->Q (vb true) H'):
  F.f55_j1 E Q (u16 n) rv (vi e) (ptr sb 0) (vi (if(T.node n).kind=0#8 then 2 else 0)) (ptr nb o) wv (vi e) H:=by
 have s1:=mU e;have o1:=wE hr;have o2:=wE hw;have s2:cH .neq (str (rl.map UInt8.ofBitVec)) (str (rl.map UInt8.ofBitVec))=some (vb false):=by rw[mI];simp
 obtain⟨k0,k1,k2,k3,k4,k5,k6⟩:=hn.cell;have i0:vi 0=vi ((0:Nat):Int):=rfl;have i2:(.int .i64 2:Value)=vi ((2:Nat):Int):=rfl
 have lo:aH 4 (ptr sb 0) H=some (.agg (lH T n).toArray):=by
  rw[aQ,hs];unfold lH
  split<;>rfl
 by_cases hk:(T.node n).kind=0#8
 ·have e0:aA .eql (vi ((T.node n).kind.toNat:Int)) (vi ((0:Nat):Int))=some (vb true):=by rw[hk];exact uW _
  have e2:aA .eql (vi 2) (vi ((2:Nat):Int))=some (vb true):=uW 2;have hc:lH T n=[u16 0#16,u8 0#8,vi 0,vi 0]:=if_pos hk;have hbz:aV [(0,1),(1,1),(2,1),(3,1)] #[(.int .u16 0),(.int .u8 0),vi 0,vi 0] []=some (.agg [u16 0#16,u8 0#8,vi 0,vi 0].toArray):=rfl
  have hba:fU [0,0,0,0] .eql (.agg [u16 0#16,u8 0#8,vi 0,vi 0].toArray) (.agg [u16 0#16,u8 0#8,vi 0,vi 0].toArray)=some (vb true):=by
   rw[sB];rfl
  rw[hc]at lo;rw[if_pos hk];simp only[F.f55_j1,s1,o1,o2,s2,k0,aI];have hz:aV [(0,1),(1,1),(2,1),(3,1)] #[(.int .u16 0),(.int .u8 0),vi ((0:Nat):Int),vi ((0:Nat):Int)] []=some (.agg [u16 0#16,u8 0#8,vi 0,vi 0].toArray):=rfl;have e0':aA .eql (vi ((T.node n).kind.toNat:Int)) (vi 0)=some (vb true):=e0;have e2':aA .eql (vi 2) (vi 2)=some (vb true):=e2;simp only[k0,e0',e2',lo,hbz,hba,aI];exact hQ _ (Ext.refl _)
 ·have e0':aA .eql (vi ((T.node n).kind.toNat:Int)) (vi 0)=some (vb false):=aFL (a:=(T.node n).kind.toNat) (b:=0) λh=>hk (BitVec.eq_of_toNat_eq (by rw[h];rfl))
  have e00:aA .eql (vi 0) (vi 0)=some (vb true):=rfl;have hc:lH T n=[u16 n,u8 (T.node n).kind,vi (T.node n).links,vi (mB (T.node n))]:=if_neg hk;rw[hc]at lo;rw[if_neg hk]
  have c8:bI .u8 (vi ((T.node n).kind.toNat:Int))=some (u8 (T.node n).kind):=by
   rw[aD5]
   congr 2
   rw[BitVec.ofInt_natCast,BitVec.ofNat_toNat,BitVec.setWidth_eq]
  have l1:AM.lenSlc y.data=some (vi (T.node n).data.length):=by have:=hn.2.1.lenSlc;rw[bP,List.length_map]at this;exact this
  have l2:=hn.lenL;have hsz:=aHZ wf kd hk;have d1:=wf.data n;have d2:=wf.size n
  have d3:(T.node n).text.length<=120:=by
   by_cases h3:(T.node n).kind=3#8
   ·exact((kd n).text h3).2
   ·rw[(kd n).notext h3];simp
  have a1:=cV (T.node n).data.length (T.node n).ents.length (by omega)
  have a2:=cV ((T.node n).data.length+(T.node n).ents.length) (T.node n).text.length (by omega)
  rw[<- hsz]at a2;have hbv:aV [(0,1),(1,1),(2,1),(3,1)] #[(.int .u16 0),(.int .u8 0),vi 0,vi 0] [(0,u16 n),(1,u8 (T.node n).kind),(2,vi (T.node n).links),(3,vi (mB (T.node n)))]=some (.agg [u16 n,u8 (T.node n).kind,vi (T.node n).links,vi (mB (T.node n))].toArray):=rfl
  have hba:fU [0,0,0,0] .eql (.agg [u16 n,u8 (T.node n).kind,vi (T.node n).links,vi (mB (T.node n))].toArray) (.agg [u16 n,u8 (T.node n).kind,vi (T.node n).links,vi (mB (T.node n))].toArray)=some (vb true):=by
   rw[sB];simp only[mA,mY,kX,aDL,xL,Option.bind_some,Option.map_some,decide_true,Bool.and_true]
  simp only[F.f55_j1,s1,o1,o2,s2,k0,aI];simp only[k0,k1,k2,k4,k5,e0',e00,lo,c8,l1,l2,a1,a2,dN,hbv,hba,aI];exact hQ _ (Ext.refl _)
theorem S.f55(hE:bF E)(hw:lU H w T M)(hr:lW H t T M)(wf:T.WF)(kd:T.KD)(n:BitVec 16)(at_ many:Int)(ha : -9223372036854775808<=at_/\at_<9223372036854775808)(hm : -9223372036854775808<=many/\many<9223372036854775808)(hQ:∀ H',Ext H H'->Q (vb true) H'):E.call 29 [ptr w 0,ptr t 0,u16 n,vi at_,vi many] H Q:=by
  apply hE.f55;have d1:=wf.data n;simp only[F.f55];refine S.f123 hE hw n at_ many d1 ha hm λrv H1 e1 r1 =>?_;simp only[aI]
  have st4':∀ (K:AH) (c:List Value),c.length=4->c.all plain1=true->storeN 4 (ptr K.next 0) (.agg c.toArray) (K.new (.cells [(.int .u16 0),(.int .u8 0),vi 0,vi 0] none))=some (K.new (.cells c none)):=λK c hc hp=>by
    rw[bJ,AH.get_new_self];have h3:AM.splice [(.int .u16 0),(.int .u8 0),vi 0,vi 0] 0 c=c:=by simp[splice,hc]
    have h6:([(.int .u16 0),(.int .u8 0),vi 0,vi 0]:List Value).length=4:=rfl;simp only[List.size_toArray,List.toList_toArray,hc,hp,h6,Nat.zero_add,Nat.le_refl,and_self,if_true,h3,AH.new_put]
  have rest:∀ H2,Ext H1 H2->(opt (ext (.tuple #[.agg (lH T n).toArray,vi (if(T.node n).kind=0#8 then 2 else 0)]) 0) λv5=>opt (ext (.tuple #[.agg (lH T n).toArray,vi (if(T.node n).kind=0#8 then 2 else 0)]) 1) λv6=>bV [(.int .u16 0),(.int .u8 0),vi 0,vi 0] H2 λv7 H3=>opt (storeN 4 v7 v5 H3) λH4=>opt (bI .i64 (u16 n)) λv8=>E.call 26 [ptr t 0,v8] H4 λv9 H5 =>
     opt (aF v9) λv10=>opt (aB v10 0) λv11=>opt (aC v11 H5) λv12=>opt (aA .eql v12 (vi 0)) λv13=>ifB v13 (F.f55_j1 E Q (u16 n) rv (vi (tF T n at_ many).2) v7 v6 v9 (.slice none 0 0) (vi 2) H5) (
     opt (aF v9) λv14=>opt (aB v14 0) λv15=>opt (aC v15 H5) λv16=>opt (aA .eql v16 (vi 2)) λv17=>ifB v17 (F.f55_j1 E Q (u16 n) rv (vi (tF T n at_ many).2) v7 v6 v9 (.slice none 0 0) (vi 21) H5) (
     opt (aF v9) λv18=>opt (aB v18 0) λv19=>opt (aC v19 H5) λv20=>opt (aA .neq v20 (vi 1)) λv21=>gV v21 false (vi at_) H5 λv22 H6=>gO v21 false (aA .lss v22 (vi 0)) H6 λv23 H7=>opt (pick v21 (.bool true) v23) λv24=>gV v24 false (vi many) H7 λv25 H8=>gO v24 false (aA .lss v25 (vi 0)) H8 λv26 H9=>opt (pick v24 (.bool true) v26) λv27 =>
     ifB v27 (F.f55_j1 E Q (u16 n) rv (vi (tF T n at_ many).2) v7 v6 v9 (.slice none 0 0) (vi 22) H9) (
     opt (aF v9) λv28=>opt (aB v28 1) λv29=>opt (aC v29 H9) λv30=>opt (lenSlc v30) λv31=>opt (aA .lss (vi at_) v31) λv32=>ifB v32 (opt (aF v9) λv33=>opt (aB v33 1) λv34=>opt (aC v34 H9) λv35=>opt (aF v9) λv36=>opt (aB v36 1) λv37=>opt (aC v37 H9) λv38=>opt (lenSlc v38) λv39=>opt (fY min2 [(vi many),vi 5000]) λv40=>opt (aA .add (vi at_) v40) λv41=>opt (fY min2 [v39,v41]) λv42=>opt (dQ 1 v35 (some (vi at_)) (some v42) none H9) λv43 =>
     F.f55_j1 E Q (u16 n) rv (vi (tF T n at_ many).2) v7 v6 v9 v43 (vi 0) H9) (F.f55_j1 E Q (u16 n) rv (vi (tF T n at_ many).2) v7 v6 v9 (.slice none 0 0) (vi 0) H9))))):=by
    intro H2 e2;have hcl:(lH T n).length=4:=by unfold lH;split<;>rfl
    have hcp:(lH T n).all plain1=true:=by unfold lH;split<;>rfl
    have x3:Ext H2 (H2.new (.cells (lH T n) none)):=(Ext.refl _).new _;have hb3:=AH.get_new_self H2 (.cells (lH T n) none);simp only[bD,st4' H2 _ hcl hcp,jH,aI];generalize H2.next=SB at *;generalize H2.new (.cells (lH T n) none)=H3 at *;have e13:=e2.trans x3;refine(hr.mono (e1.trans e13)).node hE n λb o y H5 e5 hn =>?_;have hs5:=e5.cells hb3;have r5:=r1.mono (e13.trans e5);have ee:=e1.trans (e13.trans e5);obtain⟨k0,k1,_⟩:=hn.cell;have l1:AM.lenSlc y.data=some (vi (T.node n).data.length):=by have:=hn.2.1.lenSlc;rw[bP,List.length_map]at this;exact this
    unfold tF at r5 ⊢;have nil0:∀ H,Rows H 1 (.slice none 0 0) (bP []):=λH=>Rows.nil _ _ _
    by_cases h0:(T.node n).kind=0#8
    · have s0:aA .eql (vi ((T.node n).kind.toNat:Int)) (vi 0)=some (vb true):=by rw[h0];rfl
      simp only[if_pos h0]at r5;simp only[k0,s0,aI];have:=sO (Q:=Q) hE wf kd hs5 hn r5 (nil0 _) 2 λH' e=>hQ H' (ee.trans e);simp only[if_pos h0]at this ⊢;exact this
    have s0:aA .eql (vi ((T.node n).kind.toNat:Int)) (vi 0)=some (vb false):=aFL (a:=(T.node n).kind.toNat) (b:=0) λh=>h0 (BitVec.eq_of_toNat_eq (by rw[h];rfl))
    by_cases h2:(T.node n).kind=2#8
    · have s2:aA .eql (vi ((T.node n).kind.toNat:Int)) (vi 2)=some (vb true):=by rw[h2];rfl
      simp only[if_neg h0,if_pos h2]at r5;simp only[k0,s0,s2,aI];have:=sO (Q:=Q) hE wf kd hs5 hn r5 (nil0 _) 21 λH' e=>hQ H' (ee.trans e);simp only[if_neg h0,if_pos h2]at this ⊢;exact this
    have s2:aA .eql (vi ((T.node n).kind.toNat:Int)) (vi 2)=some (vb false):=aFL (a:=(T.node n).kind.toNat) (b:=2) λh=>h2 (BitVec.eq_of_toNat_eq (by rw[h];rfl))
    have bad:((T.node n).kind≠1#8\/at_<0\/many<0)->∀ K,K=H5->F.f55_j1 E Q (u16 n) rv (vi (if(T.node n).kind=0#8 then(([]:List (BitVec 8)),(2:Int)) else if(T.node n).kind=2#8 then([],21) else if(T.node n).kind≠1#8\/at_<0\/many<0 then([],22) else if((T.node n).data.length:Int)<=at_ then([],0) else(((T.node n).data.take (at_.toNat+min many.toNat ((T.node n).data.length - at_.toNat))).drop at_.toNat,0)).2) (ptr SB 0) (vi (if(T.node n).kind=0#8 then 2 else 0)) (ptr b o) (.slice none 0 0) (vi 22) K:=by
      rintro hb _ rfl;simp only[if_neg h0,if_neg h2,if_pos hb]at r5;have:=sO (Q:=Q) hE wf kd hs5 hn r5 (nil0 _) 22 λH' e=>hQ H' (ee.trans e);simp only[if_neg h0,if_neg h2,if_pos hb]at this ⊢;exact this
    by_cases h1:(T.node n).kind=1#8
    rotate_left
    · have s1:aA .neq (vi ((T.node n).kind.toNat:Int)) (vi 1)=some (vb true):=aKF (a:=(T.node n).kind.toNat) (b:=1) λh=>h1 (BitVec.eq_of_toNat_eq (by rw[h];rfl))
      simp only[k0,s0,s2,s1,aI];exact bad (.inl h1) _ rfl
    have s1:aA .neq (vi ((T.node n).kind.toNat:Int)) (vi 1)=some (vb false):=by rw[h1];rfl
    by_cases hat:at_<0
    · have s3:aA .lss (vi at_) (vi 0)=some (vb true):=by
        show aA .lss (vi at_) (vi 0)=_
        rw[bS];simp[hat]
      simp only[k0,s0,s2,s1,s3,aI];exact bad (.inr (.inl hat)) _ rfl
    have s3:aA .lss (vi at_) (vi 0)=some (vb false):=by
      show aA .lss (vi at_) (vi 0)=_
      rw[bS];simp[hat]
    by_cases hmn:many<0
    · have s4:aA .lss (vi many) (vi 0)=some (vb true):=by
        show aA .lss (vi many) (vi 0)=_
        rw[bS];simp[hmn]
      simp only[k0,s0,s2,s1,s3,s4,aI];exact bad (.inr (.inr hmn)) _ rfl
    have s4:aA .lss (vi many) (vi 0)=some (vb false):=by
      show aA .lss (vi many) (vi 0)=_
      rw[bS];simp[hmn]
    have hbad:¬ ((T.node n).kind≠1#8\/at_<0\/many<0):=by simp[h1,hat,hmn]
    simp only[if_neg h0,if_neg h2,if_neg hbad]at r5 ⊢;obtain⟨a,rfl⟩:∃ a:Nat,at_=(a:Int):=⟨at_.toNat,by omega⟩
    obtain⟨bm,rfl⟩:∃ b:Nat,many=(b:Int):=⟨many.toNat,by omega⟩
    by_cases hge:(T.node n).data.length<=a
    · have s5:aA .lss (vi (a:Int)) (vi ((T.node n).data.length:Int))=some (vb false):=aAg (by omega)
      have hge':((T.node n).data.length:Int)<=(a:Int):=by omega
      simp only[if_pos hge']at r5 ⊢;simp only[k0,s0,s2,s1,s3,s4,k1,l1,s5,aI];have:=sO (Q:=Q) hE wf kd hs5 hn r5 (nil0 _) 0 λH' e=>hQ H' (ee.trans e);simp only[if_neg h0]at this;exact this
    · have s5:aA .lss (vi (a:Int)) (vi ((T.node n).data.length:Int))=some (vb true):=zY (by omega)
      have hge':¬ ((T.node n).data.length:Int)<=(a:Int):=by omega
      simp only[if_neg hge']at r5 ⊢
      have m1:fY min2 [vi (bm:Int),vi 5000]=some (vi ((min bm 5000:Nat):Int)):=by
        show fY min2 [vi (bm:Int),vi 5000]=_
        rw[vZ]
        congr 2
        split<;>omega
      have m2:aA .add (vi (a:Int)) (vi ((min bm 5000:Nat):Int))=some (vi ((a+min bm 5000:Nat):Int)):=cV a _ (by omega)
      have m3:fY min2 [vi ((T.node n).data.length:Int),vi ((a+min bm 5000:Nat):Int)]=some (vi ((a+min bm ((T.node n).data.length - a):Nat):Int)):=by
        rw[vZ]
        congr 2
        split<;>omega
      obtain⟨v',t1,t2⟩:=hn.2.1.slice (lo:=some (vi (a:Int))) (hi:=some (vi ((a+min bm ((T.node n).data.length - a):Nat):Int))) (i:=a) (j:=a+min bm ((T.node n).data.length - a)) (.inl rfl) (.inl rfl) (by omega) (by rw[bP,List.length_map];omega)
      have hdt:((bP (T.node n).data).take (a+min bm ((T.node n).data.length - a))).drop a=bP (((T.node n).data.take (a+min bm ((T.node n).data.length - a))).drop a):=by simp[bP,List.map_drop,List.map_take]
      rw[hdt]at t2;simp only[k0,s0,s2,s1,s3,s4,k1,l1,s5,aI];simp only[k1,l1,m1,m2,m3,t1,aI];have:=sO (Q:=Q) hE wf kd hs5 hn r5 t2 0 λH' e=>hQ H' (ee.trans e);simp only[if_neg h0]at this;exact this
  refine S.f128 hE (hw.mono e1) n (λh0 H2 e2 =>?_) λh0 H2 e2 =>?_
  · have:=rest H2 e2
    unfold lH at this;simp only[if_pos h0]at this;exact this
  · have:=rest H2 e2
    unfold lH at this;simp only[if_neg h0]at this;exact this
end
end
section
set_option maxRecDepth 20000
structure PlD where
 kind:BitVec 8
 fv:Value
 tv:Value
 fl:List (BitVec 8)
 tl:List (BitVec 8)
 flag:Bool
 n:Int
 m:Int
def PlD.cells(a:PlD):List Value:=[u8 a.kind,a.fv,a.tv,vb a.flag,vi a.n,vi a.m]
structure PlD.ok(H:AH)(a:PlD):Prop where
 f:Rows H 1 a.fv (bP a.fl)
 t:Rows H 1 a.tv (bP a.tl)
 fl:a.fl.length<2 ^ 63
 tl:a.tl.length<2 ^ 63
 n : -9223372036854775808<=a.n/\a.n<9223372036854775808
 m : -9223372036854775808<=a.m/\a.m<9223372036854775808
section
variable {X:List Res}{E:Sy}{H0 H H' K:AH}{Q:Value->AH->Prop}{w t TB:Nat}{T T2:Tr}{M M2:List aX}{nx nx2 k:Int}{Y:List RLy}{rv mv:Value}{n0:Nat}{tc:List Value}
theorem nB{b:Nat}{c:List Value}(z:Sub (K.since n0) H)(hge:n0<=b)(hb:K.get b = .cells c none):H.get b = .cells c none:=by
 rw[z.2 b (by rw[AH.since_get hge,hb];simp),AH.since_get hge,hb]
theorem nH(hE:bF E)(h:GwO [bE TB tc] H0 H w t T M nx)(p:PlI k T M nx){t7 t57 t58:Value}{j:Nat}(hj:j<2 ^ 62){X0:List Value->AH->Prop}(next:∀ H',GwO [bE TB tc] H0 H' w t T M nx->X0 [ptr w 0,ptr t 0,t7,t57,t58,vi ((j+1:Nat):Int)] H'):
  F.f54_j2 E Q X0 (ptr w 0) (ptr t 0) t7 t57 t58 (vi j) H:=by
 have hjj:=cS (i:=j) (by omega)
 simp only[F.f54_j2];refine S.vfs_RightO hE h.at_ p.wf (by have:=p.pin.len;omega) λH1 e1 =>?_
 rw[p.right];have nt:un .not (vb true)=some (vb false):=rfl;simp only[nt,hjj,aI];exact next _ (h.mono e1)
abbrev PlW(TB:Nat)(tc:List Value)(n0:Nat)(K:AH)(rv mv:Value)(nx2:Int)(M2:List aX)(Y:List RLy)(T2:Tr)(H0 H:AH)(w t:Nat)(T:Tr)(M:List aX)(nx:Int):Prop :=
 WkO (fC t rv mv nx2 (mF M2) Y T2 :: [bE TB tc,frR n0 K]) H0 H w T M nx/\Y.length=T2.N.length/\T2.N.length<=60000
theorem PlW.sub(h:PlW TB tc n0 K rv mv nx2 M2 Y T2 H0 H w t T M nx):Sub (K.since n0) H:=WkO.since (k:=2) h.1 rfl
theorem PlW.gw(h:PlW TB tc n0 K rv mv nx M Y T H0 H w t T M nx):GwO [bE TB tc] H0 H w t T M nx:=by
 have h1:WkO ((fC t rv mv nx (mF M) Y T :: [bE TB tc])++[frR n0 K]) H0 H w T M nx:=h.1;exact⟨rv,mv,Y,h1.drop,h.2⟩
theorem PlW.mono(h:PlW TB tc n0 K rv mv nx2 M2 Y T2 H0 H w t T M nx)(e:Ext H H'):PlW TB tc n0 K rv mv nx2 M2 Y T2 H0 H' w t T M nx:=⟨h.1.mono e,h.2⟩
theorem PlW.at_(h:PlW TB tc n0 K rv mv nx2 M2 Y T2 H0 H w t T M nx):lU H w T M:=WkO.at_ h.1
theorem PlW.ref(h:PlW TB tc n0 K rv mv nx2 M2 Y T2 H0 H w t T M nx)(pin:nE M2 nx2 k):lW H t T2 M2:=by
 obtain⟨o,_⟩:=WkO.openX (k:=0) h.1 (r:=fC t rv mv nx2 (mF M2) Y T2) rfl;exact⟨rv,mv,nx2,Y,k,⟨o,h.2.1,h.2.2⟩,pin⟩
section
variable {t7 t57 t58:Value}{j:Nat}{X0:List Value->AH->Prop}{s u:dX}{a:PlD}{bs ba bu bp bq:Nat}{p q:aG}
theorem xO(hE:bF E)(h:PlW TB tc n0 K rv mv nx M Y T2 H0 H w t T M nx)(hs:K.get bs = .cells s.cells none)(ns:n0<=bs)(ha:K.get ba = .cells a.cells none)(na:n0<=ba)(wf:T.WF)(co:T.CO)(hT:T2=(jG T M s a.flag).1)(pl:PlI k T2 M nx)(hj:j<2 ^ 62)(next:∀ H',GwO [bE TB tc] H0 H' w t T2 M nx->X0 [ptr w 0,ptr t 0,t7,t57,t58,vi ((j+1:Nat):Int)] H'):
  F.f54_j3 E Q X0 (ptr w 0) (ptr t 0) t7 (ptr ba 0) (ptr bs 0) (vi (jG T M s a.flag).2) t57 t58 (vi j) H:=by
 have hb:=nB h.sub ns hs;have hab:=nB h.sub na ha;have lo:aH 4 (ptr bs 0) H=some s.v:=by rw[aQ,hb];rfl
 have c3:a.cells[3]? = some (vb a.flag):=rfl;simp only[F.f54_j3,lo,hab,c3,aI];refine S.f124 hE h.1 wf s a.flag co λH1 h1 =>?_;have sn:=mU (jG T M s a.flag).2;simp only[sn,aI];rw[<- hT]at h1;have h2:PlW TB tc n0 K rv mv nx M Y T2 H0 H1 w t T2 M nx:=⟨h1,h.2⟩;exact nH hE h2.gw pl hj next
theorem aBu(hE:bF E)(h:PlW TB tc n0 K rv mv nx M Y T2 H0 H w t T M nx)(hs:K.get bs = .cells s.cells none)(ns:n0<=bs)(hq:K.get bq = .cells q.cells none)(nq:n0<=bq)(wf:T.WF)(co:T.CO)(hsl:s.name.length<2 ^ 63)(hT:T2=(qZ T q s).1)(pl:PlI k T2 M nx)(hj:j<2 ^ 62)(next:∀ H',GwO [bE TB tc] H0 H' w t T2 M nx->X0 [ptr w 0,ptr t 0,t7,t57,t58,vi ((j+1:Nat):Int)] H'):
  F.f54_j4 E Q X0 (ptr w 0) (ptr t 0) t7 (ptr bs 0) (ptr bq 0) (vi (qZ T q s).2) t57 t58 (vi j) H:=by
 have hb:=nB h.sub ns hs;have hqb:=nB h.sub nq hq;have lo:aH 4 (ptr bs 0) H=some s.v:=by rw[aQ,hb];rfl
 have lq:aH 2 (ptr bq 0) H=some q.v:=by rw[aQ,hqb];rfl
 simp only[F.f54_j4,lo,lq,aI];refine S.f121 hE h.1 wf q s hsl co λH1 h1 =>?_;have sn:=mU (qZ T q s).2;simp only[sn,aI];rw[<- hT]at h1;have h2:PlW TB tc n0 K rv mv nx M Y T2 H0 H1 w t T2 M nx:=⟨h1,h.2⟩;exact nH hE h2.gw pl hj next
theorem aBJ(hE:bF E)(h:PlW TB tc n0 K rv mv nx M Y T2 H0 H w t T M nx)(hs:K.get bs = .cells s.cells none)(ns:n0<=bs)(hu:K.get bu = .cells u.cells none)(nu:n0<=bu)(wf:T.WF)(co:T.CO)(hul:u.name.length<2 ^ 63)(hT:T2=(fG T M s u).1)(pl:PlI k T2 M nx)(hj:j<2 ^ 62)(next:∀ H',GwO [bE TB tc] H0 H' w t T2 M nx->X0 [ptr w 0,ptr t 0,t7,t57,t58,vi ((j+1:Nat):Int)] H'):
  F.f54_j5 E Q X0 (ptr w 0) (ptr t 0) t7 (ptr bs 0) (ptr bu 0) (vi (fG T M s u).2) t57 t58 (vi j) H:=by
 have hb:=nB h.sub ns hs;have hub:=nB h.sub nu hu;have lo:aH 4 (ptr bs 0) H=some s.v:=by rw[aQ,hb];rfl
 have lu:aH 4 (ptr bu 0) H=some u.v:=by rw[aQ,hub];rfl
 simp only[F.f54_j5,lo,lu,aI];refine S.f125 hE h.1 wf s u hul co λH1 h1 =>?_;have sn:=mU (fG T M s u).2;simp only[sn,aI];rw[<- hT]at h1;have h2:PlW TB tc n0 K rv mv nx M Y T2 H0 H1 w t T2 M nx:=⟨h1,h.2⟩;exact nH hE h2.gw pl hj next
theorem aBC(hE:bF E)(h:PlW TB tc n0 K rv mv nx2 M2 Y T H0 H w t T M nx)(hp:K.get bp = .cells p.cells none)(np:n0<=bp)(hq:K.get bq = .cells q.cells none)(nq:n0<=bq)(tok:sW (dJ M nx p.i q).T (dJ M nx p.i q).nx)(hM:M2=(iS T M nx p q).M)(hN:nx2=(iS T M nx p q).nx)(pl:PlI k T M2 nx2)(hj:j<2 ^ 62)(next:∀ H',GwO [bE TB tc] H0 H' w t T M2 nx2->X0 [ptr w 0,ptr t 0,t7,t57,t58,vi ((j+1:Nat):Int)] H'):
  F.f54_j6 E Q X0 (ptr w 0) (ptr t 0) t7 (ptr bp 0) (ptr bq 0) (vi (iS T M nx p q).e) t57 t58 (vi j) H:=by
 have hpb:=nB h.sub np hp;have hqb:=nB h.sub nq hq;have lp:aH 2 (ptr bp 0) H=some p.v:=by rw[aQ,hpb];rfl
 have lq:aH 2 (ptr bq 0) H=some q.v:=by rw[aQ,hqb];rfl
 simp only[F.f54_j6,lp,lq,aI];refine S.f120 hE h.1 p q tok λH1 h1 =>?_;have sn:=mU (iS T M nx p q).e;simp only[sn,aI];rw[<- hM,<- hN]at h1;have h2:PlW TB tc n0 K rv mv nx2 M2 Y T H0 H1 w t T M2 nx2:=⟨h1,h.2⟩;exact nH hE h2.gw pl hj next
end
theorem uQ{c:aG}{path:List UInt8}(h:(bW T M c path).2.2=0):(T.node (bW T M c path).1.i).kind=2#8/\(bW T M c path).2.1.length<=14:=by
 unfold bW at h ⊢
 split at h
 ·rename_i h0;exact absurd h h0
 ·rename_i h0
  rw[if_neg h0];simp only at h ⊢
  split at h
  ·exact absurd h (by decide)
  ·rename_i nm hnm
   split at h
   ·exact absurd h (by decide)
   ·rename_i h1
    rw[if_neg h1]
    split at h
    ·rename_i h2;exact absurd h h2
    ·rename_i h2
     rw[if_neg h2]
     split at h
     ·exact absurd h (by decide)
     ·rename_i h3
      rw[if_neg h3]
      split at h
      ·exact absurd h (by decide)
      ·rename_i h4
       rw[if_neg h4]
       split at h
       ·exact absurd h (by decide)
       ·rename_i h5
        rw[if_neg h5];exact⟨lV (by simpa using h3),by simp only;omega⟩
theorem aEM(c:aG)(path:List UInt8):(cA T M c path).2=(bW T M c path).2.2:=by
 unfold cA
 split
 ·rfl
 ·rename_i h0
  have h0:(bW T M c path).2.2=0:=Classical.byContradiction h0;have hl:=aFY (uQ h0).1 (bW T M c path).2.1;rw[if_neg,h0];rw[hl];cases bX (bW T M c path).2.1 (T.node (bW T M c path).1.i).ents<;>simp
end
end
section
set_option maxRecDepth 20000
def aF9(E:Sy)(K0:Value->AH->Prop)(t12 t13 t14 t15 t16 t17:Value)(H:AH):Prop :=
 opt (aA .neq t13 t16) λv1 =>
 gV v1 false t13 H λv2 H1 =>
 gO v1 false (aA .eql v2 (vi 0)) H1 λv3 H2 =>
 gV v1 false v3 H2 λv4 H3 =>
 gO v4 true (aB t12 0) H3 λv5 H4 =>
 gO v4 true (aH 2 v5 H4) H4 λv6 H5 =>
 gO v4 true (aH 2 t14 H5) H5 λv7 H6 =>
 gd v4 true (λk=>E.call 13 [v6] H6 λv h=>k v h) H6 λv8 H7 =>
 gdC v4 true (aH 2 t14 H7=aH 2 t14 H5) /\
 gO v4 true (fU [0,0] .neq v8 v7) H7 λv9 H8 =>
 gV v4 true v9 H8 λv10 H9 =>
 gO v10 false (aB t12 2) H9 λv11 H10 =>
 gO v10 false (aC v11 H10) H10 λv12 H11 =>
 gV v10 false t15 H11 λv13 H12 =>
 gO v10 false (cH .neq v12 v13) H12 λv14 H13 =>
 gO v4 true (pick v10 (.bool true) v14) H13 λv15 H14 =>
 gV v4 true v15 H14 λv16 H15 =>
 gO v16 false (aB t12 3) H15 λv17 H16 =>
 gO v16 false (aC v17 H16) H16 λv18 H17 =>
 gO v16 false (bI .i64 v18) H17 λv19 H18 =>
 gV v16 false t17 H18 λv20 H19 =>
 gO v16 false (aA .neq v19 v20) H19 λv21 H20 =>
 gO v4 true (pick v16 (.bool true) v21) H20 λv22 H21 =>
 gO v1 false (pick v4 v22 (.bool false)) H21 λv23 H22 =>
 opt (pick v1 (.bool true) v23) λv24 =>
 K0 v24 H22
def lS(E:Sy)(Q:Value->AH->Prop)(X0:List Value->AH->Prop)(t5 t6 t7 t9 t12 t13 t14 t15 t17 t57 t58 t59 v28 v29 v33 v35 v39 v40 v44 v45 v51 v58:Value)(H47:AH):Prop :=
 opt (aB t9 0) λv60 =>
 opt (aC v60 H47) λv61 =>
 opt (aA .rem v61 (.int .u8 11)) λv62 =>
 opt (aA .neq t13 (vi 0)) λv63 =>
 gV v63 true v62 H47 λv64 H48 =>
 gO v63 true (aA .lss v64 (.int .u8 8)) H48 λv65 H49 =>
 opt (pick v63 v65 (.bool false)) λv66 =>
 ifB v66 (
 F.f54_j2 E Q X0 t5 t6 t7 t57 t58 t59 H49) (
 opt (aA .lss v62 (.int .u8 3)) λv67 =>
 ifB v67 (
 opt (aA .add (.int .u8 1) v62) λv68 =>
 opt (aH 4 t12 H49) λv69 =>
 E.call 16 [t5,v69,v68,(.string ⟨#[98]⟩)] H49 λv70 H50 =>
 opt (ext v70 0) λv71 =>
 opt (ext v70 1) λv72 =>
 bV [vi 0,(.int .u16 0)] H50 λv73 H51 =>
 opt (storeN 2 v73 v71 H51) λH52 =>
 opt (aB t14 1) λv74 =>
 opt (aC v74 H52) λv75 =>
 opt (bI .i64 v68) λv76 =>
 E.call 17 [t6,v75,t15,v76,(.string ⟨#[98]⟩)] H52 λv77 H53 =>
 opt (ext v77 0) λv78 =>
 opt (ext v77 1) λv79 =>
 opt (aA .neq v72 v79) λv80 =>
 gO v80 false (aB v73 1) H53 λv81 H54 =>
 gO v80 false (aC v81 H54) H54 λv82 H55 =>
 gO v80 false (bI .i64 v82) H55 λv83 H56 =>
 gV v80 false v78 H56 λv84 H57 =>
 gO v80 false (aA .neq v83 v84) H57 λv85 H58 =>
 opt (pick v80 (.bool true) v85) λv86 =>
 gV v86 false v72 H58 λv87 H59 =>
 gO v86 false (aA .eql v87 (vi 0)) H59 λv88 H60 =>
 gV v86 false v88 H60 λv89 H61 =>
 gO v89 true (aB v73 0) H61 λv90 H62 =>
 gO v89 true (aC v90 H62) H62 λv91 H63 =>
 gO v89 true (aB t12 0) H63 λv92 H64 =>
 gO v89 true (aB v92 0) H64 λv93 H65 =>
 gO v89 true (aC v93 H65) H65 λv94 H66 =>
 gO v89 true (aA .neq v91 v94) H66 λv95 H67 =>
 gO v86 false (pick v89 v95 (.bool false)) H67 λv96 H68 =>
 opt (pick v86 (.bool true) v96) λv97 =>
 ifB v97 (
 Q (.bool false) H68) (
 F.f54_j2 E Q X0 t5 t6 t7 t57 t58 t59 H68)) (
 opt (aA .lss v62 (.int .u8 5)) λv98 =>
 ifB v98 (
 opt (aA .neq t17 (vi 0)) λv99 =>
 ifB v99 (
 E.call 18 [t6,t17] H49 λv100 H69 =>
 opt (un .not v100) λv101 =>
 ifB v101 (
 opt (aB t14 1) λv102 =>
 opt (aC v102 H69) λv103 =>
 opt (aB t9 3) λv104 =>
 opt (aC v104 H69) λv105 =>
 E.call 19 [t6,v103,t15,v105] H69 λv106 H70 =>
 F.f54_j3 E Q X0 t5 t6 t7 t9 t12 v106 t57 t58 t59 H70) (
 F.f54_j3 E Q X0 t5 t6 t7 t9 t12 (vi 16) t57 t58 t59 H69)) (
 F.f54_j3 E Q X0 t5 t6 t7 t9 t12 (vi 2) t57 t58 t59 H49)) (
 opt (aA .eql v62 (.int .u8 5)) λv107 =>
 ifB v107 (
 opt (aA .neq v44 (vi 0)) λv108 =>
 ifB v108 (
 F.f54_j2 E Q X0 t5 t6 t7 t57 t58 t59 H49) (
 opt (aB v58 0) λv109 =>
 opt (aC v109 H49) λv110 =>
 opt (aB t14 0) λv111 =>
 opt (aC v111 H49) λv112 =>
 opt (aA .eql v110 v112) λv113 =>
 ifB v113 (
 opt (aB t14 1) λv114 =>
 opt (aC v114 H49) λv115 =>
 opt (aB v58 1) λv116 =>
 opt (aC v116 H49) λv117 =>
 E.call 21 [t6,v115,t15,v117] H49 λv118 H71 =>
 F.f54_j4 E Q X0 t5 t6 t7 t12 v45 v118 t57 t58 t59 H71) (
 F.f54_j4 E Q X0 t5 t6 t7 t12 v45 (vi 18) t57 t58 t59 H49))) (
 opt (aA .lss v62 (.int .u8 8)) λv119 =>
 ifB v119 (
 opt (aA .neq v28 (vi 0)) λv120 =>
 ifB v120 (
 F.f54_j2 E Q X0 t5 t6 t7 t57 t58 t59 H49) (
 opt (aB v35 1) λv121 =>
 opt (aC v121 H49) λv122 =>
 E.call 12 [t6,v122,v33] H49 λv123 H72 =>
 opt (ext v123 0) λv124 =>
 opt (ext v123 1) λv125 =>
 opt (aA .eql t17 (vi 0)) λv126 =>
 ifB v126 (
 F.f54_j5 E Q X0 t5 t6 t7 t12 v29 (vi 2) t57 t58 t59 H72) (
 opt (aB t14 0) λv127 =>
 opt (aC v127 H72) λv128 =>
 opt (aB v35 0) λv129 =>
 opt (aC v129 H72) λv130 =>
 opt (aA .neq v128 v130) λv131 =>
 ifB v131 (
 F.f54_j5 E Q X0 t5 t6 t7 t12 v29 (vi 18) t57 t58 t59 H72) (
 E.call 18 [t6,t17] H72 λv132 H73 =>
 gV v132 false v125 H73 λv133 H74 =>
 gO v132 false (aA .eql v133 (vi 0)) H74 λv134 H75 =>
 gV v132 false v134 H75 λv135 H76 =>
 gV v135 true t6 H76 λv136 H77 =>
 gV v135 true v124 H77 λv137 H78 =>
 gd v135 true (λk=>E.call 18 [v136,v137] H78 λv h=>k v h) H78 λv138 H79 =>
 gO v132 false (pick v135 v138 (.bool false)) H79 λv139 H80 =>
 opt (pick v132 (.bool true) v139) λv140 =>
 ifB v140 (
 F.f54_j5 E Q X0 t5 t6 t7 t12 v29 (vi 16) t57 t58 t59 H80) (
 opt (aB t14 1) λv141 =>
 opt (aC v141 H80) λv142 =>
 opt (aB v35 1) λv143 =>
 opt (aC v143 H80) λv144 =>
 E.call 23 [t6,v142,t15,v144,v33] H80 λv145 H81 =>
 F.f54_j5 E Q X0 t5 t6 t7 t12 v29 v145 t57 t58 t59 H81))))) (
 opt (aA .eql v62 (.int .u8 8)) λv146 =>
 ifB v146 (
 opt (aA .neq v39 (vi 0)) λv147 =>
 gV v147 false v44 H49 λv148 H82 =>
 gO v147 false (aA .neq v148 (vi 0)) H82 λv149 H83 =>
 opt (pick v147 (.bool true) v149) λv150 =>
 ifB v150 (
 F.f54_j2 E Q X0 t5 t6 t7 t57 t58 t59 H83) (
 opt (aH 2 v51 H83) λv151 =>
 E.call 25 [t6,v151] H83 λv152 H84 =>
 gV v152 true t6 H84 λv153 H85 =>
 gO v152 true (aH 2 v58 H85) H85 λv154 H86 =>
 gd v152 true (λk=>E.call 25 [v153,v154] H86 λv h=>k v h) H86 λv155 H87 =>
 opt (pick v152 v155 (.bool false)) λv156 =>
 ifB v156 (
 opt (aB v51 1) λv157 =>
 opt (aC v157 H87) λv158 =>
 E.call 26 [t6,v158] H87 λv159 H88 =>
 opt (aF v159) λv160 =>
 opt (aB v160 5) λv161 =>
 opt (aC v161 H88) λv162 =>
 opt (aA .gtr v162 (vi 0)) λv163 =>
 gV v163 true t6 H88 λv164 H89 =>
 gO v163 true (aB v58 1) H89 λv165 H90 =>
 gO v163 true (aC v165 H90) H90 λv166 H91 =>
 gd v163 true (λk=>E.call 26 [v164,v166] H91 λv h=>k v h) H91 λv167 H92 =>
 gO v163 true (aF v167) H92 λv168 H93 =>
 gO v163 true (aB v168 5) H93 λv169 H94 =>
 gO v163 true (aC v169 H94) H94 λv170 H95 =>
 gO v163 true (aA .gtr v170 (vi 0)) H95 λv171 H96 =>
 opt (pick v163 v171 (.bool false)) λv172 =>
 ifB v172 (
 opt (aB v51 1) λv173 =>
 opt (aC v173 H96) λv174 =>
 opt (aH 2 v58 H96) λv175 =>
 E.call 27 [t6,v174,v175] H96 λv176 H97 =>
 opt (ext v176 0) λv177 =>
 opt (ext v176 1) λv178 =>
 F.f54_j6 E Q X0 t5 t6 t7 v40 v45 v178 t57 t58 t59 H97) (
 F.f54_j6 E Q X0 t5 t6 t7 v40 v45 (vi 2) t57 t58 t59 H96)) (
 F.f54_j6 E Q X0 t5 t6 t7 v40 v45 (vi 20) t57 t58 t59 H87))) (
 opt (aB v40 1) λv179 =>
 opt (aC v179 H49) λv180 =>
 opt (aB t9 4) λv181 =>
 opt (aC v181 H49) λv182 =>
 opt (aB t9 5) λv183 =>
 opt (aC v183 H49) λv184 =>
 E.call 29 [t5,t6,v180,v182,v184] H49 λv185 H98 =>
 opt (un .not v185) λv186 =>
 gV v186 false t5 H98 λv187 H99 =>
 gV v186 false t6 H99 λv188 H100 =>
 gO v186 false (aB t9 4) H100 λv189 H101 =>
 gO v186 false (aC v189 H101) H101 λv190 H102 =>
 gO v186 false (aA .and v190 (vi 15)) H102 λv191 H103 =>
 gO v186 false (bI .u16 v191) H103 λv192 H104 =>
 gO v186 false (aB t9 5) H104 λv193 H105 =>
 gO v186 false (aC v193 H105) H105 λv194 H106 =>
 gO v186 false (aB t9 4) H106 λv195 H107 =>
 gO v186 false (aC v195 H107) H107 λv196 H108 =>
 gd v186 false (λk=>E.call 29 [v187,v188,v192,v194,v196] H108 λv h=>k v h) H108 λv197 H109 =>
 gO v186 false (un .not v197) H109 λv198 H110 =>
 opt (pick v186 (.bool true) v198) λv199 =>
 ifB v199 (
 Q (.bool false) H110) (
 F.f54_j2 E Q X0 t5 t6 t7 t57 t58 t59 H110)))))))
section
variable {X:List Res}{E:Sy}{H0 H H' K:AH}{Q:Value->AH->Prop}{w t TB:Nat}{T T2:Tr}{M M2:List aX}{nx nx2 k:Int}{Y:List RLy}{rv mv:Value}{n0:Nat}{tc:List Value}
theorem aDc(p:aN):fU [0,0] .neq p.v p.v=some (vb false):=by
 show fU [0,0] .neq (.agg p.cells.toArray) (.agg p.cells.toArray)=_
 rw[yA];simp only[aN.cells,mA,mY,xL,Option.bind_some,Option.map_some,decide_true,Bool.and_true,Bool.not_true]
theorem aEm(hE:bF E){path:List UInt8}{bs bd:Nat}(hs:H.get bs = .cells (cA T M bT path).1.cells none)(hd:H.get bd = .cells (bW T M bT path).1.toI.cells none){K0:Value->AH->Prop}(hK:∀ H',Ext H H'->K0 (vb false) H'):
  aF9 E K0 (ptr bs 0) (vi (cA T M bT path).2) (ptr bd 0) (str (bW T M bT path).2.1) (vi (bW T M bT path).2.2) (vi ((T.look (bW T M bT path).1.i (bW T M bT path).2.1).1.toNat:Int)) H:=by
 have sn:aA .neq (vi (cA T M bT path).2) (vi (bW T M bT path).2.2)=some (vb false):=by rw[aEM];exact mU _
 have i0:vi 0=vi ((0:Nat):Int):=rfl
 by_cases h0:(cA T M bT path).2=0
 ·obtain⟨a1,a2,a3,a4⟩:=rW h0
  have s0:aA .eql (vi (cA T M bT path).2) (vi 0)=some (vb true):=by rw[h0];rfl
  have lo1:aH 2 (ptr bs 0) H=some (cA T M bT path).1.dir.v:=by rw[aQ,hs];rfl
  have lo2:∀ {H'},Ext H H'->aH 2 (ptr bd 0) H'=some (bW T M bT path).1.toI.v:=λe=>by rw[aQ,e.cells hd];rfl
  have c2:(cA T M bT path).1.cells[2]? = some (str (cA T M bT path).1.name):=rfl;have c3:(cA T M bT path).1.cells[3]? = some (u16 (cA T M bT path).1.ino):=rfl;simp only[aF9,sn,s0,lo1,lo2 (Ext.refl _),aI];refine S.f47 hE (cA T M bT path).1.dir λH1 e1 =>?_;refine⟨by simp[lo2 e1,lo2 (Ext.refl _)],?_⟩
  rw[a2];have pn:=aDc (bW T M bT path).1.toI;have hs1:=e1.cells hs;rw[a3]at c2;rw[a4]at c3;have snn:cH .neq (str (bW T M bT path).2.1) (str (bW T M bT path).2.1)=some (vb false):=by rw[mI];simp
  have sii:=mU ((T.look (bW T M bT path).1.i (bW T M bT path).2.1).1.toNat:Int);simp only[pn,hs1,c2,c3,snn,jH,sii,aI];exact hK _ e1
 ·have s0:aA .eql (vi (cA T M bT path).2) (vi 0)=some (vb false):=by
   show aA .eql (vi _) (vi 0)=_
   rw[aW];simp[h0]
  simp only[aF9,sn,s0,aI];refine⟨by simp,?_⟩
  exact hK _ (Ext.refl _)
end
end
section
set_option maxRecDepth 20000
section
variable {X:List Res}{E:Sy}{H0 H H' K:AH}{Q:Value->AH->Prop}{w t TB:Nat}{T T2:Tr}{M M2:List aX}{nx nx2 k:Int}{Y:List RLy}{rv mv:Value}{n0:Nat}{tc:List Value}
structure PlB(K:AH)(n0:Nat)(T:Tr)(M:List aX)(a:PlD)(path other:List UInt8)(ba bs bd bu bd2 bp bq br bv:Nat):Prop where
 a:K.get ba = .cells a.cells none/\n0<=ba
 s:K.get bs = .cells (cA T M bT path).1.cells none/\n0<=bs
 d:K.get bd = .cells (bW T M bT path).1.toI.cells none/\n0<=bd
 u:K.get bu = .cells (cA T M bT other).1.cells none/\n0<=bu
 d2:K.get bd2 = .cells (bW T M bT other).1.toI.cells none/\n0<=bd2
 p:K.get bp = .cells (iT T M bT path false).1.cells none/\n0<=bp
 q:K.get bq = .cells (iT T M bT other true).1.cells none/\n0<=bq
 r:K.get br = .cells (iT T M bT path false).1.toI.cells none/\n0<=br
 v:K.get bv = .cells (iT T M bT other true).1.toI.cells none/\n0<=bv
theorem aGV(a:BitVec 16)(s:aK)(kk:BitVec 8)(text:List UInt8)(h:(T.make a s kk text).2.2≠0):(T.make a s kk text).2.1=0#16:=by
 unfold Tr.make at h ⊢
 split
 ·rfl
 ·rename_i h1
  rw[if_neg h1]at h
  split
  ·rfl
  ·rename_i h2
   rw[if_neg h2]at h
   split
   ·rfl
   ·rename_i h3
    rw[if_neg h3]at h;exact absurd rfl h
theorem aKn(a:Int):∃ r:Int,aA .and (vi a) (vi 15)=some (vi r):=⟨_,rfl⟩
theorem aH7{a b:BitVec 8}(h:a.toNat<b.toNat):aA .lss (u8 a) (u8 b)=some (vb true):=by rw[aAW];simp only[h,decide_true]
theorem aHR{a b:BitVec 8}(h:¬ a.toNat<b.toNat):aA .lss (u8 a) (u8 b)=some (vb false):=by rw[aAW];simp only[h,decide_false]
theorem aKq(a:BitVec 8):aA .eql (u8 a) (u8 a)=some (vb true):=by rw[fH];simp
theorem aKv{a b:BitVec 8}(h:a≠b):aA .eql (u8 a) (u8 b)=some (vb false):=by rw[fH];simp[h]
theorem kJ{a b:Int}(h:a=b):aA .neq (vi a) (vi b)=some (vb false):=by rw[h];exact mU b
theorem nC{a b:Int}(h:a≠b):aA .neq (vi a) (vi b)=some (vb true):=by rw[bR];simp[h]
theorem aCP{a b:Int}(h:a=b):aA .eql (vi a) (vi b)=some (vb true):=by rw[h];exact uW b
theorem aAG{a b:Int}(h:a≠b):aA .eql (vi a) (vi b)=some (vb false):=by rw[aW];simp[h]
theorem aEB(hE:bF E){ba bs bd bu bd2 bp bq br bv:Nat}{a:PlD}{path other:List UInt8}(B:PlB H n0 T M a path other ba bs bd bu bd2 bp bq br bv)(ok:a.ok H)(h:PlW TB tc n0 H rv mv nx M Y T H0 H w t T M nx)(pl:PlI k T M nx)(hk:k<=800){t7 t57 t58:Value}{j:Nat}(hj:j<2 ^ 62){X0:List Value->AH->Prop}(next:∀ T' M' nx' H',GwO [bE TB tc] H0 H' w t T' M' nx'->PlI (k+1) T' M' nx'->X0 [ptr w 0,ptr t 0,t7,t57,t58,vi ((j+1:Nat):Int)] H'):
  lS E Q X0 (ptr w 0) (ptr t 0) t7 (ptr ba 0) (ptr bs 0) (vi (cA T M bT path).2) (ptr bd 0) (str (bW T M bT path).2.1) (vi ((T.look (bW T M bT path).1.i (bW T M bT path).2.1).1.toNat:Int)) t57 t58 (vi j) (vi (cA T M bT other).2) (ptr bu 0) (str (bW T M bT other).2.1) (ptr bd2 0) (vi (iT T M bT path false).2) (ptr bp 0) (vi (iT T M bT other true).2) (ptr bq 0) (ptr br 0) (ptr bv 0) H:=by
 have co:=pl.co (by omega)
 have hpin:=pl.pin;have i0:(.int .i64 0:Value)=vi 0:=rfl;have a0:a.cells[0]? = some (u8 a.kind):=rfl;have a3:a.cells[3]? = some (vb a.flag):=rfl;have a4:a.cells[4]? = some (vi a.n):=rfl;have a5:a.cells[5]? = some (vi a.m):=rfl;have hmod:aA .rem (u8 a.kind) (.int .u8 11)=some (u8 (a.kind % 11#8)):=oG a.kind 11#8 (by decide)
 have hkk:(a.kind % 11#8).toNat<11:=by rw[BitVec.toNat_umod];exact Nat.mod_lt _ (by decide)
 have again:∀ H1,Ext H H1->F.f54_j2 E Q X0 (ptr w 0) (ptr t 0) t7 t57 t58 (vi j) H1:=λH1 e1=>nH hE (h.mono e1).gw pl hj λH' h'=>next _ _ _ _ h' pl.up;have k3:(.int .u8 3:Value)=u8 3#8:=rfl;have k5:(.int .u8 5:Value)=u8 5#8:=rfl;have k8:(.int .u8 8:Value)=u8 8#8:=rfl;have n3:(3#8:BitVec 8).toNat=3:=rfl;have n5:(5#8:BitVec 8).toNat=5:=rfl;have n8:(8#8:BitVec 8).toNat=8:=rfl;have d0:∀ p:aG,p.toI.cells[0]? = some (vi p.m):=λ_=>rfl;have d1:∀ p:aG,p.toI.cells[1]? = some (vi (p.i.toNat:Int)):=λ_=>rfl;obtain⟨⟨Ba,na⟩,⟨Bs,ns⟩,⟨Bd,nd⟩,⟨Bu,nu⟩,⟨Bd2,nd2⟩,⟨Bp,np⟩,⟨Bq,nq⟩,⟨Br,nr⟩,⟨Bv,nv⟩⟩:=B;have sok:(cA T M bT path).2=0->_:=λh0=>rW h0;have uok:(cA T M bT other).2=0->_:=λh0=>rW h0;have ldir:(bW T M bT path).2.2=0->_:=λh0=>uQ h0;have ldir2:(bW T M bT other).2.2=0->_:=λh0=>uQ h0;generalize cA T M bT path=sp at *;generalize cA T M bT other=up at *;generalize iT T M bT path false=fp at *;generalize iT T M bT other true=fq at *;generalize bW T M bT path=la at *;generalize bW T M bT other=lb at *;generalize hkd:a.kind % 11#8=kk at *
 by_cases hbad:sp.2≠0/\kk.toNat<8
 ·have s1:=nC hbad.1
  have s2:=aH7 (a:=kk) (b:=8#8) (by rw[n8];exact hbad.2)
  simp only[lS,Ba,a0,hmod,i0,s1,k8,s2,aI];exact again _ (Ext.refl _)
 have hgo:∃ x:Bool,aA .neq (vi sp.2) (vi 0)=some (vb x)/\(x=true->aA .lss (u8 kk) (u8 8#8)=some (vb false)):=by
  by_cases h0:sp.2=0
  ·exact⟨false,kJ h0,λh=>nomatch h⟩
  ·exact⟨true,nC h0,λ_=>aHR (by rw[n8];exact λh=>hbad ⟨h0,h⟩)⟩
 have used:∀ (n:BitVec 16) {H1:AH} (R:Value->AH->Prop),Ext H H1->R (vb (M.any (nF n))) H1->E.call 18 [ptr t 0,vi (n.toNat:Int)] H1 R:=λn {H1} R e1 hR=>by
  obtain⟨u,hu⟩:=((h.mono e1).ref hpin).at_;refine S.f76 hE t u (M.map aX.toI) hu n.toNat ?_;rw[aGp];exact hR
 have los:aH 4 (ptr bs 0) H=some sp.1.v:=by rw[aQ,Bs];rfl
 have co' : -9223372036854775808<=T.change/\T.change<9223372036854775807:=⟨co.1,by have:=co.2;omega⟩
 by_cases c3:kk.toNat<3
 ·have hS0:sp.2=0:=Classical.byContradiction λh0=>hbad ⟨h0,by omega⟩
  obtain⟨q1,q2,q3,q4⟩:=sok hS0;have hnl:=(ldir q1).2;have s1:=aH7 (a:=kk) (b:=3#8) c3;have s0:=kJ hS0;have kadd:aA .add (.int .u8 1) (u8 kk)=some (u8 (1#8+kk)):=aHo 1#8 kk;have s98:(.string ⟨#[98]⟩:Value)=str [98]:=rfl;simp only[lS,Ba,a0,hmod,i0,s0,k3,s1,kadd,los,s98,aI];refine S.f122 hE h.1 pl.wf sp.1 (by rw[q3];omega) (1#8+kk) [98] (by decide) co λH1 h1 =>?_
  rw[q2,q3]at h1 ⊢;have plm:=pl.make la.1.i la.2.1 (1#8+kk) [98];have hmb:=aGV (T:=T) la.1.i la.2.1 (1#8+kk) [98];generalize hpc:(if(T.make la.1.i la.2.1 (1#8+kk) [98]).2.2≠0 then aG.zero else⟨la.1.m,(T.make la.1.i la.2.1 (1#8+kk) [98]).2.1⟩:aG)=pc at *;have hb:=WkO.box h1 pc.cells;have hb:WkO (fC t rv mv nx (mF M) Y T :: [bE TB tc,frR n0 H,bE H1.next pc.cells]) H0 (H1.new (.cells pc.cells none)) w (T.make la.1.i la.2.1 (1#8+kk) [98]).1 M nx:=hb;have sb1:Sub (H.since n0) (H1.new (.cells pc.cells none)):=WkO.since (k:=2) hb rfl;have hbd:=nB sb1 nd Bd;simp only[bD,st2,hbd,d1,kO,aI];generalize H1.next=B1 at *;generalize H1.new (.cells pc.cells none)=H2 at *;obtain⟨p',q',v',m',L',h2,back⟩:=hb.two h.2.1 h.2.2;refine cT.rMake hE h2 pl.wf la.1.i la.2.1 (by omega) (1#8+kk) [98] co' λnv' Y' H3 h3 =>?_
  have h4:=back _ _ _ _ _ _ h3;have hbx:H3.get B1 = .cells pc.cells none:=(WkO.openX (k:=3) h4 rfl).1.holds;have sb3:Sub (H.since n0) H3:=WkO.since (k:=2) h4 rfl;have hbs3:=nB sb3 ns Bs;have h5:WkO ((fC t nv' mv nx (mF M) Y' (T.make la.1.i la.2.1 (1#8+kk) [98]).1 :: [bE TB tc,frR n0 H])++[bE B1 pc.cells]) H0 H3 w (T.make la.1.i la.2.1 (1#8+kk) [98]).1 M nx:=h4;have hw5:PlW TB tc n0 H nv' mv nx M Y' (T.make la.1.i la.2.1 (1#8+kk) [98]).1 H0 H3 w t (T.make la.1.i la.2.1 (1#8+kk) [98]).1 M nx:=⟨h5.drop,h3.len,h3.fit⟩;generalize T.make la.1.i la.2.1 (1#8+kk) [98]=mk' at *;have pc0:pc.cells[0]? = some (vi pc.m):=rfl;have pc1:pc.cells[1]? = some (u16 pc.i):=rfl;have sc0:sp.1.cells[0]? = some (vi sp.1.dir.m):=rfl;have e1:=mU mk'.2.2
  have hpi:pc.i=mk'.2.1:=by
   rw[<- hpc]
   by_cases he:mk'.2.2=0
   ·rw[if_neg (by simpa using he)]
   ·rw[if_pos he,hmb he];rfl
  have e2:=mU (mk'.2.1.toNat:Int);rw[hpi]at pc1;have fin:=nH (Q:=Q) (X0:=X0) (t7:=t7) (t57:=t57) (t58:=t58) hE hw5.gw plm hj λH' h'=>next _ _ _ _ h' plm
  by_cases he:mk'.2.2=0
  ·have e3:=aCP he
   have hpm:pc.m=sp.1.dir.m:=by rw[<- hpc,if_neg (by simpa using he),q2]
   rw[hpm]at pc0;have e4:=mU sp.1.dir.m;simp only[e1,hbx,pc1,jH,e2,i0,e3,pc0,hbs3,sc0,e4,aI];exact fin
  ·have e3:=aAG he
   simp only[e1,hbx,pc1,jH,e2,i0,e3,aI];exact fin
 have s3:=aHR (a:=kk) (b:=3#8) c3;have hnz:∀ {n:BitVec 16},n=0#16->aA .neq (vi (n.toNat:Int)) (vi 0)=some (vb false):=λe=>by rw[e];rfl
 have hnn:∀ {n:BitVec 16},n≠0#16->aA .neq (vi (n.toNat:Int)) (vi 0)=some (vb true):=fun {n} e=>nC λhh=>e (BitVec.eq_of_toNat_eq (by simpa using hh))
 have hez:∀ {n:BitVec 16},n=0#16->aA .eql (vi (n.toNat:Int)) (vi 0)=some (vb true):=λe=>by rw[e];rfl
 have hen:∀ {n:BitVec 16},n≠0#16->aA .eql (vi (n.toNat:Int)) (vi 0)=some (vb false):=fun {n} e=>aAG λhh=>e (BitVec.eq_of_toNat_eq (by simpa using hh))
 have nt:un .not (vb true)=some (vb false):=rfl;have nf:un .not (vb false)=some (vb true):=rfl;have okn:(T.look la.1.i la.2.1).1≠0#16->(T.look la.1.i la.2.1).2=0:=λhn=>Classical.byContradiction λh2=>hn (Tr.look_bad h2)
 by_cases c5:kk.toNat<5
 ·have hS0:sp.2=0:=Classical.byContradiction λh0=>hbad ⟨h0,by omega⟩
  obtain⟨q1,q2,q3,q4⟩:=sok hS0;have s5:=aH7 (a:=kk) (b:=5#8) c5;have s0:=kJ hS0
  by_cases hn:(T.look la.1.i la.2.1).1=0#16
  ·have hrm:jG T M sp.1 a.flag=(T,2):=by unfold jG;rw[if_pos (by rw[q4];exact hn)]
   have fin:=xO (Q:=Q) (X0:=X0) (t7:=t7) (t57:=t57) (t58:=t58) (s:=sp.1) (a:=a) hE h Bs ns Ba na pl.wf co (by rw[hrm]) pl.up hj λH' h'=>next _ _ _ _ h' pl.up
   rw[hrm]at fin;simp only[lS,Ba,a0,hmod,i0,s0,k3,s3,k5,s5,hnz hn,aI];exact fin
  ·simp only[lS,Ba,a0,hmod,i0,s0,k3,s3,k5,s5,hnn hn,aI]
   refine used _ _ (Ext.refl _) ?_;cases hu:M.any (nF (T.look la.1.i la.2.1).1) with
   | true =>
    have hrm:jG T M sp.1 a.flag=(T,16):=by unfold jG;rw[if_neg (by rw[q4];exact hn),if_pos (by rw[q4];exact hu)]
    have fin:=xO (Q:=Q) (X0:=X0) (t7:=t7) (t57:=t57) (t58:=t58) (s:=sp.1) (a:=a) hE h Bs ns Ba na pl.wf co (by rw[hrm]) pl.up hj λH' h'=>next _ _ _ _ h' pl.up
    rw[hrm]at fin;simp only[nt,aI];exact fin
   | false =>
    have hrm:jG T M sp.1 a.flag=T.drop la.1.i la.2.1 a.flag:=by unfold jG;rw[if_neg (by rw[q4];exact hn),if_neg (by rw[q4,hu];decide),q2,q3]
    have pld:=pl.drop la.1.i la.2.1 a.flag λ_=>hu;simp only[nf,Bd,d1,Ba,a3,aI];obtain⟨p',q',v',m',L',h2,back⟩:=WkO.two h.1 h.2.1 h.2.2;refine cT.rDrop hE h2 pl.wf la.1.i la.2.1 a.flag co' λY' H3 h3 =>?_;have h4:PlW TB tc n0 H rv mv nx M Y' (T.drop la.1.i la.2.1 a.flag).1 H0 H3 w t T M nx:=⟨back _ _ _ _ _ _ h3,h3.len,h3.fit⟩;have fin:=xO (Q:=Q) (X0:=X0) (t7:=t7) (t57:=t57) (t58:=t58) (s:=sp.1) (a:=a) hE h4 Bs ns Ba na pl.wf co (by rw[hrm]) pld hj λH' h'=>next _ _ _ _ h' pld
    rw[hrm]at fin;exact fin
 have s5:=aHR (a:=kk) (b:=5#8) c5
 by_cases e5:kk=5#8
 ·have hS0:sp.2=0:=Classical.byContradiction λh0=>hbad ⟨h0,by rw[e5];decide⟩
  obtain⟨q1,q2,q3,q4⟩:=sok hS0;have hnl:=(ldir q1).2;have s0:=kJ hS0;have s6:aA .eql (u8 kk) (u8 5#8)=some (vb true):=by rw[e5];exact aKq _
  by_cases hf:fq.2=0
  rotate_left
  ·have f1:=nC hf
   simp only[lS,Ba,a0,hmod,i0,s0,k3,s3,k5,s5,s6,f1,aI];exact again _ (Ext.refl _)
  have f1:=kJ hf
  by_cases hm:fq.1.m=la.1.m
  ·have hlk:qZ T fq.1 sp.1=T.add la.1.i la.2.1 fq.1.i:=by unfold qZ;rw[if_neg (by rw[q2];simpa using hm),q2,q3]
   have f2:=aCP hm;have pla:=pl.add la.1.i la.2.1 fq.1.i;simp only[lS,Ba,a0,hmod,i0,s0,k3,s3,k5,s5,s6,f1,Bv,Bd,d0,d1,f2,aI];obtain⟨p',q',v',m',L',h2,back⟩:=WkO.two h.1 h.2.1 h.2.2;refine cT.rAdd hE h2 pl.wf la.1.i la.2.1 (by omega) fq.1.i co' λY' H3 h3 =>?_
   have h4:PlW TB tc n0 H rv mv nx M Y' (T.add la.1.i la.2.1 fq.1.i).1 H0 H3 w t T M nx:=⟨back _ _ _ _ _ _ h3,h3.len,h3.fit⟩;have fin:=aBu (Q:=Q) (X0:=X0) (t7:=t7) (t57:=t57) (t58:=t58) (s:=sp.1) (q:=fq.1) hE h4 Bs ns Bq nq pl.wf co (by rw[q3];omega) (by rw[hlk]) pla hj λH' h'=>next _ _ _ _ h' pla
   rw[hlk]at fin;exact fin
  ·have hlk:qZ T fq.1 sp.1=(T,18):=by unfold qZ;rw[if_pos (by rw[q2];exact hm)]
   have f2:=aAG hm;have fin:=aBu (Q:=Q) (X0:=X0) (t7:=t7) (t57:=t57) (t58:=t58) (s:=sp.1) (q:=fq.1) hE h Bs ns Bq nq pl.wf co (by rw[q3];omega) (by rw[hlk]) pl.up hj λH' h'=>next _ _ _ _ h' pl.up
   rw[hlk]at fin;simp only[lS,Ba,a0,hmod,i0,s0,k3,s3,k5,s5,s6,f1,Bv,Bd,d0,d1,f2,aI];exact fin
 have s6:=aKv e5
 by_cases c8:kk.toNat<8
 ·have hS0:sp.2=0:=Classical.byContradiction λh0=>hbad ⟨h0,c8⟩
  obtain⟨q1,q2,q3,q4⟩:=sok hS0;have s0:=kJ hS0;have s8:=aH7 (a:=kk) (b:=8#8) c8
  by_cases hf:up.2=0
  rotate_left
  ·have f1:=nC hf
   simp only[lS,Ba,a0,hmod,i0,s0,k3,s3,k5,s5,s6,k8,s8,f1,aI];exact again _ (Ext.refl _)
  have f1:=kJ hf;obtain⟨r1,r2,r3,r4⟩:=uok hf;have hnl2:=(ldir2 r1).2;have lkk:T.look lb.1.i lb.2.1=T.look lb.1.i lb.2.1:=rfl
  have rej:∀ (x:Int),fG T M sp.1 up.1=(T,x)->∀ H1,Ext H H1->F.f54_j5 E Q X0 (ptr w 0) (ptr t 0) t7 (ptr bs 0) (ptr bu 0) (vi x) t57 t58 (vi j) H1:=by
   intro x hx H1 e1;have fin:=aBJ (Q:=Q) (X0:=X0) (t7:=t7) (t57:=t57) (t58:=t58) (s:=sp.1) (u:=up.1) hE (h.mono e1) Bs ns Bu nu pl.wf co (by rw[r3];omega) (by rw[hx]) pl.up hj λH' h'=>next _ _ _ _ h' pl.up
   rw[hx]at fin;exact fin
  simp only[lS,Ba,a0,hmod,i0,s0,k3,s3,k5,s5,s6,k8,s8,f1,Bd2,d1,aI];obtain⟨o2,_⟩:=WkO.openX (k:=0) h.1 (r:=fC t rv mv nx (mF M) Y T) rfl;have hRT:eD H t rv mv nx (mF M) Y T:=⟨o2,h.2.1,h.2.2⟩;refine S.f70 hE hRT pl.wf.small lb.1.i lb.2.1 λH1 e1 =>?_;have Bd':=e1.cells Bd;have Bd2':=e1.cells Bd2
  by_cases hn:(T.look la.1.i la.2.1).1=0#16
  ·have hx:fG T M sp.1 up.1=(T,2):=by unfold fG;rw[if_pos (by rw[q4];exact hn)]
   simp only[i0,hez hn,aI];exact rej 2 hx _ e1
  by_cases hm:la.1.m=lb.1.m
  rotate_left
  ·have hx:fG T M sp.1 up.1=(T,18):=by unfold fG;rw[if_neg (by rw[q4];exact hn),if_pos (by rw[q2,r2];exact hm)]
   have f2:=nC hm;simp only[i0,hen hn,Bd',Bd2',d0,f2,aI];exact rej 18 hx _ e1
  have f2:=kJ hm;simp only[i0,hen hn,Bd',Bd2',d0,f2,aI];refine used _ _ e1 ?_;cases hu:M.any (nF (T.look la.1.i la.2.1).1) with
  | true =>
   have hx:fG T M sp.1 up.1=(T,16):=by unfold fG;rw[if_neg (by rw[q4];exact hn),if_neg (by rw[q2,r2];simpa using hm),if_pos (.inl (by rw[q4];exact hu))]
   simp only[aI];exact rej 16 hx _ e1
  | false =>
   have move:M.any (nF (T.look lb.1.i lb.2.1).1)=false\/(T.look lb.1.i lb.2.1).2≠0->∀ H2,Ext H H2->(opt (aB (ptr bd 0) 1) λv141=>opt (aC v141 H2) λv142=>opt (aB (ptr bd2 0) 1) λv143=>opt (aC v143 H2) λv144=>E.call 23 [ptr t 0,v142,str la.2.1,v144,str lb.2.1] H2 λv145 H81=>F.f54_j5 E Q X0 (ptr w 0) (ptr t 0) t7 (ptr bs 0) (ptr bu 0) v145 t57 t58 (vi j) H81):=by
    intro hold H2 e2
    have hx:fG T M sp.1 up.1=T.move la.1.i la.2.1 lb.1.i lb.2.1:=by
     unfold fG;rw[if_neg (by rw[q4];exact hn),if_neg (by rw[q2,r2];simpa using hm),if_neg,q2,q3,r2,r3]
     rw[q4,r4];rintro(hh | ⟨h1,h2⟩)
     ·rw[hu]at hh;exact nomatch hh
     ·rcases hold with h3 | h3
      ·rw[h3]at h2;exact nomatch h2
      ·exact h1 (Tr.look_bad h3)
    have plv:=pl.move la.1.i la.2.1 lb.1.i lb.2.1 λh0=>hold.elim id λh3=>(h3 h0).elim;simp only[e2.cells Bd,e2.cells Bd2,d1,aI];obtain⟨p',q',v',m',L',h2,back⟩:=WkO.two (h.mono e2).1 h.2.1 h.2.2;refine cT.rMove hE h2 pl.wf la.1.i lb.1.i la.2.1 lb.2.1 (by omega) co λY' H3 h3 =>?_
    have h4:PlW TB tc n0 H rv mv nx M Y' (T.move la.1.i la.2.1 lb.1.i lb.2.1).1 H0 H3 w t T M nx:=⟨back _ _ _ _ _ _ h3,h3.len,h3.fit⟩;have fin:=aBJ (Q:=Q) (X0:=X0) (t7:=t7) (t57:=t57) (t58:=t58) (s:=sp.1) (u:=up.1) hE h4 Bs ns Bu nu pl.wf co (by rw[r3];omega) (by rw[hx]) plv hj λH' h'=>next _ _ _ _ h' plv
    rw[hx]at fin;exact fin
   by_cases ht:(T.look lb.1.i lb.2.1).2=0
   ·have f3:=aCP ht
    simp only[i0,f3,aI];refine used _ _ e1 ?_;cases hu2:M.any (nF (T.look lb.1.i lb.2.1).1) with
    | true =>
     have hon:(T.look lb.1.i lb.2.1).1≠0#16:=λh0=>by
      have:=(pl.wf.look_bd lb.1.i lb.2.1 ht).1;rw[h0,pl.wf.n0]at this;exact this rfl
     have hx:fG T M sp.1 up.1=(T,16):=by unfold fG;rw[if_neg (by rw[q4];exact hn),if_neg (by rw[q2,r2];simpa using hm),if_pos (.inr ⟨by rw[r4];exact hon,by rw[r4];exact hu2⟩)]
     simp only[aI];exact rej 16 hx _ e1
    | false =>
     have:=move (.inl hu2) _ e1;simp only[aI]at this ⊢;exact this
   ·have f3:=aAG ht
    have:=move (.inr ht) _ e1;simp only[i0,f3,aI]at this ⊢;exact this
 have s8:=aHR (a:=kk) (b:=8#8) c8
 have hs1:∃ x:Bool,aA .neq (vi sp.2) (vi 0)=some (vb x):=by
  by_cases h0:sp.2=0
  ·exact⟨false,kJ h0⟩
  ·exact⟨true,nC h0⟩
 obtain⟨gx,g1⟩:=hs1
 by_cases e8:kk=8#8
 ·have s9:aA .eql (u8 kk) (u8 8#8)=some (vb true):=by rw[e8];exact aKq _
  by_cases hpq:fp.2=0/\fq.2=0
  rotate_left
  ·have:F.f54_j2 E Q X0 (ptr w 0) (ptr t 0) t7 t57 t58 (vi j) H:=again _ (Ext.refl _)
   by_cases hp:fp.2=0
   ·have f1:=kJ hp
    have f2:=nC (λhq=>hpq ⟨hp,hq⟩:fq.2≠0);cases gx<;>(simp only[lS,Ba,a0,hmod,i0,g1,k3,s3,k5,s5,s6,k8,s8,s9,f1,f2,aI];exact this)
   ·have f1:=nC hp
    cases gx<;>(simp only[lS,Ba,a0,hmod,i0,g1,k3,s3,k5,s5,s6,k8,s8,s9,f1,aI];exact this)
  have f1:=kJ hpq.1;have f2:=kJ hpq.2;have lor:∀ {H'},Ext H H'->aH 2 (ptr br 0) H'=some fp.1.toI.v:=λe=>by rw[aQ,e.cells Br];rfl
  have lov:∀ {H'},Ext H H'->aH 2 (ptr bv 0) H'=some fq.1.toI.v:=λe=>by rw[aQ,e.cells Bv];rfl
  have tok:sW (dJ M nx fp.1.i fq.1).T (dJ M nx fp.1.i fq.1).nx:=(hpin.bind fp.1.i fq.1).ok (by omega)
  have rej:∀ (x:Int),iS T M nx fp.1 fq.1=⟨M,nx,x⟩->∀ H1,Ext H H1->F.f54_j6 E Q X0 (ptr w 0) (ptr t 0) t7 (ptr bp 0) (ptr bq 0) (vi x) t57 t58 (vi j) H1:=by
   intro x hx H1 e1;have fin:=aBC (Q:=Q) (X0:=X0) (t7:=t7) (t57:=t57) (t58:=t58) (p:=fp.1) (q:=fq.1) hE (h.mono e1) Bp np Bq nq tok (by rw[hx]) (by rw[hx]) pl.up hj λH' h'=>next _ _ _ _ h' pl.up
   rw[hx]at fin;exact fin
  have main:∀ (R:Prop),((opt (aH 2 (ptr br 0) H) λv151=>E.call 25 [ptr t 0,v151] H λv152 H84=>gV v152 true (ptr t 0) H84 λv153 H85=>gO v152 true (aH 2 (ptr bv 0) H85) H85 λv154 H86=>gd v152 true (λk=>E.call 25 [v153,v154] H86 λv h=>k v h) H86 λv155 H87=>opt (pick v152 v155 (.bool false)) λv156=>ifB v156 (opt (aB (ptr br 0) 1) λv157=>opt (aC v157 H87) λv158=>E.call 26 [ptr t 0,v158] H87 λv159 H88=>opt (aF v159) λv160=>opt (aB v160 5) λv161=>opt (aC v161 H88) λv162=>opt (aA .gtr v162 (vi 0)) λv163=>gV v163 true (ptr t 0) H88 λv164 H89=>gO v163 true (aB (ptr bv 0) 1) H89 λv165 H90=>gO v163 true (aC v165 H90) H90 λv166 H91=>gd v163 true (λk=>E.call 26 [v164,v166] H91 λv h=>k v h) H91 λv167 H92=>gO v163 true (aF v167) H92 λv168 H93=>gO v163 true (aB v168 5) H93 λv169 H94=>gO v163 true (aC v169 H94) H94 λv170 H95=>gO v163 true (aA .gtr v170 (vi 0)) H95 λv171 H96=>opt (pick v163 v171 (.bool false)) λv172=>ifB v172 (opt (aB (ptr br 0) 1) λv173=>opt (aC v173 H96) λv174=>opt (aH 2 (ptr bv 0) H96) λv175=>E.call 27 [ptr t 0,v174,v175] H96 λv176 H97=>opt (ext v176 0) λv177=>opt (ext v176 1) λv178=>F.f54_j6 E Q X0 (ptr w 0) (ptr t 0) t7 (ptr bp 0) (ptr bq 0) v178 t57 t58 (vi j) H97) (F.f54_j6 E Q X0 (ptr w 0) (ptr t 0) t7 (ptr bp 0) (ptr bq 0) (vi 2) t57 t58 (vi j) H96)) (F.f54_j6 E Q X0 (ptr w 0) (ptr t 0) t7 (ptr bp 0) (ptr bq 0) (vi 20) t57 t58 (vi j) H87))->R)->R:=by
   intro R hR;apply hR;simp only[lor (Ext.refl _),aI];refine S.rDir hE (h.ref hpin) fp.1 λH1 e1 =>?_;cases hd1:gK T M fp.1 with
   | false =>
    have hx:iS T M nx fp.1 fq.1=⟨M,nx,20⟩:=by unfold iS;rw[if_pos (.inl hd1)]
    simp only[aI];exact rej 20 hx _ e1
   | true =>
   simp only[lov e1,aI];refine S.rDir hE ((h.mono e1).ref hpin) fq.1 λH2 e2 =>?_;have e12:=e1.trans e2;cases hd2:gK T M fq.1 with
   | false =>
    have hx:iS T M nx fp.1 fq.1=⟨M,nx,20⟩:=by unfold iS;rw[if_pos (.inr hd2)]
    simp only[aI];exact rej 20 hx _ e12
   | true =>
   have hdd:¬ (gK T M fp.1=false\/gK T M fq.1=false):=by rw[hd1,hd2];simp
   simp only[e12.cells Br,d1,aI];refine((h.mono e12).ref hpin).node hE fp.1.i λb o y H3 e3 hn =>?_;have e13:=e12.trans e3;obtain⟨_,_,_,_,_,k5',_⟩:=hn.cell;have b1:=(pl.wf.links_bd fp.1.i).1;have b2:=(pl.wf.links_bd fq.1.i).1
   by_cases hl1:(T.node fp.1.i).links=0
   ·have hx:iS T M nx fp.1 fq.1=⟨M,nx,2⟩:=by unfold iS;rw[if_neg hdd,if_pos (.inl hl1)]
    have g1:aA .gtr (vi (T.node fp.1.i).links) (vi 0)=some (vb false):=by
     show aA .gtr (vi _) (vi 0)=_
     rw[bL];simp[hl1]
    simp only[k5',g1,aI];exact rej 2 hx _ e13
   have g1:aA .gtr (vi (T.node fp.1.i).links) (vi 0)=some (vb true):=by
    show aA .gtr (vi _) (vi 0)=_
    rw[bL];simp;omega
   simp only[k5',g1,e13.cells Bv,d1,aI];refine((h.mono e13).ref hpin).node hE fq.1.i λb' o' y' H4 e4 hn' =>?_;have e14:=e13.trans e4;obtain⟨_,_,_,_,_,k6',_⟩:=hn'.cell
   by_cases hl2:(T.node fq.1.i).links=0
   ·have hx:iS T M nx fp.1 fq.1=⟨M,nx,2⟩:=by unfold iS;rw[if_neg hdd,if_pos (.inr hl2)]
    have g2:aA .gtr (vi (T.node fq.1.i).links) (vi 0)=some (vb false):=by
     show aA .gtr (vi _) (vi 0)=_
     rw[bL];simp[hl2]
    simp only[k6',g2,aI];exact rej 2 hx _ e14
   have g2:aA .gtr (vi (T.node fq.1.i).links) (vi 0)=some (vb true):=by
    show aA .gtr (vi _) (vi 0)=_
    rw[bL];simp;omega
   have hx:iS T M nx fp.1 fq.1=⟨(dJ M nx fp.1.i fq.1).T,(dJ M nx fp.1.i fq.1).nx,(dJ M nx fp.1.i fq.1).e⟩:=by unfold iS;rw[if_neg hdd,if_neg (by simp[hl1,hl2])]
   have plb:=pl.bind fp.1 fq.1;simp only[k6',g2,e14.cells Br,d1,lov e14,aI];have h4:=h.mono e14;obtain⟨o2,back2⟩:=WkO.openX (k:=0) h4.1 (r:=fC t rv mv nx (mF M) Y T) rfl;have hnx:=hpin.nx0;have hnx1:=hpin.nx1;have hlen:=hpin.len;obtain⟨z1,z2,z3,z4⟩:=aCd hpin fp.1.i fq.1;refine S.pinfoldref16_Tree_BindT hE (M:=M.map aX.toI) o2 (by rw[List.length_map];omega) (by omega) _ _ λmv' H5 u5 =>?_
   rw[z1,z2]at u5;have h5:=back2 _ _ u5;have h5:PlW TB tc n0 H rv mv' (dJ M nx fp.1.i fq.1).nx (dJ M nx fp.1.i fq.1).T Y T H0 H5 w t T M nx:=⟨h5,h.2⟩;rw[z4];rw[hx]at plb;have fin:=aBC (Q:=Q) (X0:=X0) (t7:=t7) (t57:=t57) (t58:=t58) (p:=fp.1) (q:=fq.1) hE h5 Bp np Bq nq tok (by rw[hx]) (by rw[hx]) plb hj λH' h'=>next _ _ _ _ h' plb
   rw[hx]at fin;simp only[aI];exact fin
  cases gx<;>(simp only[lS,Ba,a0,hmod,i0,g1,k3,s3,k5,s5,s6,k8,s8,s9,f1,f2,aI];refine main _ λhm =>?_;simp only[aI]at hm ⊢; exact hm)
 have s9:=aKv e8;have lan:∀ {H'},Ext H H'->(H'.get ba) = .cells a.cells none:=λe=>e.cells Ba;have p1:fp.1.cells[1]? = some (u16 fp.1.i):=rfl;obtain⟨r15,hr15⟩:=aKn a.n
 have tl:∀ (R:Prop),((E.call 29 [ptr w 0,ptr t 0,u16 fp.1.i,vi a.n,vi a.m] H λv185 H98=>opt (un .not v185) λv186=>gV v186 false (ptr w 0) H98 λv187 H99=>gV v186 false (ptr t 0) H99 λv188 H100=>gO v186 false (aB (ptr ba 0) 4) H100 λv189 H101=>gO v186 false (aC v189 H101) H101 λv190 H102=>gO v186 false (aA .and v190 (vi 15)) H102 λv191 H103=>gO v186 false (bI .u16 v191) H103 λv192 H104=>gO v186 false (aB (ptr ba 0) 5) H104 λv193 H105=>gO v186 false (aC v193 H105) H105 λv194 H106=>gO v186 false (aB (ptr ba 0) 4) H106 λv195 H107=>gO v186 false (aC v195 H107) H107 λv196 H108=>gd v186 false (λk=>E.call 29 [v187,v188,v192,v194,v196] H108 λv h=>k v h) H108 λv197 H109=>gO v186 false (un .not v197) H109 λv198 H110=>opt (pick v186 (.bool true) v198) λv199=>ifB v199 (Q (.bool false) H110) (F.f54_j2 E Q X0 (ptr w 0) (ptr t 0) t7 t57 t58 (vi j) H110))->R)->R:=by
  intro R hR;apply hR;refine S.f55 hE h.at_ (h.ref hpin) pl.wf pl.kd fp.1.i a.n a.m ok.n ok.m λH1 e1 =>?_;simp only[nt,lan e1,a4,a5,hr15,mH,aI];refine S.f55 hE (h.mono e1).at_ ((h.mono e1).ref hpin) pl.wf pl.kd _ a.m a.n ok.m ok.n λH2 e2 =>?_;simp only[nt,aI];exact again _ (e1.trans e2)
 cases gx<;>(simp only[lS,Ba,a0,hmod,i0,g1,k3,s3,k5,s5,s6,k8,s8,s9,Bp,p1,a4,a5,aI];refine tl _ λhm =>?_;simp only[aI]at hm ⊢; exact hm)
end
end
section
set_option maxRecDepth 20000
section
variable {X:List Res}{E:Sy}{H0 H Hs H' K:AH}{Q:Value->AH->Prop}{w t TB:Nat}{T T2:Tr}{M M2:List aX}{nx nx2 k:Int}{n0:Nat}{tc:List Value}
theorem GwO.tb(g:GwO [bE TB tc] H0 H w t T M nx):H.get TB = .cells tc none:=GwO.held (X:=[]) g
theorem aFU(H:AH)(p q:aN):∃ H1 H2,storeN 2 (ptr H.next 0) p.v ((H.new (.cells [vi 0,vi 0] none)).new (.cells [vi 0,vi 0] none))=some H1/\storeN 2 (ptr (H.next+1) 0) q.v H1=some H2/\Ext H H2/\H2.get H.next = .cells p.cells none:=by
 have x2:Ext H ((H.new (.cells [vi 0,vi 0] none)).new (.cells [vi 0,vi 0] none)):=((Ext.refl _).new _).new _
 have b1:((H.new (.cells [vi 0,vi 0] none)).new (.cells [vi 0,vi 0] none)).get H.next = .cells [vi 0,vi 0] none:=by
  rw[AH.get_new_ne _ _ (by rw[AH.next_new];omega),AH.get_new_self]
 have b2:((H.new (.cells [vi 0,vi 0] none)).new (.cells [vi 0,vi 0] none)).get (H.next+1) = .cells [vi 0,vi 0] none:=AH.get_new_self (H.new _) _;have hl:H.next+1<((H.new (.cells [vi 0,vi 0] none)).new (.cells [vi 0,vi 0] none)).next:=by rw[AH.next_new,AH.next_new];omega
 generalize (H.new (.cells [vi 0,vi 0] none)).new (.cells [vi 0,vi 0] none)=K at *
 have st:∀ (b:Nat) (p:aN) (K:AH),K.get b = .cells [vi 0,vi 0] none->storeN 2 (ptr b 0) p.v K=some (K.put b (.cells p.cells none)):=λb p K hb=>by
  rw[bJ,hb];rfl
 refine⟨_,_,st _ p _ b1,st _ q _ (by rw[AH.get_put_ne _ _ (by omega)];exact b2),(x2.put (Nat.le_refl _) _).put (by omega) _,?_⟩
 rw[AH.get_put_ne _ _ (by omega),AH.get_put_self _ _ (by omega)]
theorem aGF(hE:bF E)(g:GwO [bE TB bT.toI.cells] H0 Hs w t T M nx)(es:Ext Hs H)(pl:PlI k T M nx)(hk:k<=800){a:PlD}(ok:a.ok H){path other:List UInt8}(hp:path.length<=300)(ho:other.length<=300){ba bs bd:Nat}(Ba:H.get ba = .cells a.cells none/\Hs.next<=ba)(Bs:H.get bs = .cells (cA T M bT path).1.cells none/\Hs.next<=bs)(Bd:H.get bd = .cells (bW T M bT path).1.toI.cells none/\Hs.next<=bd){t57 t58:Value}{j:Nat}(hj:j<2 ^ 62){X0:List Value->AH->Prop}(next:∀ T' M' nx' H',GwO [bE TB bT.toI.cells] H0 H' w t T' M' nx'->PlI (k+1) T' M' nx'->X0 [ptr w 0,ptr t 0,ptr TB 0,t57,t58,vi ((j+1:Nat):Int)] H'):
  F.f54_j1 E Q X0 (ptr w 0) (ptr t 0) (ptr TB 0) (ptr ba 0) (str path) (str other) (ptr bs 0) (vi (cA T M bT path).2) (ptr bd 0) (str (bW T M bT path).2.1) (vi (bW T M bT path).2.2) (vi ((T.look (bW T M bT path).1.i (bW T M bT path).2.1).1.toNat:Int)) t57 t58 (vi j) H:=by
 unfold F.f54_j1;refine aEm hE Bs.1 Bd.1 λH1 e1 =>?_;have wf:=pl.wf;have kd:=pl.kd;have lt:T.LT:=Tr.KD.lt kd;have lo:∀ {H'},Ext Hs H'->aH 2 (ptr TB 0) H'=some bT.toI.v:=λe=>by rw[aQ,e.cells g.tb];rfl
 have hrf:=fun {H':AH} (e:Ext Hs H')=>(show lW H' t T M from by
  obtain⟨rv,mv,Y,h,a,b⟩:=g.mono e;obtain⟨o2,_⟩:=WkO.openX (k:=0) h (r:=fC t rv mv nx (mF M) Y T) rfl;exact⟨rv,mv,nx,Y,k,⟨o2,a,b⟩,pl.pin⟩)
 have f1:=es.trans e1;simp only[aI];refine S.f44 hE λH2 e2 =>?_;have f2:=f1.trans e2;refine S.f127 hE (g.mono f2).at_ wf lt bT other (by omega) λH3 e3 =>?_
 have f3:=f2.trans e3;simp only[bD,st4,aI];have x4:Ext H3 (H3.new (.cells (cA T M bT other).1.cells none)):=(Ext.refl _).new _;have c4:=AH.get_new_self H3 (.cells (cA T M bT other).1.cells none);have n4:=f3.1;generalize H3.next=bu at *;generalize H3.new (.cells (cA T M bT other).1.cells none)=H4 at *;have f4:=f3.trans x4;simp only[lo f4,aI];refine S.rLast hE (hrf f4) wf kd bT other (by omega) λH5 e5 =>?_
 have f5:=f4.trans e5;have s6:storeN 2 (ptr H5.next 0) (bW T M bT other).1.toI.v (H5.new (.cells [vi 0,vi 0] none))=some (H5.new (.cells (bW T M bT other).1.toI.cells none)):=lO rfl rfl rfl;have x6:Ext H5 (H5.new (.cells (bW T M bT other).1.toI.cells none)):=(Ext.refl _).new _;have c6:=AH.get_new_self H5 (.cells (bW T M bT other).1.toI.cells none);have n6:=f5.1;simp only[bD,s6,aI];generalize H5.next=bd2 at *;generalize H5.new (.cells (bW T M bT other).1.toI.cells none)=H6 at *;have f6:=f5.trans x6;refine S.f44 hE λH7 e7 =>?_;have f7:=f6.trans e7;refine S.f131 hE (g.mono f7).at_ wf lt bT path (by omega) false λH8 e8 =>?_
 have f8:=f7.trans e8;have x9:Ext H8 (H8.new (.cells (iT T M bT path false).1.cells none)):=(Ext.refl _).new _;have c9:=AH.get_new_self H8 (.cells (iT T M bT path false).1.cells none);have n9:=f8.1;simp only[bD,st2,aI];generalize H8.next=bp at *;generalize H8.new (.cells (iT T M bT path false).1.cells none)=H9 at *;have f9:=f8.trans x9;refine S.f44 hE λH10 e10 =>?_;have f10:=f9.trans e10;refine S.f131 hE (g.mono f10).at_ wf lt bT other (by omega) true λH11 e11 =>?_
 have f11:=f10.trans e11;have x12:Ext H11 (H11.new (.cells (iT T M bT other true).1.cells none)):=(Ext.refl _).new _;have c12:=AH.get_new_self H11 (.cells (iT T M bT other true).1.cells none);have n12:=f11.1;simp only[bD,st2,aI];generalize H11.next=bq at *;generalize H11.new (.cells (iT T M bT other true).1.cells none)=H12 at *;have f12:=f11.trans x12;simp only[lo f12,aI];refine S.rFind hE (hrf f12) wf kd bT path (by omega) false λq1 H13 e13 =>?_
 have f13:=f12.trans e13;obtain⟨H14,H15,s14,s15,e15,c15⟩:=aFU H13 (iT T M bT path false).1.toI q1;have n15:=f13.1;simp only[bD,AH.next_new,s14,s15,aI];generalize H13.next=br at *;have f15:=f13.trans e15;simp only[lo f15,aI];refine S.rFind hE (hrf f15) wf kd bT other (by omega) true λq2 H16 e16 =>?_
 have f16:=f15.trans e16;obtain⟨H17,H18,s17,s18,e18,c18⟩:=aFU H16 (iT T M bT other true).1.toI q2;have n18:=f16.1;have f18:=f16.trans e18;obtain⟨rv,mv,Y,h,h2,h3⟩:=g.frz f18;have k15:=e16.trans e18;have k12:=(e13.trans e15).trans k15;have k9:=(e10.trans (e11.trans x12)).trans k12;have k6:=(e7.trans (e8.trans x9)).trans k9;have k4:=(e5.trans x6).trans k6;have k0:=e1.trans (e2.trans (e3.trans (x4.trans k4)))
 have B:PlB H18 Hs.next T M a path other ba bs bd bu bd2 bp bq br H16.next :=
  ⟨⟨k0.cells Ba.1,Ba.2⟩,⟨k0.cells Bs.1,Bs.2⟩,⟨k0.cells Bd.1,Bd.2⟩,⟨k4.cells c4,n4⟩,⟨k6.cells c6,n6⟩,⟨k9.cells c9,n9⟩,⟨k12.cells c12,n12⟩,⟨k15.cells c15,n15⟩,⟨c18,n18⟩⟩
 have fin:=aEB (Q:=Q) (X0:=X0) (t7:=ptr TB 0) (t57:=t57) (t58:=t58) hE B ⟨ok.f.mono k0,ok.t.mono k0,ok.fl,ok.tl,ok.n,ok.m⟩ ⟨h,h2,h3⟩ pl hk hj next;simp only[bD,AH.next_new,s17,s18,aI];simp only[lS,aI]at fin;exact fin
theorem PlI.le(p:PlI k T M nx){k':Int}(h:k<=k'):PlI k' T M nx:={ p with k0:=by have:=p.k0;omega,c1:=by have:=p.c1;omega,pin:=p.pin.mono h }
theorem PlD.ok.mono{a:PlD}(h:a.ok H)(e:Ext H H'):a.ok H':=⟨h.f.mono e,h.t.mono e,h.fl,h.tl,h.n,h.m⟩
theorem PlD.plain{a:PlD}(h:a.ok H):a.cells.all plain1=true:=by
 have h1:=h.f.plain;have h2:=h.t.plain;simp only[PlD.cells,List.all_cons,List.all_nil,h1,h2];rfl
theorem aFd(hE:bF E){pv:Value}{l:List PlD}(hv:Rows H 6 pv (l.map PlD.cells))(hll:l.length<2 ^ 63)(hok:∀ x∈l,x.ok H)(e0:Ext H H0)(g:GwO [bE TB bT.toI.cells] H0 Hs w t T M nx)(pl:PlI 60 T M nx)(hQ:∀ H',Q (vb true) H'):
  lp6 (F.f54_l1 E Q) [ptr w 0,ptr t 0,ptr TB 0,pv,vi (l.length:Int),vi ((0:Nat):Int)] Hs:=by
 refine bY.count 40 (λj ls H'=>ls=[ptr w 0,ptr t 0,ptr TB 0,pv,vi (l.length:Int),vi (j:Int)]/\∃ T M nx,GwO [bE TB bT.toI.cells] H0 H' w t T M nx/\PlI (60+j) T M nx) ?_ ⟨rfl,T,M,nx,g,by simpa using pl⟩
 rintro j _ H1 X0 hj hX ⟨rfl,T1,M1,nx1,g1,pl1⟩;rcases Nat.lt_or_ge j l.length with hjl | hjl
 rotate_left
 ·have sl:=aAg (show ¬ j<l.length by omega)
  simp only[F.f54_l1,sl,aI];exact hQ _
 have sl:=zY hjl;have eH:Ext H H1:=e0.trans g1.ext;obtain⟨b,o,p1,p2⟩:=(hv.mono eH).ix (i:=j) (by rw[List.length_map];exact hjl)
 have ok0:=(hok _ (List.getElem_mem hjl)).mono eH;rw[List.getElem_map]at p2;generalize l[j]=a at *;have lo:aH 6 (ptr b o) H1=some (.agg a.cells.toArray):=by rw[aQ,p2];rfl
 have st:storeN 6 (ptr H1.next 0) (.agg a.cells.toArray) (H1.new (.cells [(.int .u8 0),(.slice none 0 0),(.slice none 0 0),(.bool false),vi 0,vi 0] none))=some (H1.new (.cells a.cells none)):=by
  rw[bJ,AH.get_new_self];have h3:AM.splice [(.int .u8 0),(.slice none 0 0),(.slice none 0 0),(.bool false),vi 0,vi 0] 0 a.cells=a.cells:=rfl;have h4:=PlD.plain ok0;have h5:a.cells.length=6:=rfl;have h6:([(.int .u8 0),(.slice none 0 0),(.slice none 0 0),(.bool false),vi 0,vi 0]:List Value).length=6:=rfl;simp only[List.size_toArray,List.toList_toArray,h5,h4,h6,Nat.zero_add,Nat.le_refl,and_self,if_true,h3,AH.new_put]
 rcases Nat.lt_or_ge j 40 with hj40 | hj40
 rotate_left
 ·have hge:aA .geq (vi (j:Int)) (vi 40)=some (vb true):=by
   show aA .geq (vi (j:Int)) (vi 40)=_
   rw[dL];simp;omega
  simp only[F.f54_l1,sl,p1,lo,bD,st,hge,aI];exact hQ _
 have hX:=hX hj40
 have hge:aA .geq (vi (j:Int)) (vi 40)=some (vb false):=by
  show aA .geq (vi (j:Int)) (vi 40)=_
  rw[dL];simp;omega
 have x2:Ext H1 (H1.new (.cells a.cells none)):=(Ext.refl _).new _;have c2:=AH.get_new_self H1 (.cells a.cells none);have n2:=(Ext.refl H1).1;have a1:a.cells[1]? = some a.fv:=rfl;have a2:a.cells[2]? = some a.tv:=rfl;have a3:a.cells[3]? = some (vb a.flag):=rfl;simp only[F.f54_l1,sl,p1,lo,bD,st,hge,c2,a1,a2,a3,aI];generalize hn:H1.next=ba at *;generalize H1.new (.cells a.cells none)=H2 at *;refine S.f51 hE (ok0.mono x2).f ok0.fl true λpath H3 e3 hp =>?_;have c3:=e3.cells c2;have f3:=x2.trans e3;simp only[c2,c3,a1,a2,a3,true_and,aI];refine S.f51 hE (ok0.mono f3).t ok0.tl a.flag λother H4 e4 ho =>?_;have c4:=e4.cells c3;have f4:=f3.trans e4;have wf:=pl1.wf;have kd:=pl1.kd;have lt:T1.LT:=Tr.KD.lt kd;have lot:∀ {H'},Ext H1 H'->aH 2 (ptr TB 0) H'=some bT.toI.v:=λe=>by rw[aQ,e.cells g1.tb];rfl
 have hrt:=fun {H':AH} (e:Ext H1 H')=>(show ∃ rv mv Y,eD H' t rv mv nx1 (mF M1) Y T1 from by
  obtain⟨rv,mv,Y,h,a,b⟩:=g1.mono e;obtain⟨o2,_⟩:=WkO.openX (k:=0) h (r:=fC t rv mv nx1 (mF M1) Y T1) rfl;exact⟨rv,mv,Y,⟨o2,a,b⟩⟩)
 have hrf:=fun {H':AH} (e:Ext H1 H')=>(show lW H' t T1 M1 from by
  obtain⟨rv,mv,Y,h⟩:=hrt e;exact⟨rv,mv,nx1,Y,_,h,pl1.pin⟩)
 refine S.f44 hE λH5 e5 =>?_;have f5:=f4.trans e5;refine S.f127 hE (g1.mono f5).at_ wf lt bT path (by omega) λH6 e6 =>?_
 have f6:=f5.trans e6;simp only[bD,st4,aI];have x7:Ext H6 (H6.new (.cells (cA T1 M1 bT path).1.cells none)):=(Ext.refl _).new _;have c7:=AH.get_new_self H6 (.cells (cA T1 M1 bT path).1.cells none);have n7:=f6.1;generalize H6.next=bs at *;generalize H6.new (.cells (cA T1 M1 bT path).1.cells none)=H7 at *;have f7:=f6.trans x7;simp only[lot f7,aI];refine S.rLast hE (hrf f7) wf kd bT path (by omega) λH8 e8 =>?_
 have f8:=f7.trans e8;have s9:storeN 2 (ptr H8.next 0) (bW T1 M1 bT path).1.toI.v (H8.new (.cells [vi 0,vi 0] none))=some (H8.new (.cells (bW T1 M1 bT path).1.toI.cells none)):=lO rfl rfl rfl;have x9:Ext H8 (H8.new (.cells (bW T1 M1 bT path).1.toI.cells none)):=(Ext.refl _).new _;have c9:=AH.get_new_self H8 (.cells (bW T1 M1 bT path).1.toI.cells none);have n9:=f8.1;have d1:∀ p:aG,p.toI.cells[1]? = some (vi (p.i.toNat:Int)):=λ_=>rfl;simp only[bD,s9,c9,d1,aI];generalize H8.next=bd at *;generalize H8.new (.cells (bW T1 M1 bT path).1.toI.cells none)=H9 at *;have f9:=f8.trans x9;obtain⟨rv,mv,Y,hRT⟩:=hrt f9;refine S.f70 hE hRT wf.small _ _ λH10 e10 =>?_;have f10:=f9.trans e10;have i0:vi 0=vi ((0:Nat):Int):=rfl;have k9:=x9.trans e10;have k7:=e8.trans k9;have k4:=(e5.trans (e6.trans x7)).trans k7;have fin:=aGF (Q:=Q) (X0:=X0) (t57:=pv) (t58:=vi (l.length:Int)) hE g1 f10 pl1 (by omega) (ok0.mono f10) hp ho (ba:=ba) (bs:=bs) (bd:=bd) ⟨k4.cells c4,by omega⟩ ⟨k7.cells c7,by omega⟩ ⟨e10.cells c9,by omega⟩ (show j<2 ^ 62 by omega) λT' M' nx' H' h' p'=>hX _ _ ⟨rfl,T',M',nx',h',by have:=p'.le (k':=60+((j+1:Nat):Int)) (by omega);exact this⟩
 by_cases hb:(T1.look (bW T1 M1 bT path).1.i (bW T1 M1 bT path).2.1).2=0
 ·have s1:aA .neq (vi (T1.look (bW T1 M1 bT path).1.i (bW T1 M1 bT path).2.1).2) (vi 0)=some (vb false):=kJ hb
  simp only[s1,aI];exact fin
 ·have s1:aA .neq (vi (T1.look (bW T1 M1 bT path).1.i (bW T1 M1 bT path).2.1).2) (vi 0)=some (vb true):=nC hb
  rw[Tr.look_bad hb]at fin;simp only[s1,aI];exact fin
theorem SV.play{cs:List Value}(h:SV H (.struct [.int .u8,.slice 1 (.int .u8),.slice 1 (.int .u8),.bool,.int .i64,.int .i64]) cs):∃ x:PlD,cs=x.cells/\x.ok H:=by
 obtain⟨c0,e0,rfl,h0,c1,e1,rfl,h1,c2,e2,rfl,h2,c3,e3,rfl,h3,c4,e4,rfl,h4,c5,e5,rfl,h5,rfl⟩:=h;obtain⟨x0,rfl⟩:=h0.u8;obtain⟨v1,x1,rfl,g1,l1⟩:=SV.vals (λr hr=>SV.u8 hr) h1;obtain⟨v2,x2,rfl,g2,l2⟩:=SV.vals (λr hr=>SV.u8 hr) h2;obtain⟨x3,rfl⟩:=h3;obtain⟨x4,rfl,g4⟩:=h4.i64;obtain⟨x5,rfl,g5⟩:=h5.i64;have hb:∀ x:List (BitVec 8),bP x=(x.map AM.u8).map λv=>[v]:=λx=>by simp[bP]
 exact⟨⟨x0,v1,v2,x1,x2,x3,x4,x5⟩,rfl,by rw[hb];exact g1,by rw[hb];exact g2,(show x1.length<2 ^ 63 by omega),(show x2.length<2 ^ 63 by omega),g4,g5⟩
theorem S.law_VfsPlays(hE:bF E)(args:List Value)(ha:kI H [.slice 14 aCX,.slice 6 (.struct [.int .u8,.slice 1 (.int .u8),.slice 1 (.int .u8),.bool,.int .i64,.int .i64])] args)(hQ:∀ H',Q (vb true) H'):E.call 3 args H Q:=by
 obtain⟨av,_,rfl,h1,ha⟩:=ha.cons_inv;obtain⟨pv,_,rfl,h2,ha⟩:=ha.cons_inv;obtain rfl:=ha.nil_inv;obtain⟨acts,hv,hll,hok⟩:=rE.gacts h1;obtain⟨l,q1,q2,q3⟩:=rE.rowsOf (λ_ h=>SV.play h) h2;apply hE.f54;simp only[F.f54];refine S.f53 hE λH1 e1 =>?_;simp only[aI];refine S.f49 hE av acts (hv.mono e1) hll (λx hx=>(hok x hx).mono e1) λH2 e2 =>?_;have e12:=e1.trans e2;cases hlt:mW acts with
 | false =>
  simp only[aI];exact hQ _
 | true =>
 simp only[aI];refine S.f48 hE av acts (hv.mono e12) hll (λx hx=>(hok x hx).mono e12) hlt λw t T M nx H3 h3 g3 =>?_;simp only[aI];refine S.rTop hE λH4 e4 =>?_;have s5:storeN 2 (ptr H4.next 0) bT.toI.v (H4.new (.cells [vi 0,vi 0] none))=some (H4.new (.cells bT.toI.cells none)):=lO rfl rfl rfl;have hlv:=q1.lenSlc;rw[List.length_map]at hlv;simp only[bD,s5,hlv,aI];have h5:GwO [bE H4.next bT.toI.cells] H2 (H4.new (.cells bT.toI.cells none)) w t T M nx:=(h3.mono e4).box _;exact aFd hE q1 (by omega) q3 e12 h5 g3.play hQ
end
end
end Go.AM
