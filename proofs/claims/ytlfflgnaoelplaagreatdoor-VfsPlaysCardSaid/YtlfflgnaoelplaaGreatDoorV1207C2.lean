/- CONTRACTS ON THE PRINTED FUNCTIONS. -/
import Derived.Test.YtlfflgnaoelplaaGreatDoorV1207C1
set_option linter.all false
namespace Go.AM
section
section
variable {E:Sy}{H0 H H' H'' H1:AH}{Q:Value->AH->Prop}{t:Nat}{nv nv' nv'' mv:Value}{nx:Int}{mr:List (List Value)}{Y Y' Y'':List RLy}{T T' T'':Tr}
theorem Tr.deepF_le(T:Tr):∀ (f:Nat) (n:BitVec 16),T.deepF f n<=f
 | 0,_=>Nat.le_refl _
 | f+1,n=>by
  have:=Tr.deepF_le T f (T.node n).parent;simp only[Tr.deepF]
  split<;>omega
theorem rM(hE:bF E)(h:eD H t nv mv nx mr Y T)(fr to n:BitVec 16)(s other:aK)(hn:(T.node n).kind≠0#8)(T1:Tr)(Y1:List RLy)(H1:AH)(u1:gU t nv mv nx mr Y T nv Y1 T1 H H1)(hc1 : -9223372036854775808<=T1.change/\T1.change<9223372036854775807)(a1:(T1.node fr).kind=2#8)(a2:(T1.node to).kind=2#8)(a3:(T1.node n).kind=(T.node n).kind)(a4:bX s (T1.node fr).ents=some n)(a5:(T1.node fr).ents.length<2 ^ 35)(a6:(T1.node to).ents.length<2 ^ 35)(hQ:∀ Y' H',gU t nv mv nx mr Y T nv Y' (Tr.moved T1 fr s to other n) H H'->Q (vi 0) H'):
  F.f72_j1 E Q (ptr t 0) (vi (fr.toNat:Int)) (str s) (vi (to.toNat:Int)) (str other) (vi (n.toNat:Int)) (vb (decide ((T.node n).kind=2#8))) H1:=by
 have h1:=u1.ref h;have frlt1:fr.toNat<T1.N.length:=dA (by rw[a1];decide)
 have tolt1:to.toNat<T1.N.length:=dA (by rw[a2];decide)
 have nlt1:n.toNat<T1.N.length:=dA (by rw[a3];exact hn)
 have b1:(T1.node fr).kind≠0#8:=by rw[a1];decide
 have hh:=h1.head;obtain⟨yn,bn,on,y1,p1,nd1⟩:=h1.at_ frlt1;obtain⟨_,_,c2n,_⟩:=nd1.cell;obtain⟨j,hj,j1,j2,j3⟩:=jK s _ n a4;simp only[F.f72_j1,aY,aJ,aE,Nat.add_zero,Nat.zero_add,hh,bB,cE.at0,p1,c2n,aL,aD];refine S.f73 hE h1 fr λbz oz yz H3 e3 hnz hatz =>?_;obtain⟨rfl,hyz,hpz⟩:=hatz frlt1;refine⟨rfl,rfl,rfl,?_⟩;refine S.f87 hE hnz s (by omega) ?_
 refine⟨rfl,rfl,rfl,?_⟩;rw[j1];refine S.f89 hE yn.l (T1.node fr).ents nd1.2.2 (by omega) j hj λv' H4 e4 g4 f4 =>?_
 rw[<- j3]at g4;have hh4:=(h1.mono e4).head;obtain⟨H5,s5,u5⟩:=h1.newL frlt1 y1 p1 (Nd.delE s) (λ_=>rfl) e4 g4 f4 rfl;have h5:=u5.ref h1;have hh5:=h5.head;have hc5:(T1.upd fr (Nd.delE s)).change=T1.change:=rfl;have hnode5:=λw=>Tr.node_upd b1 (Nd.delE s) w;have tolt5:to.toNat<(T1.upd fr (Nd.delE s)).N.length:=by simpa[Tr.upd] using tolt1
 have hlen5:((T1.upd fr (Nd.delE s)).node to).ents.length<2 ^ 35:=by
  rw[hnode5]
  split
  ·show(fD s (T1.node fr).ents).length<_
   exact Nat.lt_of_le_of_lt (gT _ _).length_le a5
  ·exact a6
 have hkind5:∀ w,((T1.upd fr (Nd.delE s)).node w).kind=(T1.node w).kind:=by
  intro w;rw[hnode5]
  split
  ·rename_i e;rw[e];rfl
  ·rfl
 obtain⟨yt,bt,ot,y5,p5,nd5⟩:=h5.at_ tolt5;obtain⟨_,_,c5,_⟩:=nd5.cell;refine⟨by simp only[aE,hh4,hh],?_⟩
 simp only[p1,aJ,s5,aY,aE,hh5,bB,Nat.zero_add,cE.at0,p5,c5,aCK,aL,aD];refine S.f88 hE yt.l _ nd5.2.2 (by omega) other n λv6 H6 e6 g6 f6 =>?_
 have hh6:=(h5.mono e6).head;obtain⟨H7,s7,u7⟩:=h5.newL tolt5 y5 p5 (Nd.addE other n) (λ_=>rfl) e6 g6 f6 rfl;have h7:=u7.ref h5;have hh7:=h7.head;have b5:((T1.upd fr (Nd.delE s)).node to).kind≠0#8:=by rw[hkind5,a2];decide
 have nlt7:n.toNat<((T1.upd fr (Nd.delE s)).upd to (Nd.addE other n)).N.length:=by simpa[Tr.upd] using nlt1
 refine⟨by simp only[aE,hh6,hh5],?_⟩
 simp only[p5,aJ,s7,aL,aD];have hcc:((T1.upd fr (Nd.delE s)).upd to (Nd.addE other n)).change=T1.change:=rfl;unfold Tr.moved at hQ
 by_cases d1:(T.node n).kind=2#8
 ·simp only[a3,d1,if_true]at hQ
  obtain⟨y8,b8,o8,q8,p8,nd8⟩:=h7.at_ nlt7;obtain⟨H8,s8,u8⟩:=h7.num nlt7 q8 p8 (λx=>{ x with parent:=to }) (λ_=>⟨rfl,rfl⟩) (k:=3) (by omega) (v:=(to.toNat:Int)) rfl
  have h8:=u8.ref h7;have hh8:=h8.head;obtain⟨H9,s9,u9⟩:=h8.tick;have hc8:(((T1.upd fr (Nd.delE s)).upd to (Nd.addE other n)).upd n (λx=>{ x with parent:=to })).change=T1.change:=rfl
  rw[hc8]at s9 hh8;simp only[eq_true d1,decide_true,aS,aY,aJ,aE,hh7,bB,Nat.zero_add,cE.at0,p8,s8,F.f72_j2,hh8,cE.at4,eM (a:=T1.change) (b:=1) (by omega) (by omega),s9,aL,aD]
  exact hQ _ _ (u1.trans (u5.trans (u7.trans (u8.trans u9))))
 ·simp only[a3,d1,if_false]at hQ
  obtain⟨H9,s9,u9⟩:=h7.tick;rw[hcc]at s9 hh7;simp only[eq_false d1,decide_false,aM,F.f72_j2,aY,aJ,aE,hh7,bB,Nat.zero_add,cE.at4,eM (a:=T1.change) (b:=1) (by omega) (by omega),s9,aL,aD]
  exact hQ _ _ (u1.trans (u5.trans (u7.trans u9)))
theorem xS(hE:bF E)(h:eD H t nv mv nx mr Y T)(hs:T.small)(fr to n:BitVec 16)(s other:aK)(hc : -9223372036854775808<=T.change/\T.change<9223372036854775806)(hn:(T.node n).kind≠0#8)(k1:(T.node fr).kind=2#8)(k2:bX s (T.node fr).ents=some n)(c2:T.dir to=0)(k3:(T.node to).kind=2#8)(hold:∀ y,(T.node to).kind=2#8->bX other (T.node to).ents=some y->(T.node y).kind≠0#8/\0<=(T.node y).links/\(T.node y).links<9223372036854775807)(hnd:(T.node to).kind=2#8->((T.node to).ents.map Prod.fst).Nodup)(hel:(T.node fr).ents.length<2 ^ 35/\(T.node to).ents.length<2 ^ 35)(o:BitVec 16)(ho:bX other (T.node to).ents=some o)(hon:o≠n)(hpos0:0<(T.node to).ents.length)(H4:AH)(ex4:Ext H H4)(dm:T.mayOld n (some o)=0)(hQ:∀ Y' H',gU t nv mv nx mr Y T nv Y' (Tr.moved (T.drop to other (decide ((T.node n).kind=2#8))).1 fr s to other n) H H'->Q (vi 0) H'):
  (E.call 19 [(ptr t 0),(vi (to.toNat:Int)),(str other),(vb (decide ((T.node n).kind=2#8)))] H4 λv92 H61 =>
    F.f72_j1 E Q (ptr t 0) (vi (fr.toNat:Int)) (str s) (vi (to.toNat:Int)) (str other) (vi (n.toNat:Int)) (vb (decide ((T.node n).kind=2#8))) H61):=by
 obtain⟨o1,o2,o3⟩:=hold o k3 ho
 have hlk:T.look to other=(o,0):=by
  unfold Tr.look;simp[c2,ho]
 obtain⟨g1,g2⟩:=Tr.drop_ok k3 ho dm o1;refine S.f65 hE (h.mono ex4) hs to other _ ⟨hc.1,by omega⟩ (λ_=>by rw[hlk];exact⟨o1,by show -9223372036854775807<=(T.node o).links;omega,o3⟩) (by omega) λY5 H5 u5 =>?_
 have hm:=dm;unfold Tr.mayOld at hm
 have of:fr≠o:=by
  rintro rfl
  have hpos:0<(T.node fr).ents.length:=by
   cases he:(T.node fr).ents with
   | nil=>rw[he]at k2;simp[bX]at k2
   | cons a b=>simp
  simp only[k1]at hm
  by_cases d1:(T.node n).kind=2#8
  ·simp[d1,hpos]at hm
  ·simp[d1]at hm
 have ot:to≠o:=by
  rintro rfl;have hpos:0<(T.node to).ents.length:=by omega
  simp only[k3]at hm
  by_cases d1:(T.node n).kind=2#8
  ·simp[d1,hpos]at hm
  ·simp[d1]at hm
 have hchg:=Tr.drop_change (T:=T) to other (decide ((T.node n).kind=2#8))
 have hkk:∀ w,w≠o->((T.drop to other (decide ((T.node n).kind=2#8))).1.node w).kind=(T.node w).kind:=by
  intro w hw;rw[g2 w hw]
  split
  ·rename_i e;rw[e];rfl
  ·rfl
 have hso:other≠s\/fr≠to:=by
  by_cases e:fr=to
  ·refine .inl ?_
   rintro rfl;rw[e,ho]at k2;exact hon (Option.some.inj k2)
  ·exact .inr e
 refine rM hE h fr to n s other hn _ Y5 H5 (gU.after ex4 u5) ⟨by omega,by omega⟩ (by rw[hkk fr of];exact k1) (by rw[hkk to ot];exact k3) (hkk n (λe=>hon e.symm)) ?_ ?_ ?_ hQ
 ·rw[g2 fr of]
  split
  ·rename_i e
   show bX s (fD other (T.node to).ents)=some n
   rw[fP _ _ (hnd k3),if_neg,<- e,k2];rcases hso with g | g
   ·exact λe=>g e.symm
   ·exact(g e).elim
  ·exact k2
 ·rw[g2 fr of]
  split
  ·exact Nat.lt_of_le_of_lt (gT _ _).length_le hel.2
  ·exact hel.1
 ·rw[g2 to ot,if_pos rfl]
  exact Nat.lt_of_le_of_lt (gT _ _).length_le hel.2
theorem xN(hE:bF E)(h:eD H t nv mv nx mr Y T)(hs:T.small)(fr to n:BitVec 16)(s other:aK)(hc : -9223372036854775808<=T.change/\T.change<9223372036854775806)(hn:(T.node n).kind≠0#8)(k1:(T.node fr).kind=2#8)(k2:bX s (T.node fr).ents=some n)(c2:T.dir to=0)(k3:(T.node to).kind=2#8)(hold:∀ y,(T.node to).kind=2#8->bX other (T.node to).ents=some y->(T.node y).kind≠0#8/\0<=(T.node y).links/\(T.node y).links<9223372036854775807)(hnd:(T.node to).kind=2#8->((T.node to).ents.map Prod.fst).Nodup)(hel:(T.node fr).ents.length<2 ^ 35/\(T.node to).ents.length<2 ^ 35)(i8:Int)(old:Option (BitVec 16))(d:Bool)(Hx:AH)(ex:Ext H Hx)(hd:d=decide ((T.node n).kind=2#8))(ho:bX other (T.node to).ents=old)(hcase:((i8 = -1/\old=none)\/∃ (j:Nat) (hj:j<(T.node to).ents.length) (o:BitVec 16),i8=j/\old=some o/\(T.node to).ents[j]=(other,o)/\o≠n))(hQ:∀ Y' H',gU t nv mv nx mr Y T nv Y' (if T.mayOld n old≠0 then(T,T.mayOld n old) else(Tr.moved (if old.isSome then(T.drop to other (decide ((T.node n).kind=2#8))).1 else T) fr s to other n,0)).1 H H'->Q (vi (if T.mayOld n old≠0 then(T,T.mayOld n old) else(Tr.moved (if old.isSome then(T.drop to other (decide ((T.node n).kind=2#8))).1 else T) fr s to other n,0)).2) H'):
      (
       opt (aA .geq (vi i8) (vi 0)) λv63 =>
       ifB v63 (
       E.call 26 [(ptr t 0),(vi (to.toNat:Int))] Hx λv64 H43 =>
       opt (aF v64) λv65 =>
       opt (aB v65 2) λv66 =>
       opt (aC v66 H43) λv67 =>
       opt (aP 2 v67 (vi i8)) λv68 =>
       opt (aB v68 1) λv69 =>
       opt (aC v69 H43) λv70 =>
       E.call 26 [(ptr t 0),v70] H43 λv71 H44 =>
       gd (vb d) true (λk=>k v71 H44) H44 λv72 H45 =>
       gd (vb d) true (λk=>opt (aF v72) λv=>k v H45) H45 λv73 H46 =>
       gd (vb d) true (λk=>opt (aB v73 0) λv=>k v H46) H46 λv74 H47 =>
       gd (vb d) true (λk=>opt (aC v74 H47) λv=>k v H47) H47 λv75 H48 =>
       gd (vb d) true (λk=>opt (aA .neq v75 (vi 2)) λv=>k v H48) H48 λv76 H49 =>
       opt (pick (vb d) v76 (.bool false)) λv77 =>
       ifB v77 (
       Q (vi 20) H49) (
       opt (un .not (vb d)) λv78 =>
       gV v78 true v71 H49 λv79 H50 =>
       gO v78 true (aF v79) H50 λv80 H51 =>
       gO v78 true (aB v80 0) H51 λv81 H52 =>
       gO v78 true (aC v81 H52) H52 λv82 H53 =>
       gO v78 true (aA .eql v82 (vi 2)) H53 λv83 H54 =>
       opt (pick v78 v83 (.bool false)) λv84 =>
       ifB v84 (
       Q (vi 21) H54) (
       gd (vb d) true (λk=>k v71 H54) H54 λv85 H55 =>
       gd (vb d) true (λk=>opt (aF v85) λv=>k v H55) H55 λv86 H56 =>
       gd (vb d) true (λk=>opt (aB v86 2) λv=>k v H56) H56 λv87 H57 =>
       gd (vb d) true (λk=>opt (aC v87 H57) λv=>k v H57) H57 λv88 H58 =>
       gd (vb d) true (λk=>opt (lenSlc v88) λv=>k v H58) H58 λv89 H59 =>
       gd (vb d) true (λk=>opt (aA .gtr v89 (vi 0)) λv=>k v H59) H59 λv90 H60 =>
       opt (pick (vb d) v90 (.bool false)) λv91 =>
       ifB v91 (
       Q (vi 39) H60) (
       E.call 19 [(ptr t 0),(vi (to.toNat:Int)),(str other),(vb d)] H60 λv92 H61 =>
       F.f72_j1 E Q (ptr t 0) (vi (fr.toNat:Int)) (str s) (vi (to.toNat:Int)) (str other) (vi (n.toNat:Int)) (vb d) H61)))) (
       F.f72_j1 E Q (ptr t 0) (vi (fr.toNat:Int)) (str s) (vi (to.toNat:Int)) (str other) (vi (n.toNat:Int)) (vb d) Hx)):=by
  subst hd;rcases hcase with ⟨rfl,rfl⟩ | ⟨j,hj,o,rfl,rfl,hjo,hon⟩
  · simp[Tr.mayOld]at hQ
    simp only[dL,ge_iff_le,show ¬ (0:Int) <= -1 from by omega,decide_false,aL,aD,aM]
    exact rM hE h fr to n s other hn T Y Hx (h.same ex) ⟨hc.1,by omega⟩ k1 k3 rfl k2 hel.1 hel.2 hQ
  · have hj0:(0:Int)<=j:=by omega
    obtain⟨o1,o2,o3⟩:=hold o k3 ho;have olt:=dA o1;simp only[dL,ge_iff_le,hj0,decide_true,aL,aD,aS];refine S.f73 hE (h.mono ex) to λb1 q1 y1 H3 e3 n3 hat3 =>?_;obtain⟨_,_,c3,_⟩:=n3.cell;obtain⟨b',o',f1,f2⟩:=n3.2.2.ix (i:=j) (by rw[bN];exact hj)
    have hrow:(gA (T.node to).ents)[j]'(by rw[bN];exact hj)=[str other,vi (o.toNat:Int)]:=by simp[gA,hjo]
    rw[hrow]at f2;have f3:(H3.get b').cell (o'+1)=some (vi (o.toNat:Int)):=by have:=eG f2 (j:=1) (by omega);simpa using this
    simp only[aY,aJ,aE,c3,f1,f3,aL,aD];refine S.f73 hE (h.mono (ex.trans e3)) o λb2 q2 y2 H4 e4 n4 hat4 =>?_;obtain⟨d0,_,d2,_⟩:=n4.cell;have dl:=n4.lenL;have ex4:=ex.trans (e3.trans e4);have hko:=mT (T.node o).kind;have drop:=λdm=>xS (Q:=Q) hE h hs fr to n s other hc hn k1 k2 c2 k3 hold hnd hel o ho hon (by omega) H4 ex4 dm
    by_cases d1:(T.node n).kind=2#8
    · by_cases d2':(T.node o).kind=2#8
      · by_cases d3:0<(T.node o).ents.length
        · have d3':(0:Int)<(T.node o).ents.length:=by omega
          have hm:T.mayOld n (some o)=39:=by simp[Tr.mayOld,d1,d2',d3]
          simp[hm]at hQ;simp only[eq_true d1,decide_true,Bool.not_true,dV,dT,gM,aY,aJ,aE,Nat.add_zero,d0,bR,bL,gt_iff_lt,ne_eq,hko,eq_true d2',not_true,decide_false,d2,dl,d3',aU,bC,aL,aD,aS,aM];exact hQ _ _ (h.same ex4)
        · have d3':¬ (0:Int)<(T.node o).ents.length:=by omega
          have hm:T.mayOld n (some o)=0:=by simp[Tr.mayOld,d1,d2',d3]
          have:=drop hm (by simpa[hm] using hQ)
          rw[show decide ((T.node n).kind=2#8)=true by simp[d1]]at this
          simp only[eq_true d1,decide_true,Bool.not_true,dV,dT,gM,aY,aJ,aE,Nat.add_zero,d0,bR,bL,gt_iff_lt,ne_eq,hko,eq_true d2',not_true,decide_false,d2,dl,d3',aU,bC,aL,aD,aS,aM];rw[show decide ((T.node n).kind=2#8)=true by simp[d1]]
          exact this
      · have hm:T.mayOld n (some o)=20:=by simp[Tr.mayOld,d1,d2']
        simp[hm]at hQ;simp only[eq_true d1,decide_true,Bool.not_true,dV,dT,gM,aY,aJ,aE,Nat.add_zero,d0,bR,bL,gt_iff_lt,ne_eq,hko,eq_false d2',not_false_iff,decide_false,aU,bC,aL,aD,aS,aM];exact hQ _ _ (h.same ex4)
    · by_cases d2':(T.node o).kind=2#8
      · have hm:T.mayOld n (some o)=21:=by simp[Tr.mayOld,d1,d2']
        simp[hm]at hQ;simp only[eq_false d1,decide_false,Bool.not_false,dV,dT,gM,aY,aJ,aE,Nat.add_zero,d0,aW,hko,eq_true d2',decide_true,aU,bC,aL,aD,aS,aM];exact hQ _ _ (h.same ex4)
      · have hm:T.mayOld n (some o)=0:=by simp[Tr.mayOld,d1,d2']
        have:=drop hm (by simpa[hm] using hQ)
        rw[show decide ((T.node n).kind=2#8)=false by simp[d1]]at this
        simp only[eq_false d1,decide_false,Bool.not_false,dV,dT,gM,aY,aJ,aE,Nat.add_zero,d0,aW,hko,eq_false d2',aU,bC,aL,aD,aS,aM];rw[show decide ((T.node n).kind=2#8)=false by simp[d1]]
        exact this
theorem rD(hE:bF E)(h:eD H t nv mv nx mr Y T)(hs:T.small)(fr to n:BitVec 16)(s other:aK)(hc : -9223372036854775808<=T.change/\T.change<9223372036854775806)(hn:(T.node n).kind≠0#8)(k1:(T.node fr).kind=2#8)(k2:bX s (T.node fr).ents=some n)(c2:T.dir to=0)(k3:(T.node to).kind=2#8)(hold:∀ y,(T.node to).kind=2#8->bX other (T.node to).ents=some y->(T.node y).kind≠0#8/\0<=(T.node y).links/\(T.node y).links<9223372036854775807)(hnd:(T.node to).kind=2#8->((T.node to).ents.map Prod.fst).Nodup)(hel:(T.node fr).ents.length<2 ^ 35/\(T.node to).ents.length<2 ^ 35)(hsl:other.length<2 ^ 63)(hdp:(T.node n).kind=2#8->(T.node to).links≠0->(T.node to).kind=2#8->T.deepF 20 to=T.deep to/\T.withinF n 20 to=T.within n to){f:Nat}(hf:(T.node n).kind=2#8->T.fitsF f n)(hf20:f<=20)(i8:Int)(old:Option (BitVec 16))(Hx:AH)(ex:Ext H Hx)(ho:bX other (T.node to).ents=old)(hcase:((i8 = -1/\old=none)\/∃ (j:Nat) (hj:j<(T.node to).ents.length) (o:BitVec 16),i8=j/\old=some o/\(T.node to).ents[j]=(other,o)/\o≠n))(hQ:∀ Y' H',gU t nv mv nx mr Y T nv Y' (if T.may n to other old≠0 then(T,T.may n to other old) else(Tr.moved (if old.isSome then(T.drop to other (decide ((T.node n).kind=2#8))).1 else T) fr s to other n,0)).1 H H'->Q (vi (if T.may n to other old≠0 then(T,T.may n to other old) else(Tr.moved (if old.isSome then(T.drop to other (decide ((T.node n).kind=2#8))).1 else T) fr s to other n,0)).2) H'):
      (
       E.call 38 [(str other)] Hx λv37 H28 =>
       opt (un .not v37) λv38 =>
       ifB v38 (
       Q (vi 22) H28) (
       E.call 26 [(ptr t 0),(vi (to.toNat:Int))] H28 λv39 H29 =>
       opt (aF v39) λv40 =>
       opt (aB v40 5) λv41 =>
       opt (aC v41 H29) λv42 =>
       opt (aA .eql v42 (vi 0)) λv43 =>
       ifB v43 (
       Q (vi 2) H29) (
       E.call 26 [(ptr t 0),(vi (n.toNat:Int))] H29 λv44 H30 =>
       opt (aF v44) λv45 =>
       opt (aB v45 0) λv46 =>
       opt (aC v46 H30) λv47 =>
       opt (aA .eql v47 (vi 2)) λv48 =>
       gV v48 true (ptr t 0) H30 λv49 H31 =>
       gd v48 true (λk=>k (vi (to.toNat:Int)) H31) H31 λv50 H32 =>
       gd v48 true (λk=>k (vi (n.toNat:Int)) H32) H32 λv51 H33 =>
       gd v48 true (λk=>E.call 56 [v49,v50,v51] H33 λv h=>k v h) H33 λv52 H34 =>
       opt (pick v48 v52 (.bool false)) λv53 =>
       ifB v53 (
       Q (vi 22) H34) (
       gV v48 true (ptr t 0) H34 λv54 H35 =>
       gd v48 true (λk=>k (vi (to.toNat:Int)) H35) H35 λv55 H36 =>
       gd v48 true (λk=>E.call 49 [v54,v55] H36 λv h=>k v h) H36 λv56 H37 =>
       gV v48 true (ptr t 0) H37 λv57 H38 =>
       gd v48 true (λk=>k (vi (n.toNat:Int)) H38) H38 λv58 H39 =>
       gd v48 true (λk=>E.call 57 [v57,v58] H39 λv h=>k v h) H39 λv59 H40 =>
       gO v48 true (aA .add v56 v59) H40 λv60 H41 =>
       gO v48 true (aA .gtr v60 (vi 16)) H41 λv61 H42 =>
       opt (pick v48 v61 (.bool false)) λv62 =>
       ifB v62 (
       Q (vi 28) H42) (
       opt (aA .geq (vi i8) (vi 0)) λv63 =>
       ifB v63 (
       E.call 26 [(ptr t 0),(vi (to.toNat:Int))] H42 λv64 H43 =>
       opt (aF v64) λv65 =>
       opt (aB v65 2) λv66 =>
       opt (aC v66 H43) λv67 =>
       opt (aP 2 v67 (vi i8)) λv68 =>
       opt (aB v68 1) λv69 =>
       opt (aC v69 H43) λv70 =>
       E.call 26 [(ptr t 0),v70] H43 λv71 H44 =>
       gV v48 true v71 H44 λv72 H45 =>
       gO v48 true (aF v72) H45 λv73 H46 =>
       gO v48 true (aB v73 0) H46 λv74 H47 =>
       gO v48 true (aC v74 H47) H47 λv75 H48 =>
       gO v48 true (aA .neq v75 (vi 2)) H48 λv76 H49 =>
       opt (pick v48 v76 (.bool false)) λv77 =>
       ifB v77 (
       Q (vi 20) H49) (
       opt (un .not v48) λv78 =>
       gV v78 true v71 H49 λv79 H50 =>
       gO v78 true (aF v79) H50 λv80 H51 =>
       gO v78 true (aB v80 0) H51 λv81 H52 =>
       gO v78 true (aC v81 H52) H52 λv82 H53 =>
       gO v78 true (aA .eql v82 (vi 2)) H53 λv83 H54 =>
       opt (pick v78 v83 (.bool false)) λv84 =>
       ifB v84 (
       Q (vi 21) H54) (
       gV v48 true v71 H54 λv85 H55 =>
       gO v48 true (aF v85) H55 λv86 H56 =>
       gO v48 true (aB v86 2) H56 λv87 H57 =>
       gO v48 true (aC v87 H57) H57 λv88 H58 =>
       gO v48 true (lenSlc v88) H58 λv89 H59 =>
       gO v48 true (aA .gtr v89 (vi 0)) H59 λv90 H60 =>
       opt (pick v48 v90 (.bool false)) λv91 =>
       ifB v91 (
       Q (vi 39) H60) (
       E.call 19 [(ptr t 0),(vi (to.toNat:Int)),(str other),v48] H60 λv92 H61 =>
       F.f72_j1 E Q (ptr t 0) (vi (fr.toNat:Int)) (str s) (vi (to.toNat:Int)) (str other) (vi (n.toNat:Int)) v48 H61)))) (
       F.f72_j1 E Q (ptr t 0) (vi (fr.toNat:Int)) (str s) (vi (to.toNat:Int)) (str other) (vi (n.toNat:Int)) v48 H42)))))):=by
  have tail:=λHx ex=>xN (Q:=Q) hE h hs fr to n s other hc hn k1 k2 c2 k3 hold hnd hel i8 old (decide ((T.node n).kind=2#8)) Hx ex;unfold Tr.may at hQ;refine S.f56 hE other hsl ?_
  by_cases p1:cP other=false
  · simp[p1]at hQ
    simp only[p1,dV,Bool.not_false,aL,aD,aS];exact hQ _ _ (h.same ex)
  have p1:cP other=true:=by simpa using p1
  simp only[p1,dV,Bool.not_true,aL,aD,aM];refine S.f73 hE (h.mono ex) to λb1 q1 y1 H3 e3 n3 _ =>?_;obtain⟨_,_,_,_,_,c5,_⟩:=n3.cell;have ex3:=ex.trans e3
  by_cases p2:(T.node to).links=0
  · simp[p1,p2]at hQ
    simp only[aY,aJ,aE,c5,p2,aW,decide_true,aL,aD,aS];exact hQ _ _ (h.same ex3)
  simp only[aY,aJ,aE,c5,p2,aW,decide_false,aL,aD,aM];refine S.f73 hE (h.mono ex3) n λb2 q2 y2 H4 e4 n4 _ =>?_;obtain⟨d0,_⟩:=n4.cell;have ex4:=ex3.trans e4;have hkn:=mT (T.node n).kind;simp only[p1,p2,Bool.true_eq_false,if_false]at hQ
  by_cases d1:(T.node n).kind=2#8
  · obtain⟨hdp1,hdp2⟩:=hdp d1 p2 k3
    simp only[aY,aJ,aE,Nat.add_zero,d0,aW,hkn,eq_true d1,decide_true,dT,aL,aD];refine S.f77 hE (h.mono ex4) to n λH5 e5 =>?_;have ex5:=ex4.trans e5;rw[hdp2]
    by_cases p3:T.within n to=true
    · simp only[d1,p3,and_self,if_true]at hQ
      simp only[p3,aU,aL,aD,aS];exact hQ _ _ (h.same ex5)
    have p3:T.within n to=false:=by simpa using p3
    simp only[p3,aU,aL,aD,aM,dT];refine S.f80 hE (h.mono ex5) to λH6 e6 =>?_;have ex6:=ex5.trans e6;rw[hdp1];simp only[dT,aL];refine S.f85 hE hs f (h.mono ex6) n (hf d1) hf20 λH7 e7 =>?_;have ex7:=ex6.trans e7;have hdle:T.deep to<=17:=Tr.deepF_le T 17 to;have htle:T.tall n<=20:=Tr.tallF_le T 20 n
    by_cases p4:16<T.deep to+T.tall n
    · have p4':(16:Int)<(T.deep to:Int)+(T.tall n:Int):=by omega
      simp only[d1,p3,p4,Bool.false_eq_true,and_false,and_self,if_true,if_false]at hQ;simp only[dT,eM (a:=(T.deep to:Int)) (b:=(T.tall n:Int)) (by omega) (by omega),bL,gt_iff_lt,p4',decide_true,aU,aL,aD,aS]
      exact hQ _ _ (h.same ex7)
    · have p4':¬ (16:Int)<(T.deep to:Int)+(T.tall n:Int):=by omega
      simp only[d1,p3,p4,Bool.false_eq_true,and_false,if_false]at hQ;simp only[dT,eM (a:=(T.deep to:Int)) (b:=(T.tall n:Int)) (by omega) (by omega),bL,gt_iff_lt,p4',decide_false,aU,aL,aD,aM]
      have:=tail H7 ex7 rfl ho hcase (by simpa only[d1] using hQ)
      simp only[eq_true d1,decide_true]at this;exact this
  · simp only[d1,false_and,if_false]at hQ
    simp only[aY,aJ,aE,Nat.add_zero,d0,aW,hkn,eq_false d1,decide_false,gM,bC,aL,aD,aM];have:=tail H4 ex4 rfl ho hcase (by simpa only[d1] using hQ)
    simp only[eq_false d1,decide_false]at this;exact this
theorem S.f72(hE:bF E)(h:eD H t nv mv nx mr Y T)(hs:T.small)(fr to:BitVec 16)(s other:aK)(hsl:other.length<2 ^ 63)(hc : -9223372036854775808<=T.change/\T.change<9223372036854775806)(hn:(T.look fr s).2=0->(T.node (T.look fr s).1).kind≠0#8)(hdp:(T.node (T.look fr s).1).kind=2#8->(T.node to).links≠0->(T.node to).kind=2#8->T.deepF 20 to=T.deep to/\T.withinF (T.look fr s).1 20 to=T.within (T.look fr s).1 to){f:Nat}(hf:(T.look fr s).2=0->(T.node (T.look fr s).1).kind=2#8->T.fitsF f (T.look fr s).1)(hf20:f<=20)(hold:∀ y,(T.node to).kind=2#8->bX other (T.node to).ents=some y->(T.node y).kind≠0#8/\0<=(T.node y).links/\(T.node y).links<9223372036854775807)(hnd:(T.node to).kind=2#8->((T.node to).ents.map Prod.fst).Nodup)(hel:(T.node fr).ents.length<2 ^ 35/\(T.node to).ents.length<2 ^ 35)(hQ:∀ Y' H',gU t nv mv nx mr Y T nv Y' (T.move fr s to other).1 H H'->Q (vi (T.move fr s to other).2) H'):
  E.call 23 [ptr t 0,vi (fr.toNat:Int),str s,vi (to.toNat:Int),str other] H Q:=by
 apply hE.f72;simp only[F.f72];refine S.f70 hE h hs fr s λH1 e1 =>?_;unfold Tr.move at hQ
 by_cases c1:(T.look fr s).2=0
 rotate_left
 ·simp[c1]at hQ
  simp only[aL,dU,List.getElem?_cons_zero,List.getElem?_cons_succ,c1,bR,ne_eq,not_false_iff,decide_true,aD,aS];exact hQ _ _ (h.same e1)
 obtain⟨k1,k2⟩:=Tr.look_ok c1;have hn:=hn c1;have hf:=hf c1;simp only[c1,ne_eq,not_true,if_false]at hQ;simp only[aL,dU,List.getElem?_cons_zero,List.getElem?_cons_succ,c1,bR,ne_eq,not_true,decide_false,aD,aM];generalize hnn:(T.look fr s).1=n at *;refine S.f81 hE (h.mono e1) to λH2 e2 =>?_;have x2:=e1.trans e2
 by_cases c2:T.dir to=0
 rotate_left
 ·simp only[c2,ne_eq,not_false_eq_true,if_true]at hQ
  simp only[c2,bR,ne_eq,not_false_iff,decide_true,aL,aD,aS];exact hQ _ _ (h.same x2)
 have k3:=Tr.dir_zero.1 c2;have tolt:to.toNat<T.N.length:=dA (by rw[k3];decide)
 have frlt:fr.toNat<T.N.length:=dA (by rw[k1];decide)
 simp only[c2,ne_eq,not_true,if_false]at hQ;simp only[c2,bR,ne_eq,not_true,decide_false,aL,aD,aM];refine S.f73 hE (h.mono x2) to λbt ot yt H3 e3 n3 hat3 =>?_;have x3:=x2.trans e3;obtain⟨_,_,t2,_⟩:=n3.cell;have tl:=n3.lenL;refine S.f87 hE n3 other (by omega) ?_
 cases c3:bX other (T.node to).ents with
 | none =>
  rw[qB _ _ c3];have key:=λHx ex=>rD (Q:=Q) hE h hs fr to n s other hc hn k1 k2 c2 k3 hold hnd hel hsl hdp hf hf20 (-1) none Hx ex;simp only[c3]at hQ;simp only[dL,ge_iff_le,show ¬ (0:Int) <= -1 from by omega,decide_false,gM,bC,aL,aD,aM,bS,show((-1:Int)<0)=True from by simp,decide_true,dT,bR,ne_eq,uD,aU]
  by_cases c4:fr=to
  ·subst c4
   simp[c3]at hQ;simp only[not_true,decide_false,gM,bC,aL,aD,aM];exact key H3 x3 c3 (.inl ⟨rfl,rfl⟩) (by simpa using hQ)
  ·simp only[c4,not_false_iff,decide_true,dT,aL]
   refine S.f73 hE (h.mono x3) to λb4 o4 y4 H4 e4 n4 _ =>?_;obtain⟨_,_,u2,_⟩:=n4.cell;have ul:=n4.lenL;have x4:=x3.trans e4
   by_cases c5:32<=(T.node to).ents.length
   ·have c5':(32:Int)<=(T.node to).ents.length:=by omega
    simp[c4,c5]at hQ;simp only[c4,not_false_iff,not_false_eq_true,decide_true,dT,aY,aJ,aE,u2,ul,dL,ge_iff_le,c5',decide_true,aU,aL,aD,aS];exact hQ _ _ (h.same x4)
   ·have c5':¬ (32:Int)<=(T.node to).ents.length:=by omega
    simp[c4,c5]at hQ;simp only[c4,not_false_iff,not_false_eq_true,decide_true,dT,aY,aJ,aE,u2,ul,dL,ge_iff_le,c5',decide_false,aU,aL,aD,aM];exact key H4 x4 c3 (.inl ⟨rfl,rfl⟩) (by simpa using hQ)
 | some o =>
  obtain⟨j,hj,j1,j2,_⟩:=jK other _ o c3;rw[j1];have hj0:(0:Int)<=j:=by omega
  have hj1:¬ (j:Int)<0:=by omega
  simp only[dL,ge_iff_le,hj0,decide_true,dT,aL,aD];refine S.f73 hE (h.mono x3) to λb4 o4 y4 H4 e4 n4 _ =>?_;have x4:=x3.trans e4;obtain⟨_,_,u2,_⟩:=n4.cell;obtain⟨b',o',f1,f2⟩:=n4.2.2.ix (i:=j) (by rw[bN];exact hj)
  have hrow:(gA (T.node to).ents)[j]'(by rw[bN];exact hj)=[str other,vi (o.toNat:Int)]:=by simp[gA,j2]
  rw[hrow]at f2;have f3:(H4.get b').cell (o'+1)=some (vi (o.toNat:Int)):=by have:=eG f2 (j:=1) (by omega);simpa using this
  by_cases c4:o=n
  ·simp[c3,c4]at hQ
   simp only[dT,aY,aJ,aE,u2,f1,f3,aW,uD,eq_true c4,decide_true,aU,aL,aD,aS];exact hQ _ _ (h.same x4)
  ·simp[c3,c4]at hQ
   simp only[dT,gM,aY,aJ,aE,u2,f1,f3,aW,bS,hj1,uD,eq_false c4,decide_false,aU,bC,aL,aD,aM];exact rD (Q:=Q) hE h hs fr to n s other hc hn k1 k2 c2 k3 hold hnd hel hsl hdp hf hf20 j (some o) H4 x4 c3 (.inr ⟨j,hj,o,rfl,rfl,j2,c4⟩) (by simpa using hQ)
end
end
section
section
variable {E:Sy}{H0 H H' H'' H1:AH}{Q:Value->AH->Prop}{t:Nat}{nv nv' nv'' mv:Value}{nx:Int}{mr:List (List Value)}{Y Y' Y'':List RLy}{T T' T'':Tr}
def oA:List (List Value):=[cY.cells ⟨0,1,aN.zero,0⟩]
theorem S.f57(hE:bF E)(limit:Int)(hQ:∀ t nv mv Y H',Ext H H'->eD H' t nv mv 1 oA Y (Tr.new limit)->(∀ b∈(fC t nv mv 1 oA Y (Tr.new limit)).fp,H.next<=b)->Q (ptr t 0) H'):E.call 32 [vi limit] H Q:=by
 apply hE.f57;have e1:(if(1:Int) > limit then 1 else limit)=max limit 1:=by omega
 have e2:∀ x:Int,(if(256:Int)<x then 256 else x)=min x 256:=λx=>by omega
 have hb1:aV [(0,1),(1,1),(2,1),(3,1),(4,1),(5,1),(6,1)] #[vi 0,(.slice none 0 0),(.slice none 0 0),vi 0,(.string ⟨#[]⟩),vi 0,vi 0] []=some (cD.v cD.zero):=rfl;have hb2:aV [(0,1),(1,1),(2,1),(3,1),(4,1),(5,1),(6,1)] #[vi 0,(.slice none 0 0),(.slice none 0 0),vi 0,(.string ⟨#[]⟩),vi 0,vi 0] [(0,(vi 2)),(3,(vi 1)),(5,(vi 1))]=some (cD.v ⟨2,aZ,aZ,1,[],1,0⟩):=rfl;have hb3:buildS 2 7 #[vi 0,(.slice none 0 0),(.slice none 0 0),vi 0,(.string ⟨#[]⟩),vi 0,vi 0] [(0,cD.v cD.zero),(1,cD.v ⟨2,aZ,aZ,1,[],1,0⟩)]=some (.cells (cD.zero.cells++(⟨2,aZ,aZ,1,[],1,0⟩:cD).cells) none,eA 2 2):=cD.buildS [cD.zero,⟨2,aZ,aZ,1,[],1,0⟩];have hb4:aV [(0,1),(1,1),(2,2),(4,1)] #[vi 0,vi 0,vi 0,vi 0,vi 0] [(1,(vi 1))]=some (cY.v ⟨0,1,aN.zero,0⟩):=rfl;have hb5:buildS 1 5 #[vi 0,vi 0,vi 0,vi 0,vi 0] [(0,cY.v ⟨0,1,aN.zero,0⟩)]=some (.cells (cY.cells ⟨0,1,aN.zero,0⟩) none,eA 1 1):=cY.build1 _;generalize hlim:min (max limit 1) 256=lim;have hb6:∀ a b,aV [(0,1),(1,1),(2,1),(3,1),(4,1)] #[(.slice none 0 0),vi 0,(.slice none 0 0),vi 0,vi 0] [(0,slc a 0 2 2),(1,vi lim),(2,slc b 0 1 1),(3,(vi 1))]=some (cE.v ⟨slc a 0 2 2,lim,slc b 0 1 1,1,0⟩):=λ_ _=>rfl;have hmm:(fY max2 [vi limit,vi 1])=some (vi (max limit 1)):=by simp[e1]
 have hmn:(fY min2 [vi (max limit 1),vi 256])=some (vi lim):=by simp[e2,hlim]
 have hbx:∀ x:cE,eX (cE.v x)=some (.cells x.cells none,λb=>ptr b 0):=λx=>rfl;simp only[F.f57,hb1,hb2,hb3,hb4,hb5,hmm,hmn,AM.cX,eN,hb6,hbx,aL,aD];have hT:Tr.new limit=⟨[Nd.none,{ Nd.none with kind:=2#8,parent:=1#16,links:=1 }],lim,0⟩:=by unfold Tr.new;rw[hlim]
 rw[hT]at hQ;refine hQ (H.next+2) (slc H.next 0 2 2) (slc (H.next+1) 0 1 1) [⟨aZ,aZ⟩,⟨aZ,aZ⟩] _ ((((Ext.refl H).new _).new _).new _) ⟨⟨?_,?_,?_⟩,rfl,by simp⟩ ?_
 ·intro r hr
  simp only[dW,List.zip,List.zipWith,List.map_cons,List.map_nil,List.mem_cons,List.not_mem_nil,or_false]at hr
  have g0:((((H.new (.cells (cD.zero.cells++(⟨2,aZ,aZ,1,[],1,0⟩:cD).cells) none)).new (.cells (cY.cells ⟨0,1,aN.zero,0⟩) none)).new (.cells (cE.cells ⟨slc H.next 0 2 2,lim,slc (H.next+1) 0 1 1,1,0⟩) none))).get H.next = .cells (cD.zero.cells++(⟨2,aZ,aZ,1,[],1,0⟩:cD).cells) none:=by
   rw[AH.get_new_ne _ _ (by simp;omega),AH.get_new_ne _ _ (by simp),AH.get_new_self]
  have g1:((((H.new (.cells (cD.zero.cells++(⟨2,aZ,aZ,1,[],1,0⟩:cD).cells) none)).new (.cells (cY.cells ⟨0,1,aN.zero,0⟩) none)).new (.cells (cE.cells ⟨slc H.next 0 2 2,lim,slc (H.next+1) 0 1 1,1,0⟩) none))).get (H.next+1) = .cells (cY.cells ⟨0,1,aN.zero,0⟩) none:=by
   rw[AH.get_new_ne _ _ (by simp)]
   exact AH.get_new_self _ _
  have g2:((((H.new (.cells (cD.zero.cells++(⟨2,aZ,aZ,1,[],1,0⟩:cD).cells) none)).new (.cells (cY.cells ⟨0,1,aN.zero,0⟩) none)).new (.cells (cE.cells ⟨slc H.next 0 2 2,lim,slc (H.next+1) 0 1 1,1,0⟩) none))).get (H.next+2) = .cells (cE.cells ⟨slc H.next 0 2 2,lim,slc (H.next+1) 0 1 1,1,0⟩) none:=AH.get_new_self _ _;rcases hr with rfl | rfl | rfl | rfl | rfl
  ·exact g2
  ·exact cB.made (f:=none) (lQ _) (g0.trans rfl) (.inl rfl) rfl (by
    intro r hr;simp only[cG,List.zip,List.zipWith,List.map_cons,List.map_nil,List.mem_cons,List.not_mem_nil,or_false]at hr;rcases hr with rfl | rfl<;>exact⟨rfl,rfl⟩)
  ·exact cB.made (f:=none) (lQ _) (g1.trans rfl) (.inl rfl) rfl (by
    intro r hr;simp only[oA,List.mem_cons,List.not_mem_nil,or_false]at hr;subst hr;exact⟨rfl,rfl⟩)
  ·intro r hr
   simp only[List.mem_cons,List.not_mem_nil,or_false]at hr;rcases hr with rfl | rfl
   ·exact cB.nil _ _ _
   ·exact cB.nil _ _ _
  ·intro r hr
   simp only[List.mem_cons,List.not_mem_nil,or_false]at hr;rcases hr with rfl | rfl
   ·exact cB.nil _ _ _
   ·exact cB.nil _ _ _
 ·intro b hb
  simp[fC,dC,dW,bE,cQ,cO,eY,blk]at hb ⊢;omega
 ·simp[fC,dC,dW,bE,cQ,cO,eY,blk]
 ·intro b hb
  simp[fC,dC,dW,bE,cQ,cO,eY,blk]at hb;omega
end
end
section
theorem cB.cut{Z H:AH}{sz:Nat}{v:Value}{rows:List (List Value)}(h:cB Z H sz v rows){k:Nat}(hk:k<=rows.length):
  ∃ v',dQ sz v none (some (vi k)) none H=some v'/\cB Z H sz v' (rows.take k)/\blk v'=blk v:=by
 have hs:=(h.toRows.slice' (lo:=none) (hi:=some (vi k)) (i:=0) (j:=k) (.inr ⟨rfl,rfl⟩) (.inl rfl) (Nat.zero_le _) hk).1;refine⟨_,hs,?_⟩;rcases h.2 with ⟨rfl,rfl⟩ | ⟨b,f,c,cs,g1,rfl,g3,g4,g5,g6,g7⟩
 ·have:k=0:=by simpa using hk
  subst this;exact⟨⟨by simp,.inl ⟨by simp,rfl⟩⟩,rfl⟩
 ·have e:gZ sz (slc b 0 rows.length c) 0 k=slc b 0 k c:=by
   simp[gZ,Addr.add]
  rw[e];refine⟨⟨λr hr=>h.1 r (List.mem_of_mem_take hr),.inr ⟨b,f,c,cs,g1,by rw[List.length_take,Nat.min_eq_left hk],g3,by rw[List.length_take];omega,g5,?_,g7⟩⟩,rfl⟩
  rw[List.length_take,Nat.min_eq_left hk,<- jU rows (λr hr=>(h.1 r hr).1),<- g6,List.take_take,Nat.min_eq_left (Nat.mul_le_mul_right _ hk)]
theorem aEK(l:List (BitVec 8))(i:Nat)(x:BitVec 8):bP (l.set i x)=(bP l).set i [u8 x]:=by simp[bP,List.map_set]
theorem aA6(a b:List (BitVec 8)):bP (a++b)=bP a++bP b:=by simp[bP]
theorem aDb(a:List (BitVec 8))(k:Nat):bP (a.take k)=(bP a).take k:=by simp[bP,List.map_take]
section
variable {E:Sy}{H0 H H' H'' H1:AH}{Q:Value->AH->Prop}{t:Nat}{nv nv' nv'' mv:Value}{nx:Int}{mr:List (List Value)}{Y Y' Y'':List RLy}{T T' T'':Tr}
theorem eD.newD(h:eD H t nv mv nx mr Y T){n:BitVec 16}(hn:n.toNat<T.N.length){y:RLy}(hy:Y[n.toNat]? = some y){b o:Nat}(hp:aP 7 nv (vi (n.toNat:Int))=some (ptr b o))(f:Nd->Nd)(hf:∀ x:Nd,(f x).ents=x.ents){v':Value}(e:Ext H H1)(g:cB zH H1 1 v' (bP (f (T.node n)).data))(fr:eQ H.next v')(hc:(gF (f (T.node n)) { y with data:=v' }).cells=(gF (T.node n) y).cells.set 1 v'):
  ∃ H',aR (ptr b (o+1)) v' H1=some H'/\gU t nv mv nx mr Y T nv (Y.set n.toNat { y with data:=v' }) (T.upd n f) H H' :=
 h.cell hn hy hp f _ (cO.setD (h.node_y hn hy) (hf _) e g fr) (by omega) g.plain hc
theorem zS{H0 H:AH}{v:Value}{l:List (BitVec 8)}(g:cB zH H 1 v (bP l))(e:Ext H0 H)(f:eQ H0.next v)(hl:l.length<2 ^ 40):
  ∃ v' H',AM.app 1 1 v (slc H.next 0 1 1) (H.new (.cells [u8 0#8] none))=some (v',H')/\cB zH H' 1 v' (bP (l++[0#8]))/\Ext H0 H'/\eQ H0.next v':=by
 obtain⟨v',H',a1,a2,a3⟩:=g.app1 (Nat.zero_le _) (bytes:=1) [u8 0#8] rfl rfl (by decide) (by decide) (by rw[cC];omega)
 obtain⟨q1,q2⟩:=gS a3 e f;refine⟨v',H',a1,?_,q1,q2⟩;rw[aA6];exact a2
theorem S.f62(hE:bF E)(h:eD H t nv mv nx mr Y T)(n:BitVec 16)(size:Int)(hc : -9223372036854775808<=T.change/\T.change<9223372036854775807)(hdl:(T.node n).data.length<2 ^ 39)(hQ:∀ Y' H',gU t nv mv nx mr Y T nv Y' (T.cut n size).1 H H'->Q (vi (T.cut n size).2) H'):E.call 100 [ptr t 0,vi (n.toNat:Int),vi size] H Q:=by
 apply hE.f62;simp only[F.f62];refine S.f73 hE h n λb o y H1 e1 hn hat =>?_;obtain⟨c0,c1,_⟩:=hn.cell;have k1:=aIK (T.node n).kind;have k2:=mT (T.node n).kind;have k0:=tE (T.node n).kind;unfold Tr.cut at hQ
 by_cases g0:(T.node n).kind=0#8
 ·simp[g0]at hQ
  simp only[aY,aJ,aE,Nat.add_zero,c0,aW,k0,eq_true g0,decide_true,aL,aD,aS];exact hQ _ _ (h.same e1)
 have hlt:=dA g0;obtain⟨rfl,hy,hp⟩:=hat hlt
 by_cases g2:(T.node n).kind=2#8
 ·simp[g2]at hQ
  simp only[aY,aJ,aE,Nat.add_zero,c0,aW,k0,k2,eq_false g0,eq_true g2,decide_true,decide_false,aL,aD,aS,aM];exact hQ _ _ (h.same e1)
 by_cases g1:(T.node n).kind=1#8
 rotate_left
 ·simp[g0,g2,g1]at hQ
  simp only[aY,aJ,aE,Nat.add_zero,c0,aW,bR,ne_eq,k0,k1,k2,eq_false g0,eq_false g2,eq_false g1,not_false_eq_true,decide_true,decide_false,rI,aU,aL,aD,aS,aM];exact hQ _ _ (h.same e1)
 by_cases g3:size<0
 ·simp[g0,g2,g1,g3]at hQ
  simp only[aY,aJ,aE,Nat.add_zero,c0,aW,bR,ne_eq,k0,k1,k2,eq_false g0,eq_false g2,eq_true g1,not_true,bS,g3,decide_true,decide_false,kA,aU,bC,aL,aD,aS,aM];exact hQ _ _ (h.same e1)
 by_cases g4:1024<size
 ·simp[g0,g2,g1,g3,g4]at hQ
  simp only[aY,aJ,aE,Nat.add_zero,c0,aW,bR,bL,gt_iff_lt,ne_eq,k0,k1,k2,eq_false g0,eq_false g2,eq_true g1,not_true,bS,g3,g4,decide_true,decide_false,kA,aU,bC,aL,aD,aS,aM];exact hQ _ _ (h.same e1)
 simp[g0,g2,g1,g3,g4]at hQ;have hb0:buildS 0 1 #[(.int .u8 0)] []=some (.cells [] none,eA 0 0):=vY 1 [u8 0#8] rfl;have e9:Ext H1 (H1.new (.cells [] none)):=(Ext.refl H1).new _;have gr9:cB zH (H1.new (.cells [] none)) 1 (slc H1.next 0 0 0) []:=cB.room (lQ _) (AH.get_new_self _ _) rfl
 have c1':((H1.new (.cells [] none)).get b).cell (o+1)=some y.data:=by
  rw[AH.get_new_lt _ _ (AH.lt_of_get (iI hn.1))];exact c1
 simp only[aY,aJ,aE,Nat.add_zero,c0,aW,bR,bL,gt_iff_lt,ne_eq,k0,k1,k2,eq_false g0,eq_false g2,eq_true g1,not_true,bS,g3,g4,decide_false,kA,aU,bC,hb0,AM.cX,eN,c1',aL,aD,aM];obtain⟨v18,H11,a1,a2,a3⟩:=gr9.app (bytes:=1) (Nat.zero_le _) (hn.2.1.mono e9) (kZ _) (by decide) (by decide) (by simp[cC];omega) (by simp[cC];omega)
 obtain⟨e11,f11⟩:=gS a3 e9 (λb hb=>by simp[blk]at hb;omega)
 have a1':app 1 1 (slc H1.next 0 0 0) y.data (H1.new (.cells [] none))=some (v18,H11):=a1;simp only[a1',eJ,aL];obtain⟨sz,rfl⟩:∃ sz:Nat,size=sz:=⟨size.toNat,by omega⟩
 rw[List.nil_append]at a2;have hb1:buildS 1 1 #[(.int .u8 0)] [(0,(.int .u8 0))]=some (.cells [u8 0#8] none,eA 1 1):=gC 1 [u8 0#8] [u8 0#8] rfl rfl;generalize hD:(T.node n).data=D at *;refine bY.ind (λj ls H'=>∃ v,∃ k:Nat,ls=[ptr t 0,vi sz,ptr b o,v]/\Ext H1 H'/\eQ H1.next v/\cB zH H' 1 v (bP (D++List.replicate k 0#8))/\(k=0\/D.length+k<=sz)/\j=sz - (D.length+k)) ?_ (sz - D.length) ⟨v18,0,rfl,e11,f11,by simpa using a2,.inl rfl,by omega⟩
 rintro j _ H3 X hX ⟨v,k,rfl,e3,f3,g5,hk,rfl⟩;have hlv:=g5.toRows.lenSlc;rw[cC,List.length_append,List.length_replicate]at hlv
 by_cases hlt2:D.length+k<sz
 ·have hlt2':((D.length+k:Nat):Int)<(sz:Int):=by omega
  obtain⟨v',H4,b1,b2,b3,b4⟩:=zS g5 e3 f3 (by simp;omega)
  simp only[F.f62_l1,eF,eR,eW,fR,hlv,bS,hlt2',decide_true,hb1,AM.cX,eN,b1,eJ,aL,aD,aS];refine hX (sz - (D.length+(k+1))) (by omega) _ _ ⟨v',k+1,rfl,b3,b4,?_,.inr (by omega),rfl⟩
  rw[List.replicate_succ',<- List.append_assoc];exact b2
 ·have hlt2':¬ ((D.length+k:Nat):Int)<(sz:Int):=by omega
  obtain⟨v',s1,s2,s3⟩:=g5.cut (k:=sz) (by rw[cC,List.length_append,List.length_replicate];omega)
  have hcut:bP ((λx:Nd=>{ x with data:=qE x.data sz }) (T.node n)).data=(bP (D++List.replicate k 0#8)).take sz:=by
   rw[<- aDb]
   show bP (qE (T.node n).data sz)=_
   rw[hD]
   congr 1
   unfold qE;rw[List.take_append]
   congr 1
   rw[List.take_replicate]
   congr 1
   rcases hk with rfl | hk<;>omega
  obtain⟨H4,s4,u4⟩:=h.newD (v':=v') hlt hy hp (λx=>{ x with data:=qE x.data sz }) (λ_=>rfl) e3 (by rw[hcut];exact s2) (λb hb=>f3 b (by rw[<- s3];exact hb)) rfl
  have h4:=u4.ref h;have hh4:=h4.head;obtain⟨H5,s5,u5⟩:=h4.tick;have hcc:(T.upd n (λx=>{ x with data:=qE x.data sz })).change=T.change:=rfl
  rw[hcc]at s5 hh4;simp only[F.f62_l1,eF,eR,eW,fR,hlv,bS,hlt2',decide_false,s1,aY,aJ,s4,aE,hh4,bB,Nat.zero_add,cE.at4,eM (a:=T.change) (b:=1) (by omega) (by omega),s5,aL,aD,aM]
  exact hQ _ _ (u4.trans u5)
end
end
section
theorem aAB(e b:List (BitVec 8))(i j:Nat)(hj:j<b.length)(hi:i+j<e.length):(dM e i (b.take j)).set (i+j) b[j]=dM e i (b.take (j+1)):=by
 unfold dM;have h1:(e.take i).length=i:=by rw[List.length_take];omega
 have h2:(b.take j).length=j:=by rw[List.length_take];omega
 have h3:(b.take (j+1)).length=j+1:=by rw[List.length_take];omega
 rw[h2,h3,List.set_append_right _ _ (by rw[List.length_append,h1,h2];omega),List.length_append,h1,h2,Nat.sub_self]
 rw[List.drop_eq_getElem_cons hi,List.set_cons_zero];simp[Nat.add_assoc];rw[List.take_succ_eq_append_getElem hj];simp only[List.append_assoc,List.singleton_append]
theorem wC(e b:List (BitVec 8))(i:Nat)(h:i+b.length<=e.length):(dM e i b).length=e.length:=by
 simp[dM];omega
section
variable {E:Sy}{H0 H H' H'' H1:AH}{Q:Value->AH->Prop}{t:Nat}{nv nv' nv'' mv:Value}{nx:Int}{mr:List (List Value)}{Y Y' Y'':List RLy}{T T' T'':Tr}
theorem aBs(h:eD H1 t nv mv nx mr Y T)(n:BitVec 16)(hlt:n.toNat<T.N.length){y:RLy}{b o:Nat}(hy:Y[n.toNat]? = some y)(hp:aP 7 nv (vi (n.toNat:Int))=some (ptr b o))(at_:Nat)(xv:Value)(x:List (BitVec 8))(hx:Rows H1 1 xv (bP x))(hc : -9223372036854775808<=T.change/\T.change<9223372036854775807)(hat:at_<=1024/\at_+x.length<=1024)(e:List (BitVec 8))(he:at_+x.length<=e.length)(hw:iG (T.node n).data at_ x=dM e at_ x)(v:Value)(H3:AH)(e3:Ext H1 H3)(f3:eQ H1.next v)(g3:cB zH H3 1 v (bP e))(hQ:∀ Y' H',gU t nv mv nx mr Y T nv Y' ((T.upd n (λz=>{ z with data:=iG z.data at_ x })).bump) H1 H'->Q (vi 0) H'):
  lp6 (F.f78_l2 E Q) [ptr t 0,vi at_,xv,ptr b o,v,vi 0] H3:=by
 refine bY.count x.length (λj ls H'=>ls=[ptr t 0,vi at_,xv,ptr b o,v,vi j]/\Ext H1 H'/\cB zH H' 1 v (bP (dM e at_ (x.take j)))) ?_ ⟨rfl,e3,by simpa[dM] using g3⟩
 rintro j _ H4 X hj hX ⟨rfl,e4,g4⟩;have hxl:=(hx.mono e4).lenSlc;rw[cC]at hxl
 by_cases hjl:j<x.length
 ·have hjl':(j:Int)<x.length:=by omega
  obtain⟨b1,o1,p1,p2⟩:=(hx.mono e4).ix (i:=j) (by rw[cC];exact hjl)
  have hrow:(bP x)[j]'(by rw[cC];exact hjl)=[u8 x[j]]:=by simp[bP]
  rw[hrow]at p2;have p3:(H4.get b1).cell o1=some (u8 x[j]):=by have:=eG p2 (j:=0) (by omega);simpa using this
  have hls:(dM e at_ (x.take j)).length=e.length:=wC _ _ _ (by rw[List.length_take];omega)
  have hi:at_+j<(bP (dM e at_ (x.take j))).length:=by rw[cC,hls];omega
  obtain⟨b2,o2,H5,q1,q2,q3,q4,q5⟩:=g4.store (i:=at_+j) (k:=0) hi (by omega) (u8 x[j]) rfl
  have hadd:aA .add (vi at_) (vi j)=some (vi ((at_+j:Nat):Int)):=by rw[eM (by omega) (by omega)];simp
  have hjj:=cK j (by omega)
  have hset:(bP (dM e at_ (x.take j))).set (at_+j) ((bP (dM e at_ (x.take j)))[at_+j].set 0 (u8 x[j]))=bP (dM e at_ (x.take (j+1))):=by
   rw[<- aAB e x at_ j hjl (by omega),aEK]
   congr 1
   simp[bP]
  rw[hset]at q4;rw[Nat.add_zero]at q3;have q3':aR (ptr b2 o2) (u8 x[j]) H4=some H5:=q3;generalize hj1:j+1=j1 at *;simp only[F.f78_l2,eF,eR,eW,fR,jZ,nQ,hxl,bS,hjl',decide_true,hadd,p1,aE,p3,q1,q3',hjj,aL,aD,aS];refine hX hjl _ _ ⟨rfl,q5.ext e4 λb hb=>f3 b (bZ.1 hb),q4⟩
 ·have hjl':¬ (j:Int)<x.length:=by omega
  have hje:j=x.length:=by omega
  have hD:bP ((λz:Nd=>{ z with data:=iG z.data at_ x }) (T.node n)).data=bP (dM e at_ (x.take j)):=by
   show bP (iG (T.node n).data at_ x)=_
   rw[hw,hje,List.take_length]
  obtain⟨H5,s5,u5⟩:=h.newD (v':=v) hlt hy hp (λz=>{ z with data:=iG z.data at_ x }) (λ_=>rfl) e4 (by rw[hD];exact g4) f3 rfl
  have h5:=u5.ref h;have hh5:=h5.head;obtain⟨H6,s6,u6⟩:=h5.tick;have hcc:(T.upd n (λz=>{ z with data:=iG z.data at_ x })).change=T.change:=rfl
  rw[hcc]at s6 hh5;simp only[F.f78_l2,eF,eR,eW,fR,jZ,nQ,hxl,bS,hjl',decide_false,aY,aJ,s5,aE,hh5,bB,Nat.zero_add,cE.at4,eM (a:=T.change) (b:=1) (by omega) (by omega),s6,aL,aD,aM]
  exact hQ _ _ (u5.trans u6)
theorem S.f78(hE:bF E)(h:eD H t nv mv nx mr Y T)(n:BitVec 16)(at_:Int)(xv:Value)(x:List (BitVec 8))(hx:Rows H 1 xv (bP x))(hxl:x.length<2 ^ 62)(hc : -9223372036854775808<=T.change/\T.change<9223372036854775807)(hdl:(T.node n).data.length<2 ^ 39)(hQ:∀ Y' H',gU t nv mv nx mr Y T nv Y' (T.write n at_ x).1 H H'->Q (vi (T.write n at_ x).2) H'):E.call 98 [ptr t 0,vi (n.toNat:Int),vi at_,xv] H Q:=by
 apply hE.f78;simp only[F.f78];refine S.f73 hE h n λb o y H1 e1 hn hat =>?_;obtain⟨c0,c1,_⟩:=hn.cell;have k1:=aIK (T.node n).kind;have k2:=mT (T.node n).kind;have k0:=tE (T.node n).kind;unfold Tr.write at hQ
 by_cases g0:(T.node n).kind=0#8
 ·simp[g0]at hQ
  simp only[aY,aJ,aE,Nat.add_zero,c0,aW,k0,eq_true g0,decide_true,aL,aD,aS];exact hQ _ _ (h.same e1)
 have hlt:=dA g0;obtain⟨rfl,hy,hp⟩:=hat hlt
 by_cases g2:(T.node n).kind=2#8
 ·simp[g2]at hQ
  simp only[aY,aJ,aE,Nat.add_zero,c0,aW,k0,k2,eq_false g0,eq_true g2,decide_true,decide_false,aL,aD,aS,aM];exact hQ _ _ (h.same e1)
 by_cases g1:(T.node n).kind=1#8
 rotate_left
 ·simp[g0,g2,g1]at hQ
  simp only[aY,aJ,aE,Nat.add_zero,c0,aW,bR,ne_eq,k0,k1,k2,eq_false g0,eq_false g2,eq_false g1,not_false_eq_true,decide_true,decide_false,rI,aU,aL,aD,aS,aM];exact hQ _ _ (h.same e1)
 by_cases g3:at_<0
 ·simp[g0,g2,g1,g3]at hQ
  simp only[aY,aJ,aE,Nat.add_zero,c0,aW,bR,ne_eq,k0,k1,k2,eq_false g0,eq_false g2,eq_true g1,not_true,bS,g3,decide_true,decide_false,kA,aU,bC,aL,aD,aS,aM];exact hQ _ _ (h.same e1)
 by_cases g4:1024<at_
 ·simp[g0,g2,g1,g3,g4]at hQ
  simp only[aY,aJ,aE,Nat.add_zero,c0,aW,bR,bL,gt_iff_lt,ne_eq,k0,k1,k2,eq_false g0,eq_false g2,eq_true g1,not_true,bS,g3,g4,decide_true,decide_false,rI,kA,aU,bC,aL,aD,aS,aM];exact hQ _ _ (h.same e1)
 have hxs:=hx.lenSlc;rw[cC]at hxs;have hadd:aA .add (vi at_) (vi x.length)=some (vi (at_+x.length)):=eM (by omega) (by omega)
 by_cases g5:1024<at_+(x.length:Int)
 ·simp[g0,g2,g1,g3,g4,g5]at hQ
  simp only[aY,aJ,aE,Nat.add_zero,c0,aW,bR,bL,gt_iff_lt,ne_eq,k0,k1,k2,eq_false g0,eq_false g2,eq_true g1,not_true,bS,g3,g4,hxs,hadd,g5,decide_true,decide_false,kA,aU,bC,aL,aD,aS,aM];exact hQ _ _ (h.same e1)
 simp[g0,g2,g1,g3,g4,g5]at hQ;have hb0:buildS 0 1 #[(.int .u8 0)] []=some (.cells [] none,eA 0 0):=vY 1 [u8 0#8] rfl;have e9:Ext H1 (H1.new (.cells [] none)):=(Ext.refl H1).new _;have gr9:cB zH (H1.new (.cells [] none)) 1 (slc H1.next 0 0 0) []:=cB.room (lQ _) (AH.get_new_self _ _) rfl
 have c1':((H1.new (.cells [] none)).get b).cell (o+1)=some y.data:=by
  rw[AH.get_new_lt _ _ (AH.lt_of_get (iI hn.1))];exact c1
 simp only[aY,aJ,aE,Nat.add_zero,c0,aW,bR,bL,gt_iff_lt,ne_eq,k0,k1,k2,eq_false g0,eq_false g2,eq_true g1,not_true,bS,g3,g4,hxs,hadd,g5,decide_false,kA,aU,bC,hb0,AM.cX,eN,c1',aL,aD,aM];obtain⟨v18,H11,a1,a2,a3⟩:=gr9.app (bytes:=1) (Nat.zero_le _) (hn.2.1.mono e9) (kZ _) (by decide) (by decide) (by simp[cC];omega) (by simp[cC];omega)
 obtain⟨e11,f11⟩:=gS a3 e9 (λb hb=>by simp[blk]at hb;omega)
 have a1':app 1 1 (slc H1.next 0 0 0) y.data (H1.new (.cells [] none))=some (v18,H11):=a1;simp only[a1',eJ,aL];obtain⟨sz,rfl⟩:∃ sz:Nat,at_=sz:=⟨at_.toNat,by omega⟩
 rw[List.nil_append]at a2;have hb1:buildS 1 1 #[(.int .u8 0)] [(0,(.int .u8 0))]=some (.cells [u8 0#8] none,eA 1 1):=gC 1 [u8 0#8] [u8 0#8] rfl rfl;have hw:=@aBs E H1 Q t nv mv nx mr Y T h n hlt y b o hy hp sz xv x hx hc (by omega)
 generalize hD:(T.node n).data=D at *;refine bY.ind (λj ls H'=>∃ v,∃ k:Nat,ls=[ptr t 0,vi sz,xv,ptr b o,v]/\Ext H1 H'/\eQ H1.next v/\cB zH H' 1 v (bP (D++List.replicate k 0#8))/\(k=0\/D.length+k<=sz+x.length)/\j=sz+x.length - (D.length+k)) ?_ (sz+x.length - D.length) ⟨v18,0,rfl,e11,f11,by simpa using a2,.inl rfl,by omega⟩
 rintro j _ H3 X hX ⟨v,k,rfl,e3,f3,g6,hk,rfl⟩;have hlv:=g6.toRows.lenSlc;rw[cC,List.length_append,List.length_replicate]at hlv;have hxs3:=(hx.mono e3).lenSlc;rw[cC]at hxs3
 by_cases hlt2:D.length+k<sz+x.length
 ·have hlt2':((D.length+k:Nat):Int)<(sz:Int)+x.length:=by omega
  obtain⟨v',H4,b1,b2,b3,b4⟩:=zS g6 e3 f3 (by simp;omega)
  simp only[F.f78_l1,eF,eR,eW,fR,jZ,hlv,hxs,hadd,bS,hlt2',decide_true,hb1,AM.cX,eN,b1,eJ,aL,aD,aS];refine hX (sz+x.length - (D.length+(k+1))) (by omega) _ _ ⟨v',k+1,rfl,b3,b4,?_,.inr (by omega),rfl⟩
  rw[List.replicate_succ',<- List.append_assoc];exact b2
 ·have hlt2':¬ ((D.length+k:Nat):Int)<(sz:Int)+x.length:=by omega
  have hk':k=sz+x.length - D.length:=by rcases hk with rfl | hk<;>omega
  have:=hw (D++List.replicate k 0#8) (by simp;omega) (by unfold iG dM;rw[hk']) v H3 e3 f3 g6 hQ
  simp only[F.f78_l1,eF,eR,eW,fR,jZ,hlv,hxs,hadd,bS,hlt2',decide_false,aL,aD,aM];exact this
end
end
section
structure cT(X:List Res)(H0 H:AH)(p m:Nat)(L:LyL)(T:Tr)(t:Nat)(nv mv:Value)(nx:Int)(mr:List (List Value))(Y:List RLy)(T2:Tr):Prop where
 ext:Ext H0 H
 ow:Ow (dC (pE p m L T :: fC t nv mv nx mr Y T2 :: X)) H
 own:∀ b∈(dC (pE p m L T :: fC t nv mv nx mr Y T2 :: X)).fp,H0.next<=b
 cov:Cov L T
 len:Y.length=T2.N.length
 fit:T2.N.length<=60000
section
variable {X:List Res}{E:Sy}{H0 H H' H'':AH}{Q:Value->AH->Prop}{p m:Nat}{L L' L'':LyL}{T T' T'' T2 T2':Tr}{t:Nat}{nv nv' mv:Value}{nx:Int}{mr:List (List Value)}{Y Y':List RLy}
theorem cT.ino(h:cT X H0 H p m L T t nv mv nx mr Y T2):Ino H p m L T:=⟨h.ow.part (k:=0) rfl,h.cov⟩
theorem cT.ref(h:cT X H0 H p m L T t nv mv nx mr Y T2):eD H t nv mv nx mr Y T2:=⟨h.ow.part (k:=1) rfl,h.len,h.fit⟩
theorem cT.upd{r:Res}(h:cT X H0 H p m L T t nv mv nx mr Y T2)(u:Upd (dC (pE p m L T :: fC t nv mv nx mr Y T2 :: X)) r H H'):Ext H0 H'/\Ow r H'/\∀ b∈r.fp,H0.next<=b :=
 ⟨u.only.ext h.ext h.own,h.ow.upd u,λb hb=>(u.fp b hb).1.elim (h.own b) λk=>Nat.le_trans h.ext.1 k⟩
theorem cT.step1(h:cT X H0 H p m L T t nv mv nx mr Y T2)(u:gI p m L T L' T' H H'):cT X H0 H' p m L' T' t nv mv nx mr Y T2:=by
 obtain⟨q1,q2,q3⟩:=h.upd (h.ow.set (k:=0) rfl u.upd);exact⟨q1,q2,q3,u.cov,h.len,h.fit⟩
theorem cT.step2(h:cT X H0 H p m L T t nv mv nx mr Y T2)(u:gU t nv mv nx mr Y T2 nv' Y' T2' H H'):cT X H0 H' p m L T t nv' mv nx mr Y' T2':=by
 obtain⟨q1,q2,q3⟩:=h.upd (h.ow.set (k:=1) rfl u.upd);exact⟨q1,q2,q3,h.cov,u.len,u.fit⟩
theorem cT.mono(h:cT X H0 H p m L T t nv mv nx mr Y T2)(e:Ext H H'):cT X H0 H' p m L T t nv mv nx mr Y T2:=h.step1 (h.ino.same e)
theorem cT.box(h:cT X H0 H p m L T t nv mv nx mr Y T2)(c:List Value):cT (X++[bE H.next c]) H0 (H.new (.cells c none)) p m L T t nv mv nx mr Y T2:=by
 obtain⟨q1,q2,q3⟩:=h.upd (h.ow.add (bE H.next c) ((Ext.refl H).new _) (AH.get_new_self _ _) (λb hb=>by simp[bE]at hb;subst hb;simp) (by simp[bE]))
 exact⟨q1,q2,q3,h.cov,h.len,h.fit⟩
theorem cT.held{k:Nat}{c:List Value}(h:cT (X++[bE k c]) H0 H p m L T t nv mv nx mr Y T2):H.get k = .cells c none:=h.ow.holds (bE k c) (by simp)
theorem cT.drop{r:Res}(h:cT (X++[r]) H0 H p m L T t nv mv nx mr Y T2):cT X H0 H p m L T t nv mv nx mr Y T2:=by
 have u:=h.ow.erase (X.length+2);have e:(pE p m L T :: fC t nv mv nx mr Y T2 :: (X++[r])).eraseIdx (X.length+2)=pE p m L T :: fC t nv mv nx mr Y T2 :: X:=by simp[List.eraseIdx_append]
 rw[e]at u;obtain⟨q1,q2,q3⟩:=h.upd u;exact⟨q1,q2,q3,h.cov,h.len,h.fit⟩
theorem Tr.WF.small(h:T.WF):T.small:=λn=>by have:=h.size n;omega
theorem cT.cMake(hE:bF E)(h:cT X H0 H p m L T t nv mv nx mr Y T2)(w:T.WF)(n:BitVec 16)(s:aK)(hs:s.length<2 ^ 63)(k:BitVec 8)(text:List UInt8)(ht:text.length<2 ^ 63)(hc : -9223372036854775808<=T.change/\T.change<9223372036854775807)(hQ:∀ L' H',cT X H0 H' p m L' (T.make n s k text).1 t nv mv nx mr Y T2->Q (.tuple #[u16 (T.make n s k text).2.1,vi (T.make n s k text).2.2]) H'):E.call 46 [ptr p 0,u16 n,str s,u8 k,str text] H Q:=by
 have hlen:=w.len16;have hl2:=w.len.1;exact S.f11 hE h.ino n s hs k text ht hc ⟨by omega,by omega⟩ (λ_ r=>w.chain ⟨(Tr.room_ok r).1,(Tr.room_ok r).2.2.1⟩ 17) λL1 H1 _ u1=>hQ _ _ (h.step1 u1)
theorem cT.rMake(hE:bF E)(h:cT X H0 H p m L T t nv mv nx mr Y T2)(w:T2.WF)(n:BitVec 16)(s:aK)(hs:s.length<2 ^ 63)(k:BitVec 8)(text:List UInt8)(hc : -9223372036854775808<=T2.change/\T2.change<9223372036854775807)(hQ:∀ nv' Y' H',cT X H0 H' p m L T t nv' mv nx mr Y' (T2.make n s k text).1->Q (.tuple #[vi ((T2.make n s k text).2.1.toNat:Int),vi (T2.make n s k text).2.2]) H'):E.call 17 [ptr t 0,vi (n.toNat:Int),str s,vi (k.toNat:Int),str text] H Q:=by
 have hlen:=w.len16;have hl2:=w.len.1;exact S.f71 hE h.ref w.small n s hs k text hc ⟨by omega,by omega⟩ (λ_ r=>w.deep20 ⟨(Tr.room_ok r).1,(Tr.room_ok r).2.2.1⟩) λnv2 Y2 H2 u2=>hQ _ _ _ (h.step2 u2)
theorem Tr.WF.look_bd(w:T.WF)(n:BitVec 16)(s:aK)(h:(T.look n s).2=0):(T.node (T.look n s).1).kind≠0#8/\0<=(T.node (T.look n s).1).links/\(T.node (T.look n s).1).links<=8224 :=
 ⟨(w.pos (Tr.look_ok h).2).2.2.2.1,(w.links_bd _).1,(w.links_bd _).2⟩
theorem cT.cAdd(hE:bF E)(h:cT X H0 H p m L T t nv mv nx mr Y T2)(w:T.WF)(n:BitVec 16)(s:aK)(hs:s.length<2 ^ 63)(v:BitVec 16)(hc : -9223372036854775808<=T.change/\T.change<9223372036854775807)(hQ:∀ L' H',cT X H0 H' p m L' (T.add n s v).1 t nv mv nx mr Y T2->Q (vi (T.add n s v).2) H'):E.call 55 [ptr p 0,u16 n,str s,u16 v] H Q :=
 S.f5 hE h.ino n s hs v hc (w.links_bd v).1 λL1 H1 _ u1=>hQ _ _ (h.step1 u1)
theorem cT.rAdd(hE:bF E)(h:cT X H0 H p m L T t nv mv nx mr Y T2)(w:T2.WF)(n:BitVec 16)(s:aK)(hs:s.length<2 ^ 63)(v:BitVec 16)(hc : -9223372036854775808<=T2.change/\T2.change<9223372036854775807)(hQ:∀ Y' H',cT X H0 H' p m L T t nv mv nx mr Y' (T2.add n s v).1->Q (vi (T2.add n s v).2) H'):E.call 21 [ptr t 0,vi (n.toNat:Int),str s,vi (v.toNat:Int)] H Q :=
 S.f60 hE h.ref w.small n s hs v hc (w.links_bd v).1 λY2 H2 u2=>hQ _ _ (h.step2 u2)
theorem cT.cDrop(hE:bF E)(h:cT X H0 H p m L T t nv mv nx mr Y T2)(w:T.WF)(n:BitVec 16)(s:aK)(d:Bool)(hc : -9223372036854775808<=T.change/\T.change<9223372036854775807)(hQ:∀ L' H',cT X H0 H' p m L' (T.drop n s d).1 t nv mv nx mr Y T2->Q (vi (T.drop n s d).2) H'):E.call 54 [ptr p 0,u16 n,str s,vb d] H Q :=
 S.f7 hE h.ino n s d hc (λe=>by have:=w.look_bd n s e;exact⟨this.1,by omega,by omega⟩) λL1 H1 _ _ u1=>hQ _ _ (h.step1 u1)
theorem cT.rDrop(hE:bF E)(h:cT X H0 H p m L T t nv mv nx mr Y T2)(w:T2.WF)(n:BitVec 16)(s:aK)(d:Bool)(hc : -9223372036854775808<=T2.change/\T2.change<9223372036854775807)(hQ:∀ Y' H',cT X H0 H' p m L T t nv mv nx mr Y' (T2.drop n s d).1->Q (vi (T2.drop n s d).2) H'):E.call 19 [ptr t 0,vi (n.toNat:Int),str s,vb d] H Q :=
 S.f65 hE h.ref w.small n s d hc (λe=>by have:=w.look_bd n s e;exact⟨this.1,by omega,by omega⟩) (by have:=w.size n;omega) λY2 H2 u2=>hQ _ _ (h.step2 u2)
theorem cT.cHold(hE:bF E)(h:cT X H0 H p m L T t nv mv nx mr Y T2)(w:T.WF)(n:BitVec 16)(more:Bool)(hb:(T.node n).held<9223372036854775807)(hQ:∀ L' H',cT X H0 H' p m L' (T.hold n more).1 t nv mv nx mr Y T2->Q (vi (T.hold n more).2) H'):E.call 72 [ptr p 0,u16 n,vb more] H Q:=by
 refine S.f9 hE h.ino n more ⟨w.held n,hb⟩ ?_
 intros
 apply hQ;rename_i u1;exact h.step1 u1
theorem cT.rHold(hE:bF E)(h:cT X H0 H p m L T t nv mv nx mr Y T2)(w:T2.WF)(n:BitVec 16)(more:Bool)(hb:(T2.node n).held<9223372036854775807)(hQ:∀ Y' H',cT X H0 H' p m L T t nv mv nx mr Y' (T2.hold n more).1->Q (vi (T2.hold n more).2) H'):E.call 73 [ptr t 0,vi (n.toNat:Int),vb more] H Q :=
 S.f67 hE h.ref n more ⟨w.held n,hb⟩ λY2 H2 u2=>hQ _ _ (h.step2 u2)
theorem Tr.look_bad{fr:BitVec 16}{s:aK}(h:(T.look fr s).2≠0):(T.look fr s).1=0#16:=by
 unfold Tr.look at h ⊢
 split
 ·rfl
 ·rename_i hd
  rw[if_neg hd]at h
  split
  ·rename_i k hk;rw[hk]at h;simp at h
  ·rfl
theorem cT.cMove(hE:bF E)(h:cT X H0 H p m L T t nv mv nx mr Y T2)(w:T.WF)(fr to:BitVec 16)(s other:aK)(hs:other.length<2 ^ 63)(hc : -9223372036854775808<=T.change/\T.change<9223372036854775806)(hQ:∀ L' H',cT X H0 H' p m L' (T.move fr s to other).1 t nv mv nx mr Y T2->Q (vi (T.move fr s to other).2) H'):E.call 58 [ptr p 0,u16 fr,str s,u16 to,str other] H Q:=by
 exact S.f12 hE h.ino fr to s other hs hc (λe=>(w.look_bd fr s e).1) (λ_ hk h1=>w.chain ⟨hk,h1⟩ 17) (f:=17) (λe hk=>w.fits17 (w.look_live (Tr.look_ok e).2 hk)) (by omega)
  (λy hk hy=>⟨(w.pos hy).2.2.2.1,(w.links_bd y).1,by have:=(w.links_bd y).2;omega⟩) λL1 H1 _ _ u1=>hQ _ _ (h.step1 u1)
theorem cT.rMove(hE:bF E)(h:cT X H0 H p m L T t nv mv nx mr Y T2)(w:T2.WF)(fr to:BitVec 16)(s other:aK)(hs:other.length<2 ^ 63)(hc : -9223372036854775808<=T2.change/\T2.change<9223372036854775806)(hQ:∀ Y' H',cT X H0 H' p m L T t nv mv nx mr Y' (T2.move fr s to other).1->Q (vi (T2.move fr s to other).2) H'):E.call 23 [ptr t 0,vi (fr.toNat:Int),str s,vi (to.toNat:Int),str other] H Q :=
 S.f72 hE h.ref w.small fr to s other hs hc (λe=>(w.look_bd fr s e).1) (λ_ h1 hk=>⟨w.deep20 ⟨hk,h1⟩,w.within20 ⟨hk,h1⟩ _⟩) (f:=17) (λe hk=>w.fits17 (w.look_live (Tr.look_ok e).2 hk)) (by omega)
  (λy hk hy=>⟨(w.pos hy).2.2.2.1,(w.links_bd y).1,by have:=(w.links_bd y).2;omega⟩) (λ_=>(w.rising to).nodup) ⟨by have:=w.size fr;omega,by have:=w.size to;omega⟩ λY2 H2 u2=>hQ _ _ (h.step2 u2)
theorem cT.cWrite(hE:bF E)(h:cT X H0 H p m L T t nv mv nx mr Y T2)(w:T.WF)(n:BitVec 16)(at_:Int)(v:Value)(b:List (BitVec 8))(hv:Rows H 1 v (bP b))(hb:b.length<2 ^ 63)(hat : -9223372036854775808<=at_/\at_<9223372036854775808)(hc : -9223372036854775808<=T.change/\T.change<9223372036854775807)(hQ:∀ L' H',cT X H0 H' p m L' (T.write n at_ b).1 t nv mv nx mr Y T2->Q (vi (T.write n at_ b).2) H'):E.call 97 [ptr p 0,u16 n,vi at_,v] H Q :=
 S.f15 hE h.ino n at_ v b hv hb hc hat (by have:=w.data n;omega) λL1 H1 _ u1=>hQ _ _ (h.step1 u1)
theorem cT.rWrite(hE:bF E)(h:cT X H0 H p m L T t nv mv nx mr Y T2)(w:T2.WF)(n:BitVec 16)(at_:Int)(v:Value)(b:List (BitVec 8))(hv:Rows H 1 v (bP b))(hb:b.length<2 ^ 62)(hc : -9223372036854775808<=T2.change/\T2.change<9223372036854775807)(hQ:∀ Y' H',cT X H0 H' p m L T t nv mv nx mr Y' (T2.write n at_ b).1->Q (vi (T2.write n at_ b).2) H'):E.call 98 [ptr t 0,vi (n.toNat:Int),vi at_,v] H Q :=
 S.f78 hE h.ref n at_ v b hv hb hc (by have:=w.data n;omega) λY2 H2 u2=>hQ _ _ (h.step2 u2)
theorem cT.cCut(hE:bF E)(h:cT X H0 H p m L T t nv mv nx mr Y T2)(w:T.WF)(n:BitVec 16)(size:Int)(hc : -9223372036854775808<=T.change/\T.change<9223372036854775807)(hQ:∀ L' H',cT X H0 H' p m L' (T.cut n size).1 t nv mv nx mr Y T2->Q (vi (T.cut n size).2) H'):E.call 99 [ptr p 0,u16 n,vi size] H Q:=by
 exact S.f6 hE h.ino n size hc λL1 H1 _ u1=>hQ _ _ (h.step1 u1)
theorem cT.rCut(hE:bF E)(h:cT X H0 H p m L T t nv mv nx mr Y T2)(w:T2.WF)(n:BitVec 16)(size:Int)(hc : -9223372036854775808<=T2.change/\T2.change<9223372036854775807)(hQ:∀ Y' H',cT X H0 H' p m L T t nv mv nx mr Y' (T2.cut n size).1->Q (vi (T2.cut n size).2) H'):E.call 100 [ptr t 0,vi (n.toNat:Int),vi size] H Q :=
 S.f62 hE h.ref n size hc (by have:=w.data n;omega) λY2 H2 u2=>hQ _ _ (h.step2 u2)
end
end
section
theorem Ow.perm{rs rs':List Res}{H:AH}(h:Ow (dC rs) H)(hp:rs.Perm rs'):Ow (dC rs') H :=
 ⟨λr hr=>h.holds r (hp.mem_iff.2 hr),λb hb=>h.lt b ((hp.flatMap_right Res.fp).mem_iff.2 hb),(hp.flatMap_right Res.fp).nodup_iff.1 h.nd⟩
def tS(p m:Nat)(L:LyL)(T:Tr)(q:Nat)(v:Value)(M:List aX)(nx:Int)(w:Nat)(X:List Res):List Res:=pE p m L T :: jA q v M nx :: bE w [ptr p 0,ptr q 0] :: X
def WkO(X:List Res)(H0 H:AH)(w:Nat)(T:Tr)(M:List aX)(nx:Int):Prop :=
 ∃ p m L q v,Ext H0 H/\Ow (dC (tS p m L T q v M nx w X)) H/\(∀ b∈(dC (tS p m L T q v M nx w X)).fp,H0.next<=b)/\Cov L T/\sW M nx
section
variable {E:Sy}{X:List Res}{H H' H0 Z:AH}{Q:Value->AH->Prop}{w:Nat}{T T':Tr}{M M':List aX}{nx nx':Int}{L:List Res}
theorem WkO.ext(h:WkO X H0 H w T M nx):Ext H0 H:=by obtain⟨_,_,_,_,_,h,_⟩:=h;exact h
theorem WkO.tab(h:WkO X H0 H w T M nx):sW M nx:=by obtain⟨_,_,_,_,_,_,_,_,_,h⟩:=h;exact h
theorem oE{r r':Res}(e:Ext H0 H)(o:Ow r H)(own:∀ b∈r.fp,H0.next<=b)(u:Upd r r' H H'):Ext H0 H'/\Ow r' H'/\∀ b∈r'.fp,H0.next<=b :=
 ⟨u.only.ext e own,o.upd u,λb hb=>(u.fp b hb).1.elim (own b) λk=>Nat.le_trans e.1 k⟩
theorem WkO.open_(h:WkO X H0 H w T M nx):∃ p q,H.get w = .cells [ptr p 0,ptr q 0] none /\
  (∃ m L,Ino H p m L T/\∀ L' T' H',gI p m L T L' T' H H'->WkO X H0 H' w T' M nx) /\
  (∃ v,(jA q v M nx).P H/\(jA q v M nx).fp.Nodup/\∀ v' M' nx' H',Upd (jA q v M nx) (jA q v' M' nx') H H'->sW M' nx'->WkO X H0 H' w T M' nx'):=by
 obtain⟨p,m,L,q,v,e,o,own,cov,tab⟩:=h;refine⟨p,q,o.holds (bE w [ptr p 0,ptr q 0]) (by simp[tS]),⟨m,L,⟨o.part (k:=0) rfl,cov⟩,λL' T' H' u =>?_⟩,⟨v,o.holds (jA q v M nx) (by simp[tS]),(o.part (k:=1) rfl).nd,λv' M' nx' H' u ok =>?_⟩⟩
 ·obtain⟨a,b,c⟩:=oE e o own (o.set (k:=0) rfl u.upd)
  exact⟨p,m,L',q,v,a,b,c,u.cov,tab⟩
 ·obtain⟨a,b,c⟩:=oE e o own (o.set (k:=1) rfl u)
  exact⟨p,m,L,q,v',a,b,c,cov,ok⟩
theorem WkO.openX(h:WkO X H0 H w T M nx){k:Nat}{r:Res}(hk:X[k]? = some r):Ow r H/\∀ r' H',Upd r r' H H'->WkO (X.set k r') H0 H' w T M nx:=by
 obtain⟨p,m,L,q,v,e,o,own,cov,tab⟩:=h;have hk':(tS p m L T q v M nx w X)[k+3]? = some r:=by simpa[tS] using hk
 refine⟨o.part hk',λr' H' u =>?_⟩;obtain⟨a,b,c⟩:=oE e o own (o.set hk' u);exact⟨p,m,L,q,v,a,b,c,cov,tab⟩
theorem WkO.mono(h:WkO X H0 H w T M nx)(e:Ext H H'):WkO X H0 H' w T M nx:=by
 obtain⟨p,m,L,q,v,e0,o,own,cov,tab⟩:=h;exact⟨p,m,L,q,v,e0.trans e,o.mono e,own,cov,tab⟩
theorem WkO.add(h:WkO X H0 H w T M nx){r:Res}(n:aBe r H H'):WkO (X++[r]) H0 H' w T M nx:=by
 obtain⟨p,m,L,q,v,e0,o,own,cov,tab⟩:=h;obtain⟨a,b,c⟩:=oE e0 o own (o.add r n.1 n.2.1 n.2.2.1 n.2.2.2);exact⟨p,m,L,q,v,a,b,c,cov,tab⟩
theorem newbox(H:AH)(c:List Value):aBe (bE H.next c) H (H.new (.cells c none)):=⟨(Ext.refl H).new _,AH.get_new_self _ _,λb hb=>by simp[bE]at hb;subst hb;simp,by simp[bE]⟩
theorem WkO.box(h:WkO X H0 H w T M nx)(c:List Value):WkO (X++[bE H.next c]) H0 (H.new (.cells c none)) w T M nx:=h.add (newbox H c)
theorem WkO.drop{r:Res}(h:WkO (X++[r]) H0 H w T M nx):WkO X H0 H w T M nx:=by
 obtain⟨p,m,L,q,v,e0,o,own,cov,tab⟩:=h;have u:=o.erase (X.length+3);have e:(tS p m L T q v M nx w (X++[r])).eraseIdx (X.length+3)=tS p m L T q v M nx w X:=by simp[tS,List.eraseIdx_append]
 rw[e]at u;obtain⟨a,b,c⟩:=oE e0 o own u;exact⟨p,m,L,q,v,a,b,c,cov,tab⟩
theorem WkO.held{k:Nat}{c:List Value}(h:WkO (X++[bE k c]) H0 H w T M nx):H.get k = .cells c none:=(h.openX (k:=X.length) (r:=bE k c) (by simp)).1.holds
theorem WkO.put{k:Nat}{c:List Value}(h:WkO (X++[bE k c]) H0 H w T M nx)(c':List Value):WkO (X++[bE k c']) H0 (H.put k (.cells c' none)) w T M nx:=by
 have:=(h.openX (k:=X.length) (r:=bE k c) (by simp)).2 _ _ (bE.put h.held c')
 rwa [aBy]at this
theorem WkO.at_(h:WkO X H0 H w T M nx):lU H w T M:=by
 obtain⟨p,q,hw,⟨m,L,hi,_⟩,⟨v,ht,_,_⟩⟩:=h.open_;have:=h.tab.len;exact⟨⟨p,m,L,q,nx,hw,hi,jA.at_ ht (by omega)⟩,h.tab.older⟩
theorem WkO.two{t:Nat}{nv mv:Value}{mr:List (List Value)}{Y:List RLy}{T2:Tr}{rx:Int}(h:WkO (fC t nv mv rx mr Y T2 :: X) H0 H w T M nx)(hl:Y.length=T2.N.length)(hf:T2.N.length<=60000):
  ∃ p q v m L,cT (jA q v M nx :: bE w [ptr p 0,ptr q 0] :: X) H0 H p m L T t nv mv rx mr Y T2 /\
   ∀ L' T' nv' Y' T2' H',cT (jA q v M nx :: bE w [ptr p 0,ptr q 0] :: X) H0 H' p m L' T' t nv' mv rx mr Y' T2'->WkO (fC t nv' mv rx mr Y' T2' :: X) H0 H' w T' M nx:=by
 obtain⟨p,m,L,q,v,e0,o,own,cov,tab⟩:=h
 have perm:∀ (a b c d:Res),(a :: b :: c :: d :: X).Perm (a :: d :: b :: c :: X):=λa b c d=>by
  refine .cons _ ?_;exact(List.Perm.cons _ (.swap _ _ _)).trans (.swap _ _ _)
 refine⟨p,q,v,m,L,⟨e0,o.perm (perm _ _ _ _),λb hb=>own b (((perm _ _ _ _).flatMap_right Res.fp).mem_iff.2 hb),cov,hl,hf⟩,λL' T' nv' Y' T2' H' h2 =>?_⟩;exact⟨p,m,L',q,v,h2.ext,h2.ow.perm (perm _ _ _ _).symm,λb hb=>h2.own b (((perm _ _ _ _).flatMap_right Res.fp).mem_iff.1 hb),h2.cov,tab⟩
theorem S.f129(hE:bF E)(limit:Int)(hQ:∀ w H',WkO [] H H' w (Tr.new limit) jM 1->Q (ptr w 0) H'):E.call 31 [vi limit] H Q:=by
 apply hE.f129;simp only[F.f129];refine S.f4' hE limit λp m L H1 h1 =>?_;refine S.f33 hE λq v H2 n2 =>?_;have hb:aV [(0,1),(1,1)] #[(.pointer none),(.pointer none)] [(0,ptr p 0),(1,ptr q 0)]=some (.agg #[ptr p 0,ptr q 0]):=rfl;simp only[hb,fQ,AM.cX,fK,aI];refine hQ H2.next _ ⟨p,m,L,q,v,?_⟩
 have o1:Ow (dC [pE p m L (Tr.new limit)]) H1:=by
  refine⟨λr hr=>by rw[List.mem_singleton]at hr;rw[hr];exact h1.ino.ow.holds,?_,?_⟩
  ·intro b hb;exact h1.ino.ow.lt b (by simpa[dC] using hb)
  ·simpa[dC] using h1.ino.ow.nd
 have own1:∀ b∈(dC [pE p m L (Tr.new limit)]).fp,H.next<=b:=λb hb=>h1.own b (by simpa[dC] using hb)
 obtain⟨a2,b2,c2⟩:=oE h1.ext o1 own1 (o1.add _ n2.1 n2.2.1 n2.2.2.1 n2.2.2.2);have n3:=newbox H2 [ptr p 0,ptr q 0];obtain⟨a3,b3,c3⟩:=oE a2 b2 c2 (b2.add _ n3.1 n3.2.1 n3.2.2.1 n3.2.2.2);exact⟨a3,b3,c3,h1.ino.cov,aIX⟩
end
end
section
def Tr.Each(P:Nd->Prop)(T:Tr):Prop:=∀ n,P (T.node n)
structure aIP(P:Nd->Prop):Prop where
 none:P Nd.none
 addE:∀ s k x,P x->P (Nd.addE s k x)
 delE:∀ s x,P x->P (Nd.delE s x)
 addL:∀ k x,P x->P (Nd.addL k x)
 addH:∀ k x,P x->P (Nd.addH k x)
 par:∀ (q:BitVec 16) (x:Nd),P x->P { x with parent:=q }
 made:∀ inn k text,¬ (k=0#8\/3#8<k\/(k=3#8/\(text.length<1\/120<text.length)))->P (Nd.made inn k text)
 data:∀ (x:Nd) (d:List (BitVec 8)),x.kind=1#8->P x->P { x with data:=d }
section
variable {T:Tr}{P:Nd->Prop}(K:aIP P)
theorem Tr.Each.upd(h:T.Each P){n:BitVec 16}{f:Nd->Nd}(hf:∀ x:Nd,P x->P (f x)):(T.upd n f).Each P:=by
 intro k;rcases T.upd_or n k f with e | e
 ·rw[e];exact h k
 ·rw[e];exact hf _ (h k)
theorem Tr.Each.updAt(h:T.Each P){n:BitVec 16}{f:Nd->Nd}(hf:P (f (T.node n))):(T.upd n f).Each P:=by
 intro k;unfold Tr.upd Tr.node;simp only[List.getD_eq_getElem?_getD,List.getElem?_modify];have hk:=h k;unfold Tr.node at hk hf;simp only[List.getD_eq_getElem?_getD]at hk hf
 by_cases e:n.toNat=k.toNat
 ·rw[e]at hf
  cases hh:T.N[k.toNat]? with
  | none=>rw[hh]at hk;exact hk
  | some x=>rw[hh]at hf;simpa[e] using hf
 ·simp only[e,if_false]
  cases hh:T.N[k.toNat]? with
  | none=>rw[hh]at hk;exact hk
  | some x=>rw[hh]at hk;exact hk
theorem Tr.Each.bump(h:T.Each P):T.bump.Each P:=h
include K
theorem Tr.Each.tidy(h:T.Each P)(n:BitVec 16):(T.tidy n).Each P:=by
 unfold Tr.tidy
 split
 ·exact h.upd λ_ _=>K.none
 ·exact h
theorem Tr.Each.put(h:T.Each P)(a:Nat)(x:Nd)(hx:P x):(T.put a x).Each P:=by
 intro k;unfold Tr.put Tr.node;simp only[List.getD_eq_getElem?_getD];have hk:=h k;unfold Tr.node at hk;simp only[List.getD_eq_getElem?_getD]at hk
 split
 ·rw[List.getElem?_set]
  split
  ·exact hx
  ·exact hk
 ·rw[List.getElem?_append]
  split
  ·exact hk
  ·cases hz:([x][k.toNat - T.N.length]? : Option Nd) with
   | none=>exact K.none
   | some z =>
    have:=List.mem_of_getElem? hz;simp at this;subst this;exact hx
theorem Tr.Each.make(h:T.Each P)(inn:BitVec 16)(s:aK)(kd:BitVec 8)(text:List UInt8):(T.make inn s kd text).1.Each P:=by
 unfold Tr.make
 split
 ·exact h
 split
 ·exact h
 rename_i hc
 split
 ·exact h
 exact((h.put K T.free (Nd.made inn kd text) (K.made inn kd text hc)).upd (f:=Nd.addE s (BitVec.ofNat 16 T.free)) λx hx=>K.addE _ _ _ hx).bump
theorem Tr.Each.add(h:T.Each P)(inn:BitVec 16)(s:aK)(v:BitVec 16):(T.add inn s v).1.Each P:=by
 unfold Tr.add
 repeat' split
 all_goals try exact h
 exact((h.upd (f:=Nd.addE s v) λx hx=>K.addE _ _ _ hx).upd (f:=Nd.addL 1) λx hx=>K.addL _ _ hx).bump
theorem Tr.Each.drop(h:T.Each P)(inn:BitVec 16)(s:aK)(d:Bool):(T.drop inn s d).1.Each P:=by
 unfold Tr.drop
 repeat' split
 all_goals try exact h
 exact Tr.Each.tidy K ((h.upd (f:=Nd.delE s) λx hx=>K.delE _ _ hx).upd (f:=Nd.addL (-1)) λx hx=>K.addL _ _ hx).bump _
theorem Tr.Each.hold(h:T.Each P)(n:BitVec 16)(more:Bool):(T.hold n more).1.Each P:=by
 unfold Tr.hold
 repeat' split
 all_goals try exact h
 ·exact h.upd λx hx=>K.addH _ _ hx
 ·exact Tr.Each.tidy K (h.upd λx hx=>K.addH _ _ hx) _
theorem Tr.Each.move(h:T.Each P)(fr:BitVec 16)(s:aK)(to:BitVec 16)(other:aK):(T.move fr s to other).1.Each P:=by
 have key:∀ (U:Tr) (n:BitVec 16),U.Each P->(Tr.moved U fr s to other n).Each P:=by
  intro U n hU;have h2:((U.upd fr (Nd.delE s)).upd to (Nd.addE other n)).Each P:=(hU.upd (f:=Nd.delE s) λx hx=>K.delE _ _ hx).upd (f:=Nd.addE other n) λx hx=>K.addE _ _ _ hx;unfold Tr.moved;simp only
  split
  ·exact(h2.upd (f:=λx=>{ x with parent:=to }) λx hx=>K.par _ _ hx).bump
  ·exact h2.bump
 unfold Tr.move
 split
 ·exact h
 split
 ·exact h
 split
 ·exact h
 split
 ·exact h
 split
 ·exact h
 refine key _ _ ?_
 split
 ·exact h.drop K _ _ _
 ·exact h
theorem Tr.Each.write(h:T.Each P)(n:BitVec 16)(at_:Int)(b:List (BitVec 8)):(T.write n at_ b).1.Each P:=by
 unfold Tr.write
 split
 ·exact h
 split
 ·exact h
 split
 ·exact h
 rename_i hc
 split
 ·exact h
 refine Tr.Each.bump (Tr.Each.updAt h ?_);exact K.data _ _ (by simp only[not_or,Decidable.not_not]at hc;exact hc.1) (h n)
theorem Tr.Each.cut(h:T.Each P)(n:BitVec 16)(size:Int):(T.cut n size).1.Each P:=by
 unfold Tr.cut
 split
 ·exact h
 split
 ·exact h
 split
 ·exact h
 rename_i hc
 split
 ·exact h
 refine Tr.Each.bump (Tr.Each.updAt h ?_);exact K.data _ _ (by simp only[not_or,Decidable.not_not]at hc;exact hc.1) (h n)
omit K in
theorem Tr.Each.new(limit:Int)(h0:P Nd.none)(h1:P { Nd.none with kind:=2#8,parent:=1#16,links:=1 }):(Tr.new limit).Each P:=by
 intro n;unfold Tr.new Tr.node;simp only[List.getD_eq_getElem?_getD]
 by_cases e0:n.toNat=0
 ·rw[e0];exact h0
 ·by_cases e1:n.toNat=1
  ·rw[e1];exact h1
  ·rw[List.getElem?_eq_none (by simp;omega)];exact h0
end
structure Nd.KD(x:Nd):Prop where
 kind:x.kind=0#8\/x.kind=1#8\/x.kind=2#8\/x.kind=3#8
 text:x.kind=3#8->x.text≠[]/\x.text.length<=120
 notext:x.kind≠3#8->x.text=[]
 nodata:x.kind≠1#8->x.data=[]
theorem gE:aIP Nd.KD where
 none:=⟨.inl rfl,by simp[Nd.none],by simp[Nd.none],by simp[Nd.none]⟩
 addE:=λ_ _ _ h=>⟨h.kind,h.text,h.notext,h.nodata⟩
 delE:=λ_ _ h=>⟨h.kind,h.text,h.notext,h.nodata⟩
 addL:=λ_ _ h=>⟨h.kind,h.text,h.notext,h.nodata⟩
 addH:=λ_ _ h=>⟨h.kind,h.text,h.notext,h.nodata⟩
 par:=λ_ _ h=>⟨h.kind,h.text,h.notext,h.nodata⟩
 made:=λinn k text h=>by
  simp only[not_or,not_and]at h;obtain⟨h1,h2,h3⟩:=h
  have hk:k=1#8\/k=2#8\/k=3#8:=by
   have h2:¬ (3<k.toNat):=h2;have h1:k.toNat≠0:=λe=>h1 (BitVec.eq_of_toNat_eq e);have:k.toNat=1\/k.toNat=2\/k.toNat=3:=by omega
   rcases this with e | e | e
   ·exact .inl (BitVec.eq_of_toNat_eq e)
   ·exact .inr (.inl (BitVec.eq_of_toNat_eq e))
   ·exact .inr (.inr (BitVec.eq_of_toNat_eq e))
  refine⟨.inr hk,λe =>?_,λe =>?_,λ_=>rfl⟩
  ·have e:k=3#8:=e
   obtain⟨a,b⟩:=h3 e;have ht:(Nd.made inn k text).text=text:=by simp[Nd.made,e]
   rw[ht];refine⟨λe0=>a (by rw[e0];decide),by omega⟩
  ·have e:k≠3#8:=e
   simp[Nd.made,e]
 data:=λx d hk h=>⟨h.kind,h.text,h.notext,λe=>(e hk).elim⟩
abbrev Tr.KD(T:Tr):Prop:=T.Each Nd.KD
theorem Tr.KD.new(limit:Int):(Tr.new limit).KD:=Tr.Each.new limit gE.none ⟨.inr (.inr (.inl rfl)),by simp,by simp[Nd.none],by simp[Nd.none]⟩
end
section
section
variable {E:Sy}{X:List Res}{H H' H0 Z:AH}{Q:Value->AH->Prop}{w p m:Nat}{T T':Tr}{M M':List aX}{nx nx':Int}{L:LyL}
abbrev Tr.CO(T:Tr):Prop := -9223372036854775808<=T.change/\T.change<9223372036854775806
theorem Ino.cMake(hE:bF E)(h:Ino H p m L T)(wf:T.WF)(n:BitVec 16)(s:aK)(hs:s.length<2 ^ 63)(k:BitVec 8)(text:List UInt8)(ht:text.length<2 ^ 63)(hc:T.CO)(hQ:∀ L' H',gI p m L T L' (T.make n s k text).1 H H'->Q (.tuple #[u16 (T.make n s k text).2.1,vi (T.make n s k text).2.2]) H'):E.call 46 [ptr p 0,u16 n,str s,u8 k,str text] H Q:=by
 have hlen:=wf.len16;have hl2:=wf.len.1;exact S.f11 hE h n s hs k text ht ⟨hc.1,by have:=hc.2;omega⟩ ⟨by omega,by omega⟩ (λ_ r=>wf.chain ⟨(Tr.room_ok r).1,(Tr.room_ok r).2.2.1⟩ 17) λL1 H1 _ u1=>hQ _ _ u1
theorem Ino.cAdd(hE:bF E)(h:Ino H p m L T)(wf:T.WF)(n:BitVec 16)(s:aK)(hs:s.length<2 ^ 63)(v:BitVec 16)(hc:T.CO)(hQ:∀ L' H',gI p m L T L' (T.add n s v).1 H H'->Q (vi (T.add n s v).2) H'):E.call 55 [ptr p 0,u16 n,str s,u16 v] H Q :=
 S.f5 hE h n s hs v ⟨hc.1,by have:=hc.2;omega⟩ (wf.links_bd v).1 λL1 H1 _ u1=>hQ _ _ u1
theorem Ino.cDrop(hE:bF E)(h:Ino H p m L T)(wf:T.WF)(n:BitVec 16)(s:aK)(d:Bool)(hc:T.CO)(hQ:∀ L' H',gI p m L T L' (T.drop n s d).1 H H'->Q (vi (T.drop n s d).2) H'):E.call 54 [ptr p 0,u16 n,str s,vb d] H Q :=
 S.f7 hE h n s d ⟨hc.1,by have:=hc.2;omega⟩ (λe=>by have:=wf.look_bd n s e;exact⟨this.1,by omega,by omega⟩) λL1 H1 _ _ u1=>hQ _ _ u1
theorem Ino.cMove(hE:bF E)(h:Ino H p m L T)(wf:T.WF)(fr to:BitVec 16)(s other:aK)(hs:other.length<2 ^ 63)(hc:T.CO)(hQ:∀ L' H',gI p m L T L' (T.move fr s to other).1 H H'->Q (vi (T.move fr s to other).2) H'):E.call 58 [ptr p 0,u16 fr,str s,u16 to,str other] H Q:=by
 exact S.f12 hE h fr to s other hs hc (λe=>(wf.look_bd fr s e).1) (λ_ hk h1=>wf.chain ⟨hk,h1⟩ 17) (f:=17) (λe hk=>wf.fits17 (wf.look_live (Tr.look_ok e).2 hk)) (by omega)
  (λy hk hy=>⟨(wf.pos hy).2.2.2.1,(wf.links_bd y).1,by have:=(wf.links_bd y).2;omega⟩) λL1 H1 _ _ u1=>hQ _ _ u1
theorem Tr.KD.lt(h:T.KD):T.LT:=λn hk=>(h n).text hk
end
end
section
def AH.since(H:AH)(n:Nat):AH:=⟨if n<H.next then H.next else 0,λb=>if b<n then .dead else H.get b⟩
theorem AH.get_since(H:AH)(n b:Nat):(H.since n).get b=if n<=b then H.get b else .dead:=by
 unfold AH.since;simp only[AH.get]
 by_cases h:n<=b
 ·have h1:¬ b<n:=by omega
  rw[if_pos h];simp only[h1,if_false]
  by_cases hb:b<H.next
  ·have hn:n<H.next:=by omega
   simp[hb,hn]
  ·simp[hb]
 ·have h1:b<n:=by omega
  rw[if_neg h];simp[h1]
theorem AH.since_get{H:AH}{n b:Nat}(h:n<=b):(H.since n).get b=H.get b:=by rw[AH.get_since,if_pos h]
def frR(n:Nat)(H:AH):Res where
 fp:=List.range' n (H.next - n)
 P:=λK=>∀ b∈List.range' n (H.next - n),K.get b=H.get b
 keep:=λh hk b hb=>(hk b hb).trans (h b hb)
theorem aH8{H H':AH}(e:Ext H H'):aBe (frR H.next H') H H':=by
 refine⟨e,λb _=>rfl,λb hb =>?_,List.nodup_range'⟩;simp only[frR,List.mem_range'_1]at hb;have:=e.1;omega
theorem Ow.since{n:Nat}{H K:AH}(o:Ow (frR n H) K):Sub (H.since n) K:=by
 have hm:∀ b,n<=b->b<H.next->b∈(frR n H).fp:=λb h1 h2=>by simp only[frR,List.mem_range'_1];omega
 constructor
 ·unfold AH.since
  simp only
  split
  ·rename_i h
   have:=o.lt (H.next - 1) (hm _ (by omega) (by omega))
   omega
  ·omega
 ·intro b hb
  rw[AH.get_since]at hb ⊢
  split at hb
  ·rename_i h
   rw[if_pos h];exact o.holds b (hm b h (AH.lt_of_get hb))
  ·exact(hb rfl).elim
section
variable {X:List Res}{H0 H H':AH}{w:Nat}{T:Tr}{M:List aX}{nx:Int}
theorem WkO.frz(h:WkO X H0 H w T M nx)(e:Ext H H'):WkO (X++[frR H.next H']) H0 H' w T M nx:=h.add (aH8 e)
theorem WkO.since{K:AH}{k n:Nat}(h:WkO X H0 H w T M nx)(hk:X[k]? = some (frR n K)):Sub (K.since n) H:=(h.openX hk).1.since
end
end
section
section
variable {E:Sy}{X:List Res}{H H' H0 Z:AH}{Q:Value->AH->Prop}{t w:Nat}{T T':Tr}{M M':List aX}{nx nx':Int}{L:List Res}{s:Nat}
theorem lO{H:AH}{z c:List Value}(hz:z.length=2)(hc:c.length=2)(hp:c.all plain1=true):storeN 2 (ptr H.next 0) (.agg c.toArray) (H.new (.cells z none))=some (H.new (.cells c none)):=by
 rw[bJ,AH.get_new_self];have:AM.splice z 0 c=c:=by simp[splice,hz,hc]
 simp only[List.size_toArray,List.toList_toArray,hc,hz,hp,Nat.zero_add,Nat.le_refl,and_self,if_true,this,AH.new_put]
end
end
section
section
variable {X:List Res}{E:Sy}{H0 H H' H'':AH}{Q:Value->AH->Prop}{p m:Nat}{L L' L'':LyL}{T T' T'' T2 T2':Tr}{t:Nat}{nv nv' mv:Value}{nx:Int}{mr:List (List Value)}{Y Y':List RLy}
theorem wE{v:Value}{l:List (BitVec 8)}(h:Rows H 1 v (bP l)):rC v H=some (str (l.map UInt8.ofBitVec)):=by
 refine yJ (l:=l) ?_;unfold aFJ;rw[List.map_map];exact h
theorem aCt(j:Nat):BitVec.ofInt 16 (j:Int)=BitVec.ofNat 16 j:=by
 apply BitVec.eq_of_toNat_eq;simp
theorem aJs(a:Nat):bI .u16 (vi a)=some (u16 (BitVec.ofNat 16 a)):=by rw[mH,aCt]
theorem aKP(a:BitVec 16):bI .u16 (vi (a.toNat:Int))=some (u16 a):=by rw[aJs];simp
end
end
section
structure hG where
 kind:BitVec 8
 in_:BitVec 8
 to:BitVec 8
 name:BitVec 8
 other:BitVec 8
 any:List UInt8
 n:Int
 bytes:Value
 bl:List (BitVec 8)
 flag:Bool
 raw:Bool
def hG.cells(x:hG):List Value:=[u8 x.kind,u8 x.in_,u8 x.to,u8 x.name,u8 x.other,str x.any,vi x.n,x.bytes,vb x.flag,vb x.raw]
abbrev aIw:Sh := .struct [.int .u8,.int .u8,.int .u8,.int .u8,.int .u8,.str,.int .i64,.slice 1 (.int .u8),.bool,.bool]
structure hG.ok(H:AH)(x:hG):Prop where
 any:x.any.length<=9223372036854775807
 n : -9223372036854775808<=x.n/\x.n<9223372036854775808
 bytes:Rows H 1 x.bytes (bP x.bl)
 bl:x.bl.length<=9223372036854775807
theorem hG.ok.mono{H H':AH}{x:hG}(h:x.ok H)(e:Ext H H'):x.ok H':=⟨h.any,h.n,h.bytes.mono e,h.bl⟩
theorem SV.act{H:AH}{cs:List Value}(h:SV H aIw cs):∃ x:hG,cs=x.cells/\x.ok H:=by
 obtain⟨c0,e0,rfl,h0,c1,e1,rfl,h1,c2,e2,rfl,h2,c3,e3,rfl,h3,c4,e4,rfl,h4,c5,e5,rfl,h5,c6,e6,rfl,h6,c7,e7,rfl,h7,c8,e8,rfl,h8,c9,e9,rfl,h9,rfl⟩:=h;obtain⟨x0,rfl⟩:=h0.u8;obtain⟨x1,rfl⟩:=h1.u8;obtain⟨x2,rfl⟩:=h2.u8;obtain⟨x3,rfl⟩:=h3.u8;obtain⟨x4,rfl⟩:=h4.u8;obtain⟨x5,rfl,g5⟩:=h5;obtain⟨x6,rfl,g6⟩:=h6.i64;obtain⟨v7,x7,rfl,g7,l7⟩:=SV.vals (λr hr=>SV.u8 hr) h7;obtain⟨x8,rfl⟩:=h8;obtain⟨x9,rfl⟩:=h9;refine⟨⟨x0,x1,x2,x3,x4,x5,x6,v7,x7,x8,x9⟩,rfl,g5,g6,?_,by simpa using l7⟩
 show Rows H 1 v7 (bP x7)
 have:bP x7=(x7.map AM.u8).map λv=>[v]:=by simp[bP]
 rw[this];exact g7
section
variable {X:List Res}{E:Sy}{H0 H H' H'':AH}{Q:Value->AH->Prop}{p m:Nat}{L L' L'':LyL}{T T' T'' T2 T2':Tr}{t:Nat}{nv nv' mv:Value}{nx:Int}{mr:List (List Value)}{Y Y':List RLy}
def jW:List aK:=[[97],[98],[99],[100,46,101],[102],[103],[],[46,46],[97,47,98]]
theorem S.f46(hE:bF E)(hQ:∀ v H',Ext H H'->Rows H' 1 v (cL jW)->Q v H'):E.call 96 [] H Q:=by
 apply hE.f46
 have hb:buildS 9 1 #[(.string ⟨#[]⟩)] [(0,(.string ⟨#[97]⟩)),(1,(.string ⟨#[98]⟩)),(2,(.string ⟨#[99]⟩)),(3,(.string ⟨#[100,46,101]⟩)),(4,(.string ⟨#[102]⟩)),(5,(.string ⟨#[103]⟩)),(6,(.string ⟨#[]⟩)),(7,(.string ⟨#[46,46]⟩)),(8,(.string ⟨#[97,47,98]⟩))]=some (.cells (jW.map str) none,eA 9 9):=by
  have:=fJ 9 1 [str []] [(0,str [97]),(1,str [98]),(2,str [99]),(3,str [100,46,101]),(4,str [102]),(5,str [103]),(6,str []),(7,str [46,46]),(8,str [97,47,98])] (jW.map str) rfl rfl rfl rfl (by
   intro v hv;obtain⟨s,_,rfl⟩:=List.mem_map.1 hv
   rfl)
  simpa[jW] using this
 simp only[F.f46,hb,AM.cX,eN,aL];refine hQ _ _ ((Ext.refl H).new _) (Rows.made (f:=none) (by rw[AH.get_new_self];rfl) (.inl rfl) rfl ?_)
 intro r hr;obtain⟨s,_,rfl⟩:=List.mem_map.1 hr
 rfl
theorem aId:([(.int .u8 0),(.int .u8 0),(.int .u8 0),(.int .u8 0),(.int .u8 0),(.string ⟨#[]⟩),vi 0,(.slice none 0 0),(.bool false),(.bool false)]:List Value)=(hG.mk 0#8 0#8 0#8 0#8 0#8 [] 0 aZ [] false false).cells:=rfl
theorem hG.all_plain(x:hG)(h:plain1 x.bytes=true):x.cells.all plain1=true:=by
 simp only[hG.cells,List.all_cons,List.all_nil,h];rfl
theorem aEY{x:hG}(hp:plain1 x.bytes=true)(z:hG):storeN 10 (ptr H.next 0) (.agg x.cells.toArray) (H.new (.cells z.cells none))=some (H.new (.cells x.cells none)):=by
 rw[bJ,AH.get_new_self];have hs:AM.splice z.cells 0 x.cells=x.cells:=rfl;have h1:x.cells.length=10:=rfl;have h2:z.cells.length=10:=rfl;simp only[List.size_toArray,List.toList_toArray,h1,h2,hG.all_plain x hp,Nat.zero_add,Nat.le_refl,and_self,if_true,hs,AH.new_put]
theorem nY{v:Value}{rows:List (List Value)}{sz:Nat}(h:Rows H sz v rows):plain1 v=true:=by
 rcases h.at_ with ⟨_,c,rfl⟩ | ⟨b,o,c,rfl,_⟩
 ·cases c<;>rfl
 ·rfl
end
end
section
section
variable {X:List Res}{E:Sy}{H0 H H' H'':AH}{Q:Value->AH->Prop}{p m:Nat}{L L' L'':LyL}{T T' T'' T2 T2':Tr}{t:Nat}{nv nv' mv:Value}{nx:Int}{mr:List (List Value)}{Y Y':List RLy}
structure aIA(X:List Res)(H0 H':AH)(p m t:Nat)(mv:Value)(nx:Int)(mr:List (List Value))(T:Tr)(B:Int)(L':LyL)(nv':Value)(Y':List RLy)(T':Tr):Prop where
 two:cT X H0 H' p m L' T' t nv' mv nx mr Y' T'
 wf:T'.WF
 cb:T.CB T'
 hb:T'.HB (B+1)
inductive Tr.Did (up:Bool) (T:Tr):Tr->Prop
 | make (a:BitVec 16) (s:aK) (k:BitVec 8) (text:List UInt8):T.Did up (T.make a s k text).1
 | add (a:BitVec 16) (s:aK) (b:BitVec 16):T.Did up (T.add a s b).1
 | drop (a:BitVec 16) (s:aK) (d:Bool):T.Did up (T.drop a s d).1
 | move (a:BitVec 16) (s:aK) (b:BitVec 16) (o:aK):T.Did up (T.move a s b o).1
 | hold (a:BitVec 16):T.Did up (T.hold a up).1
 | write (a:BitVec 16) (n:Int) (l:List (BitVec 8)):T.Did up (T.write a n l).1
 | cut (a:BitVec 16) (n:Int):T.Did up (T.cut a n).1
 | refl:T.Did up T
theorem aLb(o:BitVec 8)(k:BitVec 8)(hk:k<5#8):∃ kd:BitVec 8,([[u8 1#8],[u8 2#8],[u8 2#8],[u8 3#8],[u8 o]]:List (List Value))[k.toNat]? = some [u8 kd]:=by
 have h:k.toNat<5:=hk;have:k.toNat=0\/k.toNat=1\/k.toNat=2\/k.toNat=3\/k.toNat=4:=by omega
 rcases this with e | e | e | e | e<;>rw[e]
 ·exact⟨_,rfl⟩
 ·exact⟨_,rfl⟩
 ·exact⟨_,rfl⟩
 ·exact⟨_,rfl⟩
 ·exact⟨_,rfl⟩
theorem aKI(hE:bF E){bx:Nat}{x:hG}(h:cT (X++[bE bx x.cells]) H0 H p m L T t nv mv nx mr Y T)(w:T.WF){B:Int}(hb:T.HB B)(hB:0<=B/\B<1000000)(hc:0<=T.change/\T.change<1000000)(hx:x.ok H0)(hl:x.any.length<=200/\x.bl.length<=200){up:Bool}(hup:x.kind % 15#8=11#8->x.flag=up)(a b:BitVec 16)(s o:aK)(hs:s.length<2 ^ 63)(ho:o.length<2 ^ 63)(hQ:∀ L' nv' Y' T' H',aIA X H0 H' p m t mv nx mr T B L' nv' Y' T'->T.Did up T'->Q (vb true) H'):
  F.f45_j1 E Q (ptr p 0) (ptr t 0) (ptr bx 0) (vi (a.toNat:Int)) (vi (b.toNat:Int)) (str s) (str o) H:=by
 have hbx:=h.held;have c0:x.cells[0]? = some (u8 x.kind):=rfl;have c4:x.cells[4]? = some (u8 x.other):=rfl;have c5:x.cells[5]? = some (str x.any):=rfl;have c6:x.cells[6]? = some (vi x.n):=rfl;have c7:x.cells[7]? = some x.bytes:=rfl;have c8:x.cells[8]? = some (vb x.flag):=rfl;have hrem:aA .rem (u8 x.kind) (.int .u8 15)=some (u8 (x.kind % 15#8)):=oG x.kind 15#8 (by decide)
 have hlt:(x.kind % 15#8).toNat<15:=by rw[BitVec.toNat_umod];exact Nat.mod_lt _ (by decide)
 have n5:(.int .u8 5:Value)=u8 5#8:=rfl;have n8:(.int .u8 8:Value)=u8 8#8:=rfl;have n11:(.int .u8 11:Value)=u8 11#8:=rfl;have n12:(.int .u8 12:Value)=u8 12#8:=rfl;have n13:(.int .u8 13:Value)=u8 13#8:=rfl;simp only[F.f45_j1,aKP,aJ,aE,Nat.zero_add,hbx,bB,c0,hrem,aL,aD];generalize x.kind % 15#8=k at *;have lss:∀ c:BitVec 8,aA .lss (u8 k) (u8 c)=some (vb (decide (k<c))):=λc=>by rw[aAW];rfl
 by_cases k5:k<5#8
 ·have q1:aA .lss (u8 k) (.int .u8 5)=some (vb true):=by rw[n5,lss];simp[k5]
  have k5n:k.toNat<5:=k5;obtain⟨kd,hkd⟩:=aLb x.other k k5
  have hbS:buildS 5 1 #[(.int .u8 0)] [(0,(.int .u8 1)),(1,(.int .u8 2)),(2,(.int .u8 2)),(3,(.int .u8 3)),(4,u8 x.other)]=some (.cells [u8 1#8,u8 2#8,u8 2#8,u8 3#8,u8 x.other] none,eA 5 5):=by
   have:=fJ 5 1 [u8 0#8] [(0,u8 1#8),(1,u8 2#8),(2,u8 2#8),(3,u8 3#8),(4,u8 x.other)] [u8 1#8,u8 2#8,u8 2#8,u8 3#8,u8 x.other] rfl rfl rfl rfl (by intro v hv;simp at hv;rcases hv with rfl | rfl | rfl | rfl<;>rfl)
   simpa using this
  have hx1:Ext H (H.new (.cells [u8 1#8,u8 2#8,u8 2#8,u8 3#8,u8 x.other] none)):=(Ext.refl H).new _;have hr:Rows (H.new (.cells [u8 1#8,u8 2#8,u8 2#8,u8 3#8,u8 x.other] none)) 1 (slc H.next 0 5 5) [[u8 1#8],[u8 2#8],[u8 2#8],[u8 3#8],[u8 x.other]]:=Rows.made (f:=none) (by rw[AH.get_new_self];rfl) (.inl rfl) rfl (by intro r hr;simp at hr;rcases hr with rfl | rfl | rfl | rfl<;>rfl)
  obtain⟨b1,o1,p1,p2⟩:=hr.ix (i:=k.toNat) k5n;rw[List.getElem?_eq_getElem (by simpa using k5n)]at hkd
  rw[Option.some.inj hkd]at p2;have p3:((H.new (.cells [u8 1#8,u8 2#8,u8 2#8,u8 3#8,u8 x.other] none)).get b1).cell o1=some (u8 kd):=by have:=eG p2 (j:=0) (by omega);simpa using this
  have h1:=h.mono hx1;simp only[q1,aJ,aE,Nat.zero_add,hbx,bB,c4,hbS,AM.cX,eN,aGg,p1,p3,h1.held,c5,aL,aD,aS];refine cT.cMake hE h1 w a s hs kd x.any (by omega) ⟨by omega,by omega⟩ λL2 H2 h2 =>?_
  simp only[dU,List.getElem?_cons_zero,List.getElem?_cons_succ,kO,aJ,aE,Nat.zero_add,h2.held,bB,c5,aL,aD];refine cT.rMake hE h2 w a s hs kd x.any ⟨by omega,by omega⟩ λnv3 Y3 H3 h3 =>?_
  simp only[dU,List.getElem?_cons_zero,List.getElem?_cons_succ,jH,aW,decide_true,dT,aU,aL,aD];exact hQ _ _ _ _ _ ⟨h3.drop,w.make a s kd x.any,.make a s kd x.any,(hb.make hB.1 a s kd x.any).mono (by omega)⟩ (.make a s kd x.any)
 by_cases e5:k=5#8
 ·have q1:aA .lss (u8 k) (.int .u8 5)=some (vb false):=by rw[n5,lss];simp[k5]
  have q2:aA .eql (u8 k) (.int .u8 5)=some (vb true):=by rw[n5];simp[e5]
  simp only[q1,q2,aL,aD,aM,aS];refine cT.cAdd hE h w a s hs b ⟨by omega,by omega⟩ λL1 H1 h1 =>?_
  refine cT.rAdd hE h1 w a s hs b ⟨by omega,by omega⟩ λY2 H2 h2 =>?_
  simp only[aW,decide_true,aL,aD];exact hQ _ _ _ _ _ ⟨h2.drop,w.add a s b,.add a s b,(hb.add a s b).mono (by omega)⟩ (.add a s b)
 by_cases k8:k<8#8
 ·have q1:aA .lss (u8 k) (.int .u8 5)=some (vb false):=by rw[n5,lss];simp[k5]
  have q2:aA .eql (u8 k) (.int .u8 5)=some (vb false):=by rw[n5];simp[e5]
  have q3:aA .lss (u8 k) (.int .u8 8)=some (vb true):=by rw[n8,lss];simp[k8]
  simp only[q1,q2,q3,aJ,aE,Nat.zero_add,hbx,bB,c8,aL,aD,aM,aS];refine cT.cDrop hE h w a s x.flag ⟨by omega,by omega⟩ λL1 H1 h1 =>?_
  refine⟨by rw[aE,aE,h1.held,hbx],?_⟩
  refine cT.rDrop hE h1 w a s x.flag ⟨by omega,by omega⟩ λY2 H2 h2 =>?_
  simp only[aW,decide_true,aL,aD];exact hQ _ _ _ _ _ ⟨h2.drop,w.drop a s x.flag,.drop a s x.flag,(hb.drop hB.1 a s x.flag).mono (by omega)⟩ (.drop a s x.flag)
 by_cases k11:k<11#8
 ·have q1:aA .lss (u8 k) (.int .u8 5)=some (vb false):=by rw[n5,lss];simp[k5]
  have q2:aA .eql (u8 k) (.int .u8 5)=some (vb false):=by rw[n5];simp[e5]
  have q3:aA .lss (u8 k) (.int .u8 8)=some (vb false):=by rw[n8,lss];simp[k8]
  have q4:aA .lss (u8 k) (.int .u8 11)=some (vb true):=by rw[n11,lss];simp[k11]
  simp only[q1,q2,q3,q4,aL,aD,aM,aS];refine cT.cMove hE h w a b s o ho ⟨by omega,by omega⟩ λL1 H1 h1 =>?_
  refine cT.rMove hE h1 w a b s o ho ⟨by omega,by omega⟩ λY2 H2 h2 =>?_
  simp only[aW,decide_true,aL,aD];exact hQ _ _ _ _ _ ⟨h2.drop,w.move a s b o,.move a s b o,(hb.move hB.1 a s b o).mono (by omega)⟩ (.move a s b o)
 have q1:aA .lss (u8 k) (.int .u8 5)=some (vb false):=by rw[n5,lss];simp[k5]
 have q2:aA .eql (u8 k) (.int .u8 5)=some (vb false):=by rw[n5];simp[e5]
 have q3:aA .lss (u8 k) (.int .u8 8)=some (vb false):=by rw[n8,lss];simp[k8]
 have q4:aA .lss (u8 k) (.int .u8 11)=some (vb false):=by rw[n11,lss];simp[k11]
 by_cases e11:k=11#8
 ·have q5:aA .eql (u8 k) (.int .u8 11)=some (vb true):=by rw[n11];simp[e11]
  simp only[q1,q2,q3,q4,q5,aJ,aE,Nat.zero_add,hbx,bB,c8,aL,aD,aM,aS];refine cT.cHold hE h w a x.flag (by have:=hb a;omega) λL1 H1 h1 =>?_
  refine⟨by rw[aE,aE,h1.held,hbx],?_⟩
  refine cT.rHold hE h1 w a x.flag (by have:=hb a;omega) λY2 H2 h2 =>?_
  simp only[aW,decide_true,aL,aD];exact hQ _ _ _ _ _ ⟨h2.drop,w.hold a x.flag,.hold a x.flag,hb.hold hB.1 a x.flag⟩ (hup e11 ▸ .hold a)
 have q5:aA .eql (u8 k) (.int .u8 11)=some (vb false):=by rw[n11];simp[e11]
 by_cases e12:k=12#8
 ·have q6:aA .eql (u8 k) (.int .u8 12)=some (vb true):=by rw[n12];simp[e12]
  simp only[q1,q2,q3,q4,q5,q6,aJ,aE,Nat.zero_add,hbx,bB,c6,c7,aL,aD,aM,aS];refine cT.cWrite hE h w a x.n x.bytes x.bl (hx.bytes.mono h.ext) (by omega) hx.n ⟨by omega,by omega⟩ λL1 H1 h1 =>?_
  refine⟨by rw[aE,aE,h1.held,hbx],by rw[aE,aE,h1.held,hbx],?_⟩
  refine cT.rWrite hE h1 w a x.n x.bytes x.bl (hx.bytes.mono h1.ext) (by omega) ⟨by omega,by omega⟩ λY2 H2 h2 =>?_
  simp only[aW,decide_true,aL,aD];exact hQ _ _ _ _ _ ⟨h2.drop,w.write a x.n x.bl,.write a x.n x.bl,(hb.write a x.n x.bl).mono (by omega)⟩ (.write a x.n x.bl)
 have q6:aA .eql (u8 k) (.int .u8 12)=some (vb false):=by rw[n12];simp[e12]
 by_cases e13:k=13#8
 ·have q7:aA .eql (u8 k) (.int .u8 13)=some (vb true):=by rw[n13];simp[e13]
  simp only[q1,q2,q3,q4,q5,q6,q7,aJ,aE,Nat.zero_add,hbx,bB,c6,aL,aD,aM,aS];refine cT.cCut hE h w a x.n ⟨by omega,by omega⟩ λL1 H1 h1 =>?_
  refine⟨by rw[aE,aE,h1.held,hbx],?_⟩
  refine cT.rCut hE h1 w a x.n ⟨by omega,by omega⟩ λY2 H2 h2 =>?_
  simp only[aW,decide_true,aL,aD];exact hQ _ _ _ _ _ ⟨h2.drop,w.cut a x.n,.cut a x.n,(hb.cut a x.n).mono (by omega)⟩ (.cut a x.n)
 have q7:aA .eql (u8 k) (.int .u8 13)=some (vb false):=by rw[n13];simp[e13]
 simp only[q1,q2,q3,q4,q5,q6,q7,aL,aD,aM];refine S.f10 hE h.ino a s ?_;simp only[dU,List.getElem?_cons_zero,List.getElem?_cons_succ,aL,aD];refine S.f70 hE h.ref w.small a s λH2 e2 =>?_;simp only[dU,List.getElem?_cons_zero,List.getElem?_cons_succ,jH,aW,decide_true,dT,aU,aL,aD];exact hQ _ _ _ _ _ ⟨(h.mono e2).drop,w,.refl,hb.mono (by omega)⟩ .refl
theorem aBD{v:Value}(h:Rows H 1 v (cL jW))(k:Nat):∃ b o s,aP 1 v (vi ((k % 9:Nat):Int))=some (ptr b o)/\(∀ H',Ext H H'->(H'.get b).cell o=some (str s))/\s.length<2 ^ 63:=by
 have hk:k % 9<9:=Nat.mod_lt _ (by omega)
 have hlen:(cL jW).length=9:=rfl;obtain⟨b,o,p1,p2⟩:=h.ix (i:=k % 9) (by rw[hlen];exact hk)
 have hmem:(cL jW)[k % 9]'(by rw[hlen];exact hk)∈cL jW:=List.getElem_mem _
 obtain⟨s,hs,he⟩:=List.mem_map.1 hmem;rw[<- he]at p2;refine⟨b,o,s,p1,λH' e =>?_,?_⟩
 ·rw[e.get (AH.lt_of_get (iI p2))]
  have:=eG p2 (j:=0) (by omega)
  simpa using this
 ·have:∀ s∈jW,s.length<2 ^ 63:=by decide
  exact this s hs
theorem S.f45(hE:bF E){x:hG}(h:cT X H0 H p m L T t nv mv nx mr Y T)(w:T.WF){B:Int}(hb:T.HB B)(hB:0<=B/\B<1000000)(hc:0<=T.change/\T.change<1000000)(hx:x.ok H0)(hl:x.any.length<=200/\x.bl.length<=200)(hraw:x.raw=false){up:Bool}(hup:x.kind % 15#8=11#8->x.flag=up)(hQ:∀ L' nv' Y' T' H',aIA X H0 H' p m t mv nx mr T B L' nv' Y' T'->T.Did up T'->Q (vb true) H'):E.call 71 [ptr p 0,ptr t 0,.agg x.cells.toArray] H Q:=by
 apply hE.f45
 have hbo:eX (.agg x.cells.toArray)=some (.cells x.cells none,λb=>ptr b 0):=by
  have:x.cells.all plain1=true:=x.all_plain (nY hx.bytes)
  first
   | rfl
   | simp[eX,this]
 have h1:=h.box x.cells;have hb1:=h1.held;have c1:x.cells[1]? = some (u8 x.in_):=rfl;have c2:x.cells[2]? = some (u8 x.to):=rfl;have c3:x.cells[3]? = some (u8 x.name):=rfl;have c4:x.cells[4]? = some (u8 x.other):=rfl;have c9:x.cells[9]? = some (vb x.raw):=rfl;have r1:aA .rem (u8 x.in_) (.int .u8 8)=some (u8 (x.in_ % 8#8)):=oG _ 8#8 (by decide)
 have r2:aA .rem (u8 x.to) (.int .u8 8)=some (u8 (x.to % 8#8)):=oG _ 8#8 (by decide)
 have n1:(((x.in_ % 8#8).setWidth 16:BitVec 16).toNat)=(x.in_ % 8#8).toNat:=by simp;omega
 have n2:(((x.to % 8#8).setWidth 16:BitVec 16).toNat)=(x.to % 8#8).toNat:=by simp;omega
 simp only[F.f45,hbo,AM.cX,aJ,aE,Nat.zero_add,hb1,bB,c1,c2,c3,c4,r1,r2,kO,aL,aD];generalize hH1:H.new (.cells x.cells none)=H1 at *;have ld:∀ {H'} (k:Nat),Ext H1 H'->aC (ptr H.next k) H'=aC (ptr H.next k) H1:=λk e=>by rw[aE,aE,(h1.mono e).held,hb1]
 refine S.f46 hE λv2 H2 e2 s2 =>?_;refine⟨ld 4 e2,ld 3 e2,?_⟩;refine S.f46 hE λv3 H3 e3 s3 =>?_;have e13:=e2.trans e3;refine⟨ld 4 e13,ld 3 e13,?_⟩;have l3:AM.lenSlc v3=some (vi (9:Nat)):=s3.lenSlc;obtain⟨b4,o4,sn,p4,q4,w4⟩:=aBD s2 x.name.toNat;simp only[l3,kW x.name.toNat 9 (by omega),p4,aE,q4 H3 e3,aL,aD]
 refine S.f46 hE λv5 H5 e5 s5 =>?_;have e15:=e13.trans e5;refine⟨by rw[aE,aE,q4 H5 (e3.trans e5),q4 H3 e3],ld 4 e15,ld 3 e15,?_⟩
 refine S.f46 hE λv6 H6 e6 s6 =>?_;have e16:=e15.trans e6;refine⟨by rw[aE,aE,q4 H6 (e3.trans (e5.trans e6)),q4 H3 e3],ld 4 e16,ld 3 e16,?_⟩
 have l6:AM.lenSlc v6=some (vi (9:Nat)):=s6.lenSlc;obtain⟨b7,o7,so,p7,q7,w7⟩:=aBD s5 x.other.toNat;have h6:=h1.mono e16;have hj:=aKI (Q:=Q) hE h6 w hb hB hc hx hl hup ((x.in_ % 8#8).setWidth 16) ((x.to % 8#8).setWidth 16) sn so w4 w7 hQ;rw[n1,n2]at hj;simp only[l6,kW x.other.toNat 9 (by omega),p7,aE,q7 H6 e6,aJ,Nat.zero_add,h6.held,bB,c9,hraw,aL,aD,aM]
 exact hj
end
end
section
def Tr.Stay(T T':Tr):Prop:=∀ n,(T.node n).kind≠0#8->1<=(T.node n).held->(T'.node n).kind=(T.node n).kind/\(T.node n).held<=(T'.node n).held
section
variable {T T' T'':Tr}
theorem Tr.node_upd_ne{n k:BitVec 16}(h:k≠n)(f:Nd->Nd):(T.upd n f).node k=T.node k:=by
 have e:¬ n.toNat=k.toNat:=λe=>h (BitVec.eq_of_toNat_eq e.symm);unfold Tr.upd Tr.node;simp only[List.getD_eq_getElem?_getD,List.getElem?_modify,e,if_false];cases T.N[k.toNat]?<;>rfl
theorem Tr.Stay.refl:T.Stay T:=λ_ _ _=>⟨rfl,Int.le_refl _⟩
theorem Tr.Stay.trans(h:T.Stay T')(h':T'.Stay T''):T.Stay T'':=λn hk hh=>by
 obtain⟨a,b⟩:=h n hk hh;obtain⟨c,d⟩:=h' n (by rw[a];exact hk) (by omega)
 exact⟨c.trans a,by omega⟩
theorem Tr.Stay.upd(n:BitVec 16)(f:Nd->Nd)(hf:∀ x:Nd,(f x).kind=x.kind/\x.held<=(f x).held):T.Stay (T.upd n f):=λk _ _=>by
 rcases T.upd_or n k f with e | e
 ·rw[e];exact⟨rfl,Int.le_refl _⟩
 ·rw[e];exact hf _
theorem Tr.Stay.bump(h:T.Stay T'):T.Stay T'.bump:=h
theorem Tr.Stay.tidy(n:BitVec 16):T.Stay (T.tidy n):=λk hk hh=>by
 unfold Tr.tidy
 split
 ·rename_i hc
  have e:k≠n:=by rintro rfl;omega
  rw[Tr.node_upd_ne e];exact⟨rfl,Int.le_refl _⟩
 ·exact⟨rfl,Int.le_refl _⟩
theorem Tr.Stay.make(w:T.WF)(inn:BitVec 16)(s:aK)(kd:BitVec 8)(text:List UInt8):T.Stay (T.make inn s kd text).1:=by
 rcases w.make_node inn s kd text with e | ⟨_,_,A,_,hA,hi,hn⟩
 ·rw[e];exact .refl
 ·intro n hk hh
  rw[hn]
  split
  ·rename_i e;subst e;exact⟨rfl,Int.le_refl _⟩
  ·split
   ·rename_i e;subst e;exact(hk hA).elim
   ·exact⟨rfl,Int.le_refl _⟩
theorem Tr.Stay.add(inn:BitVec 16)(s:aK)(v:BitVec 16):T.Stay (T.add inn s v).1:=by
 unfold Tr.add
 repeat' split
 all_goals try exact .refl
 exact(Tr.Stay.upd inn (Nd.addE s v) λ_=>⟨rfl,Int.le_refl _⟩).trans (Tr.Stay.upd v (Nd.addL 1) λ_=>⟨rfl,Int.le_refl _⟩)
theorem Tr.Stay.drop(inn:BitVec 16)(s:aK)(d:Bool):T.Stay (T.drop inn s d).1:=by
 unfold Tr.drop
 repeat' split
 all_goals try exact .refl
 exact((Tr.Stay.upd inn (Nd.delE s) λ_=>⟨rfl,Int.le_refl _⟩).trans (Tr.Stay.upd _ (Nd.addL (-1)) λ_=>⟨rfl,Int.le_refl _⟩)).bump.trans (Tr.Stay.tidy _)
theorem Tr.Stay.hold(n:BitVec 16):T.Stay (T.hold n true).1:=by
 unfold Tr.hold
 repeat' split
 all_goals try exact .refl
 ·exact Tr.Stay.upd n (Nd.addH 1) λx=>⟨rfl,by show x.held<=x.held+1;omega⟩
 ·rename_i h _;exact(h rfl).elim
theorem Tr.Stay.move(fr:BitVec 16)(s:aK)(to:BitVec 16)(other:aK):T.Stay (T.move fr s to other).1:=by
 have key:∀ (U:Tr) (n:BitVec 16),U.Stay (Tr.moved U fr s to other n):=by
  intro U n;have h2:U.Stay ((U.upd fr (Nd.delE s)).upd to (Nd.addE other n)):=(Tr.Stay.upd fr (Nd.delE s) λ_=>⟨rfl,Int.le_refl _⟩).trans (Tr.Stay.upd to (Nd.addE other n) λ_=>⟨rfl,Int.le_refl _⟩);unfold Tr.moved;simp only
  split
  ·exact(h2.trans (Tr.Stay.upd n (λx=>{ x with parent:=to }) λ_=>⟨rfl,Int.le_refl _⟩)).bump
  ·exact h2.bump
 unfold Tr.move
 split
 ·exact .refl
 split
 ·exact .refl
 split
 ·exact .refl
 split
 ·exact .refl
 split
 ·exact .refl
 refine Tr.Stay.trans ?_ (key _ _)
 split
 ·exact .drop _ _ _
 ·exact .refl
theorem Tr.Stay.write(n:BitVec 16)(at_:Int)(b:List (BitVec 8)):T.Stay (T.write n at_ b).1:=by
 unfold Tr.write
 repeat' split
 all_goals try exact .refl
 exact(Tr.Stay.upd n (λx=>{ x with data:=iG x.data at_.toNat b }) λ_=>⟨rfl,Int.le_refl _⟩).bump
theorem Tr.Stay.cut(n:BitVec 16)(size:Int):T.Stay (T.cut n size).1:=by
 unfold Tr.cut
 repeat' split
 all_goals try exact .refl
 exact(Tr.Stay.upd n (λx=>{ x with data:=qE x.data size.toNat }) λ_=>⟨rfl,Int.le_refl _⟩).bump
theorem Tr.Did.stay(h:T.Did true T')(w:T.WF):T.Stay T':=by
 cases h
 ·exact .make w _ _ _ _
 ·exact .add _ _ _
 ·exact .drop _ _ _
 ·exact .move _ _ _ _
 ·exact .hold _
 ·exact .write _ _ _
 ·exact .cut _ _
 ·exact .refl
theorem Tr.Did.kd{up:Bool}(h:T.Did up T')(k:T.KD):T'.KD:=by
 cases h
 ·exact k.make gE _ _ _ _
 ·exact k.add gE _ _ _
 ·exact k.drop gE _ _ _
 ·exact k.move gE _ _ _ _
 ·exact k.hold gE _ _
 ·exact k.write gE _ _ _
 ·exact k.cut gE _ _
 ·exact k
end
end
section
def Tr.dead(T:Tr)(n:BitVec 16):Prop:=(T.node n).kind=2#8/\(T.node n).links=0
structure Tr.Order(T:Tr):Prop where
 rank:∃ (r:BitVec 16->Nat) (B:Nat),(∀ n,r n<B)/\∀ n,T.dead n->T.dead (T.node n).parent->r n<r (T.node n).parent
 par:∀ n,(T.node n).kind≠2#8->(T.node n).parent=0#16
def Tr.DAt(T T':Tr)(n:BitVec 16):Prop:=(T'.dead n->(T'.node n).parent=(T.node n).parent/\(T.dead n\/¬ T'.dead (T'.node n).parent))/\((T'.node n).kind≠2#8->(T'.node n).parent=0#16\/((T.node n).kind≠2#8/\(T'.node n).parent=(T.node n).parent))
def Tr.DStep(T T':Tr):Prop:=∀ n,T.DAt T' n
section
variable {T T' T'':Tr}
open Classical in
theorem Tr.Order.step(h:T.Order)(d:T.DStep T'):T'.Order:=by
 obtain⟨r,B,hr,ho⟩:=h.rank;refine⟨⟨λn=>if T.dead n then r n else B,B+1,λn =>?_,λn hn hp =>?_⟩,λn hk =>?_⟩
 ·have:=hr n
  simp only
  split<;>omega
 ·obtain⟨e,h1⟩:=(d n).1 hn
  rcases h1 with h1 | h1
  ·simp only[if_pos h1]
   split
   ·rename_i h2
    rw[e]at h2 ⊢;exact ho n h1 h2
   ·exact hr n
  ·exact(h1 hp).elim
 ·rcases(d n).2 hk with e | ⟨a,b⟩
  ·exact e
  ·rw[b];exact h.par n a
theorem Tr.DAt.same{n:BitVec 16}(h1:(T'.node n).kind=(T.node n).kind)(h2:(T'.node n).parent=(T.node n).parent)(h3:(T'.node n).links=(T.node n).links):T.DAt T' n :=
 ⟨λh=>⟨h2,.inl ⟨by rw[<- h1];exact h.1,by rw[<- h3];exact h.2⟩⟩,λh => .inr ⟨by rw[<- h1];exact h,h2⟩⟩
theorem Tr.DAt.none{n:BitVec 16}(h:T'.node n=Nd.none):T.DAt T' n :=
 ⟨λhd=>by have:=hd.1;rw[h]at this;simp[Nd.none]at this,λ_ => .inl (by rw[h];rfl)⟩
theorem Tr.DAt.file{n:BitVec 16}(h:(T'.node n).kind≠2#8)(h1:(T.node n).kind≠2#8)(h2:(T'.node n).parent=(T.node n).parent):T.DAt T' n :=
 ⟨λhd=>(h hd.1).elim,λ_ => .inr ⟨h1,h2⟩⟩
theorem Tr.DAt.live{n:BitVec 16}(h:(T'.node n).kind=2#8)(h1:(T'.node n).links≠0):T.DAt T' n :=
 ⟨λhd=>(h1 hd.2).elim,λhk=>(hk h).elim⟩
theorem Tr.DStep.refl:T.DStep T:=λ_ => .same rfl rfl rfl
theorem Tr.DStep.upd(n:BitVec 16)(f:Nd->Nd)(hf:∀ x:Nd,(f x).kind=x.kind/\(f x).parent=x.parent/\(f x).links=x.links):T.DStep (T.upd n f):=λk=>by
 rcases T.upd_or n k f with e | e
 ·exact .same (by rw[e]) (by rw[e]) (by rw[e])
 ·obtain⟨a,b,c⟩:=hf (T.node k)
  exact .same (by rw[e,a]) (by rw[e,b]) (by rw[e,c])
theorem Tr.DStep.make(w:T.WF)(inn:BitVec 16)(s:aK)(kd:BitVec 8)(text:List UInt8):T.DStep (T.make inn s kd text).1:=by
 rcases w.make_node inn s kd text with e | ⟨_,_,A,_,hA,hi,hn⟩
 ·rw[e];exact .refl
 ·intro n
  have hn:=hn n;generalize (T.make inn s kd text).1=T' at *
  by_cases e:n=inn
  ·subst e
   rw[if_pos rfl]at hn;exact .same (by rw[hn];rfl) (by rw[hn];rfl) (by rw[hn];rfl)
  rw[if_neg e]at hn
  by_cases e2:n=A
  ·subst e2
   rw[if_pos rfl]at hn
   by_cases hk:kd=2#8
   ·exact .live (by rw[hn];exact hk) (by rw[hn];exact Int.one_ne_zero)
   ·exact⟨λhd=>by have:=hd.1;rw[hn]at this;exact(hk this).elim,λ_ => .inl (by rw[hn];exact if_neg hk)⟩
  ·rw[if_neg e2]at hn
   exact .same (by rw[hn]) (by rw[hn]) (by rw[hn])
theorem Tr.DStep.add(inn:BitVec 16)(s:aK)(v:BitVec 16):T.DStep (T.add inn s v).1:=by
 unfold Tr.add
 split
 ·exact .refl
 split
 ·exact .refl
 split
 ·exact .refl
 split
 ·exact .refl
 split
 ·exact .refl
 rename_i h2 _ _ _;intro k
 have hV:((T.upd inn (Nd.addE s v)).node k).kind=(T.node k).kind/\((T.upd inn (Nd.addE s v)).node k).parent=(T.node k).parent/\((T.upd inn (Nd.addE s v)).node k).links=(T.node k).links:=by
  rcases T.upd_or inn k (Nd.addE s v) with e | e<;>rw[e]<;>exact⟨rfl,rfl,rfl⟩
 obtain⟨a,b,c⟩:=hV
 by_cases e:k=v
 ·subst e
  have:(((T.upd inn (Nd.addE s k)).upd k (Nd.addL 1)).node k).kind=(T.node k).kind/\(((T.upd inn (Nd.addE s k)).upd k (Nd.addL 1)).node k).parent=(T.node k).parent:=by
   rcases(T.upd inn (Nd.addE s k)).upd_or k k (Nd.addL 1) with e | e<;>rw[e]<;>exact⟨a,b⟩
  exact .file (by show ¬ _=_;rw[Tr.bump_node,this.1];exact h2) h2 this.2
 ·have hn:(((T.upd inn (Nd.addE s v)).upd v (Nd.addL 1)).bump.node k)=(T.upd inn (Nd.addE s v)).node k:=Tr.node_upd_ne e _
  exact .same (by rw[hn,a]) (by rw[hn,b]) (by rw[hn,c])
theorem Tr.DStep.hold(n:BitVec 16)(up:Bool):T.DStep (T.hold n up).1:=by
 unfold Tr.hold
 split
 ·exact .refl
 split
 ·exact .upd n _ λ_=>⟨rfl,rfl,rfl⟩
 split
 ·exact .refl
 intro k
 have hV:((T.upd n (Nd.addH (-1))).node k).kind=(T.node k).kind/\((T.upd n (Nd.addH (-1))).node k).parent=(T.node k).parent/\((T.upd n (Nd.addH (-1))).node k).links=(T.node k).links:=by
  rcases T.upd_or n k (Nd.addH (-1)) with e | e<;>rw[e]<;>exact⟨rfl,rfl,rfl⟩
 obtain⟨a,b,c⟩:=hV;unfold Tr.tidy
 split
 ·rcases(T.upd n (Nd.addH (-1))).upd_or n k (λ_=>Nd.none) with e | e
  ·exact .same (by rw[e,a]) (by rw[e,b]) (by rw[e,c])
  ·exact .none e
 ·exact .same a b c
theorem Tr.DStep.drop(w:T.WF)(inn:BitVec 16)(s:aK)(d:Bool):T.DStep (T.drop inn s d).1:=by
 unfold Tr.drop
 split
 ·exact .refl
 split
 ·exact .refl
 split
 ·exact .refl
 split
 ·exact .refl
 rename_i c1 _ _ _;have c1:(T.look inn s).2=0:=by simpa using c1
 obtain⟨k1,k2⟩:=Tr.look_ok c1;generalize (T.look inn s).1=y at *;obtain⟨e1,e2,e3,o0,o1,e6⟩:=w.pos k2;have hyi:inn≠y:=by rintro rfl;exact w.no_self (iP k2)
 intro k
 have hV:∀ k,((T.upd inn (Nd.delE s)).node k).kind=(T.node k).kind/\((T.upd inn (Nd.delE s)).node k).parent=(T.node k).parent/\((T.upd inn (Nd.delE s)).node k).links=(T.node k).links:=λk=>by
  rcases T.upd_or inn k (Nd.delE s) with e | e<;>rw[e]<;>exact⟨rfl,rfl,rfl⟩
 have hW:∀ k,k≠y->((((T.upd inn (Nd.delE s)).upd y (Nd.addL (-1))).bump).tidy y).node k=(T.upd inn (Nd.delE s)).node k:=λk e=>by
  unfold Tr.tidy
  split
  ·rw[Tr.node_upd_ne e,Tr.bump_node,Tr.node_upd_ne e]
  ·rw[Tr.bump_node,Tr.node_upd_ne e]
 by_cases e:k=y
 ·subst e
  have hin:¬ ((((T.upd inn (Nd.delE s)).upd k (Nd.addL (-1))).bump).tidy k).dead inn:=λhd=>by
   have h2:=hd.2;rw[hW inn hyi,(hV inn).2.2]at h2;exact e2 h2
  have hk:(((T.upd inn (Nd.delE s)).upd k (Nd.addL (-1))).node k).kind=(T.node k).kind/\(((T.upd inn (Nd.delE s)).upd k (Nd.addL (-1))).node k).parent=(T.node k).parent:=by
   rcases(T.upd inn (Nd.delE s)).upd_or k k (Nd.addL (-1)) with e | e<;>rw[e]<;>exact⟨(hV k).1,(hV k).2.1⟩
  unfold Tr.tidy at hin ⊢
  split at hin
  ·rename_i hc
   rw[if_pos hc]
   have hz:((((T.upd inn (Nd.delE s)).upd k (Nd.addL (-1))).bump).upd k (λ_=>Nd.none)).node k=Nd.none:=by
    rw[Tr.node_upd (by rw[Tr.bump_node,hk.1];exact o0),if_pos rfl]
   exact .none hz
  ·rename_i hc
   rw[if_neg hc]
   by_cases h2:(T.node k).kind=2#8
   ·refine⟨λ_=>⟨hk.2,.inr ?_⟩,λh=>(h (hk.1.trans h2)).elim⟩
    have:(((T.upd inn (Nd.delE s)).upd k (Nd.addL (-1))).bump.node k).parent=inn:=hk.2.trans (e6 h2);rw[this];exact hin
   ·exact .file (λh=>h2 (hk.1.symm.trans h)) h2 hk.2
 ·obtain⟨a,b,c⟩:=hV k
  have hn:=hW k e;exact .same (by rw[hn,a]) (by rw[hn,b]) (by rw[hn,c])
theorem Tr.node_upd_lt{n:BitVec 16}(h:n.toNat<T.N.length)(f:Nd->Nd):(T.upd n f).node n=f (T.node n):=by
 unfold Tr.upd Tr.node;simp[List.getD_eq_getElem?_getD,List.getElem?_modify,h]
theorem Tr.len_upd(n:BitVec 16)(f:Nd->Nd):(T.upd n f).N.length=T.N.length:=by simp[Tr.upd]
theorem Tr.len_tidy(n:BitVec 16):(T.tidy n).N.length=T.N.length:=by
 unfold Tr.tidy
 split
 ·exact Tr.len_upd _ _
 ·rfl
theorem Tr.len_drop(inn:BitVec 16)(s:aK)(d:Bool):(T.drop inn s d).1.N.length=T.N.length:=by
 unfold Tr.drop
 repeat' split
 all_goals try rfl
 rw[Tr.len_tidy]
 show((T.upd _ _).upd _ _).N.length=_
 rw[Tr.len_upd,Tr.len_upd]
theorem Tr.DStep.moved{U:Tr}{fr to n:BitVec 16}{s other:aK}(hl:to.toNat<U.N.length)(w:(Tr.moved U fr s to other n).WF):U.DStep (Tr.moved U fr s to other n):=by
 have hV:∀ m,(((U.upd fr (Nd.delE s)).upd to (Nd.addE other n)).node m).kind=(U.node m).kind/\(((U.upd fr (Nd.delE s)).upd to (Nd.addE other n)).node m).parent=(U.node m).parent/\(((U.upd fr (Nd.delE s)).upd to (Nd.addE other n)).node m).links=(U.node m).links:=λm=>by
  have h1:((U.upd fr (Nd.delE s)).node m).kind=(U.node m).kind/\((U.upd fr (Nd.delE s)).node m).parent=(U.node m).parent/\((U.upd fr (Nd.delE s)).node m).links=(U.node m).links:=by
   rcases U.upd_or fr m (Nd.delE s) with e | e<;>rw[e]<;>exact⟨rfl,rfl,rfl⟩
  rcases(U.upd fr (Nd.delE s)).upd_or to m (Nd.addE other n) with e | e<;>rw[e]<;>exact h1
 have hm:(other,n)∈(((U.upd fr (Nd.delE s)).upd to (Nd.addE other n)).node to).ents:=by
  rw[Tr.node_upd_lt (by rw[Tr.len_upd];exact hl)]
  exact kS.2 (.inl rfl)
 unfold Tr.moved at w ⊢;simp only at w ⊢
 split at w
 ·rename_i hk
  rw[if_pos hk];intro m
  by_cases e:m=n
  ·subst e
   have hk':((((U.upd fr (Nd.delE s)).upd to (Nd.addE other m)).upd m (λx=>{ x with parent:=to })).bump.node m).kind=2#8:=by
    rw[Tr.bump_node];rcases((U.upd fr (Nd.delE s)).upd to (Nd.addE other m)).upd_or m m (λx=>{ x with parent:=to }) with e | e<;>rw[e]<;>exact(hV m).1.trans hk
   have hm':(other,m)∈((((U.upd fr (Nd.delE s)).upd to (Nd.addE other m)).upd m (λx=>{ x with parent:=to })).bump.node to).ents:=by
    rw[Tr.bump_node];rcases((U.upd fr (Nd.delE s)).upd to (Nd.addE other m)).upd_or m to (λx=>{ x with parent:=to }) with e | e<;>rw[e]<;>exact hm
   have:=w.live_of hm' hk';exact .live this.1 this.2
  ·obtain⟨a,b,c⟩:=hV m
   have hn:((((U.upd fr (Nd.delE s)).upd to (Nd.addE other n)).upd n (λx=>{ x with parent:=to })).bump.node m)=((U.upd fr (Nd.delE s)).upd to (Nd.addE other n)).node m:=Tr.node_upd_ne e _
   exact .same (by rw[hn,a]) (by rw[hn,b]) (by rw[hn,c])
 ·rename_i hk
  rw[if_neg hk];intro m;obtain⟨a,b,c⟩:=hV m;exact .same a b c
theorem Tr.Order.move(h:T.Order)(w:T.WF)(fr:BitVec 16)(s:aK)(to:BitVec 16)(other:aK):(T.move fr s to other).1.Order:=by
 have w':=w.move fr s to other;unfold Tr.move at w' ⊢
 split
 ·exact h
 rename_i c1
 split
 ·exact h
 rename_i c2
 split
 ·exact h
 rename_i c3
 split
 ·exact h
 rename_i c4
 split
 ·exact h
 rename_i c5;simp only[if_neg c1,if_neg c2,if_neg c3,if_neg c4,if_neg c5]at w'
 have hto:to.toNat<T.N.length:=by
  have c2:T.dir to=0:=by simpa using c2
  exact Tr.node_lt (by rw[Tr.dir_zero.1 c2];decide)
 refine Tr.Order.step (T:=if(bX other (T.node to).ents).isSome then(T.drop to other (decide ((T.node (T.look fr s).1).kind=2#8))).1 else T) ?_ (Tr.DStep.moved ?_ w')
 ·split
  ·exact h.step (.drop w _ _ _)
  ·exact h
 ·split
  ·rw[Tr.len_drop];exact hto
  ·exact hto
theorem Tr.Did.order{up:Bool}(h:T.Did up T')(w:T.WF)(o:T.Order):T'.Order:=by
 cases h
 ·exact o.step (.make w _ _ _ _)
 ·exact o.step (.add _ _ _)
 ·exact o.step (.drop w _ _ _)
 ·exact o.move w _ _ _ _
 ·exact o.step (.hold _ _)
 ·unfold Tr.write
  repeat' split
  all_goals try exact o
  exact o.step (.upd _ _ λ_=>⟨rfl,rfl,rfl⟩)
 ·unfold Tr.cut
  repeat' split
  all_goals try exact o
  exact o.step (.upd _ _ λ_=>⟨rfl,rfl,rfl⟩)
 ·exact o
theorem Tr.Order.new(limit:Int):(Tr.new limit).Order:=by
 have hp:∀ n,((Tr.new limit).node n).kind≠2#8->((Tr.new limit).node n).parent=0#16:=by
  intro n hk;unfold Tr.new Tr.node at hk ⊢;simp only[List.getD_eq_getElem?_getD]at hk ⊢
  by_cases e0:n.toNat=0
  ·rw[e0];rfl
  ·by_cases e1:n.toNat=1
   ·rw[e1]at hk;exact(hk rfl).elim
   ·rw[List.getElem?_eq_none (by simp;omega)];rfl
 refine⟨⟨λ_=>0,1,λ_=>Nat.zero_lt_one,λn hd _ =>?_⟩,hp⟩;obtain⟨a,b⟩:=hd;unfold Tr.new Tr.node at a b;simp only[List.getD_eq_getElem?_getD]at a b
 by_cases e0:n.toNat=0
 ·rw[e0]at a;exact absurd a (by decide)
 ·by_cases e1:n.toNat=1
  ·rw[e1]at b;exact absurd b (by decide)
  ·rw[List.getElem?_eq_none (by simp;omega)]at a;exact absurd a (by decide)
end
end
section
def Nd.Kept(x:Nd):Prop:=x.kind≠0#8->x.links≠0\/x.held≠0
def Tr.Tidy(T:Tr):Prop:=∀ n,(T.node n).Kept
def Tr.TidyX(T:Tr)(a:BitVec 16):Prop:=∀ n,n≠a->(T.node n).Kept
section
variable {T T':Tr}{n:BitVec 16}{f:Nd->Nd}
theorem Nd.Kept.none:Nd.none.Kept:=λh=>(h rfl).elim
theorem zN(s:aK)(x:Nd)(h:x.Kept):(Nd.delE s x).Kept:=h
theorem uJ(s:aK)(k:BitVec 16)(x:Nd)(h:x.Kept):(Nd.addE s k x).Kept:=h
theorem aGJ(q:BitVec 16)(x:Nd)(h:x.Kept):({ x with parent:=q }:Nd).Kept:=h
theorem aAc(d:List (BitVec 8))(x:Nd)(h:x.Kept):({ x with data:=d }:Nd).Kept:=h
theorem Tr.Tidy.upd(h:T.Tidy)(hf:∀ x:Nd,x.Kept->(f x).Kept):(T.upd n f).Tidy:=λk=>by
 rcases T.upd_or n k f with e | e
 ·rw[e];exact h k
 ·rw[e];exact hf _ (h k)
theorem Tr.Tidy.updX(h:T.Tidy):(T.upd n f).TidyX n:=λk hk=>by
 rw[Tr.node_upd_ne hk];exact h k
theorem Tr.Tidy.updAt(h:T.Tidy)(hf:(f (T.node n)).Kept):(T.upd n f).Tidy:=λk=>by
 by_cases e:k=n
 ·subst e
  rcases T.upd_or k k f with e | e
  ·rw[e];exact h k
  ·rw[e];exact hf
 ·rw[Tr.node_upd_ne e];exact h k
theorem Tr.TidyX.tidy(h:T.TidyX n):(T.tidy n).Tidy:=by
 intro k;unfold Tr.tidy
 split
 ·by_cases e:k=n
  ·subst e
   rcases Nat.lt_or_ge k.toNat T.N.length with hl | hl
   ·rw[Tr.node_upd_lt hl];exact Nd.Kept.none
   ·have:(T.upd k λ_=>Nd.none).node k=Nd.none:=by
     unfold Tr.node;rw[List.getD_eq_getElem?_getD,List.getElem?_eq_none (by rw[Tr.len_upd];exact hl)];rfl
    rw[this];exact Nd.Kept.none
  ·rw[Tr.node_upd_ne e];exact h k e
 ·rename_i hz
  by_cases e:k=n
  ·subst e
   intro _;exact Classical.byContradiction λhc=>hz ⟨Classical.byContradiction λa=>hc (.inl a),Classical.byContradiction λa=>hc (.inr a)⟩
  ·exact h k e
theorem Tr.Tidy.bump(h:T.Tidy):T.bump.Tidy:=h
theorem Tr.TidyX.bump(h:T.TidyX n):T.bump.TidyX n:=h
theorem Tr.Tidy.put(h:T.Tidy)(a:Nat)(x:Nd)(hx:x.Kept):(T.put a x).Tidy:=by
 intro k;unfold Tr.put Tr.node;simp only[List.getD_eq_getElem?_getD];have hk:=h k;unfold Tr.node at hk;simp only[List.getD_eq_getElem?_getD]at hk
 split
 ·rw[List.getElem?_set]
  split
  ·exact hx
  ·exact hk
 ·rw[List.getElem?_append]
  split
  ·exact hk
  ·cases hz:([x][k.toNat - T.N.length]? : Option Nd) with
   | none=>exact Nd.Kept.none
   | some y =>
    have:=List.mem_of_getElem? hz;simp at this;subst this;exact hx
theorem Tr.Tidy.drop(h:T.Tidy)(a:BitVec 16)(s:aK)(d:Bool):(T.drop a s d).1.Tidy:=by
 unfold Tr.drop
 repeat' split
 all_goals try exact h
 exact(Tr.Tidy.updX (h.upd (zN s))).bump.tidy
theorem Tr.Tidy.moved(h:T.Tidy)(fr:BitVec 16)(s:aK)(to:BitVec 16)(o:aK)(m:BitVec 16):(Tr.moved T fr s to o m).Tidy:=by
 unfold Tr.moved;have h2:((T.upd fr (Nd.delE s)).upd to (Nd.addE o m)).Tidy:=(h.upd (zN s)).upd (uJ o m);simp only
 split
 ·exact(h2.upd (aGJ to)).bump
 ·exact h2.bump
theorem Tr.Tidy.make(h:T.Tidy)(a:BitVec 16)(s:aK)(k:BitVec 8)(text:List UInt8):(T.make a s k text).1.Tidy:=by
 unfold Tr.make
 repeat' split
 all_goals try exact h
 exact((h.put _ (Nd.made a k text) λ_ => .inl (by show(1:Int)≠0;decide)).upd (uJ _ _)).bump
theorem Tr.Tidy.hold(h:T.Tidy)(w:T.WF)(a:BitVec 16)(b:Bool):(T.hold a b).1.Tidy:=by
 unfold Tr.hold
 repeat' split
 all_goals try exact h
 ·refine h.updAt λ_ => .inr ?_
  have:=w.held a
  show(T.node a).held+1≠0
  omega
 ·exact h.updX.tidy
theorem Tr.Tidy.move(h:T.Tidy)(a:BitVec 16)(s:aK)(b:BitVec 16)(o:aK):(T.move a s b o).1.Tidy:=by
 unfold Tr.move
 split
 ·exact h
 split
 ·exact h
 split
 ·exact h
 split
 ·exact h
 split
 ·exact h
 refine Tr.Tidy.moved ?_ _ _ _ _ _
 split
 ·exact h.drop _ _ _
 ·exact h
theorem Tr.Tidy.add(h:T.Tidy)(w:T.WF)(a:BitVec 16)(s:aK)(b:BitVec 16):(T.add a s b).1.Tidy:=by
 unfold Tr.add
 repeat' split
 all_goals try exact h
 rename_i h0 h2 _ hl _;refine Tr.Tidy.bump (Tr.Tidy.updAt (h.upd (uJ s b)) λ_ => .inl ?_);have hb:b≠1#16:=λe=>h2 (by rw[e];exact w.root.1)
 have hln:=w.links b hb h0
 have hm:((T.upd a (Nd.addE s b)).node b).links=(T.node b).links:=by
  rcases T.upd_or a b (Nd.addE s b) with e | e<;>rw[e]
  rfl
 show((T.upd a (Nd.addE s b)).node b).links+1≠0
 rw[hm,hln];omega
theorem Tr.Did.tidy{up:Bool}(d:T.Did up T')(h:T.Tidy)(w:T.WF):T'.Tidy:=by
 cases d
 ·exact h.make _ _ _ _
 ·exact h.add w _ _ _
 ·exact h.drop _ _ _
 ·exact h.move _ _ _ _
 ·exact h.hold w _ _
 ·unfold Tr.write
  repeat' split
  all_goals try exact h
  exact(h.upd λx hx=>aAc _ x hx).bump
 ·unfold Tr.cut
  repeat' split
  all_goals try exact h
  exact(h.upd λx hx=>aAc _ x hx).bump
 ·exact h
theorem Tr.Tidy.new(limit:Int):(Tr.new limit).Tidy:=by
 intro n;unfold Tr.node Tr.new;simp only[List.getD_eq_getElem?_getD];cases hz:([Nd.none,{ Nd.none with kind:=2#8,parent:=1#16,links:=1 }][n.toNat]? : Option Nd) with
 | none=>exact Nd.Kept.none
 | some y =>
  have:=List.mem_of_getElem? hz;simp at this;rcases this with rfl | rfl
  ·exact Nd.Kept.none
  ·exact λ_ => .inl (by decide)
end
end
section
variable {E:Sy}{H:AH}{Q:Value->AH->Prop}
def pA(H:AH)(p:Nat)(t:cE)(M:List cY):Prop:=H.get p = .cells t.cells none/\M.length<2 ^ 62/\Rows H 5 t.m (M.map cY.cells)
theorem pA.mono{H H':AH}{p:Nat}{t:cE}{M:List cY}(h:pA H p t M)(e:Ext H H'):pA H' p t M:=⟨e.cells h.1,h.2.1,h.2.2.mono e⟩
theorem pA.len{H:AH}{p:Nat}{t:cE}{M:List cY}(h:pA H p t M):lenSlc t.m=some (vi M.length):=by
 have:=h.2.2.lenSlc
 simpa using this
theorem S.f82(hE:bF E)(p:Nat)(t:cE)(M:List cY)(hT:pA H p t M)(id:Int)(hQ:Q (vi (kL (λm:cY=>decide (m.id=id)) M)) H):E.call 59 [ptr p 0,vi id] H Q:=by
 apply hE.f82;have hl:=hT.len;have h0:=hT.2.1;simp[F.f82];refine bY.count M.length (λj s H'=>s=[ptr p 0,vi id,vi j]/\H'=H/\∀ i (hi:i<M.length),i<j->¬ M[i].id=id) ?_ ⟨rfl,rfl,λi _ h=>by omega⟩
 rintro j _ _ X hj hX ⟨rfl,rfl,hn⟩;simp only[F.f82_l1,eF,aDt];simp[hT.1,hl];refine nL (λh =>?_) (λh =>?_)
 ·have hjl:j<M.length:=by omega
  obtain⟨b,o,f1,f2,f3,_⟩:=cY.elem hT.2.2 hjl;simp[hT.1,f1,f3];refine nL (λh =>?_) (λh =>?_)
  ·have:kL (λm:cY=>decide (m.id=id)) M=(j:Int):=by
    have:M.findIdx? (λm:cY=>decide (m.id=id))=some j:=List.findIdx?_eq_some_iff_getElem.2 ⟨hjl,by simpa using h,λi hi=>by simpa using hn i (by omega) hi⟩
    simp[kL,this]
   rw[<- this];exact hQ
  ·rw[cS (by omega),aD]
   refine hX hjl _ _ ⟨rfl,rfl,λi hi hij =>?_⟩
   by_cases e:i=j
   ·subst e;exact h
   ·exact hn i hi (by omega)
 ·have:j=M.length:=by omega
  subst this
  have:kL (λm:cY=>decide (m.id=id)) M = -1:=by
   have:M.findIdx? (λm:cY=>decide (m.id=id))=none:=by
    rw[List.findIdx?_eq_none_iff];intro x hx;obtain⟨i,hi,rfl⟩:=List.getElem_of_mem hx
    simpa using hn i hi hi
   simp[kL,this]
  rw[<- this];exact hQ
def fT(p:aN)(m:cY):Bool:=decide (m.id≠0)&&decide (m.at_=p)
def iW{α:Type}(P:α->Bool)(l:List α):Int:=match (List.range l.length).reverse.find? (λi=>(l[i]?).any P) with | some i=>(i:Int) | none => -1
theorem pR{α:Type}(P:α->Bool)(l:List α)(x:α):iW P (l++[x])=if P x then(l.length:Int) else iW P l:=by
 unfold iW;rw[List.length_append,List.length_singleton,List.range_succ,List.reverse_append,List.reverse_singleton,List.singleton_append,List.find?_cons];have h0:((l++[x])[l.length]?).any P=P x:=by simp
 rw[h0];cases P x with
 | true=>simp
 | false =>
  simp only[Bool.false_eq_true,if_false]
  have:∀ (L:List Nat),(∀ i∈L,i<l.length)->L.find? (λi=>((l++[x])[i]?).any P)=L.find? (λi=>(l[i]?).any P):=by
   intro L hL
   induction L with
   | nil=>rfl
   | cons a L ih =>
    have ha:=hL a (by simp)
    rw[List.find?_cons,List.find?_cons,List.getElem?_append_left ha,ih λi hi=>hL i (by simp[hi])]
  rw[this _ (λi hi=>by simpa using hi)]
theorem tX{α:Type}(P:α->Bool)(l:List α):(iW P l = -1/\∀ x∈l,P x=false)\/∃ (i:Nat) (hi:i<l.length),iW P l=i/\P l[i]=true:=by
 unfold iW;cases h:(List.range l.length).reverse.find? (λi=>(l[i]?).any P) with
 | none =>
  refine .inl ⟨rfl,λx hx =>?_⟩;obtain⟨i,hi,rfl⟩:=List.getElem_of_mem hx;have:=List.find?_eq_none.1 h i (by simpa using hi)
  simpa[hi] using this
 | some i =>
  have h1:=List.find?_some h;have h2:=List.mem_of_find?_eq_some h;have hi:i<l.length:=by simpa using h2
  exact .inr ⟨i,hi,rfl,by simpa[hi] using h1⟩
def mP(M:List cY):Nat->aN->aN
 | 0,p=>p
 | n+1,p=>if h:0<=iW (fT p) M/\(iW (fT p) M).toNat<M.length then mP M n ⟨(M[(iW (fT p) M).toNat]'h.2).id,(M[(iW (fT p) M).toNat]'h.2).root⟩ else p
theorem S.f74(hE:bF E)(p:Nat)(t:cE)(M:List cY)(hT:pA H p t M)(q:aN)(hQ:∀ H',Ext H H'->Q (mP M 20 q).v H'):E.call 60 [ptr p 0,q.v] H Q:=by
 apply hE.f74;have hl:=hT.len;have h0:=hT.2.1;simp[F.f74];generalize hH2:(H.new _).new _=H2;have x2:Ext H H2:=by subst hH2;exact((Ext.refl H).new _).new _
 have k1:H2.get H.next = .cells q.cells none:=by subst hH2;simp[AH.get_new]
 have k2:H2.get (H.next+1) = .cells [vi 0,vi 0] none:=by subst hH2;simp[AH.get_new]
 clear hH2;refine bY.count 20 (λk s H'=>∃ r,s=[ptr p 0,ptr H.next 0,ptr (H.next+1) 0,vi k]/\Ext H H'/\mP M (20 - k) r=mP M 20 q/\H'.get H.next = .cells r.cells none/\H'.get (H.next+1) = .cells [vi 0,vi 0] none) ?_ ⟨q,rfl,x2,rfl,k1,k2⟩;rintro k _ H' X hk hX ⟨r,rfl,e1,hs,m1,m2⟩;have hT1:=hT.mono e1;have l1:=AH.lt_cells m1;have l2:=AH.lt_cells m2
 have leave:mP M 20 q=r->Q (mP M 20 q).v (H'.put (H.next+1) (.cells r.cells none)):=by
  intro h;exact hQ _ (e1.put (b:=H.next+1) (by omega) _)
 simp only[F.f74_l1,eF,aDt];simp
 by_cases hk20:(k:Int)<20
 ·simp[hk20]
  refine bY.count M.length (λj s H''=>s=[ptr p 0,ptr H.next 0,ptr (H.next+1) 0,vi k,vi (iW (fT r) (M.take j)),vi j]/\H''=H') ?_ ⟨rfl,rfl⟩;rintro j _ _ X1 hj hX1 ⟨rfl,rfl⟩;simp only[F.f74_l2,eF,aDt];simp[hT1.1,hl];refine nL (λh =>?_) (λh =>?_)
  ·have hjl:j<M.length:=by omega
   obtain⟨b,o,f1,f2,f3,f4,f5,f6,f7,f8⟩:=cY.elem hT1.2.2 hjl;have htk:M.take (j+1)=M.take j++[M[j]]:=by rw[List.take_succ,List.getElem?_eq_getElem hjl];rfl
   have hln:(M.take j).length=j:=by rw[List.length_take];omega
   by_cases hid:M[j].id=0
   ·simp[hT1.1,f1,f3,hid]
    rw[cS (by omega),aD]
    refine hX1 hjl _ _ ⟨?_,rfl⟩;rw[htk,pR];simp[fT,hid]
   ·by_cases hat:M[j].at_=r
    ·simp[hT1.1,f1,f3,hid,m1,f8,hat]
     rw[cS (by omega),aD]
     refine hX1 hjl _ _ ⟨?_,rfl⟩;rw[htk,pR,hln];simp[fT,hid,hat]
    ·simp[hT1.1,f1,f3,hid,m1,f8,hat]
     rw[cS (by omega),aD]
     refine hX1 hjl _ _ ⟨?_,rfl⟩;rw[htk,pR];simp[fT,hid,hat]
  ·have:j=M.length:=by omega
   subst this;rw[List.take_length]
   have hstep:mP M (20 - k) r=if h:0<=iW (fT r) M/\(iW (fT r) M).toNat<M.length then mP M (20 - (k+1)) ⟨(M[(iW (fT r) M).toNat]'h.2).id,(M[(iW (fT r) M).toNat]'h.2).root⟩ else r:=by
    rw[show 20 - k=(20 - (k+1))+1 by omega]
    rfl
   rcases tX (fT r) M with ⟨h1,_⟩ | ⟨i,hi,h1,_⟩
   ·rw[h1]at hstep
    simp at hstep;simp[h1,m1,m2];have:=leave (by rw[<- hs,hstep])
    rw[<- hs,hstep]at this
    simpa[l2] using this
   ·rw[h1]at hstep
    simp[hi]at hstep;have hneg:¬ ((i:Int)<0):=by omega
    obtain⟨b,o,f1,f2,f3,f4,f5,f6,f7,f8⟩:=cY.elem hT1.2.2 hi;simp[hT1.1,h1,hneg,f1,f3,f4,m1];rw[cS (by omega),aD]
    refine hX (by omega) _ _ ⟨⟨M[i].id,M[i].root⟩,rfl,e1.put (b:=H.next) (by omega) _,by rw[<- hs,hstep,show 20 - (k+1)=19 - k by omega],?_,?_⟩
    ·simp[l1]
    ·rw[AH.get_put_ne _ _ (by omega)];exact m2
 ·have:k=20:=by omega
  subst this;simp at hs;simp[m1,m2];have:=leave (by rw[<- hs];rfl)
  rw[<- hs]at this
  simpa[l2,mP] using this
end
section
variable {E:Sy}{H:AH}{Q:Value->AH->Prop}
def pN(n:Int)(m:cY):Bool:=decide (m.root=n)||(decide (m.id≠0)&&decide (m.at_.inode=n))
theorem zF{α:Type}{P:α->Bool}{l:List α}{j:Nat}(hj:j<l.length)(h:(l.take j).any P=false):(l.take (j+1)).any P=P l[j]:=by
 rw[List.take_add_one,List.getElem?_eq_getElem hj,List.any_append,h];simp
theorem S.f76(hE:bF E)(p:Nat)(t:cE)(M:List cY)(hT:pA H p t M)(n:Int)(hQ:Q (vb (M.any (pN n))) H):E.call 18 [ptr p 0,vi n] H Q:=by
 apply hE.f76;have hl:=hT.len;have h0:=hT.2.1;simp only[F.f76];refine bY.count M.length (λj s H'=>s=[ptr p 0,vi n,vi j]/\H'=H/\(M.take j).any (pN n)=false) ?_ ⟨rfl,rfl,rfl⟩;rintro j _ H1 X hj hX ⟨rfl,rfl,hn⟩;simp only[F.f76_l1,eF,aDt];simp[hT.1,hl];refine nL (λh =>?_) (λh =>?_)
 ·have hjl:j<M.length:=by omega
  obtain⟨b,o,f1,f2,f3,f4,f5,f6,f7,f8⟩:=cY.elem hT.2.2 hjl;have htk:=zF hjl hn;have no:pN n M[j]=false->X [ptr p 0,vi n,vi ((j+1:Nat):Int)] H1:=λh=>hX hjl _ _ ⟨rfl,rfl,by rw[htk];exact h⟩
  have yes:pN n M[j]=true->Q (vb true) H1:=by
   intro h;have:M.any (pN n)=true:=List.any_eq_true.2 ⟨_,List.getElem_mem hjl,h⟩;rw[<- this];exact hQ
  by_cases hr:M[j].root=n
  ·simp[hT.1,f1,f4,hr]
   exact yes (by simp[pN,hr])
  ·by_cases hi:M[j].id=0
   ·simp[hT.1,f1,f3,f4,hr,hi]
    rw[cS (by omega),aD]
    exact no (by simp[pN,hr,hi])
   ·by_cases ha:M[j].at_.inode=n
    ·simp[hT.1,f1,f3,f4,f6,hr,hi,ha]
     exact yes (by simp[pN,hi,ha])
    ·simp[hT.1,f1,f3,f4,f6,hr,hi,ha]
     rw[cS (by omega),aD]
     exact no (by simp[pN,hr,hi,ha])
 ·have:j=M.length:=by omega
  subst this;rw[List.take_length]at hn;rw[<- hn];exact hQ
def aFA(M:List cY)(id:Int):Option cY:=M.find? λm=>decide (m.id=id)
def rF(M:List cY)(p:aN):Option aN:=match aFA M p.mount with
 | none=>none
 | some m=>if p.mount=0\/m.root≠p.inode then none else some m.at_
theorem S.f64(hE:bF E)(p:Nat)(t:cE)(M:List cY)(hT:pA H p t M)(q:aN)(hQ:∀ H',Ext H H'->Q (.tuple #[((rF M q).getD aN.zero).v,vb (rF M q).isSome]) H'):E.call 101 [ptr p 0,q.v] H Q:=by
 apply hE.f64;simp[F.f64];generalize hH2:(H.new _).new _=H2;have x2:Ext H H2:=by subst hH2;exact((Ext.refl H).new _).new _
 have k1:H2.get H.next = .cells q.cells none:=by subst hH2;simp[AH.get_new]
 have k2:H2.get (H.next+1) = .cells [vi 0,vi 0] none:=by subst hH2;simp[AH.get_new]
 clear hH2;have l2:=AH.lt_cells k2;have hT2:=hT.mono x2;simp[k1];refine S.f82 hE p t M hT2 q.mount ?_
 have fin:rF M q=none->Q (.tuple #[aN.zero.v,vb false]) (H2.put (H.next+1) (.cells aN.zero.cells none)):=by
  intro h;rw[h]at hQ;exact hQ _ (x2.put (b:=H.next+1) (by omega) _)
 rcases jJ (λm:cY=>decide (m.id=q.mount)) M with ⟨h1,h2⟩ | ⟨j,hj,h1,h2,h4,_⟩
 ·have h1:aFA M q.mount=none:=h1
  simp[h2,k2]
  simpa[l2] using fin (by simp[rF,h1])
 ·have h2:aFA M q.mount=some M[j]:=h2
  have hneg:¬ ((j:Int)<0):=by omega
  obtain⟨b,o,f1,f2,f3,f4,f5,f6,f7,f8⟩:=cY.elem hT2.2.2 hj;rw[h1]
  by_cases hm:q.mount=0
  ·simp[hneg,k1,k2,hm]
   simpa[l2] using fin (by simp only[rF,hm,true_or,if_true];split<;>rfl)
  ·by_cases hr:M[j].root=q.inode
   ·simp[hneg,k1,k2,hm,hT2.1,f1,f4,f8,hr]
    have hd:rF M q=some M[j].at_:=by simp[rF,h2,hm,hr]
    rw[hd]at hQ
    simpa[l2] using hQ _ (x2.put (b:=H.next+1) (by omega) _)
   ·simp[hneg,k1,k2,hm,hT2.1,f1,f4,f8,hr]
    simpa[l2] using fin (by simp[rF,h2,hr])
def eT(p:Nat)(t:cE)(N:List cD)(M:List cY):Res:=⟨p :: (eY t.n++eY t.m),λH=>H.get p = .cells t.cells none/\cB zH H 7 t.n (N.map cD.cells)/\cB zH H 5 t.m (M.map cY.cells),
 λh e=>⟨by rw[e _ (by simp)];exact h.1,h.2.1.keep λb hb _=>e b (by simp[bZ.2 hb]),h.2.2.keep λb hb _=>e b (by simp[bZ.2 hb])⟩⟩
section
variable {p:Nat}{t:cE}{N:List cD}{M M':List cY}{H1:AH}{v':Value}
theorem eT.at_(h:(eT p t N M).P H)(hn:M.length<2 ^ 62):pA H p t M:=⟨h.1,hn,h.2.2.toRows⟩
theorem eT.nodup(hnd:(eT p t N M).fp.Nodup):p ∉ eY t.n/\p ∉ eY t.m/\∀ b∈eY t.n,b ∉ eY t.m:=by
 simp only[eT,List.nodup_cons,List.mem_append,List.nodup_append,not_or]at hnd;obtain⟨⟨h1,h2⟩,h3,h4,h5⟩:=hnd;exact⟨h1,h2,λb hb hm=>h5 b hb b hm rfl⟩
theorem eT.fp_lt(hr:(eT p t N M).P H):∀ b∈(eT p t N M).fp,b<H.next:=by
 intro b hb;simp only[eT,List.mem_cons,List.mem_append]at hb;rcases hb with rfl | hb | hb
 ·exact AH.lt_cells hr.1
 ·exact hr.2.1.blk_lt (bZ.1 hb)
 ·exact hr.2.2.blk_lt (bZ.1 hb)
theorem eT.updM(h:(eT p t N M).P H)(hnd:(eT p t N M).fp.Nodup)(o:dK (p :: eY t.m) H H1)(g:cB zH H1 5 v' (M'.map cY.cells))(hb:∀ b,blk v'=some b->blk t.m=some b\/H.next<=b)(nx:Int):
  Upd (eT p t N M) (eT p { t with m:=v',next:=nx } N M') H (H1.put p (.cells ({ t with m:=v',next:=nx }:cE).cells none)):=by
 obtain⟨n1,n2,n3⟩:=eT.nodup hnd;have hlt:p<H.next:=AH.lt_cells h.1
 have hpb:p ∉ eY v':=λk=>by
  rcases hb p (bZ.1 k) with k | k
  ·exact n2 (bZ.2 k)
  ·omega
 have hN:∀ b,blk t.n=some b->b<H.next:=λb hb=>h.2.1.blk_lt hb
 have hNn:∀ b,blk t.n=some b->b ∉ eY v':=λb hbn k=>by
  rcases hb b (bZ.1 k) with k | k
  ·exact n3 b (bZ.2 hbn) (bZ.2 k)
  ·have:=hN b hbn;omega
 refine⟨(o.put (.inl (by simp)) _).mono λb hb => .inl ?_,⟨AH.get_put_self _ _ (Nat.lt_of_lt_of_le hlt o.1),?_,?_⟩,λb hb' =>?_,?_⟩
 ·simp only[List.mem_cons,eT,List.mem_append]at hb ⊢
  exact hb.imp id .inr
 ·refine h.2.1.keep λb hb _ =>?_
  have hbp:b≠p:=by rintro rfl;exact n1 (bZ.2 hb)
  rw[AH.get_put_ne _ _ hbp];exact o.get (hN b hb) (by simp only[List.mem_cons,not_or];exact⟨hbp,n3 b (bZ.2 hb)⟩)
 ·exact g.keep λb hb _=>AH.get_put_ne _ _ (by rintro rfl;exact hpb (bZ.2 hb))
 ·simp only[eT,List.mem_cons,List.mem_append]at hb' ⊢
  rcases hb' with rfl | hb' | hb'
  ·exact⟨.inl (by simp),Nat.lt_of_lt_of_le hlt o.1⟩
  ·exact⟨.inl (by simp[hb']),Nat.lt_of_lt_of_le (hN b (bZ.1 hb')) o.1⟩
  ·exact⟨(hb b (bZ.1 hb')).imp (λk=>by simp[bZ.2 k]) id,g.blk_lt (bZ.1 hb')⟩
 ·simp only[eT,List.nodup_cons,List.mem_append,not_or,List.nodup_append]
  exact⟨⟨n1,hpb⟩,mG _,mG _,λa ha b hb' e=>hNn a (bZ.1 ha) (e▸hb')⟩
end
end
section
variable {E:Sy}{H:AH}{Q:Value->AH->Prop}
structure aIY where
 M:List cY
 nx:Int
 n:Int
 e:Int
def mO(M:List cY)(nx root:Int)(q:aN):aIY :=
 if kL (λm:cY=>decide (m.id=q.mount)) M<0 then⟨M,nx,0,22⟩ else if mP M 20 q≠q then⟨M,nx,0,16⟩ else if 16<=M.length then⟨M,nx,0,28⟩ else⟨M++[⟨nx,root,q,0⟩],nx+1,nx,0⟩
theorem S.f61(hE:bF E)(p:Nat)(t:cE)(N:List cD)(M:List cY)(hr:(eT p t N M).P H)(hnd:(eT p t N M).fp.Nodup)(hn:M.length<2 ^ 20)(hx:0<=t.next/\t.next<2 ^ 61)(root:Int)(q:aN)(hQ:∀ t' H',t'.next=(mO M t.next root q).nx/\t'.n=t.n/\t'.limit=t.limit/\t'.change=t.change->Upd (eT p t N M) (eT p t' N (mO M t.next root q).M) H H'->Q (.tuple #[vi (mO M t.next root q).n,vi (mO M t.next root q).e]) H'):E.call 27 [ptr p 0,vi root,q.v] H Q:=by
 apply hE.f61;have hT:=eT.at_ hr (by omega)
 have same:∀ H',Ext H H'->Upd (eT p t N M) (eT p t N M) H H':=λH' e=>(Upd.refl hr (eT.fp_lt hr) hnd).ext e;have x1:Ext H (H.new (.cells q.cells none)):=(Ext.refl H).new _;have k1:(H.new (.cells q.cells none)).get H.next = .cells q.cells none:=AH.get_new_self _ _;obtain⟨n1,n2,n3⟩:=eT.nodup hnd;have hlp:=AH.lt_cells hr.1;simp[F.f61];refine S.f82 hE p t M (hT.mono x1) q.mount ?_;unfold mO at hQ
 by_cases hf:kL (λm:cY=>decide (m.id=q.mount)) M<0
 ·simp only[hf,if_true]at hQ
  simp[hf];exact hQ t _ ⟨rfl,rfl,rfl,rfl⟩ (same _ x1)
 ·simp only[hf,if_false]at hQ
  simp[hf];refine S.f74 hE p t M (hT.mono x1) q λH3 e3 =>?_;have x3:=x1.trans e3;have k3:=e3.cells k1;simp[k3]
  by_cases hs:mP M 20 q=q
  ·simp only[hs,ne_eq,not_true,if_false]at hQ
   have hT3:=hT.mono x3;simp[hs,hT3.1,hT3.len]
   by_cases h16:16<=M.length
   ·simp only[h16,if_true]at hQ
    have h16':(16:Int)<=M.length:=by omega
    simp[h16'];exact hQ t _ ⟨rfl,rfl,rfl,rfl⟩ (same _ x3)
   ·simp only[h16,if_false]at hQ
    have h16':¬ (16:Int)<=M.length:=by omega
    have l3:=AH.lt_cells hT3.1;simp[h16',hT3.1];rw[eM (by omega) (by omega),aD]
    simp[hT3.1,l3];have hpk:H.next≠p:=by omega
    have k4:(H3.put p (.cells ({ t with next:=t.next+1 }:cE).cells none)).get H.next = .cells q.cells none:=by rw[AH.get_put_ne _ _ hpk];exact k3
    have hg3:=hr.2.2.ext x3;have hg4:cB zH (H3.put p (.cells ({ t with next:=t.next+1 }:cE).cells none)) 5 t.m (M.map cY.cells):=hg3.keep λb hb _=>AH.get_put_ne _ _ (by rintro rfl;exact n2 (bZ.2 hb))
    obtain⟨v',H6,a1,a2,a3,a4⟩:=hg4.app1 (Nat.zero_le _) (bytes:=40) (cY.cells ⟨t.next,root,q,0⟩) rfl rfl (by omega) (by omega) (by simp;omega)
    have hpv6:H6.get p = .cells ({ t with next:=t.next+1 }:cE).cells none:=a3.cells (AH.get_put_self _ _ l3) n2
    have l6:=AH.lt_cells hpv6;simp only[AH.next_put]at a1;simp[k4];rw[a1];simp[a2.plain,hpv6];refine hQ { t with m:=v',next:=t.next+1 } _ ⟨rfl,rfl,rfl,rfl⟩ ?_
    have hO:dK (p :: eY t.m) H H6:=by
     refine((x3.only (F:=p :: eY t.m)).put (.inl (by simp)) _).trans a3 λb hb => .inl (by simp[hb])
    exact eT.updM hr hnd hO (by simpa using a2) (λb hb=>(a4 b hb).imp id λh=>by have:=x3.1;simp at h;omega) _
  ·simp only[hs,ne_eq,not_false_eq_true,if_true]at hQ
   simp[hs];exact hQ t _ ⟨rfl,rfl,rfl,rfl⟩ (same _ x3)
end
section
variable {E:Sy}{H0 Z H:AH}{L:List Res}{Q:Value->AH->Prop}
def aG.toI(p:aG):aN:=⟨p.m,p.i.toNat⟩
def aX.toI(m:aX):cY:=⟨m.id,m.root.toNat,m.at_.toI,m.held⟩
theorem aDE(p q:aG):p.toI=q.toI↔p=q:=by
 simp only[aG.toI,aN.ext_iff,aG.ext_iff];constructor
 ·rintro⟨h1,h2⟩;exact⟨h1,BitVec.eq_of_toNat_eq (by omega)⟩
 ·rintro⟨h1,h2⟩;rw[h2];exact⟨h1,rfl⟩
theorem toNat_inj(a b:BitVec 16):((a.toNat:Int)=b.toNat)↔a=b:=by
 constructor
 ·intro h;exact BitVec.eq_of_toNat_eq (by omega)
 ·rintro rfl;rfl
theorem S.f47(hE:bF E)(q:aG)(hQ:∀ H',Ext H H'->Q q.toI.v H'):E.call 13 [q.v] H Q:=by
 apply hE.f47;simp[F.f47,AH.get_new,aG.cells];exact hQ _ (((Ext.refl H).new _).new _)
theorem aGN(T:List aX)(k:Int):kL (λm:cY=>decide (m.id=k)) (T.map aX.toI)=rB T k:=by
 unfold rB kL;rw[List.findIdx?_map];rfl
theorem aIo(T:List aX)(k:Int):aFA (T.map aX.toI) k=(lC T k).map aX.toI:=by
 unfold aFA lC;rw[List.find?_map];rfl
theorem aC8(p:aG)(m:aX):fT p.toI m.toI=dG p m:=by
 simp only[fT,dG,aX.toI,aDE]
 congr
theorem aGr(T:List aX)(p:aG):rF (T.map aX.toI) p.toI=(gW T p).map aG.toI:=by
 unfold rF gW;have h0:p.toI.mount=p.m:=rfl;rw[h0,aIo];cases hg:lC T p.m with
 | none=>rfl
 | some m =>
  have hm:m.id=p.m:=by have:=List.find?_some hg;simpa using this
  have h1:(m.toI.root≠p.toI.inode)↔m.root≠p.i:=not_congr (toNat_inj m.root p.i);simp only[Option.map_some,h1,hm]
  split<;>rfl
structure nE(T:List aX)(nx k:Int):Prop where
 older:lG T
 uniq:∀ a∈T,∀ b∈T,a.id≠0->b.id≠0->a.at_=b.at_->a.id=b.id
 nodup:(T.map aX.id).Nodup
 len:T.length<=16
 ids:∀ m∈T,0<=m.id/\m.id<nx
 nx0:1<=nx
 nx1:nx<=1+k
 held:∀ m∈T,0<=m.held/\m.held<=k
theorem nE.ok{T:List aX}{nx k:Int}(h:nE T nx k)(hk:k<=1000):sW T nx :=
 ⟨h.older,h.len,by have:=h.nx0;omega,by have:=h.nx1;omega,λm hm=>by have:=h.held m hm;omega⟩
theorem nE.mono{T:List aX}{nx k k':Int}(h:nE T nx k)(hk:k<=k'):nE T nx k' :=
 { h with nx1:=by have:=h.nx1;omega,held:=λm hm=>by have:=h.held m hm;omega }
theorem aKc:nE jM 1 0:=⟨by unfold lG;simp[jM],by simp[jM],by simp[jM],by simp[jM],by simp[jM],by omega,by omega,by simp[jM]⟩
theorem nE.inj{T:List aX}{nx k:Int}(h:nE T nx k){i j:Nat}(hi:i<T.length)(hj:j<T.length)(e:T[i].id=T[j].id):i=j:=by
 have h1:i<(T.map aX.id).length:=by simpa using hi
 have h2:j<(T.map aX.id).length:=by simpa using hj
 have key:=List.pairwise_iff_getElem.1 h.nodup;rcases Nat.lt_trichotomy i j with g | g | g
 ·exact absurd (by simpa using e) (key i j h1 h2 g)
 ·exact g
 ·exact absurd (by simpa using e.symm) (key j i h2 h1 g)
theorem aFu{T:List aX}{nx k:Int}(h:nE T nx k)(p:aG):iW (fT p.toI) (T.map aX.toI)=kL (dG p) T:=by
 have hs:∀ i (hi:i<T.length),fT p.toI ((T.map aX.toI)[i]'(by simpa using hi))=dG p T[i]:=λi hi=>by rw[List.getElem_map,aC8]
 rcases tX (fT p.toI) (T.map aX.toI) with ⟨h1,h2⟩ | ⟨i,hi,h1,h2⟩<;>rcases jJ (dG p) T with ⟨g1,g2⟩ | ⟨j,hj,g1,_,g3,_⟩
 ·rw[h1,g2]
 ·have:=h2 _ (List.getElem_mem (by simpa using hj))
  rw[hs j hj,g3]at this;simp at this
 ·have hi':i<T.length:=by simpa using hi
  rw[hs i hi']at h2;have:=List.find?_eq_none.1 g1 _ (List.getElem_mem hi');exact absurd h2 this
 ·have hi':i<T.length:=by simpa using hi
  rw[hs i hi']at h2;simp only[dG,Bool.and_eq_true,decide_eq_true_eq]at h2 g3;have:=h.inj hi' hj (h.uniq _ (List.getElem_mem hi') _ (List.getElem_mem hj) h2.1 g3.1 (h2.2.trans g3.2.symm));subst this;rw[h1,g1]
theorem zK{T:List aX}{nx k:Int}(h:nE T nx k):∀ (n:Nat) (p:aG),mP (T.map aX.toI) n p.toI=(kQ T n p).toI
 | 0,p=>rfl
 | n+1,p=>by
  simp only[mP,kQ,aFu h];rcases jJ (dG p) T with ⟨g1,g2⟩ | ⟨j,hj,g1,g2,g3,_⟩
  ·simp[g2,g1]
  ·simp only[g1,g2,List.length_map]
   rw[dif_pos ⟨by omega,by simpa using hj⟩]
   have:=zK h n ⟨T[j].id,T[j].root⟩;simp only[List.getElem_map];exact this
theorem aFP{T:List aX}{nx k:Int}(h:nE T nx k)(p:aG):mP (T.map aX.toI) 20 p.toI=(seen T p).toI:=by
 rw[zK h];have h1:=h.len;have h2:=aBO T p;have:=sU h.older p (20 - T.length) T.length h2;rw[show T.length+(20 - T.length)=20 by omega]at this
 rw[this];rfl
theorem aBB{T:List aX}(h:lG T):∀ (n:Nat) (p:aG),p.m<=(kQ T n p).m
 | 0,p=>by simp[kQ]
 | n+1,p=>by
  rw[kQ];cases hf:T.find? (dG p) with
  | none=>simp
  | some m =>
   have h1:=List.find?_some hf;have h2:=List.mem_of_find?_eq_some hf;simp only[dG,Bool.and_eq_true,decide_eq_true_eq]at h1;have h3:=h m h2 h1.1;have h4:=aBB h n ⟨m.id,m.root⟩;rw[h1.2]at h3;simp only at h4 ⊢;omega
theorem aFO{T:List aX}(h:lG T){p:aG}(e:seen T p=p):T.find? (dG p)=none:=by
 cases hf:T.find? (dG p) with
 | none=>rfl
 | some m =>
  have h1:=List.find?_some hf;have h2:=List.mem_of_find?_eq_some hf;simp only[dG,Bool.and_eq_true,decide_eq_true_eq]at h1;have h3:=h m h2 h1.1;have h4:=aBB h T.length ⟨m.id,m.root⟩;have h5:=aAi h hf;rw[e]at h5;unfold seen at h5;rw[<- h5]at h4;rw[h1.2]at h3;simp only at h4;omega
theorem aCd{T:List aX}{nx k:Int}(h:nE T nx k)(r:BitVec 16)(p:aG):(mO (T.map aX.toI) nx r.toNat p.toI).M=(dJ T nx r p).T.map aX.toI/\(mO (T.map aX.toI) nx r.toNat p.toI).nx=(dJ T nx r p).nx /\
  (mO (T.map aX.toI) nx r.toNat p.toI).n=(dJ T nx r p).n/\(mO (T.map aX.toI) nx r.toNat p.toI).e=(dJ T nx r p).e:=by
 unfold mO dJ;have h0:p.toI.mount=p.m:=rfl;rw[h0,aGN,aFP h,List.length_map];simp only[ne_eq,aDE]
 split
 ·simp
 ·split
  ·simp
  ·split
   ·simp
   ·simp[aX.toI]
theorem nE.bind{T:List aX}{nx k:Int}(h:nE T nx k)(r:BitVec 16)(p:aG):nE (dJ T nx r p).T (dJ T nx r p).nx (k+1):=by
 have hk:nE T nx (k+1):=h.mono (by omega)
 unfold dJ
 split
 ·exact hk
 ·rename_i hf
  split
  ·exact hk
  ·rename_i hs
   split
   ·exact hk
   ·rename_i hl
    have hs:seen T p=p:=Classical.not_not.1 hs;have hno:=aFO h.older hs
    have hpm:p.m<nx:=by
     rcases jJ (λm:aX=>decide (m.id=p.m)) T with ⟨h1,h2⟩ | ⟨j,hj,h1,h2,h3,_⟩
     ·have h2:rB T p.m = -1:=h2
      omega
     ·have:=(h.ids _ (List.getElem_mem hj)).2
      simp only[decide_eq_true_eq]at h3;omega
    have hnx:=h.nx0;refine⟨λm hm h0 =>?_,λa ha b hb a0 b0 e =>?_,?_,by simp;omega,λm hm =>?_,by simp only;omega,by have:=h.nx1;simp only;omega,λm hm =>?_⟩
    ·rcases List.mem_append.1 hm with hm | hm
     ·exact h.older m hm h0
     ·simp only[List.mem_singleton]at hm;subst hm;exact hpm
    ·rcases List.mem_append.1 ha with ha | ha<;>rcases List.mem_append.1 hb with hb | hb
     ·exact h.uniq a ha b hb a0 b0 e
     ·simp only[List.mem_singleton]at hb;subst hb
      exact absurd (by simp only[dG,Bool.and_eq_true,decide_eq_true_eq];exact⟨a0,e⟩) (List.find?_eq_none.1 hno a ha)
     ·simp only[List.mem_singleton]at ha;subst ha
      exact absurd (by simp only[dG,Bool.and_eq_true,decide_eq_true_eq];exact⟨b0,e.symm⟩) (List.find?_eq_none.1 hno b hb)
     ·simp only[List.mem_singleton]at ha hb;subst ha hb;rfl
    ·rw[List.map_append,List.nodup_append]
     refine⟨h.nodup,by simp,λa ha b hb =>?_⟩
     obtain⟨m,hm,rfl⟩:=List.mem_map.1 ha;simp at hb;subst hb;have:=(h.ids m hm).2;omega
    ·rcases List.mem_append.1 hm with hm | hm
     ·have:=h.ids m hm;simp only;omega
     ·simp only[List.mem_singleton]at hm;subst hm;simp only;omega
    ·rcases List.mem_append.1 hm with hm | hm
     ·have:=h.held m hm;omega
     ·simp only[List.mem_singleton]at hm;subst hm;simp only;have:=h.nx1;omega
theorem aGp(T:List aX)(n:BitVec 16):(T.map aX.toI).any (pN n.toNat)=T.any (nF n):=by
 rw[List.any_map]
 congr 1
 funext m
 have h1:(m.toI.root=(n.toNat:Int))↔m.root=n:=toNat_inj _ _;have h2:(m.toI.at_.inode=(n.toNat:Int))↔m.at_.i=n:=toNat_inj _ _;have h3:m.toI.id=m.id:=rfl;simp only[Function.comp_apply,pN,nF,h1,h2,h3]
end
section
theorem Upd.congr{r r' s s':Res}{H H':AH}(h:Upd r r' H H')(f:r.fp=s.fp)(f':r'.fp=s'.fp)(p':∀ H,r'.P H->s'.P H):Upd s s' H H':=by
 obtain⟨a,b,c,d⟩:=h;exact⟨f▸a,p' _ b,by rw[<- f,<- f'];exact c,f'▸d⟩
def qH(T:Tr)(Y:List RLy):List cD:=(T.N.zip Y).map λp=>gF p.1 p.2
theorem uX(T:Tr)(Y:List RLy):(qH T Y).map cD.cells=cG T Y:=by simp[qH,cG]
def mF(M:List aX):List (List Value):=(M.map aX.toI).map cY.cells
section
variable {E:Sy}{H H':AH}{Q:Value->AH->Prop}{t:Nat}{nv mv mv':Value}{nx nx':Int}{Y:List RLy}{T:Tr}{M M':List cY}
def aBI(Y:List RLy)(T:Tr):List Res:=(T.N.zip Y).map λp=>cO p.1 p.2
theorem vX:(fC t nv mv nx (M.map cY.cells) Y T).fp=(dC (eT t ⟨nv,T.limit,mv,nx,T.change⟩ (qH T Y) M :: aBI Y T)).fp:=by
 simp[fC,dW,dC,eT,aBI,bE,cQ]
theorem wF(H:AH):(fC t nv mv nx (M.map cY.cells) Y T).P H↔(dC (eT t ⟨nv,T.limit,mv,nx,T.change⟩ (qH T Y) M :: aBI Y T)).P H:=by
 simp only[fC,dW,dC,aBI,List.mem_cons,forall_eq_or_imp];constructor
 ·rintro⟨a,b,c,d⟩
  exact⟨⟨a,by rw[uX];exact b,c⟩,d⟩
 ·rintro⟨⟨a,b,c⟩,d⟩
  exact⟨a,by rw[uX]at b;exact b,c,d⟩
theorem wG(h:Ow (fC t nv mv nx (M.map cY.cells) Y T) H):Ow (dC (eT t ⟨nv,T.limit,mv,nx,T.change⟩ (qH T Y) M :: aBI Y T)) H :=
 ⟨(wF H).1 h.holds,by rw[<- vX];exact h.lt,by rw[<- vX];exact h.nd⟩
theorem aHW(h:Ow (fC t nv mv nx (M.map cY.cells) Y T) H)(hn:M.length<2 ^ 62):pA H t ⟨nv,T.limit,mv,nx,T.change⟩ M :=
 eT.at_ ((wG h).part (k:=0) rfl).holds hn
theorem aFf(h:Ow (fC t nv mv nx (M.map cY.cells) Y T) H)(u:Upd (eT t ⟨nv,T.limit,mv,nx,T.change⟩ (qH T Y) M) (eT t ⟨nv,T.limit,mv',nx',T.change⟩ (qH T Y) M') H H'):
  Upd (fC t nv mv nx (M.map cY.cells) Y T) (fC t nv mv' nx' (M'.map cY.cells) Y T) H H' :=
 ((wG h).set (k:=0) rfl u).congr vX.symm vX.symm λH h=>(wF H).2 h
theorem S.pinfoldref16_Tree_BindT(hE:bF E)(h:Ow (fC t nv mv nx (M.map cY.cells) Y T) H)(hn:M.length<2 ^ 20)(hx:0<=nx/\nx<2 ^ 61)(root:Int)(q:aN)(hQ:∀ mv' H',Upd (fC t nv mv nx (M.map cY.cells) Y T) (fC t nv mv' (mO M nx root q).nx ((mO M nx root q).M.map cY.cells) Y T) H H'->Q (.tuple #[vi (mO M nx root q).n,vi (mO M nx root q).e]) H'):
  E.call 27 [ptr t 0,vi root,q.v] H Q:=by
 have o:=(wG h).part (k:=0) rfl;refine S.f61 hE t ⟨nv,T.limit,mv,nx,T.change⟩ (qH T Y) M o.holds o.nd hn hx root q λt' H' ht u =>?_;obtain⟨a,b,c,d⟩:=ht;obtain⟨n',l',m',x',c'⟩:=t';simp only at a b c d;subst a b c d;exact hQ m' H' (aFf h u)
end
end
section
theorem Tr.Did.limit{up:Bool}{T T':Tr}(h:T.Did up T'):T'.limit=T.limit:=by
 have htd:∀ (U:Tr) (n:BitVec 16),(U.tidy n).limit=U.limit:=λU n=>by unfold Tr.tidy;split<;>rfl
 have hdr:∀ (U:Tr) (n:BitVec 16) (s:aK) (d:Bool),(U.drop n s d).1.limit=U.limit:=λU n s d=>by
  unfold Tr.drop
  repeat' split
  all_goals try rfl
  rw[htd];rfl
 have hmv:∀ (U:Tr) (fr to n:BitVec 16) (s o:aK),(Tr.moved U fr s to o n).limit=U.limit:=λU fr to n s o=>by
  unfold Tr.moved;simp only
  split<;>rfl
 cases h
 ·unfold Tr.make
  repeat' split
  all_goals rfl
 ·unfold Tr.add
  repeat' split
  all_goals rfl
 ·exact hdr _ _ _ _
 ·unfold Tr.move
  split
  ·rfl
  split
  ·rfl
  split
  ·rfl
  split
  ·rfl
  split
  ·rfl
  rw[hmv]
  split
  ·exact hdr _ _ _ _
  ·rfl
 ·unfold Tr.hold
  repeat' split
  all_goals try rfl
  exact htd _ _
 ·unfold Tr.write
  repeat' split
  all_goals rfl
 ·unfold Tr.cut
  repeat' split
  all_goals rfl
 ·rfl
def aKM:aX:=⟨0,⟨0,0#16⟩,1#16,0⟩
structure GI(k:Int)(T:Tr)(M:List aX)(nx l:Int):Prop where
 k0:0<=k
 k1:k<=900
 wf:T.WF
 kd:T.KD
 ord:T.Order
 tidy:T.Tidy
 lim:T.limit<=l
 hb:T.HB (2*k)
 c0:0<=T.change
 c1:T.change<=2*k
 pin:nE M nx k
 top:lC M 0=some aKM
 mnt:∀ m∈M,(T.node m.root).kind=2#8/\(m.id=0->m=aKM)/\(m.id≠0->1<=(T.node m.root).held/\(T.node m.at_.i).kind=2#8/\1<=(T.node m.at_.i).held/\0<=m.at_.m/\m.at_.m<=2)
section
variable {T T':Tr}{M:List aX}{nx k l:Int}
theorem GI.mono(g:GI k T M nx l){k':Int}(h:k<=k')(h1:k'<=900):GI k' T M nx l :=
 { g with k0:=by have:=g.k0;omega,k1:=h1,hb:=g.hb.mono (by omega),c1:=by have:=g.c1;omega,pin:=g.pin.mono h }
theorem GI.stay(g:GI k T M nx l)(s:T.Stay T')(wf:T'.WF)(kd:T'.KD)(ord:T'.Order)(ti:T'.Tidy)(lim:T'.limit<=l){k':Int}(hk:k<=k')(h1:k'<=900)(hb:T'.HB (2*k'))(c0:0<=T'.change)(c1:T'.change<=2*k'):GI k' T' M nx l where
 k0:=by have:=g.k0;omega
 k1:=h1
 wf:=wf
 kd:=kd
 ord:=ord
 tidy:=ti
 lim:=lim
 hb:=hb
 c0:=c0
 c1:=c1
 pin:=g.pin.mono hk
 top:=g.top
 mnt:=λm hm=>by
  obtain⟨a,b,c⟩:=g.mnt m hm;refine⟨?_,b,λh0 =>?_⟩
  ·by_cases h0:m.id=0
   ·rw[b h0];exact wf.root.1
   ·obtain⟨c1,_⟩:=c h0
    rw[(s m.root (by rw[a];decide) c1).1];exact a
  ·obtain⟨c1,c2,c3,c4⟩:=c h0
   have h1:=s m.root (by rw[a];decide) c1
   have h2:=s m.at_.i (by rw[c2];decide) c3
   exact⟨by omega,by rw[h2.1];exact c2,by omega,c4⟩
theorem GI.did(g:GI k T M nx l)(d:T.Did true T')(wf:T'.WF)(cb:T.CB T')(hb:T'.HB (2*k+1))(h1:k+1<=900):GI (k+1) T' M nx l:=by
 have hc0:=g.c0;have hc1:=g.c1;exact g.stay (d.stay g.wf) wf (d.kd g.kd) (d.order g.wf g.ord) (d.tidy g.tidy g.wf) (by rw[d.limit];exact g.lim) (by omega) h1 (hb.mono (by omega)) (by have:=cb.1;omega) (by have:=cb.2;omega)
theorem aBp{l:List aX}{x:aX}{id:Int}{m:aX}(h:lC l id=some m):lC (l++[x]) id=some m:=by
 unfold lC at h ⊢;rw[List.find?_append,h];rfl
theorem GI.new(limit l:Int)(hl:1<=l/\limit<=l):GI 0 (Tr.new limit) jM 1 l where
 k0:=Int.le_refl _
 k1:=by decide
 wf:=Tr.new_wf limit
 kd:=Tr.KD.new limit
 ord:=Tr.Order.new limit
 tidy:=Tr.Tidy.new limit
 lim:=by show min (max limit 1) 256<=l;omega
 hb:=Tr.HB.new limit
 c0:=Int.le_refl _
 c1:=Int.le_refl _
 pin:=aKc
 top:=rfl
 mnt:=λm hm=>by
  simp[jM]at hm;subst hm;exact⟨(Tr.new_wf limit).root.1,λ_=>rfl,λh=>(h rfl).elim⟩
theorem GI.bind(g:GI k T M nx l)(h1:k+1<=900)(root:BitVec 16)(p:aG)(hp:0<=p.m/\p.m<=2)(hr:(T.node root).kind=2#8)(ha:(T.node p.i).kind=2#8)(ok:(dJ M nx root p).e=0):
  GI (k+1) ((T.hold root true).1.hold p.i true).1 (dJ M nx root p).T (dJ M nx root p).nx l:=by
 have s1:T.Stay (T.hold root true).1 := .hold root;have s2:(T.hold root true).1.Stay ((T.hold root true).1.hold p.i true).1 := .hold p.i;have w1:=g.wf.hold root true;have w2:=w1.hold p.i true;have hk0:=g.k0;have hc0:=g.c0;have hc1:=g.c1;have b1:=g.hb.hold (by omega) root true
 have b2:=b1.hold (by omega) p.i true
 have e1:(T.hold root true).1=T.upd root (Nd.addH 1):=by
  unfold Tr.hold;rw[if_neg (by rw[hr];decide),if_pos rfl]
 have n1:∀ m,(T.hold root true).1.node m=if m=root then Nd.addH 1 (T.node root) else T.node m:=λm=>by
  rw[e1,Tr.node_upd (by rw[hr];decide)]
 have ha1:((T.hold root true).1.node p.i).kind=2#8:=by
  rw[n1];split
  ·exact hr
  ·exact ha
 have e2:((T.hold root true).1.hold p.i true).1=(T.hold root true).1.upd p.i (Nd.addH 1):=by
  show(Tr.hold _ _ _).1=_
  rw[Tr.hold,if_neg (by rw[ha1];decide),if_pos rfl]
 have n2:∀ m,((T.hold root true).1.hold p.i true).1.node m=if m=p.i then Nd.addH 1 ((T.hold root true).1.node p.i) else(T.hold root true).1.node m:=λm=>by
  rw[e2,Tr.node_upd (by rw[ha1];decide)]
 have q1:=g.wf.held root;have q2:=g.wf.held p.i
 have hr2:(((T.hold root true).1.hold p.i true).1.node root).kind=2#8/\1<=(((T.hold root true).1.hold p.i true).1.node root).held:=by
  rw[n2]
  split
  ·rename_i e
   refine⟨ha1,?_⟩
   show 1<=((T.hold root true).1.node p.i).held+1
   have:=w1.held p.i;omega
  ·rw[n1,if_pos rfl]
   refine⟨hr,?_⟩
   show 1<=(T.node root).held+1
   omega
 have ha2:(((T.hold root true).1.hold p.i true).1.node p.i).kind=2#8/\1<=(((T.hold root true).1.hold p.i true).1.node p.i).held:=by
  rw[n2,if_pos rfl];refine⟨ha1,?_⟩
  show 1<=((T.hold root true).1.node p.i).held+1
  have:=w1.held p.i;omega
 have c1:(T.hold root true).1.change=T.change:=by rw[e1];rfl
 have c2:((T.hold root true).1.hold p.i true).1.change=T.change:=by rw[e2];exact c1
 have l1:(T.hold root true).1.limit=T.limit:=by rw[e1];rfl
 have l2:((T.hold root true).1.hold p.i true).1.limit=T.limit:=by rw[e2];exact l1
 have kd:=(g.kd.hold gE root true).hold gE p.i true;have o2:=(g.ord.step (.hold root true)).step (.hold p.i true);have pin:=g.pin.bind root p;have base:=g.stay (s1.trans s2) w2 kd o2 ((g.tidy.hold g.wf root true).hold w1 p.i true) (by rw[l2];exact g.lim) (k':=k+1) (by omega) h1 (b2.mono (by omega)) (by rw[c2];exact hc0) (by rw[c2];omega)
 have hT:(dJ M nx root p).T=M++[⟨nx,p,root,0⟩]:=by
  unfold dJ at ok ⊢
  split at ok
  ·simp at ok
  ·rename_i h
   rw[if_neg h]
   split at ok
   ·simp at ok
   ·rename_i h
    rw[if_neg h]
    split at ok
    ·simp at ok
    ·rename_i h
     rw[if_neg h]
 refine { base with pin:=pin,top :=?_,mnt:=λm hm =>?_ }
 ·rw[hT];exact aBp g.top
 ·rw[hT]at hm
  rcases List.mem_append.1 hm with hm | hm
  ·exact base.mnt m hm
  ·simp only[List.mem_singleton]at hm
   subst hm;have:=g.pin.nx0;exact⟨hr2.1,λh=>by simp only at h;omega,λ_=>⟨hr2.2,ha2.1,ha2.2,hp⟩⟩
end
end
section
set_option maxRecDepth 20000
structure fE where
 kind:BitVec 8
 act:hG
 root:BitVec 8
 seen:BitVec 8
 link:BitVec 8
def fE.cells(x:fE):List Value:=u8 x.kind :: (x.act.cells++[u8 x.root,u8 x.seen,u8 x.link])
abbrev aCX:Sh := .struct [.int .u8,aIw,.int .u8,.int .u8,.int .u8]
theorem SV.gact{H:AH}{cs:List Value}(h:SV H aCX cs):∃ x:fE,cs=x.cells/\x.act.ok H:=by
 obtain⟨c0,e0,rfl,h0,c1,e1,rfl,h1,c2,e2,rfl,h2,c3,e3,rfl,h3,c4,e4,rfl,h4,rfl⟩:=h;obtain⟨x0,rfl⟩:=h0.u8;obtain⟨x1,rfl,ok⟩:=SV.act h1;obtain⟨x2,rfl⟩:=h2.u8;obtain⟨x3,rfl⟩:=h3.u8;obtain⟨x4,rfl⟩:=h4.u8;exact⟨⟨x0,x1,x2,x3,x4⟩,by simp[fE.cells],ok⟩
theorem rE.gacts{H:AH}{v:Value}(h:rE H (.slice 14 aCX) v):∃ l:List fE,Rows H 14 v (l.map fE.cells)/\l.length<=9223372036854775807/\∀ x∈l,x.act.ok H:=rE.rowsOf (λ_ h=>SV.gact h) h
theorem nS:([(.int .u8 0),(.int .u8 0),(.int .u8 0),(.int .u8 0),(.int .u8 0),(.int .u8 0),(.string ⟨#[]⟩),vi 0,(.slice none 0 0),(.bool false),(.bool false),(.int .u8 0),(.int .u8 0),(.int .u8 0)]:List Value)=(fE.mk 0#8 (hG.mk 0#8 0#8 0#8 0#8 0#8 [] 0 aZ [] false false) 0#8 0#8 0#8).cells:=rfl
theorem fE.len(x:fE):x.cells.length=14:=rfl
theorem fE.all_plain(x:fE)(h:plain1 x.act.bytes=true):x.cells.all plain1=true:=by
 have:=x.act.all_plain h;simp only[fE.cells,List.all_cons,List.all_append,this,List.all_nil,Bool.and_true,Bool.true_and];rfl
theorem xY{H:AH}{x:fE}(hp:plain1 x.act.bytes=true)(z:fE):storeN 14 (ptr H.next 0) (.agg x.cells.toArray) (H.new (.cells z.cells none))=some (H.new (.cells x.cells none)):=by
 rw[bJ,AH.get_new_self];have hs:AM.splice z.cells 0 x.cells=x.cells:=rfl;simp only[List.size_toArray,List.toList_toArray,fE.len,fE.all_plain x hp,Nat.zero_add,Nat.le_refl,and_self,if_true,hs,AH.new_put]
section
variable {X:List Res}{E:Sy}{H0 H H' H'':AH}{Q:Value->AH->Prop}{w t:Nat}{T T':Tr}{M M':List aX}{nx nx' k l:Int}
def mW(l:List fE):Bool:=l.all λx=>decide (x.act.any.length<=200)&&decide (x.act.bl.length<=200)
theorem S.f49(hE:bF E)(v:Value)(l:List fE)(hv:Rows H 14 v (l.map fE.cells))(hll:l.length<=9223372036854775807)(hok:∀ x∈l,x.act.ok H)(hQ:∀ H',Ext H H'->Q (vb (mW l)) H'):E.call 5 [v] H Q:=by
 apply hE.f49;have hl:=hv.lenSlc;rw[List.length_map]at hl;simp only[F.f49,hl,aL,aD];refine bY.count l.length (λj ls H'=>ls=[v,vi l.length,vi j]/\Ext H H'/\mW (l.take j)=true) ?_ ⟨rfl,Ext.refl H,rfl⟩;rintro j _ H1 X hj hX ⟨rfl,e1,hn⟩
 by_cases hjl:j<l.length
 ·have hjl':(j:Int)<l.length:=by omega
  have hX:=hX hjl;have hjj:=cS (i:=j) (by omega)
  obtain⟨b,o,p1,p2⟩:=(hv.mono e1).ix (i:=j) (by simpa using hjl)
  rw[List.getElem_map]at p2;have hmem:=List.getElem_mem hjl;have hx:=(hok l[j] hmem).mono e1;have htk:l.take (j+1)=l.take j++[l[j]]:=by rw[List.take_succ,List.getElem?_eq_getElem hjl];rfl
  have hno:¬ (l[j].act.any.length<=200/\l[j].act.bl.length<=200)->mW l=false:=by
   intro h;unfold mW;rw[List.all_eq_false];refine⟨l[j],hmem,?_⟩
   simpa using h
  have hyes:l[j].act.any.length<=200->l[j].act.bl.length<=200->mW (l.take (j+1))=true:=by
   intro h1 h2;unfold mW at hn ⊢;rw[htk,List.all_append,hn];simp[h1,h2]
  generalize l[j]=x at *;generalize hj1:j+1=j1 at *;have hlo:aH 14 (ptr b o) H1=some (.agg x.cells.toArray):=by rw[aQ,p2];rfl
  have hst:=xY (H:=H1) (nY hx.bytes) (fE.mk 0#8 (hG.mk 0#8 0#8 0#8 0#8 0#8 [] 0 aZ [] false false) 0#8 0#8 0#8);have hx2:Ext H1 (H1.new (.cells x.cells none)):=(Ext.refl H1).new _;have hb2:=AH.get_new_self H1 (.cells x.cells none);have c6:x.cells[6]? = some (str x.act.any):=rfl;have c8:x.cells[8]? = some x.act.bytes:=rfl;have hbl:=hx.bytes.lenSlc;rw[cC]at hbl
  by_cases a1:200<x.act.any.length
  ·have a1':(200:Int)<x.act.any.length:=by omega
   have hQ:=hQ _ (e1.trans hx2);rw[hno (by omega)]at hQ
   simp only[F.f49_l1,bS,hjl',decide_true,p1,hlo,bD,nS,hst,hb2,c6,dN,bL,gt_iff_lt,a1',aI];exact hQ
  have a1':¬ (200:Int)<x.act.any.length:=by omega
  by_cases a2:200<x.act.bl.length
  ·have a2':(200:Int)<x.act.bl.length:=by omega
   have hQ:=hQ _ (e1.trans hx2);rw[hno (by omega)]at hQ
   simp only[F.f49_l1,bS,hjl',decide_true,p1,hlo,bD,nS,hst,hb2,c6,c8,dN,bL,gt_iff_lt,a1',a2',decide_false,hbl,aI];exact hQ
  have a2':¬ (200:Int)<x.act.bl.length:=by omega
  simp only[F.f49_l1,bS,hjl',decide_true,p1,hlo,bD,nS,hst,hb2,c6,c8,dN,bL,gt_iff_lt,a1',a2',decide_false,hbl,hjj,aI];exact hX _ _ ⟨rfl,e1.trans hx2,hyes (by omega) (by omega)⟩
 ·have hjl':¬ (j:Int)<l.length:=by omega
  have:j=l.length:=by omega
  subst this;rw[List.take_length]at hn;have hQ:=hQ _ e1;rw[hn]at hQ;simp only[F.f49_l1,bS,hjl',decide_false,aI];exact hQ
def kN:List aK:=[[97],[47,97],[46,46,47,98],[98,47,99],[47],[46],[46,46],[47,98,47,46,46,47,97],[102],[97,47],[110,111,116,104,105,110,103],[47,97,47,98,47,99]]
theorem S.f52(hE:bF E)(hQ:∀ v H',Ext H H'->Rows H' 1 v (cL kN)->Q v H'):E.call 70 [] H Q:=by
 apply hE.f52
 have hb:=fJ 12 1 [str []] [(0,str [97]),(1,str [47,97]),(2,str [46,46,47,98]),(3,str [98,47,99]),(4,str [47]),(5,str [46]),(6,str [46,46]),(7,str [47,98,47,46,46,47,97]),(8,str [102]),(9,str [97,47]),(10,str [110,111,116,104,105,110,103]),(11,str [47,97,47,98,47,99])] (kN.map str) rfl rfl rfl rfl (by
   intro v hv;obtain⟨s,_,rfl⟩:=List.mem_map.1 hv
   rfl)
 have hb:buildS 12 1 #[(.string ⟨#[]⟩)] [(0,(.string ⟨#[97]⟩)),(1,(.string ⟨#[47,97]⟩)),(2,(.string ⟨#[46,46,47,98]⟩)),(3,(.string ⟨#[98,47,99]⟩)),(4,(.string ⟨#[47]⟩)),(5,(.string ⟨#[46]⟩)),(6,(.string ⟨#[46,46]⟩)),(7,(.string ⟨#[47,98,47,46,46,47,97]⟩)),(8,(.string ⟨#[102]⟩)),(9,(.string ⟨#[97,47]⟩)),(10,(.string ⟨#[110,111,116,104,105,110,103]⟩)),(11,(.string ⟨#[47,97,47,98,47,99]⟩))]=some (.cells (kN.map str) none,eA 12 12):=by
  simpa[kN] using hb
 simp only[F.f52,hb,AM.cX,eN,aL];refine hQ _ _ ((Ext.refl H).new _) (Rows.made (f:=none) (by rw[AH.get_new_self];rfl) (.inl rfl) rfl ?_)
 intro r hr;obtain⟨s,_,rfl⟩:=List.mem_map.1 hr
 rfl
def GwO(X:List Res)(H0 H:AH)(w t:Nat)(T:Tr)(M:List aX)(nx:Int):Prop:=∃ nv mv Y,WkO (fC t nv mv nx (mF M) Y T :: X) H0 H w T M nx/\Y.length=T.N.length/\T.N.length<=60000
theorem GwO.ext(h:GwO X H0 H w t T M nx):Ext H0 H:=by obtain⟨_,_,_,h,_⟩:=h;exact h.ext
theorem GwO.mono(h:GwO X H0 H w t T M nx)(e:Ext H H'):GwO X H0 H' w t T M nx:=by obtain⟨nv,mv,Y,h,a,b⟩:=h;exact⟨nv,mv,Y,h.mono e,a,b⟩
theorem GwO.at_(h:GwO X H0 H w t T M nx):lU H w T M:=by obtain⟨nv,mv,Y,h,a,b⟩:=h;exact h.at_
theorem GwO.box(h:GwO X H0 H w t T M nx)(c:List Value):GwO (X++[bE H.next c]) H0 (H.new (.cells c none)) w t T M nx:=by obtain⟨nv,mv,Y,h,a,b⟩:=h;exact⟨nv,mv,Y,h.box c,a,b⟩
theorem GwO.drop{r:Res}(h:GwO (X++[r]) H0 H w t T M nx):GwO X H0 H w t T M nx:=by obtain⟨nv,mv,Y,h,a,b⟩:=h;exact⟨nv,mv,Y,WkO.drop (X:=fC t nv mv nx (mF M) Y T :: X) h,a,b⟩
theorem GwO.held{b:Nat}{c:List Value}(h:GwO (X++[bE b c]) H0 H w t T M nx):H.get b = .cells c none:=by obtain⟨nv,mv,Y,h,_⟩:=h;exact WkO.held (X:=fC t nv mv nx (mF M) Y T :: X) h
theorem GwO.put{b:Nat}{c:List Value}(h:GwO (X++[bE b c]) H0 H w t T M nx)(c':List Value):GwO (X++[bE b c']) H0 (H.put b (.cells c' none)) w t T M nx:=by obtain⟨nv,mv,Y,h,a,b⟩:=h;exact⟨nv,mv,Y,WkO.put (X:=fC t nv mv nx (mF M) Y T :: X) h c',a,b⟩
theorem aDy(hE:bF E){c:Nat}{x:hG}(h:GwO (X++[bE c x.cells]) H0 H w t T M nx)(g:GI k T M nx l)(hk:k+1<=900)(hx:x.ok H0)(hl:x.any.length<=200/\x.bl.length<=200)(hraw:x.raw=false)(hup:x.kind % 15#8=11#8->x.flag=true){av nv:Value}{j:Nat}(hj:j<2 ^ 62){X0:List Value->AH->Prop}(next:∀ T' H',GwO X H0 H' w t T' M nx->GI (k+1) T' M nx l->X0 [ptr w 0,ptr t 0,av,nv,vi ((j+1:Nat):Int)] H'):
  F.f50_j2 E Q X0 (ptr w 0) (ptr t 0) (ptr c 0) av nv (vi j) H:=by
 have hb:=h.held;have hlo:aH 10 (ptr c 0) H=some (.agg x.cells.toArray):=by rw[aQ,hb,oN _ _ 10 rfl];rfl
 obtain⟨rv,mv,Y,h,hyl,hyf⟩:=h;obtain⟨p,q,hw,_⟩:=h.open_;obtain⟨p',q',v,m,L,h2,back⟩:=h.two hyl hyf;have hw2:=h2.ow.holds (bE w [ptr p' 0,ptr q' 0]) (by simp)
 have hw2:H.get w = .cells [ptr p' 0,ptr q' 0] none:=hw2;have hjj:=cS (i:=j) (by omega)
 have hk0:=g.k0;have hc0:=g.c0;have hc1:=g.c1;generalize hj1:j+1=j1 at *;simp only[F.f50_j2,hw2,hlo,aI];refine S.f45 hE h2 g.wf g.hb ⟨by omega,by omega⟩ ⟨by omega,by omega⟩ hx hl hraw hup λL' nv' Y' T' H' ha hd =>?_
 simp only[hjj,aI];have ho:=back _ _ _ _ _ _ ha.two;have hg:GwO (X++[bE c x.cells]) H0 H' w t T' M nx:=⟨nv',mv,Y',ho,ha.two.len,ha.two.fit⟩;exact next T' H' hg.drop (g.did hd ha.wf ha.cb ha.hb hk)
end
end
section
set_option maxRecDepth 20000
section
variable {X:List Res}{E:Sy}{H0 H H' H'':AH}{Q:Value->AH->Prop}{w t:Nat}{T T':Tr}{M M':List aX}{nx nx' k l:Int}
theorem aEQ{root:BitVec 16}{p:aG}(h:(dJ M nx root p).e≠0):(dJ M nx root p).T=M/\(dJ M nx root p).nx=nx:=by
 unfold dJ at h ⊢
 split
 ·exact⟨rfl,rfl⟩
 ·rename_i h1
  rw[if_neg h1]at h
  split
  ·exact⟨rfl,rfl⟩
  ·rename_i h2
   rw[if_neg h2]at h
   split
   ·exact⟨rfl,rfl⟩
   ·rename_i h3
    rw[if_neg h3]at h;exact(h rfl).elim
theorem aDJ(hE:bF E){a c:Nat}{z:fE}{x:hG}(h:GwO ((X++[bE a z.cells])++[bE c x.cells]) H0 H w t T M nx)(g:GI k T M nx l)(hk:k+1<=900)(hx:x.ok H0)(hl:x.any.length<=200/\x.bl.length<=200)(hraw:x.raw=false)(hup:x.kind % 15#8=11#8->x.flag=true){av nv:Value}{j:Nat}(hj:j<2 ^ 62){X0:List Value->AH->Prop}(next:∀ T' H',GwO X H0 H' w t T' M nx->GI (k+1) T' M nx l->X0 [ptr w 0,ptr t 0,av,nv,vi ((j+1:Nat):Int)] H'):
  F.f50_j1 E Q X0 (ptr w 0) (ptr t 0) (ptr a 0) (ptr c 0) av nv (vi j) H:=by
 have hb:=h.held;have ha:=h.drop.held;have c0:x.cells[0]? = some (u8 x.kind):=rfl;have z13:z.cells[13]? = some (u8 z.link):=rfl;have r1:aA .rem (u8 x.kind) (.int .u8 15)=some (u8 (x.kind % 15#8)):=oG _ 15#8 (by decide)
 have e1:aA .eql (u8 (x.kind % 15#8)) (.int .u8 3)=some (vb (decide (x.kind % 15#8=3#8))):=fH _ 3#8;simp only[F.f50_j1,hb,c0,r1,e1,aI]
 by_cases h3:x.kind % 15#8=3#8
 ·simp only[h3,decide_true,ha,z13,kO,aI]
  refine S.f52 hE λv1 H1 x1 s1 =>?_;refine⟨by rw[aE,aE,x1.cells ha,ha],?_⟩
  refine S.f52 hE λv2 H2 x2 s2 =>?_;refine⟨by rw[aE,aE,x2.cells (x1.cells ha),ha],?_⟩
  have l2:AM.lenSlc v2=some (vi ((12:Nat):Int)):=s2.lenSlc;have hlen:(cL kN).length=12:=rfl;have hlt:z.link.toNat % 12<(cL kN).length:=by rw[hlen];exact Nat.mod_lt _ (by omega)
  obtain⟨b,o,p1,p2⟩:=(s1.mono x2).ix hlt;obtain⟨s,hs,he⟩:=List.mem_map.1 (List.getElem_mem hlt);rw[<- he]at p2
  have p3:(H2.get b).cell o=some (str s):=by
   have:=eG p2 (j:=0) (by omega)
   simpa using this
  have hsl:s.length<=120:=by
   have:∀ s∈kN,s.length<=120:=by decide
   exact this s hs
  have h2:=(h.mono x1).mono x2
  have hst:aR (ptr c 5) (str s) H2=some (H2.put c (.cells ({ x with any:=s }:hG).cells none)):=by
   rw[aO,if_pos (show plain1 (str s)=true from rfl),h2.held];have q1:x.cells.length=10:=rfl;have q2:x.cells.set 5 (str s)=({ x with any:=s }:hG).cells:=rfl
   simp only[q1,q2,show(5<10)=True from by simp,if_true]
  simp only[l2,kW z.link.toNat 12 (by omega),p1,p3,hst,aI]
  exact aDy hE (h2.put ({ x with any:=s }:hG).cells) g hk ⟨by show s.length<=_;omega,hx.n,hx.bytes,hx.bl⟩ ⟨by show s.length<=200;omega,hl.2⟩ hraw hup hj λT' H' h' g'=>next T' H' h'.drop g'
 ·simp only[h3,decide_false,aI]
  exact aDy hE h g hk hx hl hraw hup hj λT' H' h' g'=>next T' H' h'.drop g'
theorem aHC(hE:bF E){a b:BitVec 16}{c:Nat}(h:GwO (X++[bE c [vi a.toNat,vi b.toNat]]) H0 H w t T M nx)(wf:T.WF){B:Int}(hb:T.HB B)(hB:0<=B/\B<1000000){av nv:Value}{j:Nat}(hj:j<2 ^ 62){X0:List Value->AH->Prop}(next:∀ H',GwO X H0 H' w t ((T.hold a true).1.hold b true).1 M nx->X0 [ptr w 0,ptr t 0,av,nv,vi ((j+1:Nat):Int)] H'):
  lp8 (F.f50_l2 E Q X0) [ptr w 0,ptr t 0,av,nv,vi j,slc c 0 2 2,vi 2,vi 0] H:=by
 have hjj:=cS (i:=j) (by omega)
 generalize hj1:j+1=j1 at *
 have one:∀ {T:Tr} {H:AH} {B:Int} (n:BitVec 16) (Q1:Value->AH->Prop),GwO (X++[bE c [vi a.toNat,vi b.toNat]]) H0 H w t T M nx->T.WF->T.HB B->B<1100000->(∀ H',GwO (X++[bE c [vi a.toNat,vi b.toNat]]) H0 H' w t (T.hold n true).1 M nx->Q1 (.tuple #[]) H') ->
   ∃ p q,H.get w = .cells [ptr p 0,ptr q 0] none/\E.call 72 [ptr p 0,u16 n,vb true] H λ_ H1=>E.call 73 [ptr t 0,vi (n.toNat:Int),vb true] H1 λ_ H2=>Q1 (.tuple #[]) H2:=by
  intro T H B n Q1 h wf hb hB hQ1;obtain⟨rv,mv,Y,h,hyl,hyf⟩:=h;obtain⟨p',q',v,m,L,h2,back⟩:=h.two hyl hyf;have hw2:=h2.ow.holds (bE w [ptr p' 0,ptr q' 0]) (by simp)
  have hn:=hb n;refine⟨p',q',hw2,?_⟩;refine cT.cHold hE h2 wf n true (by omega) λL1 H1 h3 =>?_
  refine cT.rHold hE h3 wf n true (by omega) λY2 H2 h4 =>?_
  exact hQ1 _ ⟨rv,mv,Y2,back _ _ _ _ _ _ h4,h4.len,h4.fit⟩
 have conv:∀ x:BitVec 16,bI .u16 (vi (x.toNat:Int))=some (u16 x):=λx=>by
  rw[mH]
  congr 2
  rw[BitVec.ofInt_natCast,BitVec.ofNat_toNat,BitVec.setWidth_eq]
 have i0:vi 0=vi ((0:Nat):Int):=rfl;rw[i0];refine bY.count 2 (λi ls H'=>ls=[ptr w 0,ptr t 0,av,nv,vi j,slc c 0 2 2,vi 2,vi i]/\((i=0/\GwO (X++[bE c [vi a.toNat,vi b.toNat]]) H0 H' w t T M nx)\/(i=1/\GwO (X++[bE c [vi a.toNat,vi b.toNat]]) H0 H' w t (T.hold a true).1 M nx)\/(i=2/\GwO (X++[bE c [vi a.toNat,vi b.toNat]]) H0 H' w t ((T.hold a true).1.hold b true).1 M nx))) ?_ ⟨rfl,.inl ⟨rfl,h⟩⟩;rintro i _ H1 X1 hi hX ⟨rfl,(⟨rfl,h1⟩ | ⟨rfl,h1⟩ | ⟨rfl,h1⟩)⟩
 ·have hX:=hX (by omega)
  have p1:aP 1 (slc c 0 2 2) (vi ((0:Nat):Int))=some (ptr c 0):=rfl;have p2:=h1.held;obtain⟨p,q,hw,hc⟩:=one a (λv H=>X1 [ptr w 0,ptr t 0,av,nv,vi j,slc c 0 2 2,vi 2,vi ((1:Nat):Int)] H) h1 wf hb (by omega) λH' h'=>hX _ _ ⟨rfl,.inr (.inl ⟨rfl,h'⟩)⟩
  have hlt:(((0:Nat):Int)<2)=True:=by simp
  have inc:aA .add (vi ((0:Nat):Int)) (vi 1)=some (vi ((1:Nat):Int)):=cS (i:=0) (by omega)
  simp only[F.f50_l2,bS,hlt,decide_true,p1,p2,hw,conv,inc,aI]
  exact hc
 ·have hX:=hX (by omega)
  have p1:aP 1 (slc c 0 2 2) (vi ((1:Nat):Int))=some (ptr c 1):=rfl;have p2:=h1.held;obtain⟨p,q,hw,hc⟩:=one b (λv H=>X1 [ptr w 0,ptr t 0,av,nv,vi j,slc c 0 2 2,vi 2,vi ((2:Nat):Int)] H) h1 (wf.hold a true) (hb.hold hB.1 a true) (by omega) λH' h'=>hX _ _ ⟨rfl,.inr (.inr ⟨rfl,h'⟩)⟩
  have hlt:(((1:Nat):Int)<2)=True:=by simp
  have inc:aA .add (vi ((1:Nat):Int)) (vi 1)=some (vi ((2:Nat):Int)):=cS (i:=1) (by omega)
  simp only[F.f50_l2,bS,hlt,decide_true,p1,p2,hw,conv,inc,aI]
  exact hc
 ·have hlt:(((2:Nat):Int)<2)=False:=by simp
  simp only[F.f50_l2,bS,hlt,decide_false,hjj,aI];exact next _ h1.drop
end
end
section
set_option maxRecDepth 20000
section
variable {X:List Res}{E:Sy}{H0 H H' H'':AH}{Q:Value->AH->Prop}{w t:Nat}{T T':Tr}{M M':List aX}{nx nx' k l:Int}
theorem aAb{p:aG}(h:gK T M p=true):(T.node p.i).kind=2#8:=by
 unfold gK at h;simp only[Bool.and_eq_true,decide_eq_true_eq]at h;exact h.2
theorem aEw(hE:bF E){b:Nat}{p:aG}(h:GwO (X++[bE b p.cells]) H0 H w t T M nx)(g:GI k T M nx l)(hk:k+1<=900)(root:BitVec 16)(hp:0<=p.m/\p.m<=2)(hr:(T.node root).kind=2#8)(ha:(T.node p.i).kind=2#8){av nv:Value}{j:Nat}(hj:j<2 ^ 62){X0:List Value->AH->Prop}(next:∀ T' M' nx' H',GwO X H0 H' w t T' M' nx'->GI (k+1) T' M' nx' l->X0 [ptr w 0,ptr t 0,av,nv,vi ((j+1:Nat):Int)] H'):
  opt (aF (ptr w 0)) λv42=>opt (aB v42 1) λv43=>opt (aC v43 H) λv44=>opt (bI .u16 (vi (root.toNat:Int))) λv45=>opt (aH 2 (ptr b 0) H) λv46 =>
  E.call 61 [v44,v45,v46] H λv47 H13 =>
  opt (ext v47 0) λv48=>opt (ext v47 1) λv49=>opt (aA .eql v49 (vi 0)) λv50 =>
  ifB v50 (
  opt (aH 2 (ptr b 0) H13) λv51 =>
  E.call 13 [v51] H13 λv52 H14 =>
  E.call 27 [(ptr t 0),(vi (root.toNat:Int)),v52] H14 λv53 H15 =>
  opt (aB (ptr b 0) 1) λv54=>opt (aC v54 H15) λv55=>opt (bI .i64 v55) λv56 =>
  mk (buildS 2 1 #[vi 0] [(0,(vi (root.toNat:Int))),(1,v56)]) H15 λv57 H16 =>
  opt (lenSlc v57) λv58 =>
  lp8 (F.f50_l2 E Q X0) [(ptr w 0),(ptr t 0),av,nv,(vi j),v57,v58,vi 0] H16) (
  opt (aA .add (vi j) (vi 1)) λv59 =>
  X0 [(ptr w 0),(ptr t 0),av,nv,v59] H13):=by
 have hb:=h.held;have hlo:∀ {H':AH},H'.get b = .cells p.cells none->aH 2 (ptr b 0) H'=some p.v:=λhh=>by rw[aQ,hh];rfl
 have conv:bI .u16 (vi (root.toNat:Int))=some (u16 root):=by
  rw[mH]
  congr 2
  rw[BitVec.ofInt_natCast,BitVec.ofNat_toNat,BitVec.setWidth_eq]
 have hjj:=cS (i:=j) (by omega)
 have hk0:=g.k0;generalize hj1:j+1=j1 at *;obtain⟨rv,mv,Y,h,hyl,hyf⟩:=h;obtain⟨pp,q,hw,_,⟨v,ht,hnd,back⟩⟩:=h.open_;simp only[hw,conv,hlo hb,aI]
 have ok':=(g.pin.bind root p).ok (by omega)
 refine S.f34 hE q v M nx ht hnd h.tab root p λv' H1 u1 =>?_;have h1:=back _ _ _ _ u1 ok';obtain⟨g1,g2,g3,g4⟩:=aCd g.pin root p;have hb1:=WkO.held (X:=fC t rv mv nx (mF M) Y T :: X) h1
 by_cases he:(dJ M nx root p).e=0
 ·have gb:=g.bind hk root p hp hr ha he
  simp only[he,aW,decide_true,hlo hb1,aI];refine S.f47 hE p λH2 e2 =>?_;have h2:=h1.mono e2;obtain⟨o2,back2⟩:=WkO.openX (k:=0) h2 (r:=fC t rv mv nx (mF M) Y T) rfl;have hnx:=g.pin.nx0;have hnx1:=g.pin.nx1;have hlen:=g.pin.len;refine S.pinfoldref16_Tree_BindT hE (M:=M.map aX.toI) o2 (by rw[List.length_map];omega) (by omega) _ _ λmv' H3 u3 =>?_
  rw[g1,g2]at u3;have h3:=back2 _ _ u3;have h3:WkO ((fC t rv mv' (dJ M nx root p).nx (mF (dJ M nx root p).T) Y T :: X)++[bE b p.cells]) H0 H3 w T (dJ M nx root p).T (dJ M nx root p).nx:=h3;have hb3:=h3.held;have c1:p.cells[1]? = some (u16 p.i):=rfl
  have hbs:buildS 2 1 #[vi 0] [(0,vi (root.toNat:Int)),(1,vi (p.i.toNat:Int))]=some (.cells [vi (root.toNat:Int),vi (p.i.toNat:Int)] none,eA 2 2):=fJ 2 1 [vi 0] [(0,vi (root.toNat:Int)),(1,vi (p.i.toNat:Int))] [vi (root.toNat:Int),vi (p.i.toNat:Int)] rfl rfl rfl rfl (by
   intro v hv;simp only[List.mem_cons,List.not_mem_nil,or_false]at hv;rcases hv with rfl | rfl<;>rfl)
  have l2:AM.lenSlc (slc H3.next 0 2 2)=some (vi 2):=rfl;simp only[hb3,c1,jH,hbs,l2,aI];have h4:GwO (X++[bE H3.next [vi (root.toNat:Int),vi (p.i.toNat:Int)]]) H0 (H3.new (.cells [vi (root.toNat:Int),vi (p.i.toNat:Int)] none)) w t T (dJ M nx root p).T (dJ M nx root p).nx:=⟨rv,mv',Y,WkO.box (X:=fC t rv mv' (dJ M nx root p).nx (mF (dJ M nx root p).T) Y T :: X) (WkO.drop (X:=fC t rv mv' (dJ M nx root p).nx (mF (dJ M nx root p).T) Y T :: X) h3) _,hyl,hyf⟩;refine aHC hE h4 g.wf g.hb ⟨by omega,by have:=g.k1;omega⟩ hj λH5 h5 =>?_
  rw[hj1];exact next _ _ _ _ h5 gb
 ·obtain⟨t1,t2⟩:=aEQ he
  rw[t1,t2]at h1;simp only[he,aW,decide_false,hjj,aI];exact next T M nx _ ⟨rv,mv,Y,WkO.drop (X:=fC t rv mv nx (mF M) Y T :: X) h1,hyl,hyf⟩ (g.mono (by omega) hk)
end
end
section
set_option maxRecDepth 20000
section
variable {X:List Res}{E:Sy}{H0 H H' H'':AH}{Q:Value->AH->Prop}{w t:Nat}{T T':Tr}{M M':List aX}{nx nx' k l:Int}
theorem aHc(hE:bF E){a:Nat}{z:fE}(h:GwO (X++[bE a z.cells]) H0 H w t T M nx)(g:GI k T M nx l)(hk:k+1<=900)(hx:z.act.ok H0)(hl:z.act.any.length<=200/\z.act.bl.length<=200){av nv:Value}{j:Nat}(hj:j<2 ^ 62){X0:List Value->AH->Prop}(next:∀ T' H',GwO X H0 H' w t T' M nx->GI (k+1) T' M nx l->X0 [ptr w 0,ptr t 0,av,nv,vi ((j+1:Nat):Int)] H'):
  opt (aB (ptr a 0) 1) λv10=>opt (aH 10 v10 H) λv11 =>
  bV [(.int .u8 0),(.int .u8 0),(.int .u8 0),(.int .u8 0),(.int .u8 0),(.string ⟨#[]⟩),vi 0,(.slice none 0 0),(.bool false),(.bool false)] H λv12 H3 =>
  opt (storeN 10 v12 v11 H3) λH4=>opt (aB v12 9) λv13=>opt (aR v13 (.bool false) H4) λH5 =>
  opt (aB v12 0) λv14=>opt (aC v14 H5) λv15=>opt (aA .rem v15 (.int .u8 15)) λv16=>opt (aA .eql v16 (.int .u8 11)) λv17 =>
  ifB v17 (
  opt (aB v12 8) λv18=>opt (aR v18 (.bool true) H5) λH6 =>
  F.f50_j1 E Q X0 (ptr w 0) (ptr t 0) (ptr a 0) v12 av nv (vi j) H6) (
  F.f50_j1 E Q X0 (ptr w 0) (ptr t 0) (ptr a 0) v12 av nv (vi j) H5):=by
 have ha:=h.held
 have hlo:aH 10 (ptr a 1) H=some (.agg z.act.cells.toArray):=by
  have hr:cZ.row (.cells z.cells none) 1 10=some z.act.cells:=by
   have h0:=oN z.cells none 14 rfl;exact mC h0 (j:=1) (m:=10) (by omega)
  rw[aQ,ha,hr];rfl
 have hst:=aEY (H:=H) (nY hx.bytes) (hG.mk 0#8 0#8 0#8 0#8 0#8 [] 0 aZ [] false false)
 have hs1:aR (ptr H.next 9) (.bool false) (H.new (.cells z.act.cells none))=some (H.new (.cells ({ z.act with raw:=false }:hG).cells none)):=by
  rw[aO,if_pos (show plain1 (.bool false)=true from rfl),AH.get_new_self];have h1:z.act.cells.length=10:=rfl;have h2:z.act.cells.set 9 (.bool false)=({ z.act with raw:=false }:hG).cells:=rfl
  simp only[h1,h2,show(9<10)=True from by simp,if_true,AH.new_put]
 have h5:=h.box ({ z.act with raw:=false }:hG).cells
 have hb5:=h5.held;have c0:({ z.act with raw:=false }:hG).cells[0]? = some (u8 z.act.kind):=rfl
 have r1:aA .rem (u8 z.act.kind) (.int .u8 15)=some (u8 (z.act.kind % 15#8)):=oG _ 15#8 (by decide)
 have e1:aA .eql (u8 (z.act.kind % 15#8)) (.int .u8 11)=some (vb (decide (z.act.kind % 15#8=11#8))):=fH _ 11#8;simp only[hlo,bD,aId,hst,hs1,hb5,c0,r1,e1,aI]
 by_cases h11:z.act.kind % 15#8=11#8
 ·have hs2:aR (ptr H.next 8) (.bool true) (H.new (.cells ({ z.act with raw:=false }:hG).cells none))=some ((H.new (.cells ({ z.act with raw:=false }:hG).cells none)).put H.next (.cells ({ z.act with raw:=false,flag:=true }:hG).cells none)):=by
   rw[aO,if_pos (show plain1 (.bool true)=true from rfl),AH.get_new_self];have h1:({ z.act with raw:=false }:hG).cells.length=10:=rfl
   have h2:({ z.act with raw:=false }:hG).cells.set 8 (.bool true)=({ z.act with raw:=false,flag:=true }:hG).cells:=rfl
   simp only[h1,h2,show(8<10)=True from by simp,if_true]
  have h6:=h5.put ({ z.act with raw:=false,flag:=true }:hG).cells
  simp only[h11,decide_true,hs2,aI];exact aDJ hE (x:={ z.act with raw:=false,flag:=true }) h6 g hk ⟨hx.any,hx.n,hx.bytes,hx.bl⟩ hl rfl (λ_=>rfl) hj next
 ·simp only[h11,decide_false,aI]
  exact aDJ hE (x:={ z.act with raw:=false }) h5 g hk ⟨hx.any,hx.n,hx.bytes,hx.bl⟩ hl rfl (λh=>(h11 h).elim) hj next
def fE.rootN(z:fE):BitVec 16:=BitVec.ofNat 16 (1+z.root.toNat % 8)
def fE.atP(z:fE):aG:=⟨((z.link % 3#8).toNat:Int),(1#8+z.seen % 8#8).setWidth 16⟩
theorem S.f50(hE:bF E)(h:GwO X H0 H w t T M nx)(g:GI k T M nx l)(hk:k+60<=900)(av:Value)(acts:List fE)(hv:Rows H0 14 av (acts.map fE.cells))(hll:acts.length<=9223372036854775807)(hok:∀ x∈acts,x.act.ok H0)(hlt:mW acts=true)(hQ:∀ T' M' nx' H',GwO X H0 H' w t T' M' nx'->GI (k+60) T' M' nx' l->Q (.tuple #[]) H'):E.call 33 [ptr w 0,ptr t 0,av] H Q:=by
 apply hE.f50;have hl:=hv.mono h.ext;have hl:=hl.lenSlc;rw[List.length_map]at hl;simp only[F.f50,hl,aI];have i0:vi 0=vi ((0:Nat):Int):=rfl;rw[i0];refine bY.count acts.length (λj ls H'=>j<=60/\∃ T' M' nx',ls=[ptr w 0,ptr t 0,av,vi acts.length,vi j]/\GwO X H0 H' w t T' M' nx'/\GI (k+j) T' M' nx' l) ?_ ⟨by omega,T,M,nx,rfl,h,by simpa using g⟩
 rintro j _ H1 X1 hj hX ⟨hj60,T,M,nx,rfl,h,g⟩
 by_cases hjl:j<acts.length
 rotate_left
 ·have hjl':¬ (j:Int)<acts.length:=by omega
  simp only[F.f50_l1,bS,hjl',decide_false,aI];exact hQ _ _ _ _ h (g.mono (by omega) hk)
 have hjl':(j:Int)<acts.length:=by omega
 have hX:=hX hjl;obtain⟨b,o,p1,p2⟩:=(hv.mono h.ext).ix (i:=j) (by simpa using hjl)
 rw[List.getElem_map]at p2;have hx:=hok acts[j] (List.getElem_mem hjl)
 have hxl:acts[j].act.any.length<=200/\acts[j].act.bl.length<=200:=by
  unfold mW at hlt;have:=List.all_eq_true.1 hlt _ (List.getElem_mem hjl)
  simpa using this
 generalize acts[j]=z at *;have hlo:aH 14 (ptr b o) H1=some (.agg z.cells.toArray):=by rw[aQ,p2];rfl
 have hst:=xY (H:=H1) (nY hx.bytes) (fE.mk 0#8 (hG.mk 0#8 0#8 0#8 0#8 0#8 [] 0 aZ [] false false) 0#8 0#8 0#8);have h2:=h.box z.cells;have hb2:=h2.held
 by_cases h60:j<60
 rotate_left
 ·have h60':(60:Int)<=j:=by omega
  simp only[F.f50_l1,bS,dL,hjl',h60',ge_iff_le,decide_true,p1,hlo,bD,nS,hst,aI];exact hQ _ _ _ _ h2.drop (g.mono (by omega) hk)
 have h60':¬ (60:Int)<=j:=by omega
 have next:∀ T' M' nx' H',GwO X H0 H' w t T' M' nx'->GI (k+j+1) T' M' nx' l->X1 [ptr w 0,ptr t 0,av,vi acts.length,vi ((j+1:Nat):Int)] H':=λT' M' nx' H' h' g' =>
  hX _ _ ⟨by omega,T',M',nx',rfl,h',g'.mono (by omega) (by omega)⟩
 have c0:z.cells[0]? = some (u8 z.kind):=rfl;have r1:aA .rem (u8 z.kind) (.int .u8 12)=some (u8 (z.kind % 12#8)):=oG _ 12#8 (by decide)
 have e1:aA .lss (u8 (z.kind % 12#8)) (.int .u8 10)=some (vb (decide (z.kind % 12#8<10#8))):=aAW _ 10#8
 by_cases h10:z.kind % 12#8<10#8
 ·have ha:=aHc (Q:=Q) hE h2 g (by omega) hx hxl (av:=av) (nv:=vi acts.length) (j:=j) (by omega) (X0:=X1) λT' H' h' g'=>next T' M nx H' h' g'
  simp only[F.f50_l1,bS,dL,hjl',h60',ge_iff_le,decide_true,decide_false,p1,hlo,bD,nS,hst,hb2,c0,r1,e1,h10,aI]at ha ⊢;exact ha
 generalize H1.new (.cells z.cells none)=H2 at *;have c11:z.cells[11]? = some (u8 z.root):=rfl;have c12:z.cells[12]? = some (u8 z.seen):=rfl;have c13:z.cells[13]? = some (u8 z.link):=rfl
 have hr8:(z.rootN.toNat:Int)=((1+z.root.toNat % 8:Nat):Int):=by
  unfold fE.rootN;rw[BitVec.toNat_ofNat,Nat.mod_eq_of_lt (by omega)]
 have a1:aA .add (vi 1) (vi ((z.root.toNat % 8:Nat):Int))=some (vi (z.rootN.toNat:Int)):=by
  rw[hr8];have:=eM (a:=1) (b:=((z.root.toNat % 8:Nat):Int)) (by omega) (by omega)
  rw[show((1+z.root.toNat % 8:Nat):Int)=1+((z.root.toNat % 8:Nat):Int) by omega]
  exact this
 have r8:aA .rem (vi (z.root.toNat:Int)) (vi 8)=some (vi ((z.root.toNat % 8:Nat):Int)):=kW z.root.toNat 8 (by omega)
 have r3:aA .rem (u8 z.link) (.int .u8 3)=some (u8 (z.link % 3#8)):=oG _ 3#8 (by decide)
 have r8':aA .rem (u8 z.seen) (.int .u8 8)=some (u8 (z.seen % 8#8)):=oG _ 8#8 (by decide)
 have a2:aA .add (.int .u8 1) (u8 (z.seen % 8#8))=some (u8 (1#8+z.seen % 8#8)):=aHo 1#8 _;have hbv:aV [(0,1),(1,1)] aG.zero.cells.toArray [(0,vi ((z.link % 3#8).toNat:Int)),(1,u16 ((1#8+z.seen % 8#8).setWidth 16))]=some z.atP.v:=rfl;have hz2:([vi 0,(.int .u16 0)]:List Value)=aG.zero.cells:=rfl;have hbv2:∀ n:BitVec 16,aV [(0,1),(1,1)] aG.zero.cells.toArray [(1,u16 n)]=some (aG.v ⟨0,n⟩):=λn=>rfl
 have conv:bI .u16 (vi (z.rootN.toNat:Int))=some (u16 z.rootN):=by
  rw[mH]
  congr 2
  rw[BitVec.ofInt_natCast,BitVec.ofNat_toNat,BitVec.setWidth_eq]
 have hst2:storeN 2 (ptr H2.next 0) z.atP.v (H2.new (.cells aG.zero.cells none))=some (H2.new (.cells z.atP.cells none)):=lO rfl rfl rfl;have h3:=h2.drop.box z.atP.cells
 have hpm:0<=z.atP.m/\z.atP.m<=2:=by
  have:(z.link % 3#8).toNat=z.link.toNat % 3:=by simp
  unfold fE.atP;simp only;omega
 generalize z.rootN=root at *;generalize hp:z.atP=p at *;have hjj:=cS (i:=j) (by omega)
 simp only[F.f50_l1,bS,dL,hjl',h60',ge_iff_le,decide_true,decide_false,p1,hlo,bD,nS,hst,hb2,c0,r1,e1,h10,c11,c12,c13,kO,r8,a1,r3,r8',a2,aEe,hz2,hbv,hst2,conv,aI]
 simp only[hz2,hst2,conv,hbv2,aI]
 have hlo3:∀ {H':AH},H'.get H2.next = .cells p.cells none->aH 2 (ptr H2.next 0) H'=some p.v:=λhh=>by rw[aQ,hh];rfl
 generalize H2.new (.cells p.cells none)=H3 at *;generalize H2.next=b3 at *;refine S.f130 hE h3.at_ ⟨0,root⟩ λH4 e4 =>?_;have h4:=h3.mono e4;cases hd:gK T M ⟨0,root⟩ with
 | false =>
  simp only[hjj,aI];exact next T M nx _ h4.drop (g.mono (by omega) (by omega))
 | true =>
  simp only[hlo3 h4.held,aI];refine S.f130 hE h4.at_ p λH5 e5 =>?_;have h5:=h4.mono e5;cases hd2:gK T M p with
  | false =>
   simp only[hjj,aI];exact next T M nx _ h5.drop (g.mono (by omega) (by omega))
  | true =>
   have hf:=aEw (Q:=Q) hE h5 g (by omega) root hpm (aAb hd) (aAb hd2) (av:=av) (nv:=vi acts.length) (j:=j) (by omega) (X0:=X1) λT' M' nx' H' h' g'=>next T' M' nx' H' h' g'
   simp only[aI]at hf ⊢;exact hf
theorem aFv(hE:bF E)(l:Int){Q:Value->Value->AH->Prop}(hQ:∀ w t H',GwO [] H H' w t (Tr.new l) jM 1->Q (ptr w 0) (ptr t 0) H'):
  E.call 31 [vi l] H λv1 H1=>E.call 32 [vi l] H1 λv2 H2=>Q v1 v2 H2:=by
 refine S.f129 hE l λw H1 h1 =>?_;refine S.f57 hE l λt nv mv Y H2 e2 h2 f2 =>?_;refine hQ w t H2 ⟨nv,mv,Y,?_,h2.len,h2.fit⟩;obtain⟨p,m,L,q,v,e,o,own,cov,tab⟩:=h1;have o2:=o.ext e2;have hm:mF jM=oA:=rfl;rw[hm]
 have perm:(fC t nv mv 1 oA Y (Tr.new l) :: tS p m L (Tr.new l) q v jM 1 w []).Perm (tS p m L (Tr.new l) q v jM 1 w (fC t nv mv 1 oA Y (Tr.new l) :: [])):=by
  show List.Perm (_ :: ([_,_,_]++[])) ([_,_,_]++_ :: [])
  exact List.perm_middle.symm
 have ho:Ow (dC (fC t nv mv 1 oA Y (Tr.new l) :: tS p m L (Tr.new l) q v jM 1 w [])) H2:=by
  refine⟨λr hr =>?_,λb hb =>?_,?_⟩
  ·rcases List.mem_cons.1 hr with rfl | hr
   ·exact h2.ow.holds
   ·exact o2.holds r hr
  ·have hb:b∈(fC t nv mv 1 oA Y (Tr.new l)).fp++(tS p m L (Tr.new l) q v jM 1 w []).flatMap Res.fp:=hb
   rcases List.mem_append.1 hb with hb | hb
   ·exact h2.ow.lt b hb
   ·exact(o2.fp b hb).2
  ·show((fC t nv mv 1 oA Y (Tr.new l)).fp++(tS p m L (Tr.new l) q v jM 1 w []).flatMap Res.fp).Nodup
   rw[List.nodup_append];refine⟨h2.ow.nd,o2.nd,λa ha b hb =>?_⟩;have h3:=f2 a ha;have h4:=o.lt b hb;omega
 refine⟨p,m,L,q,v,e.trans e2,ho.perm perm,λb hb =>?_,cov,tab⟩;have hb:=((perm.flatMap_right Res.fp).mem_iff).2 hb;rw[List.flatMap_cons,List.mem_append]at hb;rcases hb with hb | hb
 ·exact Nat.le_trans e.1 (f2 b hb)
 ·exact own b hb
theorem S.f48(hE:bF E)(av:Value)(acts:List fE)(hv:Rows H 14 av (acts.map fE.cells))(hll:acts.length<=9223372036854775807)(hok:∀ x∈acts,x.act.ok H)(hlt:mW acts=true)(hQ:∀ w t T' M' nx' H',GwO [] H H' w t T' M' nx'->GI 60 T' M' nx' 60->Q (.tuple #[ptr w 0,ptr t 0]) H'):E.call 6 [av] H Q:=by
 apply hE.f48;simp only[F.f48,aI];refine aFv (Q:=λv1 v2 H2=>E.call 33 [v1,v2,av] H2 λv3 H3=>Q (.tuple #[v1,v2]) H3) hE 60 λw t H1 h1 =>?_;refine S.f50 hE h1 (GI.new 60 60 ⟨by omega,by omega⟩) (by omega) av acts hv hll hok hlt λT' M' nx' H' h' g' =>?_
 exact hQ w t T' M' nx' H' h' g'
end
end
section
set_option maxRecDepth 20000
section
variable {E:Sy}{H H' H0 Z:AH}{Q:Value->AH->Prop}{w t:Nat}{T:Tr}{M:List aX}{L:List Res}{v:Value}
theorem Tr.ents_dir(wf:T.WF){a:BitVec 16}(hk:(T.node a).kind≠2#8):(T.node a).ents=[]:=by
 cases he:(T.node a).ents with
 | nil=>rfl
 | cons x l=>exact(hk (wf.ents a x.1 x.2 (by rw[he];exact List.mem_cons_self)).1).elim
end
end
section
set_option maxRecDepth 20000
abbrev aKu:=List (aK×BitVec 16)
end
section
set_option maxRecDepth 20000
section
variable {X:List Res}{E:Sy}{H H' H0 Z:AH}{Q:Value->AH->Prop}{w t:Nat}{T T':Tr}{M:List aX}{v v':Value}{nx:Int}
theorem GwO.frz(h:GwO X H0 H w t T M nx)(e:Ext H H'):GwO (X++[frR H.next H']) H0 H' w t T M nx:=by
 obtain⟨nv,mv,Y,h,a,b⟩:=h;exact⟨nv,mv,Y,h.frz e,a,b⟩
end
end
section
set_option maxRecDepth 20000
def lW(H:AH)(t:Nat)(T:Tr)(M:List aX):Prop:=∃ nv mv nx Y k,eD H t nv mv nx (mF M) Y T/\nE M nx k
section
variable {X:List Res}{E:Sy}{H0 H H' H'':AH}{Q:Value->AH->Prop}{w t s:Nat}{T T':Tr}{M M':List aX}{nx nx' k l:Int}
theorem lW.mono(h:lW H t T M)(e:Ext H H'):lW H' t T M:=by obtain⟨nv,mv,nx,Y,k,h,p⟩:=h;exact⟨nv,mv,nx,Y,k,h.mono e,p⟩
theorem lW.at_(h:lW H t T M):∃ u,pA H t u (M.map aX.toI):=by
 obtain⟨nv,mv,nx,Y,k,h,p⟩:=h;have:=p.len;exact⟨_,aHW (M:=M.map aX.toI) h.ow (by rw[List.length_map];omega)⟩
theorem lW.pinv(h:lW H t T M):∃ nx k,nE M nx k:=by obtain⟨nv,mv,nx,Y,k,h,p⟩:=h;exact⟨nx,k,p⟩
theorem lW.node(hE:bF E)(h:lW H t T M)(n:BitVec 16)(hQ:∀ b o y H',Ext H H'->vT H' b o (T.node n) y->Q (ptr b o) H'):E.call 26 [ptr t 0,vi (n.toNat:Int)] H Q:=by
 obtain⟨nv,mv,nx,Y,k,h,p⟩:=h;exact S.f73 hE h n λb o y H' e hn _=>hQ b o y H' e hn
theorem aEJ(M:List aX)(m:Int):decide (0<=rB M m)=(lC M m).isSome:=by
 unfold rB lC;rcases jJ (λx:aX=>decide (x.id=m)) M with ⟨h1,h2⟩ | ⟨j,hj,h1,h2,_,_⟩
 ·rw[h1,h2];rfl
 ·rw[h1,h2];simp
theorem S.rDir(hE:bF E)(h:lW H t T M)(p:aG)(hQ:∀ H',Ext H H'->Q (vb (gK T M p)) H'):E.call 25 [ptr t 0,p.toI.v] H Q:=by
 apply hE.f63;have x1:Ext H (H.new (.cells p.toI.cells none)):=(Ext.refl H).new _;have hb:=AH.get_new_self H (.cells p.toI.cells none);have c0:p.toI.cells[0]? = some (vi p.m):=rfl;have c1:p.toI.cells[1]? = some (vi (p.i.toNat:Int)):=rfl;simp only[F.f63,hb,c0,aI];have h1:=h.mono x1;generalize H.new (.cells p.toI.cells none)=H1 at *;obtain⟨u,hu⟩:=h1.at_;refine S.f82 hE t u _ hu p.m ?_;rw[aGN];have hf:=aEJ M p.m;unfold gK at hQ;cases hs:(lC M p.m).isSome with
 | false =>
  rw[hs]at hf hQ;simp only[dL,ge_iff_le,hf,aI];exact hQ _ x1
 | true =>
  rw[hs]at hf hQ;simp only[dL,ge_iff_le,hf,hb,c1,aI];refine h1.node hE p.i λb o y H2 e2 hn =>?_;obtain⟨d0,_⟩:=hn.cell;have k2:=mT (T.node p.i).kind;simp only[d0,aW,k2,aI];rw[Bool.true_and]at hQ;exact hQ _ (x1.trans e2)
theorem S.rTop(hE:bF E)(hQ:∀ H',Ext H H'->Q bT.toI.v H'):E.call 7 [] H Q:=by
 apply hE.f59;have hbv:aV [(0,1),(1,1)] #[vi 0,vi 0] [(0,(vi 0)),(1,(vi 1))]=some bT.toI.v:=rfl;have hst:storeN 2 (ptr H.next 0) bT.toI.v (H.new (.cells [vi 0,vi 0] none))=some (H.new (.cells bT.toI.cells none)):=lO rfl rfl rfl;have hlo:aH 2 (ptr H.next 0) (H.new (.cells bT.toI.cells none))=some bT.toI.v:=by rw[aQ,AH.get_new_self];rfl
 simp only[F.f59,hbv,bD,hst,hlo,aI];exact hQ _ ((Ext.refl H).new _)
theorem S.rSeen(hE:bF E)(h:lW H t T M)(p:aG)(hQ:∀ H',Ext H H'->Q (seen M p).toI.v H'):E.call 60 [ptr t 0,p.toI.v] H Q:=by
 obtain⟨u,hu⟩:=h.at_;obtain⟨nx,k,hp⟩:=h.pinv;refine S.f74 hE t u _ hu p.toI λH' e =>?_;rw[aFP hp];exact hQ _ e
theorem S.rDown(hE:bF E)(h:lW H t T M)(p:aG)(hQ:∀ H',Ext H H'->Q (.tuple #[((gW M p).map aG.toI |>.getD aN.zero).v,vb (gW M p).isSome]) H'):E.call 101 [ptr t 0,p.toI.v] H Q:=by
 obtain⟨u,hu⟩:=h.at_;refine S.f64 hE t u _ hu p.toI λH' e =>?_;rw[aGr,Option.isSome_map];exact hQ _ e
theorem aDW(ho:lG M)(hl:M.length<=16)(p:aG):iZ M 20 p=nJ M p:=by
 have:∀ d,iZ M (M.length+d) p=iZ M M.length p:=by
  intro d
  induction d with
  | zero=>rfl
  | succ d ih=>rw[<- ih,<- Nat.add_assoc,<- mX ho (M.length+d) p (by have:=aBv M p;omega)]
 have h:=this (20 - M.length);rw[show M.length+(20 - M.length)=20 by omega]at h
 exact h
theorem aGQ(hE:bF E)(h:lW H t T M)(r:aG){b c:Nat}(hb:H.get b = .cells r.toI.cells none)(hc:H.get c = .cells [vi 0,vi 0] none)(hbc:b≠c)(hcl:H0.next<=c)(e0:Ext H0 H)(hQ:∀ H',Ext H0 H'->Q (if(T.node r.i).kind=0#8 then bT else seen M ⟨r.m,(T.node r.i).parent⟩).toI.v H'):F.f75_j1 E Q (ptr t 0) (ptr b 0) (ptr c 0) H:=by
 have c0:r.toI.cells[0]? = some (vi r.m):=rfl;have c1:r.toI.cells[1]? = some (vi (r.i.toNat:Int)):=rfl
 have st:∀ (z:aN) (H':AH),H'.get c = .cells [vi 0,vi 0] none->storeN 2 (ptr c 0) z.v H'=some (H'.put c (.cells z.cells none))/\aH 2 (ptr c 0) (H'.put c (.cells z.cells none))=some z.v:=by
  intro z H' hh;constructor
  ·rw[bJ,hh];rfl
  ·rw[aQ,AH.get_put_self _ _ (AH.lt_cells hh)];rfl
 simp only[F.f75_j1,hb,c1,aI];refine h.node hE r.i λbb o y H1 e1 hn =>?_;obtain⟨d0,d1,d2,d3,_⟩:=hn.cell;have k0:=tE (T.node r.i).kind
 by_cases hz:(T.node r.i).kind=0#8
 ·rw[if_pos hz]at hQ
  simp only[d0,aW,k0,hz,decide_true,aI];refine S.rTop hE λH2 e2 =>?_;obtain⟨s1,s2⟩:=st bT.toI H2 ((e1.trans e2).cells hc);simp only[s1,s2,aI];exact hQ _ ((e0.trans (e1.trans e2)).put hcl _)
 ·rw[if_neg hz]at hQ
  simp only[d0,aW,k0,hz,decide_false,e1.cells hb,c0,c1,aI];refine(h.mono e1).node hE r.i λbb2 o2 y2 H2 e2 hn2 =>?_;obtain⟨_,_,_,f3,_⟩:=hn2.cell;have e12:=e1.trans e2;refine⟨by rw[aE,aE,e12.cells hb,e1.cells hb],?_⟩
  have hbv:aV [(0,1),(1,1)] #[vi 0,vi 0] [(0,vi r.m),(1,vi ((T.node r.i).parent.toNat:Int))]=some (aG.toI ⟨r.m,(T.node r.i).parent⟩).v:=rfl;simp only[f3,hbv,aI];refine S.rSeen hE (h.mono e12) ⟨r.m,(T.node r.i).parent⟩ λH3 e3 =>?_;obtain⟨s1,s2⟩:=st (seen M ⟨r.m,(T.node r.i).parent⟩).toI H3 ((e12.trans e3).cells hc);simp only[s1,s2,aI];exact hQ _ ((e0.trans (e12.trans e3)).put hcl _)
theorem S.rUp(hE:bF E)(h:lW H t T M)(p:aG)(hQ:∀ H',Ext H H'->Q (upP T M p).toI.v H'):E.call 76 [ptr t 0,p.toI.v] H Q:=by
 apply hE.f75;have x2:Ext H ((H.new (.cells p.toI.cells none)).new (.cells [vi 0,vi 0] none)):=((Ext.refl H).new _).new _;have hb1:((H.new (.cells p.toI.cells none)).new (.cells [vi 0,vi 0] none)).get H.next = .cells p.toI.cells none:=by simp[AH.get_new]
 have hb2:((H.new (.cells p.toI.cells none)).new (.cells [vi 0,vi 0] none)).get (H.next+1) = .cells [vi 0,vi 0] none:=by simp[AH.get_new]
 have z0:(.int .i64 0:Value)=vi 0:=rfl;simp only[F.f75,bD,z0,aI];have h2:=h.mono x2;generalize (H.new (.cells p.toI.cells none)).new (.cells [vi 0,vi 0] none)=H2 at *;have hlo:aH 2 (ptr H.next 0) H2=some p.toI.v:=by rw[aQ,hb1];rfl
 simp only[hlo,aI];refine S.rDir hE h2 p λH3 e3 =>?_;have h3:=h2.mono e3
 have st:∀ (z:aN) (H':AH),H'.get (H.next+1) = .cells [vi 0,vi 0] none->storeN 2 (ptr (H.next+1) 0) z.v H'=some (H'.put (H.next+1) (.cells z.cells none))/\aH 2 (ptr (H.next+1) 0) (H'.put (H.next+1) (.cells z.cells none))=some z.v:=by
  intro z H' hh;constructor
  ·rw[bJ,hh];rfl
  ·rw[aQ,AH.get_put_self _ _ (AH.lt_cells hh)];rfl
 unfold upP at hQ;cases hd:gK T M p with
 | false =>
  rw[hd]at hQ;simp only[Bool.false_eq_true,if_false]at hQ;simp only[aI];refine S.rTop hE λH4 e4 =>?_;obtain⟨s1,s2⟩:=st bT.toI H4 ((e3.trans e4).cells hb2);simp only[s1,s2,aI];exact hQ _ ((x2.trans (e3.trans e4)).put (by omega) _)
 | true =>
  rw[hd]at hQ;simp only[if_true]at hQ;obtain⟨nx,k,hp⟩:=h.pinv;have hdw:=aDW hp.older hp.len p;simp only[aI];have i0:vi 0=vi ((0:Nat):Int):=rfl;rw[i0];refine bY.count 20 (λk ls H'=>∃ r:aG,ls=[ptr t 0,ptr H.next 0,ptr (H.next+1) 0,vi k]/\Ext H H'/\iZ M (20 - k) r=nJ M p/\H'.get H.next = .cells r.toI.cells none/\H'.get (H.next+1) = .cells [vi 0,vi 0] none) ?_ ⟨p,rfl,x2.trans e3,hdw,e3.cells hb1,e3.cells hb2⟩;rintro k _ H4 X hk hX ⟨r,rfl,e4,hs,m1,m2⟩;have h4:=h.mono e4;rcases Nat.lt_or_ge k 20 with hk20 | hk20
  rotate_left
  ·have:k=20:=by omega
   subst this;have hr:r=nJ M p:=hs;have hlt:¬ (((20:Nat):Int)<20):=by omega
   simp only[F.f75_l1,bS,hlt,decide_false,aI];rw[<- hr]at hQ;exact aGQ (H0:=H) hE h4 r m1 m2 (by omega) (by omega) e4 hQ
  have hX:=hX hk20;have hlt:((k:Nat):Int)<20:=by omega
  have hkk:=cS (i:=k) (by omega)
  have hlo4:aH 2 (ptr H.next 0) H4=some r.toI.v:=by rw[aQ,m1];rfl
  simp only[F.f75_l1,bS,hlt,decide_true,hlo4,aI];refine S.rDown hE h4 r λH5 e5 =>?_;have e45:=e4.trans e5;have hst5:∀ z:aN,storeN 2 (ptr H5.next 0) z.v (H5.new (.cells [vi 0,vi 0] none))=some (H5.new (.cells z.cells none)):=λz=>lO rfl rfl rfl;have x6:∀ z:aN,Ext H5 (H5.new (.cells z.cells none)):=λz=>(Ext.refl _).new _
  have hstep:iZ M (20 - k) r=match gW M r with | none=>r | some q=>iZ M (20 - (k+1)) q:=by
   rw[show 20 - k=(20 - (k+1))+1 by omega];rfl
  cases hdn:gW M r with
  | none =>
   rw[hdn]at hstep;simp only[Option.map_none,Option.getD_none,Option.isSome_none,bD,hst5,aI];rw[hstep]at hs;rw[<- hs]at hQ;exact aGQ (H0:=H) hE (h4.mono (e5.trans (x6 _))) r ((e5.trans (x6 _)).cells m1) ((e5.trans (x6 _)).cells m2) (by omega) (by omega) (e45.trans (x6 _)) hQ
  | some q =>
   rw[hdn]at hstep;have hlo6:aH 2 (ptr H5.next 0) (H5.new (.cells q.toI.cells none))=some q.toI.v:=by rw[aQ,AH.get_new_self];rfl
   have m16:=(e5.trans (x6 q.toI)).cells m1;have m26:=(e5.trans (x6 q.toI)).cells m2;have hst7:storeN 2 (ptr H.next 0) q.toI.v (H5.new (.cells q.toI.cells none))=some ((H5.new (.cells q.toI.cells none)).put H.next (.cells q.toI.cells none)):=by rw[bJ,m16];rfl
   simp only[Option.map_some,Option.getD_some,Option.isSome_some,bD,hst5,hlo6,hst7,hkk,aI];refine hX _ _ ⟨q,rfl,(e45.trans (x6 _)).put (Nat.le_refl _) _,by rw[<- hs];exact hstep.symm,AH.get_put_self _ _ (AH.lt_cells m16),?_⟩
   rw[AH.get_put_ne _ _ (by omega)]
   exact m26
theorem aCg(c:UInt8)(s cur:List UInt8):(eV cur (c :: s)).filter fB=if c=47 then(if fB cur then[cur] else[])++(eV [] s).filter fB else(eV (cur++[c]) s).filter fB:=by
 rw[eV]
 split
 ·rw[List.filter_cons];split<;>simp
 ·rfl
theorem S.rParts(hE:bF E)(s:List UInt8)(hs:s.length<2 ^ 40)(hQ:∀ v H',Ext H H'->cB zH H' 1 v (cL (dR s))->eQ H.next v->Q v H'):E.call 75 [str s] H Q:=by
 apply hE.f58;simp only[F.f58];have i0:vi 0=vi ((0:Nat):Int):=rfl;have s0:(.string ⟨#[]⟩:Value)=str []:=rfl;have s46:(.string ⟨#[46]⟩:Value)=str [46]:=rfl;rw[i0,s0]
 refine bY.count (s.length+1) (λj ls H'=>∃ u cur out,ls=[str s,u,str cur,vi j]/\Ext H H'/\eQ H.next u/\cB zH H' 1 u (cL out)/\out.length<=j/\cur.length<=j/\(if j<=s.length then out++(eV cur (s.drop j)).filter fB=dR s else out=dR s)) ?_
  ⟨aZ,[],[],rfl,Ext.refl _,by intro b hb;simp[blk]at hb,cB.nil _ _ _,by simp,by simp,by simp[dR]⟩
 rintro j _ H1 X hj hX ⟨u,cur,out,rfl,e1,f1,g1,hol,hcl,hinv⟩;have hls:=dN s;rcases Nat.lt_or_ge j (s.length+1) with hjl | hjl
 rotate_left
 ·have hle:¬ ((j:Int)<=s.length):=by omega
  rw[if_neg (by omega)]at hinv
  subst hinv;simp only[F.f58_l1,hls,qP,hle,decide_false,aI];exact hQ u H1 e1 g1 f1
 have hX:=hX hjl;rw[if_pos (by omega)]at hinv
 have hle:((j:Int)<=s.length):=by omega
 have hjj:=cS (i:=j) (by omega)
 have fin:∀ H2,Ext H1 H2->cB zH H2 1 u (cL out)->(if j<s.length then(out++if fB cur then[cur] else[])++(eV [] (s.drop (j+1))).filter fB=dR s else(out++if fB cur then[cur] else[])=dR s) ->
   opt (cH .neq (str cur) (.string ⟨#[]⟩)) λv15=>gV v15 true (str cur) H2 λv16 H6=>gO v15 true (cH .neq v16 (.string ⟨#[46]⟩)) H6 λv17 H7=>opt (pick v15 v17 (.bool false)) λv18 =>
   ifB v18 (mk (buildS 1 1 #[(.string ⟨#[]⟩)] [(0,str cur)]) H7 λv19 H8=>gJ (app 1 16 u v19 H8) λv20 H9=>opt (aA .add (vi j) (vi 1)) λv21=>X [str s,v20,(.string ⟨#[]⟩),v21] H9) (
   opt (aA .add (vi j) (vi 1)) λv22=>X [str s,u,(.string ⟨#[]⟩),v22] H7):=by
  intro H2 e2 g2 hfin
  have done:∀ (u':Value) (H3:AH) (out':List aK),out'=(out++if fB cur then[cur] else[])->Ext H H3->eQ H.next u'->cB zH H3 1 u' (cL out')->X [str s,u',str [],vi ((j+1:Nat):Int)] H3:=by
   rintro u' H3 out' rfl e3 f3 g3;refine hX _ _ ⟨u',[],_,rfl,e3,f3,g3,?_,by simp,?_⟩
   ·rw[List.length_append];split<;>simp<;>omega
   ·by_cases hjs:j<s.length
    ·rw[if_pos hjs]at hfin;rw[if_pos (by omega)];exact hfin
    ·rw[if_neg hjs]at hfin;rw[if_neg (by omega)];exact hfin
  by_cases h1:cur=[]
  ·have ho:fB cur=false:=by simp[fB,h1]
   have:=done u H2 out (by simp[ho]) (e1.trans e2) f1 g2
   simp only[s0,s46,mI,h1,ne_eq,not_true,decide_false,hjj,aI];exact this
  by_cases h2:cur=[46]
  ·have ho:fB cur=false:=by simp[fB,h2]
   have:=done u H2 out (by simp[ho]) (e1.trans e2) f1 g2
   have h3:¬ ([46]:List UInt8)=[]:=by simp
   simp only[s0,s46,mI,h2,h3,ne_eq,not_true,not_false_eq_true,decide_true,decide_false,hjj,aI];exact this
  ·have ho:fB cur=true:=by simp[fB,h1,h2]
   have hb:=gC 1 [str []] [str cur] rfl rfl;have hb:buildS 1 1 #[str []] [(0,str cur)]=some (.cells [str cur] none,eA 1 1):=hb;obtain⟨u',H3,a1,a2,a3⟩:=g2.app1 (bytes:=16) (Nat.zero_le _) [str cur] rfl rfl (by decide) (by decide) (by rw[dP];omega)
   obtain⟨e3,f3⟩:=gS a3 (e1.trans e2) f1;have:=done u' H3 (out++[cur]) (by simp[ho]) e3 f3 (by simpa[cL] using a2)
   simp only[s0,s46,mI,h1,h2,ne_eq,not_false_eq_true,decide_true,hb,a1,hjj,aI];exact this
 rcases Nat.lt_or_ge j s.length with hjs | hjs
 rotate_left
 ·have hlt:¬ ((j:Int)<s.length):=by omega
  have hj2:j=s.length:=by omega
  have:=fin H1 (Ext.refl _) g1 (by
   rw[if_neg (by omega)]
   rw[hj2,List.drop_length]at hinv;simp only[eV,List.filter_cons,List.filter_nil]at hinv;exact hinv)
  simp only[F.f58_l1,hls,qP,bS,hle,hlt,decide_true,decide_false,aI]at this ⊢;exact this
 have hlt:(j:Int)<s.length:=by omega
 have hix:=qQ s j hjs;have hdr:s.drop j=s[j] :: s.drop (j+1):=List.drop_eq_getElem_cons hjs;rw[hdr,aCg]at hinv;generalize s[j]=c at *;have hne:aA .neq (u8 c.toBitVec) (.int .u8 47)=some (vb (decide (c.toBitVec≠47#8))):=rY _ 47#8
 have hc47:(c.toBitVec≠47#8)↔c≠47:=by
  constructor
  ·rintro h rfl;exact h rfl
  ·intro h h'; exact h (UInt8.toBitVec_inj.1 h')
 by_cases h47:c=47
 ·subst h47
  rw[if_pos rfl,<- List.append_assoc]at hinv;have:=fin H1 (Ext.refl _) g1 (by rw[if_pos hjs];exact hinv)
  have hd:decide ((47:UInt8).toBitVec≠47#8)=false:=by decide
  rw[hd]at hne;simp only[F.f58_l1,hls,qP,bS,hle,hlt,decide_true,hix,hne,aI]at this ⊢;exact this
 ·rw[if_neg h47]at hinv
  have hd:decide (c.toBitVec≠47#8)=true:=decide_eq_true (hc47.2 h47);rw[hd]at hne;have hb:buildS 1 1 #[(.int .u8 0)] [(0,u8 c.toBitVec)]=some (.cells [u8 c.toBitVec] none,eA 1 1):=gC 1 [u8 0#8] [u8 c.toBitVec] rfl rfl;have x2:Ext H1 (H1.new (.cells [u8 c.toBitVec] none)):=(Ext.refl _).new _
  have hv:aFJ (H1.new (.cells [u8 c.toBitVec] none)) (slc H1.next 0 1 1) ([c.toBitVec].map u8):=by
   have:Rows (H1.new (.cells [u8 c.toBitVec] none)) 1 (slc H1.next 0 1 1) [[u8 c.toBitVec]]:=Rows.made (f:=none) (by rw[AH.get_new_self];rfl) (.inl rfl) rfl (by simp)
   exact this
  have hso:=yJ hv;have hcb:[c.toBitVec].map UInt8.ofBitVec=[c]:=rfl;rw[hcb]at hso;have hadd:=sA cur [c] (by simp;omega)
  simp only[F.f58_l1,hls,qP,bS,hle,hlt,decide_true,hix,hne,hb,hso,hadd,hjj,aI];refine hX _ _ ⟨u,cur++[c],out,rfl,e1.trans x2,f1,g1.ext x2,by omega,by simp;omega,?_⟩
  rw[if_pos (by omega)]
  exact hinv
end
end
section
theorem pI{K V:Type}[BEq K][LawfulBEq K][DecidableEq K](k n:K)(v:V):∀ l:List (K×V),(kD k v l).lookup n=if n=k then some v else l.lookup n
 | []=>by
  simp only[kD,List.lookup]
  by_cases h:n=k
  ·simp[h]
  ·have:(n == k)=false:=by simpa using h
   simp[h,this]
 | p :: l=>by
  obtain⟨a,b⟩:=p;simp only[kD]
  by_cases e:a=k
  ·subst e
   simp only[if_true,List.lookup]
   by_cases h:n=a
   ·simp[h]
   ·have:(n == a)=false:=by simpa using h
    simp[h,this]
  ·simp only[e,if_false,List.lookup]
   by_cases h:n=a
   ·subst h
    simp[e]
   ·have h2:(n == a)=false:=by simpa using h
    simp only[h2];exact pI k n v l
end
section
set_option maxRecDepth 20000
def Tr.entsK(T:Tr)(n:BitVec 16):aKu:=if(T.node n).kind=2#8 then(T.node n).ents else[]
def Tr.entOk(T:Tr)(n:BitVec 16)(e:aK×BitVec 16):Bool:=cP e.1&&(decide ((T.node e.2).kind≠0#8)&&(decide ((T.node e.2).kind≠2#8)||decide ((T.node e.2).parent=n)))
def Tr.entsOk(T:Tr)(n:BitVec 16):Bool:=(T.entsK n).all (T.entOk n)
def Tr.cntR(T:Tr)(l:List (BitVec 16))(k:BitVec 16):Nat:=(if k=1#16 then 1 else 0)+(l.map λn=>eP k (T.entsK n)).sum
def Tr.nodeOk(T:Tr)(n:BitVec 16):Bool :=
 decide ((T.node n).links=(T.cntR T.nums n:Int))&&(!(decide ((T.node n).links=0)&&decide ((T.node n).held=0)))&&(!(decide ((T.node n).kind=2#8)&&decide (1<(T.node n).links))) &&
  (!(decide ((T.node n).kind=2#8)&&decide (0<(T.node n).links))||T.within 1#16 n)
def Tr.mntOk(T:Tr)(m:aX):Bool:=decide ((T.node m.root).kind=2#8)&&(decide (m.id=0)||decide ((T.node m.at_.i).kind=2#8))
def sG(T:Tr)(M:List aX):Bool:=T.nums.all T.entsOk&&(T.nums.all T.nodeOk&&M.all T.mntOk)
abbrev viI(n:Int):Value:=vi n
def vU(L:List (BitVec 16×Int))(f:BitVec 16->Nat):Prop:=∀ k,(L.lookup k).getD 0=(f k:Int)
section
variable {E:Sy}{H H' H0:AH}{Q:Value->AH->Prop}{w r:Nat}{T:Tr}{M:List aX}{L:List (BitVec 16×Int)}{f:BitVec 16->Nat}
theorem vU.look(h:eK u16 viI H r L)(c:vU L f)(k:BitVec 16):AM.look 0 (vi 0) false (.map (some r)) (u16 k) H=some (vi (f k:Int)):=by
 rw[h.look (kd:=0) (λa b=>kX a b) k,<- c k];cases L.lookup k<;>rfl
theorem vU.set(c:vU L f)(k:BitVec 16):vU (kD k ((f k+1:Nat):Int) L) (λj=>f j+if j=k then 1 else 0):=by
 intro j;rw[pI]
 by_cases e:j=k
 ·rw[if_pos e];simp[e]
 ·rw[if_neg e,c j];simp[e]
theorem aGl(hE:bF E)(hw:lU H0 w T M)(hnl:∀ n,∀ e∈(T.node n).ents,e.1.length<2 ^ 63)(hel:∀ n,(T.node n).ents.length<2 ^ 32){n:BitVec 16}(hn:n∈T.nums){nm:Option Nat}{ord:aKu}(hk:(T.node n).kind=2#8->∃ s,nm=some s/\eK str u16 H0 s ord/\ord.Perm (T.node n).ents)(hk':(T.node n).kind≠2#8->nm=none)(e0:Ext H0 H)(hr:H0.next<=r)(hm:eK u16 viI H r L)(c:vU L f)(hf:∀ k,f k<=2 ^ 60){o:cZ}{mkv:Nat->Value}(ho:lY (.map nm) H=some (o,mkv)){X0:List Value->AH->Prop}{t25 t26:Value}{j:Nat}(hj:j<2 ^ 62)(hbad:T.entsOk n=false->∀ H',Ext H0 H'->Q (vb false) H')(next:T.entsOk n=true->∀ H' L',Ext H0 H'->dK [r] H H'->eK u16 viI H' r L'->vU L' (λk=>f k+eP k (T.entsK n))->X0 [ptr w 0,.map (some r),t25,t26,vi ((j+1:Nat):Int)] H'):
  lp7 (F.f126_l2 E Q X0) [ptr w 0,.map (some r),u16 n,t25,t26,vi j,mkv H.next] (H.new o):=by
 have hjj:=cS (i:=j) (by omega)
 have hx0:ext (.tuple #[.bool false]) 0=some (.bool false):=rfl;have hrlt:=hm.lt
 by_cases hkd:(T.node n).kind=2#8
 rotate_left
 ·
  have hnm:=hk' hkd;subst hnm;have ho':lY (.map none) H=some (.miter none 0 [] 0,kB):=rfl;rw[ho']at ho;simp only[Option.some.injEq,Prod.mk.injEq]at ho;obtain⟨rfl,rfl⟩:=ho;have hek:T.entsK n=[]:=if_neg hkd;have hok:T.entsOk n=true:=by unfold Tr.entsOk;rw[hek];rfl
  have hnx:∀ K:Value->AH->Prop,nT (ptr H.next 0) (H.new (.miter none 0 [] 0)) K=K (.tuple #[.bool false]) (H.new (.miter none 0 [] 0)):=λK=>by
   simp only[nT,AH.get_new_self]
  refine bY.step λX _ =>?_;simp only[F.f126_l2,eF,eR,eW,fR,jZ,nQ,aGu,pT,hnx];simp only[hx0,hjj,aI];refine next hok _ L (e0.new _) ((dK.refl _ _).new _) (hm.keep (AH.get_new_lt _ _ hrlt)) λk =>?_;rw[hek]
  simpa[eP] using c k
 obtain⟨s,rfl,hms,hperm⟩:=hk hkd;have hek:T.entsK n=(T.node n).ents:=if_pos hkd;have hms1:=hms.keep (e0.get hms.lt);obtain⟨o',o1,o2⟩:=fF.start hms1;rw[ho]at o1;simp only[Option.some.injEq,Prod.mk.injEq]at o1;obtain⟨rfl,rfl⟩:=o1;have hslt:s<H0.next:=hms.lt
 refine bY.ind (λm ls H'=>∃ done L',ls=[ptr w 0,.map (some r),u16 n,t25,t26,vi j,kB H.next]/\Ext H0 H'/\dK [r] H H'/\H.next<H'.next/\fF str u16 H' H.next s ord done/\eK u16 viI H' r L'/\vU L' (λk=>f k+eP k done)/\done.all (T.entOk n)=true/\m=ord.length - done.length) ?_ ord.length
  ⟨[],L,rfl,e0.new _,(dK.refl _ _).new _,by simp,o2,hm.keep (AH.get_new_lt _ _ hrlt),by simpa[eP] using c,rfl,by simp⟩
 rintro m _ H1 X1 hX ⟨done,L1,rfl,e1,on1,hlt1,it1,hm1,c1,hok1,rfl⟩;simp only[F.f126_l2,eF,eR,eW,fR,jZ,nQ,aGu];have hrne:r≠H.next:=by omega
 refine fF.next it1 (λp ob hp hnd it' hen =>?_) λhpd =>?_
 ·have on2:dK [r] H (H1.put H.next ob):=on1.put (.inr (Nat.le_refl _)) ob
  have hlen:done.length+1<=ord.length:=by
   have:=tD (done++[p]) ord it'.nodup.1 it'.nodup.2
   simpa using this
  have hpe:p∈(T.node n).ents:=hperm.mem_iff.1 hp
  have hbad':T.entOk n p=false->∀ H',Ext H0 H'->Q (vb false) H':=λhb=>hbad (by
   unfold Tr.entsOk;rw[hek,List.all_eq_false];exact⟨p,hpe,by simp[hb]⟩)
  have e2:Ext H0 (H1.put H.next ob):=e1.put (by have:=e0.1;omega) ob
  have hm2:eK u16 viI (H1.put H.next ob) r L1:=hm1.keep (AH.get_put_ne _ _ hrne);have hlt2:H.next<(H1.put H.next ob).next:=by simpa using hlt1
  generalize H1.put H.next ob=H2 at *;obtain⟨⟨pb,mb,Ly',q',nx,q1,q2,q3⟩,_⟩:=hw.mono e2;simp only[dU,List.getElem?_cons_zero,List.getElem?_cons_succ,pT,hen,q1,aI];refine S.f8 hE q2 p.2 ?_;refine S.f2 hE p.1 (hnl n p hpe) λH3 e3 =>?_;have e03:=e2.trans e3;unfold Tr.entOk at hbad';cases hnok:cP p.1 with
  | false =>
   have nt:un .not (vb false)=some (vb true):=rfl;simp only[nt,aI];exact hbad' (by rw[hnok];rfl) _ e03
  | true =>
   have nt:un .not (vb true)=some (vb false):=rfl;rcases q2.get p.2 with ⟨k0,_⟩ | ⟨kk,yy,k0,k1,k2,k3,k4⟩
   ·rw[dO q2.cov k0]
    have hbn:bU dB .eql (.pointer none) (.pointer none)=some (vb true):=rfl;simp only[nt,hbn,aI];exact hbad' (by rw[k0];simp) _ e03
   ·rw[bG q2.cov.nd k1]
    have hb3:=e3.cells k3;have d1:(inC p.2 (T.node p.2) yy)[1]? = some (u8 (T.node p.2).kind):=rfl;have d4:(inC p.2 (T.node p.2) yy)[4]? = some (u16 (T.node p.2).parent):=rfl;have kd2:(.int .u8 2:Value)=u8 2#8:=rfl
    have count:T.entOk n p=true->opt (look 0 (vi 0) false (.map (some r)) (u16 p.2) H3) λv29=>opt (aA .add v29 (vi 1)) λv30=>opt (setMap 0 (.map (some r)) (u16 p.2) v30 H3) λH19=>X1 [ptr w 0,.map (some r),u16 n,t25,t26,vi j,ptr H.next 0] H19:=by
     intro hok;have hm3:=hm2.keep (e3.get hm2.lt);have hlk:=c1.look hm3 p.2
     have hle:eP p.2 done<=2 ^ 32:=by
      have h1:eP p.2 done<=done.length:=aAs;have h2:=hperm.length_eq;have h3:=hel n;omega
     have hfk:=hf p.2;have hinc:=cS (i:=f p.2+eP p.2 done) (by omega)
     obtain⟨ob2,b1,b2,b3⟩:=hm3.set (kd:=0) (λa b=>kX a b) p.2 (((f p.2+eP p.2 done)+1:Nat):Int);have b2:setMap 0 (.map (some r)) (u16 p.2) (vi ((f p.2+eP p.2 done+1:Nat):Int)) H3=some (H3.put r ob2):=b2;simp only[hlk,hinc,b2,aI];have hsr:s≠r:=by omega
     have hl3:H.next<H3.next:=Nat.lt_of_lt_of_le hlt2 e3.1;refine hX (ord.length - (done++[p]).length) (by simp;omega) _ _ ⟨done++[p],_,rfl,e03.put hr ob2,(on2.trans' e3.only).put (.inl (by simp)) ob2,by simpa using hl3,(it'.keep (e3.get it'.map.lt) (e3.get it'.lt)).keep (AH.get_put_ne _ _ hsr) (AH.get_put_ne _ _ (Ne.symm hrne)),b3,?_,by rw[List.all_append,hok1];simp[hok],rfl⟩
     have:=c1.set p.2;intro k;rw[this k];simp only[eP,List.countP_append,List.countP_cons,List.countP_nil,decide_eq_true_eq,Nat.zero_add,Nat.add_assoc]
     by_cases e:k=p.2
     ·simp[e]
     ·have e':¬ p.2=k:=λh=>e h.symm
      simp[e,e']
    simp only[nt,fN,hb3,d1,kd2,fH,aI]
    by_cases h2:(T.node p.2).kind=2#8
    ·simp only[h2,decide_true,hb3,d4,aAv,aI]
     by_cases hpar:(T.node p.2).parent=n
     ·simp only[hpar,ne_eq,not_true,decide_false,aI]
      exact count (by unfold Tr.entOk;rw[hnok,h2,hpar];simp)
     ·simp only[hpar,ne_eq,not_false_eq_true,decide_true,aI]
      exact hbad' (by rw[hnok,h2];simp[hpar]) _ e03
    ·simp only[h2,decide_false,aI]
     exact count (by unfold Tr.entOk;rw[hnok];simp[h2,k0])
 ·simp only[hx0,hjj,aI]
  have hp2:done.Perm (T.node n).ents:=hpd.trans hperm;refine next ?_ _ L1 e1 on1 hm1 λk =>?_
  ·unfold Tr.entsOk
   rw[hek];rw[List.all_eq_true]at hok1 ⊢;exact λx hx=>hok1 x (hp2.mem_iff.2 hx)
  ·have hc:eP k done=eP k (T.node n).ents:=hp2.countP_eq _
   rw[c1 k]
   show((f k+eP k done:Nat):Int)=((f k+eP k (T.entsK n):Nat):Int)
   rw[hek,hc]
end
end
section
set_option maxRecDepth 20000
section
variable {E:Sy}{H H' K K0:AH}{Q:Value->AH->Prop}{ab lb:Nat}{vd:Value}
theorem zY{a b:Nat}(h:a<b):aA .lss (vi (a:Int)) (vi (b:Int))=some (vb true):=by rw[bS];simp;omega
theorem aAg{a b:Nat}(h:¬ a<b):aA .lss (vi (a:Int)) (vi (b:Int))=some (vb false):=by rw[bS];simp;omega
theorem uW(a:Int):aA .eql (vi a) (vi a)=some (vb true):=by rw[aW];simp
theorem aFL{a b:Nat}(h:a≠b):aA .eql (vi (a:Int)) (vi (b:Int))=some (vb false):=by rw[aW];simp;omega
theorem mU(a:Int):aA .neq (vi a) (vi a)=some (vb false):=by rw[bR];simp
theorem aKF{a b:Nat}(h:a≠b):aA .neq (vi (a:Int)) (vi (b:Int))=some (vb true):=by rw[bR];simp;omega
end
end
section
set_option maxRecDepth 20000
section
variable {E:Sy}{H H' H0:AH}{Q:Value->AH->Prop}{w r:Nat}{T:Tr}{M:List aX}{L:List (BitVec 16×Int)}{f:BitVec 16->Nat}{v:Value}
theorem aCY{α:Type}{p:α->Bool}{l:List α}{j:Nat}(hj:j<l.length)(hb:p l[j]=false):l.all p=false:=List.all_eq_false.2 ⟨_,List.getElem_mem hj,by simp[hb]⟩
theorem wB{α:Type}{p:α->Bool}{l:List α}{j:Nat}(hj:j<l.length)(h:(l.take j).all p=true)(hb:p l[j]=true):(l.take (j+1)).all p=true:=by
 rw[List.take_succ_eq_append_getElem hj,List.all_append,h];simp[hb]
theorem aFG(hE:bF E)(hw:lU H w T M)(hm:Rows H 5 v (M.map aX.cells))(hM:M.length<2 ^ 60)(hQ:∀ H',Ext H H'->Q (vb (M.all T.mntOk)) H'):
  lp4 (F.f126_l4 E Q) [ptr w 0,v,vi M.length,vi 0] H:=by
 have i0:vi 0=vi ((0:Nat):Int):=rfl;rw[i0];refine bY.count M.length (λj ls H'=>ls=[ptr w 0,v,vi M.length,vi j]/\Ext H H'/\(M.take j).all T.mntOk=true) ?_ ⟨rfl,Ext.refl _,rfl⟩;rintro j _ H1 X0 hj hX ⟨rfl,e1,hall⟩;rcases Nat.lt_or_ge j M.length with hjl | hjl
 rotate_left
 ·have s:=aAg (show ¬ j<M.length by omega)
  simp only[F.f126_l4,s,aI];rw[List.take_of_length_le hjl]at hall;rw[hall]at hQ;exact hQ _ e1
 have hX:=hX hjl;have s:=zY hjl;have hjj:=cS (i:=j) (by omega)
 obtain⟨b,o,p1,p2⟩:=(hm.mono e1).ix (i:=j) (by rw[List.length_map];exact hjl)
 rw[List.getElem_map]at p2;have p3:aH 5 (ptr b o) H1=some (.agg (M[j]).cells.toArray):=by rw[aQ,p2];rfl
 have hbad:T.mntOk M[j]=false->∀ H',Ext H H'->Q (vb false) H':=λh H' e=>by
  have:=hQ H' e;rw[aCY hjl h]at this;exact this
 have hgood:T.mntOk M[j]=true->∀ H',Ext H H'->X0 [ptr w 0,v,vi M.length,vi ((j+1:Nat):Int)] H':=λh H' e=>hX _ _ ⟨rfl,e,wB hjl hall h⟩;generalize M[j]=m at *
 have hst:storeN 5 (ptr H1.next 0) (.agg m.cells.toArray) (H1.new (.cells [vi 0,vi 0,(.int .u16 0),(.int .u16 0),vi 0] none))=some (H1.new (.cells m.cells none)):=by
  rw[bJ,AH.get_new_self];have h3:AM.splice [vi 0,vi 0,(.int .u16 0),(.int .u16 0),vi 0] 0 m.cells=m.cells:=rfl;have h4:m.cells.all plain1=true:=rfl;have h5:m.cells.length=5:=rfl;have h6:([vi 0,vi 0,(.int .u16 0),(.int .u16 0),vi 0]:List Value).length=5:=rfl;simp only[List.size_toArray,List.toList_toArray,h5,h4,h6,Nat.zero_add,Nat.le_refl,and_self,if_true,h3,AH.new_put]
 have x2:Ext H1 (H1.new (.cells m.cells none)):=(Ext.refl _).new _;have hb2:=AH.get_new_self H1 (.cells m.cells none);obtain⟨⟨pb,mb,Ly',q',nx,q1,q2,q3⟩,_⟩:=hw.mono (e1.trans x2);have e2:=e1.trans x2;have c0:m.cells[0]? = some (vi m.id):=rfl;have c2:m.cells[2]? = some (u16 m.at_.i):=rfl;have c3:m.cells[3]? = some (u16 m.root):=rfl;simp only[F.f126_l4,s,p1,p3,bD,hst,q1,hb2,c2,c3,aI];generalize H1.next=A at *;generalize H1.new (.cells m.cells none)=H2 at *;refine S.f8 hE q2 m.root ?_;refine⟨rfl,rfl,?_⟩;refine S.f8 hE q2 m.at_.i ?_;have k2:(.int .u8 2:Value)=u8 2#8:=rfl;unfold Tr.mntOk at hbad hgood;have hbn:bU dB .eql (.pointer none) (.pointer none)=some (vb true):=rfl;rcases q2.get m.root with ⟨k0,_⟩ | ⟨kk,yy,k0,k1,k3,k4,k5⟩
 ·rw[dO q2.cov k0]
  simp only[hbn,aI];exact hbad (by rw[k0];rfl) _ e2
 rw[bG q2.cov.nd k1];have d1:(inC m.root (T.node m.root) yy)[1]? = some (u8 (T.node m.root).kind):=rfl
 by_cases hr:(T.node m.root).kind=2#8
 rotate_left
 ·have sn:aA .neq (u8 (T.node m.root).kind) (u8 2#8)=some (vb true):=by rw[rY];simp[hr]
  simp only[fN,k4,d1,k2,sn,aI];exact hbad (by simp[hr]) _ e2
 have sn:aA .neq (u8 (T.node m.root).kind) (u8 2#8)=some (vb false):=by rw[rY];simp[hr]
 by_cases h0:m.id=0
 ·have s0:aA .neq (vi m.id) (vi 0)=some (vb false):=by rw[h0];exact mU 0
  simp only[fN,k4,d1,k2,sn,hb2,c0,s0,hjj,aI];exact hgood (by simp[hr,h0]) _ e2
 have s0:aA .neq (vi m.id) (vi 0)=some (vb true):=by
  show aA .neq (vi m.id) (vi 0)=_
  rw[bR];simp[h0]
 rcases q2.get m.at_.i with ⟨l0,_⟩ | ⟨ll,zz,l0,l1,l3,l4,l5⟩
 ·rw[dO q2.cov l0]
  simp only[fN,k4,d1,k2,sn,hb2,c0,s0,hbn,aI];exact hbad (by rw[l0];simp[h0]) _ e2
 rw[bG q2.cov.nd l1];have d2:(inC m.at_.i (T.node m.at_.i) zz)[1]? = some (u8 (T.node m.at_.i).kind):=rfl
 by_cases ha:(T.node m.at_.i).kind=2#8
 ·have sa:aA .neq (u8 (T.node m.at_.i).kind) (u8 2#8)=some (vb false):=by rw[rY];simp[ha]
  simp only[fN,k4,d1,k2,sn,hb2,c0,s0,l4,d2,sa,hjj,aI];exact hgood (by simp[hr,ha]) _ e2
 ·have sa:aA .neq (u8 (T.node m.at_.i).kind) (u8 2#8)=some (vb true):=by rw[rY];simp[ha]
  simp only[fN,k4,d1,k2,sn,hb2,c0,s0,l4,d2,sa,aI];exact hbad (by simp[ha,h0]) _ e2
theorem aF6(hE:bF E)(hw:lU H w T M)(hm:eK u16 viI H r L)(c:vU L (T.cntR T.nums))(hl:T.N.length<=65536)(hM:M.length<=1000)(rv:Rows H 1 v (sI T.nums))(hQ:∀ H',Ext H H'->Q (vb (T.nums.all T.nodeOk&&M.all T.mntOk)) H'):
  lp5 (F.f126_l3 E Q) [ptr w 0,.map (some r),v,vi T.nums.length,vi 0] H:=by
 have i0:vi 0=vi ((0:Nat):Int):=rfl;rw[i0]
 have hnl:T.nums.length<=65536:=by
  unfold Tr.nums;refine Nat.le_trans (List.length_filter_le _ _) ?_;simp;omega
 refine bY.count T.nums.length (λj ls H'=>ls=[ptr w 0,.map (some r),v,vi T.nums.length,vi j]/\Ext H H'/\(T.nums.take j).all T.nodeOk=true) ?_ ⟨rfl,Ext.refl _,rfl⟩;rintro j _ H1 X0 hj hX ⟨rfl,e1,hall⟩;obtain⟨⟨pb,mb,Ly',q',nx,q1,q2,q3⟩,_⟩:=hw.mono e1;rcases Nat.lt_or_ge j T.nums.length with hjl | hjl
 rotate_left
 ·have s:=aAg (show ¬ j<T.nums.length by omega)
  rw[List.take_of_length_le hjl]at hall;rw[hall,Bool.true_and]at hQ;simp only[F.f126_l3,s,q1,aI];refine S.f37 hE q' M nx q3 hM λv2 H2 e2 r2 =>?_;have hlv:AM.lenSlc v2=some (vi M.length):=by have:=r2.lenSlc;rw[List.length_map]at this;exact this
  simp only[hlv,aI];exact aFG hE (hw.mono (e1.trans e2)) r2 (by omega) λH' e=>hQ H' ((e1.trans e2).trans e)
 have hX:=hX hjl;have s:=zY hjl;have hjj:=cS (i:=j) (by omega)
 obtain⟨b,o,p1,p2⟩:=(rv.mono e1).ix (i:=j) (by rw[iD];exact hjl)
 have hrw:(sI T.nums)[j]'(by rw[iD];exact hjl)=[u16 T.nums[j]]:=by simp[sI]
 rw[hrw]at p2;have p3:(H1.get b).cell o=some (u16 T.nums[j]):=by have:=eG p2 (j:=0) (by omega);simpa using this
 have hkn:(T.node T.nums[j]).kind≠0#8:=(Tr.nums_mem hl _).1 (List.getElem_mem hjl)
 have hbad:T.nodeOk T.nums[j]=false->∀ H',Ext H H'->Q (vb false) H':=λh H' e=>by
  have:=hQ H' e;rw[aCY hjl h,Bool.false_and]at this;exact this
 have hgood:T.nodeOk T.nums[j]=true->∀ H',Ext H H'->X0 [ptr w 0,.map (some r),v,vi T.nums.length,vi ((j+1:Nat):Int)] H':=λh H' e=>hX _ _ ⟨rfl,e,wB hjl hall h⟩;generalize T.nums[j]=n at *;simp only[F.f126_l3,s,p1,p3,q1,aI];refine S.f8 hE q2 n ?_;rcases q2.get n with ⟨k0,_⟩ | ⟨kk,yy,k0,k1,k3,k4,k5⟩
 ·exact(hkn k0).elim
 rw[bG q2.cov.nd k1];have d1:(inC n (T.node n) yy)[1]? = some (u8 (T.node n).kind):=rfl;have d6:(inC n (T.node n) yy)[6]? = some (vi (T.node n).links):=rfl;have d7:(inC n (T.node n) yy)[7]? = some (vi (T.node n).held):=rfl;have hlk:=c.look (hm.keep (e1.get hm.lt)) n;have k2:(.int .u8 2:Value)=u8 2#8:=rfl;have i1:(.int .i64 1:Value)=vi 1:=rfl;have iz:(.int .i64 0:Value)=vi 0:=rfl;unfold Tr.nodeOk at hbad hgood
 by_cases hc:(T.node n).links=(T.cntR T.nums n:Int)
 rotate_left
 ·have sn:aA .neq (vi (T.node n).links) (vi (T.cntR T.nums n:Int))=some (vb true):=by rw[bR];simp[hc]
  simp only[k4,d6,hlk,sn,aI];exact hbad (by simp[hc]) _ e1
 have sn:aA .neq (vi (T.node n).links) (vi (T.cntR T.nums n:Int))=some (vb false):=by rw[bR];simp[hc]
 have second:¬ ((T.node n).links=0/\(T.node n).held=0)->¬ ((T.node n).kind=2#8/\1<(T.node n).links)->(∀ H',Ext H H'->Q (vb (T.nums.all T.nodeOk&&M.all T.mntOk)) H')->((!(decide ((T.node n).kind=2#8)&&decide (0<(T.node n).links))||T.within 1#16 n)=T.nodeOk n):=by
  intro a1 a2 _;unfold Tr.nodeOk;rw[decide_eq_true hc];simp only[Bool.true_and];have b1:(!(decide ((T.node n).links=0)&&decide ((T.node n).held=0)))=true:=by rw[<- Bool.decide_and,decide_eq_false a1];rfl
  have b2:(!(decide ((T.node n).kind=2#8)&&decide (1<(T.node n).links)))=true:=by rw[<- Bool.decide_and,decide_eq_false a2];rfl
  rw[b1,b2];rfl
 by_cases hz:(T.node n).links=0/\(T.node n).held=0
 ·have s1:aA .eql (vi (T.node n).links) (vi 0)=some (vb true):=by rw[hz.1];exact uW 0
  have s2:aA .eql (vi (T.node n).held) (vi 0)=some (vb true):=by rw[hz.2];exact uW 0
  simp only[k4,d6,d7,hlk,sn,iz,s1,s2,aI];exact hbad (by simp[hz.1,hz.2]) _ e1
 have hfirst:∃ x:Bool,aA .eql (vi (T.node n).links) (vi 0)=some (vb x)/\(x=true->aA .eql (vi (T.node n).held) (vi 0)=some (vb false)):=by
  by_cases h0:(T.node n).links=0
  ·refine⟨true,by rw[h0];exact uW 0,λ_ =>?_⟩
   have:(T.node n).held≠0:=λh=>hz ⟨h0,h⟩;rw[aW];simp[this]
  ·exact⟨false,by rw[aW];simp[h0],λh=>nomatch h⟩
 obtain⟨x,s1,s2⟩:=hfirst
 have fin:¬ ((T.node n).kind=2#8/\1<(T.node n).links)->(opt (aF (ptr yy.blk 0)) λv39=>opt (aB v39 1) λv40=>opt (aC v40 H1) λv41=>opt (aA .eql v41 (.int .u8 2)) λv42 =>
   gV v42 true (ptr yy.blk 0) H1 λv43 H26=>gO v42 true (aF v43) H26 λv44 H27=>gO v42 true (aB v44 6) H27 λv45 H28=>gO v42 true (aC v45 H28) H28 λv46 H29=>gO v42 true (aA .gtr v46 (vi 0)) H29 λv47 H30 =>
   opt (pick v42 v47 (.bool false)) λv48=>gV v48 true (ptr w 0) H30 λv49 H31=>gO v48 true (aF v49) H31 λv50 H32=>gO v48 true (aB v50 0) H32 λv51 H33=>gO v48 true (aC v51 H33) H33 λv52 H34=>gV v48 true (u16 n) H34 λv53 H35 =>
   gd v48 true (λk=>E.call 66 [v52,v53,(.int .u16 1)] H35 λv h=>k v h) H35 λv54 H36=>gO v48 true (un .not v54) H36 λv55 H37=>opt (pick v48 v55 (.bool false)) λv56=>ifB v56 (Q (.bool false) H37) (opt (aA .add (vi j) (vi 1)) λv57=>X0 [ptr w 0,.map (some r),v,vi T.nums.length,v57] H37)):=by
  intro hk1;have hsec:=second hz hk1 hQ;have n1:(.int .u16 1:Value)=u16 1#16:=rfl
  by_cases hk2:(T.node n).kind=2#8
  ·have se:aA .eql (u8 (T.node n).kind) (u8 2#8)=some (vb true):=by rw[fH];simp[hk2]
   by_cases hpos:0<(T.node n).links
   ·have sg:aA .gtr (vi (T.node n).links) (vi 0)=some (vb true):=by rw[bL];simp[hpos]
    simp only[k4,d1,d6,k2,se,iz,sg,q1,n1,aI];refine S.f14 hE q2 n 1#16 ?_;rw[decide_eq_true hk2,decide_eq_true hpos]at hsec;cases hwi:T.within 1#16 n with
    | true =>
     have nt:un .not (vb true)=some (vb false):=rfl;simp only[nt,hjj,aI];refine hgood ?_ _ e1;have:T.nodeOk n=true:=by rw[<- hsec,hwi];rfl
     exact this
    | false =>
     have nt:un .not (vb false)=some (vb true):=rfl;simp only[nt,aI];refine hbad ?_ _ e1;have:T.nodeOk n=false:=by rw[<- hsec,hwi];rfl
     exact this
   ·have sg:aA .gtr (vi (T.node n).links) (vi 0)=some (vb false):=by rw[bL];simp;omega
    simp only[k4,d1,d6,k2,se,iz,sg,hjj,aI];refine hgood ?_ _ e1;have:T.nodeOk n=true:=by rw[<- hsec,decide_eq_false hpos];simp
    exact this
  ·have se:aA .eql (u8 (T.node n).kind) (u8 2#8)=some (vb false):=by rw[fH];simp[hk2]
   simp only[k4,d1,k2,se,hjj,aI];refine hgood ?_ _ e1;have:T.nodeOk n=true:=by rw[<- hsec,decide_eq_false hk2];simp
   exact this
 by_cases hk1:(T.node n).kind=2#8/\1<(T.node n).links
 ·have se:aA .eql (u8 (T.node n).kind) (u8 2#8)=some (vb true):=by rw[fH];simp[hk1.1]
  have sg:aA .gtr (vi (T.node n).links) (vi 1)=some (vb true):=by rw[bL];simp[hk1.2]
  have hb:(decide ((T.node n).links=(T.cntR T.nums n:Int))&&(!(decide ((T.node n).links=0)&&decide ((T.node n).held=0)))&&(!(decide ((T.node n).kind=2#8)&&decide (1<(T.node n).links)))&&(!(decide ((T.node n).kind=2#8)&&decide (0<(T.node n).links))||T.within 1#16 n))=false:=by
   rw[decide_eq_true hk1.1,decide_eq_true hk1.2];simp
  cases x with
  | true =>
   have s2:=s2 rfl;simp only[k4,d1,d6,d7,hlk,sn,iz,s1,s2,k2,se,i1,sg,aI];exact hbad hb _ e1
  | false =>
   simp only[k4,d1,d6,hlk,sn,iz,s1,k2,se,i1,sg,aI];exact hbad hb _ e1
 ·have hk2:∃ y:Bool,aA .eql (u8 (T.node n).kind) (u8 2#8)=some (vb y)/\(y=true->aA .gtr (vi (T.node n).links) (vi 1)=some (vb false)):=by
   by_cases h2:(T.node n).kind=2#8
   ·refine⟨true,by rw[fH];simp[h2],λ_ =>?_⟩
    have:¬ 1<(T.node n).links:=λh=>hk1 ⟨h2,h⟩;rw[bL];simp;omega
   ·exact⟨false,by rw[fH];simp[h2],λh=>nomatch h⟩
  obtain⟨y,t1,t2⟩:=hk2;have fin:=fin hk1;cases x with
  | true =>
   have s2:=s2 rfl;cases y with
   | true =>
    have t2:=t2 rfl;simp only[k4,d1,d6,d7,hlk,sn,iz,s1,s2,k2,t1,i1,t2,aI];simp only[k4,d1,k2,t1,aI]at fin;exact fin
   | false =>
    simp only[k4,d1,d6,d7,hlk,sn,iz,s1,s2,k2,t1,aI];simp only[k4,d1,k2,t1,aI]at fin;exact fin
  | false =>
   cases y with
   | true =>
    have t2:=t2 rfl;simp only[k4,d1,d6,hlk,sn,iz,s1,k2,t1,i1,t2,aI];simp only[k4,d1,k2,t1,aI]at fin;exact fin
   | false =>
    simp only[k4,d1,d6,hlk,sn,iz,s1,k2,t1,aI];simp only[k4,d1,k2,t1,aI]at fin;exact fin
end
end
section
set_option maxRecDepth 20000
section
variable {E:Sy}{H H' H0:AH}{Q:Value->AH->Prop}{w r:Nat}{T:Tr}{M:List aX}{L:List (BitVec 16×Int)}{f:BitVec 16->Nat}{v:Value}
theorem Tr.nums_len(hl:T.N.length<=65536):T.nums.length<=65536:=by
 unfold Tr.nums;refine Nat.le_trans (List.length_filter_le _ _) ?_;simp;omega
theorem aEy(l:List (BitVec 16))(n k:BitVec 16):T.cntR (l++[n]) k=T.cntR l k+eP k (T.entsK n):=by
 unfold Tr.cntR;rw[List.map_append,List.sum_append];simp[Nat.add_assoc]
theorem aDY(hel:∀ n,(T.node n).ents.length<2 ^ 32)(n k:BitVec 16):eP k (T.entsK n)<=2 ^ 32:=by
 have h1:eP k (T.entsK n)<=(T.entsK n).length:=aAs;have h2:=hel n;unfold Tr.entsK at h1 ⊢
 split at h1
 ·rw[if_pos (by assumption)];omega
 ·rw[if_neg (by assumption)];simp[eP]
theorem aHX(hel:∀ n,(T.node n).ents.length<2 ^ 32)(l:List (BitVec 16))(hl:l.length<=65536)(k:BitVec 16):T.cntR l k<=2 ^ 60:=by
 have key:∀ l:List (BitVec 16),(l.map λn=>eP k (T.entsK n)).sum<=l.length*2 ^ 32:=by
  intro l
  induction l with
  | nil=>simp
  | cons n l ih =>
   have:=aDY hel n k;simp only[List.map_cons,List.sum_cons,List.length_cons]at ih ⊢;omega
 have:=key l;unfold Tr.cntR
 split<;>omega
theorem Rows.only{H H':AH}{sz:Nat}{v:Value}{rows:List (List Value)}{F:List Nat}(h:Rows H sz v rows)(o:dK F H H')(hb:∀ b,blk v=some b->b ∉ F):Rows H' sz v rows:=by
 refine⟨h.len,?_⟩;rcases h.at_ with h | ⟨b,o',c,h1,h2,h3,h4⟩
 ·exact .inl h
 ·have:=o.get (AH.lt_of_get (iI h4)) (hb b (by rw[h1];rfl))
  exact .inr ⟨b,o',c,h1,h2,by rw[this];exact h3,by rw[this];exact h4⟩
theorem S.f126(hE:bF E)(hw:lU H w T M)(hl:T.N.length<=65536)(hM:M.length<=1000)(hnl:∀ n,∀ e∈(T.node n).ents,e.1.length<2 ^ 63)(hel:∀ n,(T.node n).ents.length<2 ^ 32)(hQ:∀ H',Ext H H'->Q (vb (sG T M)) H'):E.call 30 [ptr w 0] H Q:=by
 apply hE.f126;have x1:Ext H (H.new (.map [] 0 true)):=(Ext.refl _).new _;have hm1:eK u16 viI (H.new (.map [] 0 true)) H.next ([]:List (BitVec 16×Int)):=eK.new H;obtain⟨o,_,s1,s2⟩:=hm1.set (kd:=0) (λa b=>kX a b) 1#16 (1:Int);have s1:setMap 0 (.map (some H.next)) (.int .u16 1) (vi 1) (H.new (.map [] 0 true))=some ((H.new (.map [] 0 true)).put H.next o):=s1;have x2:Ext H ((H.new (.map [] 0 true)).put H.next o):=x1.put (Nat.le_refl _) o
 have c2:vU (kD 1#16 (1:Int) []) (T.cntR []):=by
  intro k;rw[pI];unfold Tr.cntR
  by_cases e:k=1#16
  ·rw[if_pos e,if_pos e];rfl
  ·rw[if_neg e,if_neg e];rfl
 obtain⟨⟨p,m,Ly0,q',nx,a1,a2,a3⟩,_⟩:=id hw;have q1:=x2.cells a1;have q2:=a2.mono x2;simp only[F.f126,fN,aIn,s1,q1,aI];generalize (H.new (.map [] 0 true)).put H.next o=H2 at *;refine S.f13 hE q2 hl λnv H3 e3 r3 f3 =>?_;have hlv:=r3.lenSlc;rw[iD]at hlv;have hnl2:=Tr.nums_len hl;have i0:vi 0=vi ((0:Nat):Int):=rfl;have hm3:=s2.keep (e3.get s2.lt);simp only[hlv,i0,aI];refine bY.count T.nums.length (λj ls H'=>∃ L,ls=[ptr w 0,.map (some H.next),nv,vi T.nums.length,vi j]/\Ext H H'/\Rows H' 1 nv (sI T.nums)/\eK u16 viI H' H.next L/\vU L (T.cntR (T.nums.take j))/\(T.nums.take j).all T.entsOk=true) ?_ ⟨_,rfl,x2.trans e3,r3,hm3,c2,rfl⟩;rintro j _ H4 X0 hj hX ⟨L,rfl,e4,r4,hm4,c4,hall⟩;have q1:=e4.cells a1;have q2:=a2.mono e4;rcases Nat.lt_or_ge j T.nums.length with hjl | hjl
 rotate_left
 ·have s:=aAg (show ¬ j<T.nums.length by omega)
  rw[List.take_of_length_le hjl]at hall c4;unfold sG at hQ;rw[hall,Bool.true_and]at hQ;simp only[F.f126_l1,s,q1,aI];refine S.f13 hE q2 hl λnv2 H5 e5 r5 f5 =>?_;have hlv5:=r5.lenSlc;rw[iD]at hlv5;simp only[hlv5,aI];exact aF6 hE (hw.mono (e4.trans e5)) (hm4.keep (e5.get hm4.lt)) c4 hl hM r5 λH' e=>hQ H' ((e4.trans e5).trans e)
 have hX:=hX hjl;have s:=zY hjl;obtain⟨b,o',p1,p2⟩:=r4.ix (i:=j) (by rw[iD];exact hjl)
 have hrw:(sI T.nums)[j]'(by rw[iD];exact hjl)=[u16 T.nums[j]]:=by simp[sI]
 rw[hrw]at p2;have p3:(H4.get b).cell o'=some (u16 T.nums[j]):=by have:=eG p2 (j:=0) (by omega);simpa using this
 have hmem:T.nums[j]∈T.nums:=List.getElem_mem hjl;have hkn:(T.node T.nums[j]).kind≠0#8:=(Tr.nums_mem hl _).1 hmem
 have hbad:T.entsOk T.nums[j]=false->∀ H',Ext H H'->Q (vb false) H':=λh H' e=>by
  have:=hQ H' e;unfold sG at this;rw[aCY hjl h,Bool.false_and]at this;exact this
 have hgood:T.entsOk T.nums[j]=true->∀ H' L',Ext H H'->Rows H' 1 nv (sI T.nums)->eK u16 viI H' H.next L'->vU L' (λk=>T.cntR (T.nums.take j) k+eP k (T.entsK T.nums[j]))->X0 [ptr w 0,.map (some H.next),nv,vi T.nums.length,vi ((j+1:Nat):Int)] H':=λh H' L' e rr hm c=>hX _ _ ⟨L',rfl,e,rr,hm,by
   intro k;rw[List.take_succ_eq_append_getElem hjl,aEy];exact c k,wB hjl hall h⟩
 generalize T.nums[j]=n at *;simp only[F.f126_l1,s,p1,p3,q1,aI];refine S.f8 hE q2 n ?_;rcases q2.get n with ⟨k0,_⟩ | ⟨kk,yy,k0,k1,k3,k4,k5⟩
 ·exact(hkn k0).elim
 rw[bG q2.cov.nd k1];have d3:(inC n (T.node n) yy)[3]? = some (.map yy.nm):=rfl
 have hrm:∃ ob,lY (.map yy.nm) H4=some (ob,kB):=by
  by_cases hk:(T.node n).kind=2#8
  ·obtain⟨s',hs'⟩:=k5.dir hk
   obtain⟨ob,o1,_⟩:=fF.start (cM.names (q2.node k1) hs');exact⟨ob,by rw[hs'];exact o1⟩
  ·rw[k5.nodir hk];exact⟨_,rfl⟩
 obtain⟨ob,hrm⟩:=hrm;simp only[k4,d3,hrm,AM.cX,aI]
 exact aGl hE hw hnl hel hmem (nm:=yy.nm) (ord:=yy.ord) (λhk=>by
  obtain⟨s',hs'⟩:=k5.dir hk;exact⟨s',hs',cM.names (a2.node k1) hs',k5.perm⟩) (λhk=>k5.nodir hk) e4 (Nat.le_refl _) hm4 c4 (aHX hel _ (by rw[List.length_take];omega)) hrm (by omega) hbad λhok H' L' e on hm c=>hgood hok H' L' e (r4.only on λb hb=>by
  have:=f3 b hb;have h2:H.next<H2.next:=s2.lt;simp;omega) hm c
end
end
section
set_option maxRecDepth 20000
section
variable {T:Tr}{M:List aX}
theorem xH{α:Type}(p:α->Bool)(g:α->Nat):∀ l:List α,(∀ x∈l,p x=false->g x=0)->((l.filter p).map g).sum=(l.map g).sum
 | [],_=>rfl
 | x :: l,h=>by
  have ih:=xH p g l λy hy=>h y (List.mem_cons_of_mem _ hy);rw[List.filter_cons];cases hx:p x with
  | true=>simp[ih]
  | false=>simp[ih,h x List.mem_cons_self hx]
theorem Tr.nodes_map{β:Type}(hl:T.N.length<=65536)(g:Nd->β):T.N.map g=((List.range T.N.length).map (BitVec.ofNat 16)).map λn=>g (T.node n):=by
 apply List.ext_getElem
 ·simp
 ·intro k h1 h2
  have hk:k<T.N.length:=by simpa using h1
  simp only[List.getElem_map,List.getElem_range]
  congr 1
  unfold Tr.node;rw[BitVec.toNat_ofNat,Nat.mod_eq_of_lt (by omega),List.getD_eq_getElem?_getD,List.getElem?_eq_getElem hk]
  rfl
theorem Tr.WF.entsK(wf:T.WF)(n:BitVec 16):T.entsK n=(T.node n).ents:=by
 unfold Tr.entsK
 split
 ·rfl
 ·cases he:(T.node n).ents with
  | nil=>rfl
  | cons x l=>exact(‹¬ _› (wf.ents n x.1 x.2 (by rw[he];exact List.mem_cons_self)).1).elim
theorem Tr.WF.cntR(wf:T.WF)(k:BitVec 16):T.cntR T.nums k=(if k=1#16 then 1 else 0)+T.refs k:=by
 have h16:=wf.len16;unfold Tr.cntR
 congr 1
 have hf:(λn=>eP k (T.entsK n))=λn=>eP k (T.node n).ents:=by funext n;rw[wf.entsK]
 rw[hf];unfold Tr.nums Tr.refs;rw[xH,Tr.nodes_map (by omega)]
 intro n _ h;have h0:(T.node n).kind=0#8:=by simpa using h
 rw[wf.zero n h0];rfl
theorem Tr.WF.refs1(wf:T.WF):T.refs 1#16=0:=by
 have h16:=wf.len16;rcases Nat.eq_zero_or_pos (T.refs 1#16) with h | h
 ·exact h
 ·obtain⟨n,s,hs⟩:=Tr.refs_pos (by omega) h
  exact((wf.ents n s _ hs).2.2.2.2.1 rfl).elim
theorem Tr.WF.links_cnt(wf:T.WF){n:BitVec 16}(hk:(T.node n).kind≠0#8):(T.node n).links=(T.cntR T.nums n:Int):=by
 rw[wf.cntR]
 by_cases e:n=1#16
 ·subst e
  rw[if_pos rfl,wf.refs1,wf.root.2.2];rfl
 ·rw[if_neg e,wf.links n e hk,Nat.zero_add]
theorem wR(hk:(T.node 1#16).kind=2#8):∀ {f:Nat} {n:BitVec 16},(T.node n).kind=2#8->T.rootIn f n->(∀ m,(T.node m).kind=2#8->m≠1#16->(T.node m).parent≠m\/True)->T.rootIn f n->(∀ m,T.rootIn f m->m≠1#16->m≠(T.node m).parent)->T.withinF 1#16 (f+1) n=true
  | 0,n,_,h,_,_,_=>by
    have:n=1#16:=h;subst this;simp[Tr.withinF,hk]
  | f+1,n,hn,h,a,_,b=>by
    rw[Tr.withinF,if_neg (by simp[hn])]
    by_cases e:n=1#16
    · rw[if_pos e]
    · rw[if_neg e,if_neg (b n h e)]
      rcases h with h | h
      · exact(e h).elim
      · have hp:(T.node (T.node n).parent).kind=2#8:=by
          cases f with
          | zero=>have:(T.node n).parent=1#16:=h.2;rw[this];exact hk
          | succ f => rcases h.2 with h2 | h2
                      · rw[h2];exact hk
                      · exact h2.1
        exact wR hk hp h.2 a h.2 λm hm=>b m (Tr.rootIn_mono hm (by omega))
theorem vO:∀ {f:Nat} {n:BitVec 16},T.rootIn f n->n≠1#16->n≠(T.node n).parent
 | 0,_,h,hn=>(hn h).elim
 | f+1,n,h,hn=>by
  rcases h with h | h
  ·exact(hn h).elim
  ·intro e
   rw[<- e]at h;exact vO h.2 hn e
theorem Tr.WF.rootWithin(wf:T.WF){n:BitVec 16}(hn:T.Live n):T.within 1#16 n=true:=by
 have hd:=wf.depth n hn.1 hn.2;unfold Tr.within;rw[Tr.withinF_root wf.root.1 wf.root.2.1 _ hd (by omega)]
 exact wR wf.root.1 hn.1 hd (λ_ _ _ => .inr trivial) hd λm hm h1=>vO hm h1
theorem aBG(wf:T.WF)(ti:T.Tidy)(hm:∀ m∈M,(T.node m.root).kind=2#8/\(m.id≠0->(T.node m.at_.i).kind=2#8)):sG T M=true:=by
 have h16:=wf.len16;unfold sG;rw[Bool.and_eq_true,Bool.and_eq_true,List.all_eq_true,List.all_eq_true,List.all_eq_true];refine⟨λn hn =>?_,λn hn =>?_,λm hm' =>?_⟩
 ·unfold Tr.entsOk
  rw[wf.entsK,List.all_eq_true];intro e he;obtain⟨_,_,a,b,_,c⟩:=wf.ents n e.1 e.2 he;unfold Tr.entOk;rw[a,decide_eq_true b]
  by_cases h2:(T.node e.2).kind=2#8
  ·simp[c h2]
  ·simp[h2]
 ·have hk:=(Tr.nums_mem (by omega) n).1 hn
  have hl:=wf.links_cnt hk;have ht:=ti n hk;unfold Tr.nodeOk;rw[decide_eq_true hl,Bool.true_and]
  have a1:(!(decide ((T.node n).links=0)&&decide ((T.node n).held=0)))=true:=by
   rw[<- Bool.decide_and,decide_eq_false (λh=>ht.elim (λk=>k h.1) λk=>k h.2)];rfl
  have hle:(T.node n).kind=2#8->(T.node n).links<=1:=λh2=>by
   by_cases e:n=1#16
   ·rw[e,wf.root.2.2];exact Int.le_refl _
   ·rw[wf.links n e hk]
    have:=wf.dirs n h2;omega
  have a2:(!(decide ((T.node n).kind=2#8)&&decide (1<(T.node n).links)))=true:=by
   rw[<- Bool.decide_and,decide_eq_false (λh=>by have:=hle h.1;have:=h.2;omega)];rfl
  rw[a1,a2,Bool.true_and]
  by_cases h2:(T.node n).kind=2#8/\0<(T.node n).links
  ·rw[wf.rootWithin ⟨h2.1,by have:=h2.2;omega⟩];simp
  ·rw[<- Bool.decide_and,decide_eq_false h2];rfl
 ·obtain⟨a,b⟩:=hm m hm'
  unfold Tr.mntOk;rw[decide_eq_true a,Bool.true_and]
  by_cases h0:m.id=0
  ·simp[h0]
  ·simp[b h0]
end
end
section
set_option maxRecDepth 20000
structure dX where
 dir:aG
 name:aK
 ino:BitVec 16
 deriving DecidableEq
def dX.cells(s:dX):List Value:=[vi s.dir.m,u16 s.dir.i,str s.name,u16 s.ino]
abbrev dX.v(s:dX):Value := .agg s.cells.toArray
def dX.zero:dX:=⟨⟨0,0#16⟩,[],0#16⟩
def cA(T:Tr)(M:List aX)(c:aG)(path:List UInt8):dX×Int :=
 if(bW T M c path).2.2≠0 then(dX.zero,(bW T M c path).2.2)
 else if(T.look (bW T M c path).1.i (bW T M c path).2.1).2≠0/\(T.look (bW T M c path).1.i (bW T M c path).2.1).2≠2 then(dX.zero,(T.look (bW T M c path).1.i (bW T M c path).2.1).2)
 else(⟨(bW T M c path).1,(bW T M c path).2.1,(T.look (bW T M c path).1.i (bW T M c path).2.1).1⟩,0)
def jG(T:Tr)(M:List aX)(s:dX)(d:Bool):Tr×Int :=
 if s.ino=0#16 then(T,2) else if M.any (nF s.ino)=true then(T,16) else T.drop s.dir.i s.name d
def qZ(T:Tr)(p:aG)(s:dX):Tr×Int:=if p.m≠s.dir.m then(T,18) else T.add s.dir.i s.name p.i
def fG(T:Tr)(M:List aX)(a b:dX):Tr×Int :=
 if a.ino=0#16 then(T,2) else if a.dir.m≠b.dir.m then(T,18) else if M.any (nF a.ino)=true\/(b.ino≠0#16/\M.any (nF b.ino)=true) then(T,16) else T.move a.dir.i a.name b.dir.i b.name
section
variable {X:List Res}{E:Sy}{H H' H0:AH}{Q:Value->AH->Prop}{w:Nat}{T:Tr}{M:List aX}{nx:Int}{v:Value}
theorem WkO.held2{b b':Nat}{c c':List Value}(h:WkO ((X++[bE b c])++[bE b' c']) H0 H w T M nx):H.get b = .cells c none:=(h.openX (k:=X.length) (r:=bE b c) (by simp)).1.holds
theorem st4(K:AH)(s:dX):storeN 4 (ptr K.next 0) s.v (K.new (.cells [vi 0,(.int .u16 0),(.string ⟨#[]⟩),(.int .u16 0)] none))=some (K.new (.cells s.cells none)):=by
 rw[bJ,AH.get_new_self];have h3:AM.splice [vi 0,(.int .u16 0),(.string ⟨#[]⟩),(.int .u16 0)] 0 s.cells=s.cells:=rfl;have h4:s.cells.all plain1=true:=rfl;have h5:s.cells.length=4:=rfl;have h6:([vi 0,(.int .u16 0),(.string ⟨#[]⟩),(.int .u16 0)]:List Value).length=4:=rfl;simp only[List.size_toArray,List.toList_toArray,h5,h4,h6,Nat.zero_add,Nat.le_refl,and_self,if_true,h3,AH.new_put]
theorem st2(K:AH)(p:aG):storeN 2 (ptr K.next 0) p.v (K.new (.cells [vi 0,(.int .u16 0)] none))=some (K.new (.cells p.cells none)):=by
 rw[bJ,AH.get_new_self];have h3:AM.splice [vi 0,(.int .u16 0)] 0 p.cells=p.cells:=rfl;have h4:p.cells.all plain1=true:=rfl;have h5:p.cells.length=2:=rfl;have h6:([vi 0,(.int .u16 0)]:List Value).length=2:=rfl;simp only[List.size_toArray,List.toList_toArray,h5,h4,h6,Nat.zero_add,Nat.le_refl,and_self,if_true,h3,AH.new_put]
theorem aLi{b:Nat}{c:List Value}(hb:H.get b = .cells c none)(hc:c.length=4)(s:dX):storeN 4 (ptr b 0) s.v H=some (H.put b (.cells s.cells none)):=by
 rw[bJ,hb];have h4:s.cells.all plain1=true:=rfl;have h5:s.cells.length=4:=rfl;have h3:AM.splice c 0 s.cells=s.cells:=by simp[splice,hc,h5]
 simp only[List.size_toArray,List.toList_toArray,h5,h4,hc,Nat.zero_add,Nat.le_refl,and_self,if_true,h3]
theorem aK8{b:Nat}{c:List Value}(hb:H.get b = .cells c none)(hc:c.length=2)(p:aG):storeN 2 (ptr b 0) p.v H=some (H.put b (.cells p.cells none)):=by
 rw[bJ,hb];have h4:p.cells.all plain1=true:=rfl;have h5:p.cells.length=2:=rfl;have h3:AM.splice c 0 p.cells=p.cells:=by simp[splice,hc,h5]
 simp only[List.size_toArray,List.toList_toArray,h5,h4,hc,Nat.zero_add,Nat.le_refl,and_self,if_true,h3]
theorem S.f127(hE:bF E)(hw:lU H w T M)(wf:T.WF)(lt:T.LT)(c:aG)(path:List UInt8)(hp:path.length<2 ^ 63)(hQ:∀ H',Ext H H'->Q (.tuple #[(cA T M c path).1.v,vi (cA T M c path).2]) H'):E.call 9 [ptr w 0,c.v,str path] H Q:=by
 apply hE.f127;have z4:([vi 0,(.int .u16 0),(.string ⟨#[]⟩),(.int .u16 0)]:List Value)=dX.zero.cells:=rfl;have z2:([vi 0,(.int .u16 0)]:List Value)=aG.zero.cells:=rfl;have g2:=((Has.start (Ext.refl H)).newbox c.cells).newbox dX.zero.cells;have g2:Has H H ((H.new (.cells c.cells none)).new (.cells dX.zero.cells none)) [bE H.next c.cells,bE (H.next+1) dX.zero.cells]:=g2;simp only[F.f127,fQ,AM.cX,fK,List.toList_toArray,z4,bD,aI];generalize (H.new (.cells c.cells none)).new (.cells dX.zero.cells none)=H2 at *;have lo1:aH 2 (ptr H.next 0) H2=some c.v:=by rw[aQ,g2.box (k:=0) (b:=H.next) rfl];rfl
 simp only[lo1,aI];refine S.f132 hE (hw.mono g2.ext) wf lt c path hp λH3 e3 =>?_;have g3:=g2.grow e3;have g4:=g3.newbox (bW T M c path).1.cells;have g4:Has H H (H3.new (.cells (bW T M c path).1.cells none)) [bE H.next c.cells,bE (H.next+1) dX.zero.cells,bE H3.next (bW T M c path).1.cells]:=g4;simp only[z2,bD,st2,aI];have hst2:=st2 H3 (bW T M c path).1;rw[z2]at hst2;simp only[hst2,aI];unfold cA at hQ;generalize (bW T M c path)=l at *;obtain⟨d,name,e⟩:=l;simp only at hQ hst2 g4 ⊢;generalize H3.new (.cells d.cells none)=H5 at *;have i0:(.int .i64 0:Value)=vi 0:=rfl;have i2:(.int .i64 2:Value)=vi 2:=rfl;have hbz:aV [(0,2),(2,1),(3,1)] #[vi 0,(.int .u16 0),(.string ⟨#[]⟩),(.int .u16 0)] []=some dX.zero.v:=rfl
 have fin:∀ (s:dX) (x:Int),(∀ H',Ext H H'->Q (.tuple #[s.v,vi x]) H')->∀ H5,Has H H H5 [bE H.next c.cells,bE (H.next+1) dX.zero.cells,bE H3.next d.cells]->(opt (storeN 4 (ptr (H.next+1) 0) s.v H5) λH6=>opt (aH 4 (ptr (H.next+1) 0) H6) λv11=>Q (.tuple #[v11,vi x]) H6):=by
  intro s x hq H5 g5;have g6:=g5.put (k:=1) (b:=H.next+1) rfl s.cells;have lo:aH 4 (ptr (H.next+1) 0) (H5.put (H.next+1) (.cells s.cells none))=some s.v:=by rw[aQ,g6.box (k:=1) (b:=H.next+1) rfl];rfl
  simp only[aLi (g5.box (k:=1) (b:=H.next+1) rfl) rfl,lo,aI];exact hq _ g6.ext
 by_cases he:e=0
 rotate_left
 ·have s1:aA .neq (vi e) (vi 0)=some (vb true):=by rw[bR];simp[he]
  rw[if_pos he]at hQ;simp only[i0,s1,hbz,aI];exact fin dX.zero e hQ _ g4
 have s1:aA .neq (vi e) (vi 0)=some (vb false):=by rw[bR];simp[he]
 rw[if_neg (by simpa using he)]at hQ
 obtain⟨⟨p,m,Ly,q',nx,q1,q2,q3⟩,_⟩:=hw.mono g4.ext;have hbd:=g4.box (k:=2) (b:=H3.next) rfl;have d1:d.cells[1]? = some (u16 d.i):=rfl;simp only[i0,s1,q1,hbd,d1,aI];refine S.f10 hE q2 d.i name ?_;generalize T.look d.i name=k at *;obtain⟨n,x⟩:=k;simp only at hQ ⊢;have lo8:aH 2 (ptr H3.next 0) H5=some d.v:=by rw[aQ,hbd];rfl
 have hbv:aV [(0,2),(2,1),(3,1)] #[vi 0,(.int .u16 0),(.string ⟨#[]⟩),(.int .u16 0)] [(0,d.v),(1,str name),(2,u16 n)]=some (dX.v ⟨d,name,n⟩):=rfl
 by_cases hx0:x=0
 ·have s2:aA .neq (vi x) (vi 0)=some (vb false):=by rw[bR];simp[hx0]
  rw[if_neg (by simp[hx0])]at hQ
  simp only[i0,s2,lo8,hbv,aI];exact fin ⟨d,name,n⟩ 0 hQ _ g4
 have s2:aA .neq (vi x) (vi 0)=some (vb true):=by rw[bR];simp[hx0]
 by_cases hx2:x=2
 ·have s3:aA .neq (vi x) (vi 2)=some (vb false):=by rw[bR];simp[hx2]
  rw[if_neg (by simp[hx2])]at hQ
  simp only[i0,i2,s2,s3,lo8,hbv,aI];exact fin ⟨d,name,n⟩ 0 hQ _ g4
 ·have s3:aA .neq (vi x) (vi 2)=some (vb true):=by rw[bR];simp[hx2]
  rw[if_pos ⟨hx0,hx2⟩]at hQ;simp only[i0,i2,s2,s3,hbz,aI];exact fin dX.zero x hQ _ g4
theorem S.f122(hE:bF E)(h:WkO X H0 H w T M nx)(wf:T.WF)(s:dX)(hs:s.name.length<2 ^ 63)(k:BitVec 8)(text:List UInt8)(ht:text.length<2 ^ 63)(hc:T.CO)(hQ:∀ H',WkO X H0 H' w (T.make s.dir.i s.name k text).1 M nx->Q (.tuple #[(if(T.make s.dir.i s.name k text).2.2≠0 then aG.zero else⟨s.dir.m,(T.make s.dir.i s.name k text).2.1⟩:aG).v,vi (T.make s.dir.i s.name k text).2.2]) H'):
  E.call 16 [ptr w 0,s.v,u8 k,str text] H Q:=by
 apply hE.f122;have z2:([vi 0,(.int .u16 0)]:List Value)=aG.zero.cells:=rfl;have h2:=(h.box s.cells).box aG.zero.cells;have h2:WkO ((X++[bE H.next s.cells])++[bE (H.next+1) aG.zero.cells]) H0 ((H.new (.cells s.cells none)).new (.cells aG.zero.cells none)) w T M nx:=h2;simp only[F.f122,fQ,AM.cX,fK,List.toList_toArray,z2,bD,fN,aI];generalize (H.new (.cells s.cells none)).new (.cells aG.zero.cells none)=H2 at *;obtain⟨p,q,hw,⟨m,L,hi,ki⟩,_⟩:=h2.open_;have hb1:=h2.held2;have c0:s.cells[0]? = some (vi s.dir.m):=rfl;have c1:s.cells[1]? = some (u16 s.dir.i):=rfl;have c2:s.cells[2]? = some (str s.name):=rfl;simp only[hw,hb1,c1,c2,aI];refine Ino.cMake hE hi wf s.dir.i s.name hs k text ht hc λL' H4 u4 =>?_;have h4:=ki _ _ _ u4;have hb4:=h4.held;have hb41:=h4.held2;generalize T.make s.dir.i s.name k text=r at *;obtain⟨T',n,e⟩:=r;have i0:(.int .i64 0:Value)=vi 0:=rfl
 have fin:∀ (pl:aG) (x:Int),(∀ H',WkO X H0 H' w T' M nx->Q (.tuple #[pl.v,vi x]) H')->(opt (storeN 2 (ptr (H.next+1) 0) pl.v H4) λH5=>opt (aH 2 (ptr (H.next+1) 0) H5) λv19=>Q (.tuple #[v19,vi x]) H5):=by
  intro pl x hq;have h5:=h4.put pl.cells;have lo:aH 2 (ptr (H.next+1) 0) (H4.put (H.next+1) (.cells pl.cells none))=some pl.v:=by rw[aQ,h5.held];rfl
  simp only[aK8 hb4 rfl,lo,aI];exact hq _ h5.drop.drop
 simp only at hQ ⊢
 by_cases he:e=0
 ·have s1:aA .neq (vi e) (vi 0)=some (vb false):=by rw[bR];simp[he]
  have hbv:aV [(0,1),(1,1)] #[vi 0,(.int .u16 0)] [(0,vi s.dir.m),(1,u16 n)]=some (aG.v ⟨s.dir.m,n⟩):=rfl;simp only[i0,s1,hb41,c0,hbv,aI];subst he;simp only[ne_eq,not_true,if_false]at hQ;exact fin ⟨s.dir.m,n⟩ 0 hQ
 ·have s1:aA .neq (vi e) (vi 0)=some (vb true):=by rw[bR];simp[he]
  have hbz:aV [(0,1),(1,1)] #[vi 0,(.int .u16 0)] []=some aG.zero.v:=rfl;simp only[i0,s1,hbz,aI];simp only[ne_eq,he,not_false_eq_true,if_true]at hQ;exact fin aG.zero e hQ
end
end
section
set_option maxRecDepth 20000
section
variable {X:List Res}{E:Sy}{H H' H0:AH}{Q:Value->AH->Prop}{w:Nat}{T:Tr}{M:List aX}{nx:Int}{v:Value}
theorem S.f124(hE:bF E)(h:WkO X H0 H w T M nx)(wf:T.WF)(s:dX)(d:Bool)(hc:T.CO)(hQ:∀ H',WkO X H0 H' w (jG T M s d).1 M nx->Q (vi (jG T M s d).2) H'):E.call 20 [ptr w 0,s.v,vb d] H Q:=by
 apply hE.f124;have h1:=h.box s.cells;have c1:s.cells[1]? = some (u16 s.dir.i):=rfl;have c2:s.cells[2]? = some (str s.name):=rfl;have c3:s.cells[3]? = some (u16 s.ino):=rfl;have n0:(.int .u16 0:Value)=u16 0#16:=rfl;simp only[F.f124,fQ,AM.cX,fK,List.toList_toArray,fN,aI];generalize H.next=A at *;generalize H.new (.cells s.cells none)=H1 at *;have hb:=h1.held;unfold jG at hQ;simp only[hb,c3,n0,vW,aI]
 by_cases hi:s.ino=0#16
 ·rw[if_pos hi]at hQ
  simp only[hi,decide_true,aI];exact hQ _ h1.drop
 rw[if_neg hi]at hQ;obtain⟨⟨p,m,Ly,q,nx',q1,q2,q3⟩,_⟩:=h1.at_;simp only[hi,decide_false,q1,hb,c3,aI];refine S.f40 hE q M nx' s.ino q3 λH2 e2 =>?_;have h2:=h1.mono e2;cases hu:M.any (nF s.ino) with
 | true =>
  rw[if_pos hu]at hQ;simp only[aI];exact hQ _ h2.drop
 | false =>
  rw[if_neg (by rw[hu];decide)]at hQ
  obtain⟨p,q,hw,⟨m,L,hi,ki⟩,_⟩:=h2.open_;have hb2:=h2.held;simp only[hw,hb2,c1,c2,aI];refine Ino.cDrop hE hi wf s.dir.i s.name d hc λL' H3 u3 =>?_;exact hQ _ (ki _ _ _ u3).drop
theorem S.f121(hE:bF E)(h:WkO X H0 H w T M nx)(wf:T.WF)(p:aG)(s:dX)(hs:s.name.length<2 ^ 63)(hc:T.CO)(hQ:∀ H',WkO X H0 H' w (qZ T p s).1 M nx->Q (vi (qZ T p s).2) H'):E.call 22 [ptr w 0,p.v,s.v] H Q:=by
 apply hE.f121;have h2:=(h.box p.cells).box s.cells;have h2:WkO ((X++[bE H.next p.cells])++[bE (H.next+1) s.cells]) H0 ((H.new (.cells p.cells none)).new (.cells s.cells none)) w T M nx:=h2;have b0:p.cells[0]? = some (vi p.m):=rfl;have b1:p.cells[1]? = some (u16 p.i):=rfl;have c0:s.cells[0]? = some (vi s.dir.m):=rfl;have c1:s.cells[1]? = some (u16 s.dir.i):=rfl;have c2:s.cells[2]? = some (str s.name):=rfl;simp only[F.f121,fQ,AM.cX,fK,List.toList_toArray,fN,aI];generalize (H.new (.cells p.cells none)).new (.cells s.cells none)=H2 at *;have ha:=h2.held2;have hb:=h2.held;unfold qZ at hQ;simp only[ha,hb,b0,c0,aI]
 by_cases hm:p.m=s.dir.m
 ·rw[if_neg (by simpa using hm)]at hQ
  have s1:aA .neq (vi p.m) (vi s.dir.m)=some (vb false):=by rw[hm];exact mU _
  obtain⟨pp,q,hw,⟨m,L,hi,ki⟩,_⟩:=h2.open_;simp only[s1,hw,ha,hb,b1,c1,c2,aI];refine Ino.cAdd hE hi wf s.dir.i s.name hs p.i hc λL' H3 u3 =>?_;exact hQ _ (ki _ _ _ u3).drop.drop
 ·rw[if_pos hm]at hQ
  have s1:aA .neq (vi p.m) (vi s.dir.m)=some (vb true):=by rw[bR];simp[hm]
  simp only[s1,aI];exact hQ _ h2.drop.drop
theorem S.f125(hE:bF E)(h:WkO X H0 H w T M nx)(wf:T.WF)(a b:dX)(hs:b.name.length<2 ^ 63)(hc:T.CO)(hQ:∀ H',WkO X H0 H' w (fG T M a b).1 M nx->Q (vi (fG T M a b).2) H'):E.call 24 [ptr w 0,a.v,b.v] H Q:=by
 apply hE.f125;have h2:=(h.box a.cells).box b.cells;have h2:WkO ((X++[bE H.next a.cells])++[bE (H.next+1) b.cells]) H0 ((H.new (.cells a.cells none)).new (.cells b.cells none)) w T M nx:=h2;have a0:a.cells[0]? = some (vi a.dir.m):=rfl;have a1:a.cells[1]? = some (u16 a.dir.i):=rfl;have a2:a.cells[2]? = some (str a.name):=rfl;have a3:a.cells[3]? = some (u16 a.ino):=rfl;have b0:b.cells[0]? = some (vi b.dir.m):=rfl;have b1:b.cells[1]? = some (u16 b.dir.i):=rfl;have b2:b.cells[2]? = some (str b.name):=rfl;have b3:b.cells[3]? = some (u16 b.ino):=rfl;have n0:(.int .u16 0:Value)=u16 0#16:=rfl;simp only[F.f125,fQ,AM.cX,fK,List.toList_toArray,fN,aI];generalize (H.new (.cells a.cells none)).new (.cells b.cells none)=H2 at *;have ha:=h2.held2;have hb:=h2.held;unfold fG at hQ;simp only[ha,a3,n0,vW,aI]
 by_cases hi:a.ino=0#16
 ·rw[if_pos hi]at hQ
  simp only[hi,decide_true,aI];exact hQ _ h2.drop.drop
 rw[if_neg hi]at hQ;simp only[hi,decide_false,ha,hb,a0,b0,aI]
 by_cases hm:a.dir.m=b.dir.m
 rotate_left
 ·rw[if_pos hm]at hQ
  have s1:aA .neq (vi a.dir.m) (vi b.dir.m)=some (vb true):=by rw[bR];simp[hm]
  simp only[s1,aI];exact hQ _ h2.drop.drop
 rw[if_neg (by simpa using hm)]at hQ
 have s1:aA .neq (vi a.dir.m) (vi b.dir.m)=some (vb false):=by rw[hm];exact mU _
 obtain⟨⟨p,m,Ly,q,nx',q1,q2,q3⟩,_⟩:=h2.at_;simp only[s1,q1,ha,a3,aI];refine S.f40 hE q M nx' a.ino q3 λH3 e3 =>?_;have h3:=h2.mono e3;have ha3:=h3.held2;have hb3:=h3.held;have q13:=e3.cells q1;have q33:=q3.mono e3;cases hu:M.any (nF a.ino) with
 | true =>
  rw[if_pos (.inl hu)]at hQ;simp only[aI];exact hQ _ h3.drop.drop
 | false =>
  have move:∀ H4,WkO ((X++[bE H.next a.cells])++[bE (H.next+1) b.cells]) H0 H4 w T M nx->(∀ H',WkO X H0 H' w (T.move a.dir.i a.name b.dir.i b.name).1 M nx->Q (vi (T.move a.dir.i a.name b.dir.i b.name).2) H') ->
    (opt (aF (ptr w 0)) λv33=>opt (aB v33 0) λv34=>opt (aC v34 H4) λv35=>opt (aB (ptr H.next 0) 0) λv36=>opt (aB v36 1) λv37=>opt (aC v37 H4) λv38=>opt (aB (ptr H.next 0) 2) λv39=>opt (aC v39 H4) λv40 =>
     opt (aB (ptr (H.next+1) 0) 0) λv41=>opt (aB v41 1) λv42=>opt (aC v42 H4) λv43=>opt (aB (ptr (H.next+1) 0) 2) λv44=>opt (aC v44 H4) λv45=>E.call 58 [v35,v38,v40,v43,v45] H4 λv46 H16=>Q v46 H16):=by
   intro H4 h4 hq;obtain⟨p,q,hw,⟨m,L,hi,ki⟩,_⟩:=h4.open_;simp only[hw,h4.held2,h4.held,a1,a2,b1,b2,aI];refine Ino.cMove hE hi wf a.dir.i b.dir.i a.name b.name hs hc λL' H5 u5 =>?_;exact hq _ (ki _ _ _ u5).drop.drop
  by_cases hbi:b.ino=0#16
  ·rw[if_neg (by simp[hu,hbi])]at hQ
   have s4:aA .neq (u16 b.ino) (u16 0#16)=some (vb false):=by rw[aAv];simp[hbi]
   simp only[hb3,b3,n0,s4,aI];have:=move H3 h3 hQ;simp only[aI]at this;exact this
  ·have s4:aA .neq (u16 b.ino) (u16 0#16)=some (vb true):=by rw[aAv];simp[hbi]
   simp only[hb3,b3,n0,s4,q13,aI];refine S.f40 hE q M nx' b.ino q33 λH4 e4 =>?_;have h4:=h3.mono e4;cases hu2:M.any (nF b.ino) with
   | true =>
    rw[if_pos (.inr ⟨hbi,hu2⟩)]at hQ;simp only[aI];exact hQ _ h4.drop.drop
   | false =>
    rw[if_neg (by simp[hu,hu2])]at hQ
    simp only[aI];have:=move H4 h4 hQ;simp only[aI]at this;exact this
end
end
end Go.AM
