/- CONTRACTS ON THE PRINTED FUNCTIONS. -/
import Derived.Test.YtgeenpollgalkaaGreatS9fd3C1
set_option linter.all false
section
namespace Go.AM
section
variable {E:Sy} {H0 H H' H'' H1:AH} {Q:Value->AH->Prop} {t:Nat} {nv nv' nv'' mv:Value} {nx:Int} {mr:List (List Value)} {Y Y' Y'':List RLy} {T T' T'':Tr}
theorem Tr.deepF_le (T:Tr):∀ (f:Nat) (n:BitVec 16),T.deepF f n<=f
 | 0,_=>Nat.le_refl _
 | f+1,n=>by
  have:=Tr.deepF_le T f (T.node n).parent;simp only [Tr.deepF]
  split <;> omega
theorem pJ (hE:bK E) (h:eE H t nv mv nx mr Y T) (fr to n:BitVec 16) (s other:aM) (hn:(T.node n).kind≠0#8) (T1:Tr) (Y1:List RLy) (H1:AH) (u1:gA t nv mv nx mr Y T nv Y1 T1 H H1) (hc1 : -9223372036854775808<=T1.change/\T1.change<9223372036854775807) (a1:(T1.node fr).kind=2#8) (a2:(T1.node to).kind=2#8) (a3:(T1.node n).kind=(T.node n).kind)
  (a4:bS s (T1.node fr).ents=some n) (a5:(T1.node fr).ents.length<2 ^ 35) (a6:(T1.node to).ents.length<2 ^ 35) (hQ:∀ Y' H',gA t nv mv nx mr Y T nv Y' (Tr.moved T1 fr s to other n) H H'->Q (vi 0) H') :
  F.f56_j1 E Q (ptr t 0) (vi (fr.toNat:Int)) (str s) (vi (to.toNat:Int)) (str other) (vi (n.toNat:Int)) (vb (decide ((T.node n).kind=2#8))) H1:=by
 have h1:=u1.ref h;have frlt1:fr.toNat<T1.N.length:=cT (by rw [a1]; decide)
 have tolt1:to.toNat<T1.N.length:=cT (by rw [a2]; decide)
 have nlt1:n.toNat<T1.N.length:=cT (by rw [a3]; exact hn)
 have b1:(T1.node fr).kind≠0#8:=by rw [a1]; decide
 have hh:=h1.head;obtain ⟨yn,bn,on,y1,p1,nd1⟩:=h1.at_ frlt1;obtain ⟨_,_,c2n,_⟩:=nd1.cell;obtain ⟨j,hj,j1,j2,j3⟩:=iJ s _ n a4;simp only [F.f56_j1,aX,aK,aD,Nat.add_zero,Nat.zero_add,hh,aZ,cA.at0,p1,c2n,aJ,aE];refine S.f57 hE h1 fr fun bz oz yz H3 e3 hnz hatz =>?_;obtain ⟨rfl,hyz,hpz⟩:=hatz frlt1;refine ⟨rfl,rfl,rfl,?_⟩;refine S.f67 hE hnz s (by omega) ?_
 refine ⟨rfl,rfl,rfl,?_⟩;rw [j1];refine S.f69 hE yn.l (T1.node fr).ents nd1.2.2 (by omega) j hj fun v' H4 e4 g4 f4 =>?_
 rw [<- j3] at g4;have hh4:=(h1.mono e4).head;obtain ⟨H5,s5,u5⟩:=h1.newL frlt1 y1 p1 (Nd.delE s) (fun _=>rfl) e4 g4 f4 rfl;have h5:=u5.ref h1;have hh5:=h5.head;have hc5:(T1.upd fr (Nd.delE s)).change=T1.change:=rfl;have hnode5:=fun w=>Tr.node_upd b1 (Nd.delE s) w;have tolt5:to.toNat<(T1.upd fr (Nd.delE s)).N.length:=by simpa [Tr.upd] using tolt1
 have hlen5:((T1.upd fr (Nd.delE s)).node to).ents.length<2 ^ 35:=by
  rw [hnode5]
  split
  ·show (eU s (T1.node fr).ents).length<_
   exact Nat.lt_of_le_of_lt (gB _ _).length_le a5
  ·exact a6
 have hkind5:∀ w,((T1.upd fr (Nd.delE s)).node w).kind=(T1.node w).kind:=by
  intro w;rw [hnode5]
  split
  ·rename_i e; rw [e]; rfl
  ·rfl
 obtain ⟨yt,bt,ot,y5,p5,nd5⟩:=h5.at_ tolt5;obtain ⟨_,_,c5,_⟩:=nd5.cell;refine ⟨by simp only [aD,hh4,hh],?_⟩
 simp only [p1,aK,s5,aX,aD,hh5,aZ,Nat.zero_add,cA.at0,p5,c5,aBq,aJ,aE];refine S.f68 hE yt.l _ nd5.2.2 (by omega) other n fun v6 H6 e6 g6 f6 =>?_
 have hh6:=(h5.mono e6).head;obtain ⟨H7,s7,u7⟩:=h5.newL tolt5 y5 p5 (Nd.addE other n) (fun _=>rfl) e6 g6 f6 rfl;have h7:=u7.ref h5;have hh7:=h7.head;have b5:((T1.upd fr (Nd.delE s)).node to).kind≠0#8:=by rw [hkind5,a2]; decide
 have nlt7:n.toNat<((T1.upd fr (Nd.delE s)).upd to (Nd.addE other n)).N.length:=by simpa [Tr.upd] using nlt1
 refine ⟨by simp only [aD,hh6,hh5],?_⟩
 simp only [p5,aK,s7,aJ,aE];have hcc:((T1.upd fr (Nd.delE s)).upd to (Nd.addE other n)).change=T1.change:=rfl;unfold Tr.moved at hQ
 by_cases d1:(T.node n).kind=2#8
 ·simp only [a3,d1,if_true] at hQ
  obtain ⟨y8,b8,o8,q8,p8,nd8⟩:=h7.at_ nlt7;obtain ⟨H8,s8,u8⟩:=h7.num nlt7 q8 p8 (fun x=>{ x with parent:=to }) (fun _=>⟨rfl,rfl⟩) (k:=3) (by omega) (v:=(to.toNat:Int)) rfl
  have h8:=u8.ref h7;have hh8:=h8.head;obtain ⟨H9,s9,u9⟩:=h8.tick;have hc8:(((T1.upd fr (Nd.delE s)).upd to (Nd.addE other n)).upd n (fun x=>{ x with parent:=to })).change=T1.change:=rfl
  rw [hc8] at s9 hh8;simp only [eq_true d1,decide_true,aO,aX,aK,aD,hh7,aZ,Nat.zero_add,cA.at0,p8,s8,F.f56_j2,hh8,cA.at4,eF (a:=T1.change) (b:=1) (by omega) (by omega),s9,aJ,aE]
  exact hQ _ _ (u1.trans (u5.trans (u7.trans (u8.trans u9))))
 ·simp only [a3,d1,if_false] at hQ
  obtain ⟨H9,s9,u9⟩:=h7.tick;rw [hcc] at s9 hh7;simp only [eq_false d1,decide_false,aI,F.f56_j2,aX,aK,aD,hh7,aZ,Nat.zero_add,cA.at4,eF (a:=T1.change) (b:=1) (by omega) (by omega),s9,aJ,aE]
  exact hQ _ _ (u1.trans (u5.trans (u7.trans u9)))
theorem uR (hE:bK E) (h:eE H t nv mv nx mr Y T) (hs:T.small) (fr to n:BitVec 16) (s other:aM) (hc : -9223372036854775808<=T.change/\T.change<9223372036854775806)
  (hn:(T.node n).kind≠0#8) (k1:(T.node fr).kind=2#8) (k2:bS s (T.node fr).ents=some n) (c2:T.dir to=0) (k3:(T.node to).kind=2#8)
  (hold:∀ y,(T.node to).kind=2#8->bS other (T.node to).ents=some y->(T.node y).kind≠0#8/\0<=(T.node y).links/\(T.node y).links<9223372036854775807)
  (hnd:(T.node to).kind=2#8->((T.node to).ents.map Prod.fst).Nodup) (hel:(T.node fr).ents.length<2 ^ 35/\(T.node to).ents.length<2 ^ 35)
  (o:BitVec 16) (ho:bS other (T.node to).ents=some o) (hon:o≠n) (hpos0:0<(T.node to).ents.length) (H4:AH) (ex4:Ext H H4) (dm:T.mayOld n (some o)=0)
  (hQ:∀ Y' H',gA t nv mv nx mr Y T nv Y' (Tr.moved (T.drop to other (decide ((T.node n).kind=2#8))).1 fr s to other n) H H'->Q (vi 0) H') :
  (E.call (E.fid i.f51) [(ptr t 0),(vi (to.toNat:Int)),(str other),(vb (decide ((T.node n).kind=2#8)))] H4 fun v92 H61 =>
    F.f56_j1 E Q (ptr t 0) (vi (fr.toNat:Int)) (str s) (vi (to.toNat:Int)) (str other) (vi (n.toNat:Int)) (vb (decide ((T.node n).kind=2#8))) H61):=by
 obtain ⟨o1,o2,o3⟩:=hold o k3 ho
 have hlk:T.look to other=(o,0):=by
  unfold Tr.look;simp [c2,ho]
 obtain ⟨g1,g2⟩:=Tr.drop_ok k3 ho dm o1;refine S.f51 hE (h.mono ex4) hs to other _ ⟨hc.1,by omega⟩ (fun _=>by rw [hlk]; exact ⟨o1,by show -9223372036854775807<=(T.node o).links; omega,o3⟩) (by omega) fun Y5 H5 u5 =>?_
 have hm:=dm;unfold Tr.mayOld at hm
 have of:fr≠o:=by
  rintro rfl
  have hpos:0<(T.node fr).ents.length:=by
   cases he:(T.node fr).ents with
   | nil=>rw [he] at k2; simp [bS] at k2
   | cons a b=>simp
  simp only [k1] at hm
  by_cases d1:(T.node n).kind=2#8
  ·simp [d1,hpos] at hm
  ·simp [d1] at hm
 have ot:to≠o:=by
  rintro rfl;have hpos:0<(T.node to).ents.length:=by omega
  simp only [k3] at hm
  by_cases d1:(T.node n).kind=2#8
  ·simp [d1,hpos] at hm
  ·simp [d1] at hm
 have hchg:=Tr.drop_change (T:=T) to other (decide ((T.node n).kind=2#8))
 have hkk:∀ w,w≠o->((T.drop to other (decide ((T.node n).kind=2#8))).1.node w).kind=(T.node w).kind:=by
  intro w hw;rw [g2 w hw]
  split
  ·rename_i e; rw [e]; rfl
  ·rfl
 have hso:other≠s\/fr≠to:=by
  by_cases e:fr=to
  ·refine .inl ?_
   rintro rfl;rw [e,ho] at k2;exact hon (Option.some.inj k2)
  ·exact .inr e
 refine pJ hE h fr to n s other hn _ Y5 H5 (gA.after ex4 u5) ⟨by omega,by omega⟩ (by rw [hkk fr of]; exact k1) (by rw [hkk to ot]; exact k3) (hkk n (fun e=>hon e.symm)) ?_ ?_ ?_ hQ
 ·rw [g2 fr of]
  split
  ·rename_i e
   show bS s (eU other (T.node to).ents)=some n
   rw [fB _ _ (hnd k3),if_neg,<- e,k2];rcases hso with g | g
   ·exact fun e=>g e.symm
   ·exact (g e).elim
  ·exact k2
 ·rw [g2 fr of]
  split
  ·exact Nat.lt_of_le_of_lt (gB _ _).length_le hel.2
  ·exact hel.1
 ·rw [g2 to ot,if_pos rfl]
  exact Nat.lt_of_le_of_lt (gB _ _).length_le hel.2
theorem vE (hE:bK E) (h:eE H t nv mv nx mr Y T) (hs:T.small) (fr to n:BitVec 16) (s other:aM) (hc : -9223372036854775808<=T.change/\T.change<9223372036854775806)
    (hn:(T.node n).kind≠0#8) (k1:(T.node fr).kind=2#8) (k2:bS s (T.node fr).ents=some n) (c2:T.dir to=0) (k3:(T.node to).kind=2#8)
    (hold:∀ y,(T.node to).kind=2#8->bS other (T.node to).ents=some y->(T.node y).kind≠0#8/\0<=(T.node y).links/\(T.node y).links<9223372036854775807)
    (hnd:(T.node to).kind=2#8->((T.node to).ents.map Prod.fst).Nodup) (hel:(T.node fr).ents.length<2 ^ 35/\(T.node to).ents.length<2 ^ 35)
    (i8:Int) (old:Option (BitVec 16)) (d:Bool) (Hx:AH) (ex:Ext H Hx) (hd:d=decide ((T.node n).kind=2#8)) (ho:bS other (T.node to).ents=old) (hcase:((i8 = -1/\old=none)\/∃ (j:Nat) (hj:j<(T.node to).ents.length) (o:BitVec 16),i8=j/\old=some o/\(T.node to).ents[j]=(other,o)/\o≠n))
    (hQ:∀ Y' H',gA t nv mv nx mr Y T nv Y' (if T.mayOld n old≠0 then (T,T.mayOld n old) else (Tr.moved (if old.isSome then (T.drop to other (decide ((T.node n).kind=2#8))).1 else T) fr s to other n,0)).1 H H'->Q (vi (if T.mayOld n old≠0 then (T,T.mayOld n old) else (Tr.moved (if old.isSome then (T.drop to other (decide ((T.node n).kind=2#8))).1 else T) fr s to other n,0)).2) H') :
      (
       opt (aA .geq (vi i8) (.int .i64 0)) fun v63 =>
       ifB v63 (
       E.call (E.fid i.f57) [(ptr t 0),(vi (to.toNat:Int))] Hx fun v64 H43 =>
       opt (aH v64) fun v65 =>
       opt (aC v65 2) fun v66 =>
       opt (aB v66 H43) fun v67 =>
       opt (aG 2 v67 (vi i8)) fun v68 =>
       opt (aC v68 1) fun v69 =>
       opt (aB v69 H43) fun v70 =>
       E.call (E.fid i.f57) [(ptr t 0),v70] H43 fun v71 H44 =>
       gd (vb d) true (fun k=>k v71 H44) H44 fun v72 H45 =>
       gd (vb d) true (fun k=>opt (aH v72) fun v=>k v H45) H45 fun v73 H46 =>
       gd (vb d) true (fun k=>opt (aC v73 0) fun v=>k v H46) H46 fun v74 H47 =>
       gd (vb d) true (fun k=>opt (aB v74 H47) fun v=>k v H47) H47 fun v75 H48 =>
       gd (vb d) true (fun k=>opt (aA .neq v75 (.int .i64 2)) fun v=>k v H48) H48 fun v76 H49 =>
       opt (pick (vb d) v76 (.bool false)) fun v77 =>
       ifB v77 (
       Q (.int .i64 20) H49) (
       opt (un .not (vb d)) fun v78 =>
       gd v78 true (fun k=>k v71 H49) H49 fun v79 H50 =>
       gd v78 true (fun k=>opt (aH v79) fun v=>k v H50) H50 fun v80 H51 =>
       gd v78 true (fun k=>opt (aC v80 0) fun v=>k v H51) H51 fun v81 H52 =>
       gd v78 true (fun k=>opt (aB v81 H52) fun v=>k v H52) H52 fun v82 H53 =>
       gd v78 true (fun k=>opt (aA .eql v82 (.int .i64 2)) fun v=>k v H53) H53 fun v83 H54 =>
       opt (pick v78 v83 (.bool false)) fun v84 =>
       ifB v84 (
       Q (.int .i64 21) H54) (
       gd (vb d) true (fun k=>k v71 H54) H54 fun v85 H55 =>
       gd (vb d) true (fun k=>opt (aH v85) fun v=>k v H55) H55 fun v86 H56 =>
       gd (vb d) true (fun k=>opt (aC v86 2) fun v=>k v H56) H56 fun v87 H57 =>
       gd (vb d) true (fun k=>opt (aB v87 H57) fun v=>k v H57) H57 fun v88 H58 =>
       gd (vb d) true (fun k=>opt (lenSlc v88) fun v=>k v H58) H58 fun v89 H59 =>
       gd (vb d) true (fun k=>opt (aA .gtr v89 (.int .i64 0)) fun v=>k v H59) H59 fun v90 H60 =>
       opt (pick (vb d) v90 (.bool false)) fun v91 =>
       ifB v91 (
       Q (.int .i64 39) H60) (
       E.call (E.fid i.f51) [(ptr t 0),(vi (to.toNat:Int)),(str other),(vb d)] H60 fun v92 H61 =>
       F.f56_j1 E Q (ptr t 0) (vi (fr.toNat:Int)) (str s) (vi (to.toNat:Int)) (str other) (vi (n.toNat:Int)) (vb d) H61)))) (
       F.f56_j1 E Q (ptr t 0) (vi (fr.toNat:Int)) (str s) (vi (to.toNat:Int)) (str other) (vi (n.toNat:Int)) (vb d) Hx)):=by
  subst hd;rcases hcase with ⟨rfl,rfl⟩ | ⟨j,hj,o,rfl,rfl,hjo,hon⟩
  · simp [Tr.mayOld] at hQ
    simp only [dY,ge_iff_le,show ¬ (0:Int) <= -1 from by omega,decide_false,aJ,aE,aI]
    exact pJ hE h fr to n s other hn T Y Hx (h.same ex) ⟨hc.1,by omega⟩ k1 k3 rfl k2 hel.1 hel.2 hQ
  · have hj0:(0:Int)<=j:=by omega
    obtain ⟨o1,o2,o3⟩:=hold o k3 ho;have olt:=cT o1;simp only [dY,ge_iff_le,hj0,decide_true,aJ,aE,aO];refine S.f57 hE (h.mono ex) to fun b1 q1 y1 H3 e3 n3 hat3 =>?_;obtain ⟨_,_,c3,_⟩:=n3.cell;obtain ⟨b',o',f1,f2⟩:=n3.2.2.ix (i:=j) (by rw [bD]; exact hj)
    have hrow:(fK (T.node to).ents)[j]'(by rw [bD]; exact hj)=[str other,vi (o.toNat:Int)]:=by simp [fK,hjo]
    rw [hrow] at f2;have f3:(H3.get b').cell (o'+1)=some (vi (o.toNat:Int)):=by have:=dK f2 (j:=1) (by omega); simpa using this
    simp only [aX,aK,aD,c3,f1,f3,aJ,aE];refine S.f57 hE (h.mono (ex.trans e3)) o fun b2 q2 y2 H4 e4 n4 hat4 =>?_;obtain ⟨d0,_,d2,_⟩:=n4.cell;have dl:=n4.lenL;have ex4:=ex.trans (e3.trans e4);have hko:=nG (T.node o).kind;have drop:=fun dm=>uR (Q:=Q) hE h hs fr to n s other hc hn k1 k2 c2 k3 hold hnd hel o ho hon (by omega) H4 ex4 dm
    by_cases d1:(T.node n).kind=2#8
    · by_cases d2':(T.node o).kind=2#8
      · by_cases d3:0<(T.node o).ents.length
        · have d3':(0:Int)<(T.node o).ents.length:=by omega
          have hm:T.mayOld n (some o)=39:=by simp [Tr.mayOld,d1,d2',d3]
          simp [hm] at hQ;simp only [eq_true d1,decide_true,Bool.not_true,dP,dJ,fM,aX,aK,aD,Nat.add_zero,d0,cX,cU,gt_iff_lt,ne_eq,hko,eq_true d2',not_true,decide_false,d2,dl,d3',aQ,aU,aJ,aE,aO,aI];exact hQ _ _ (h.same ex4)
        · have d3':¬ (0:Int)<(T.node o).ents.length:=by omega
          have hm:T.mayOld n (some o)=0:=by simp [Tr.mayOld,d1,d2',d3]
          have:=drop hm (by simpa [hm] using hQ)
          rw [show decide ((T.node n).kind=2#8)=true by simp [d1]] at this
          simp only [eq_true d1,decide_true,Bool.not_true,dP,dJ,fM,aX,aK,aD,Nat.add_zero,d0,cX,cU,gt_iff_lt,ne_eq,hko,eq_true d2',not_true,decide_false,d2,dl,d3',aQ,aU,aJ,aE,aO,aI];rw [show decide ((T.node n).kind=2#8)=true by simp [d1]]
          exact this
      · have hm:T.mayOld n (some o)=20:=by simp [Tr.mayOld,d1,d2']
        simp [hm] at hQ;simp only [eq_true d1,decide_true,Bool.not_true,dP,dJ,fM,aX,aK,aD,Nat.add_zero,d0,cX,cU,gt_iff_lt,ne_eq,hko,eq_false d2',not_false_iff,decide_false,aQ,aU,aJ,aE,aO,aI];exact hQ _ _ (h.same ex4)
    · by_cases d2':(T.node o).kind=2#8
      · have hm:T.mayOld n (some o)=21:=by simp [Tr.mayOld,d1,d2']
        simp [hm] at hQ;simp only [eq_false d1,decide_false,Bool.not_false,dP,dJ,fM,aX,aK,aD,Nat.add_zero,d0,aT,hko,eq_true d2',decide_true,aQ,aU,aJ,aE,aO,aI];exact hQ _ _ (h.same ex4)
      · have hm:T.mayOld n (some o)=0:=by simp [Tr.mayOld,d1,d2']
        have:=drop hm (by simpa [hm] using hQ)
        rw [show decide ((T.node n).kind=2#8)=false by simp [d1]] at this
        simp only [eq_false d1,decide_false,Bool.not_false,dP,dJ,fM,aX,aK,aD,Nat.add_zero,d0,aT,hko,eq_false d2',aQ,aU,aJ,aE,aO,aI];rw [show decide ((T.node n).kind=2#8)=false by simp [d1]]
        exact this
theorem pK (hE:bK E) (h:eE H t nv mv nx mr Y T) (hs:T.small) (fr to n:BitVec 16) (s other:aM) (hc : -9223372036854775808<=T.change/\T.change<9223372036854775806)
    (hn:(T.node n).kind≠0#8) (k1:(T.node fr).kind=2#8) (k2:bS s (T.node fr).ents=some n) (c2:T.dir to=0) (k3:(T.node to).kind=2#8)
    (hold:∀ y,(T.node to).kind=2#8->bS other (T.node to).ents=some y->(T.node y).kind≠0#8/\0<=(T.node y).links/\(T.node y).links<9223372036854775807)
    (hnd:(T.node to).kind=2#8->((T.node to).ents.map Prod.fst).Nodup) (hel:(T.node fr).ents.length<2 ^ 35/\(T.node to).ents.length<2 ^ 35)
    (hsl:other.length<2 ^ 63) (hdp:(T.node n).kind=2#8->(T.node to).links≠0->(T.node to).kind=2#8->T.deepF 20 to=T.deep to/\T.withinF n 20 to=T.within n to) {f:Nat} (hf:(T.node n).kind=2#8->T.fitsF f n) (hf20:f<=20)
    (i8:Int) (old:Option (BitVec 16)) (Hx:AH) (ex:Ext H Hx) (ho:bS other (T.node to).ents=old) (hcase:((i8 = -1/\old=none)\/∃ (j:Nat) (hj:j<(T.node to).ents.length) (o:BitVec 16),i8=j/\old=some o/\(T.node to).ents[j]=(other,o)/\o≠n))
    (hQ:∀ Y' H',gA t nv mv nx mr Y T nv Y' (if T.may n to other old≠0 then (T,T.may n to other old) else (Tr.moved (if old.isSome then (T.drop to other (decide ((T.node n).kind=2#8))).1 else T) fr s to other n,0)).1 H H'->Q (vi (if T.may n to other old≠0 then (T,T.may n to other old) else (Tr.moved (if old.isSome then (T.drop to other (decide ((T.node n).kind=2#8))).1 else T) fr s to other n,0)).2) H') :
      (
       E.call (E.fid i.f46) [(str other)] Hx fun v37 H28 =>
       opt (un .not v37) fun v38 =>
       ifB v38 (
       Q (.int .i64 22) H28) (
       E.call (E.fid i.f57) [(ptr t 0),(vi (to.toNat:Int))] H28 fun v39 H29 =>
       opt (aH v39) fun v40 =>
       opt (aC v40 5) fun v41 =>
       opt (aB v41 H29) fun v42 =>
       opt (aA .eql v42 (.int .i64 0)) fun v43 =>
       ifB v43 (
       Q (.int .i64 2) H29) (
       E.call (E.fid i.f57) [(ptr t 0),(vi (n.toNat:Int))] H29 fun v44 H30 =>
       opt (aH v44) fun v45 =>
       opt (aC v45 0) fun v46 =>
       opt (aB v46 H30) fun v47 =>
       opt (aA .eql v47 (.int .i64 2)) fun v48 =>
       gd v48 true (fun k=>k (ptr t 0) H30) H30 fun v49 H31 =>
       gd v48 true (fun k=>k (vi (to.toNat:Int)) H31) H31 fun v50 H32 =>
       gd v48 true (fun k=>k (vi (n.toNat:Int)) H32) H32 fun v51 H33 =>
       gd v48 true (fun k=>E.call (E.fid i.f59) [v49,v50,v51] H33 fun v h=>k v h) H33 fun v52 H34 =>
       opt (pick v48 v52 (.bool false)) fun v53 =>
       ifB v53 (
       Q (.int .i64 22) H34) (
       gd v48 true (fun k=>k (ptr t 0) H34) H34 fun v54 H35 =>
       gd v48 true (fun k=>k (vi (to.toNat:Int)) H35) H35 fun v55 H36 =>
       gd v48 true (fun k=>E.call (E.fid i.f61) [v54,v55] H36 fun v h=>k v h) H36 fun v56 H37 =>
       gd v48 true (fun k=>k (ptr t 0) H37) H37 fun v57 H38 =>
       gd v48 true (fun k=>k (vi (n.toNat:Int)) H38) H38 fun v58 H39 =>
       gd v48 true (fun k=>E.call (E.fid i.f65) [v57,v58] H39 fun v h=>k v h) H39 fun v59 H40 =>
       gd v48 true (fun k=>opt (aA .add v56 v59) fun v=>k v H40) H40 fun v60 H41 =>
       gd v48 true (fun k=>opt (aA .gtr v60 (.int .i64 16)) fun v=>k v H41) H41 fun v61 H42 =>
       opt (pick v48 v61 (.bool false)) fun v62 =>
       ifB v62 (
       Q (.int .i64 28) H42) (
       opt (aA .geq (vi i8) (.int .i64 0)) fun v63 =>
       ifB v63 (
       E.call (E.fid i.f57) [(ptr t 0),(vi (to.toNat:Int))] H42 fun v64 H43 =>
       opt (aH v64) fun v65 =>
       opt (aC v65 2) fun v66 =>
       opt (aB v66 H43) fun v67 =>
       opt (aG 2 v67 (vi i8)) fun v68 =>
       opt (aC v68 1) fun v69 =>
       opt (aB v69 H43) fun v70 =>
       E.call (E.fid i.f57) [(ptr t 0),v70] H43 fun v71 H44 =>
       gd v48 true (fun k=>k v71 H44) H44 fun v72 H45 =>
       gd v48 true (fun k=>opt (aH v72) fun v=>k v H45) H45 fun v73 H46 =>
       gd v48 true (fun k=>opt (aC v73 0) fun v=>k v H46) H46 fun v74 H47 =>
       gd v48 true (fun k=>opt (aB v74 H47) fun v=>k v H47) H47 fun v75 H48 =>
       gd v48 true (fun k=>opt (aA .neq v75 (.int .i64 2)) fun v=>k v H48) H48 fun v76 H49 =>
       opt (pick v48 v76 (.bool false)) fun v77 =>
       ifB v77 (
       Q (.int .i64 20) H49) (
       opt (un .not v48) fun v78 =>
       gd v78 true (fun k=>k v71 H49) H49 fun v79 H50 =>
       gd v78 true (fun k=>opt (aH v79) fun v=>k v H50) H50 fun v80 H51 =>
       gd v78 true (fun k=>opt (aC v80 0) fun v=>k v H51) H51 fun v81 H52 =>
       gd v78 true (fun k=>opt (aB v81 H52) fun v=>k v H52) H52 fun v82 H53 =>
       gd v78 true (fun k=>opt (aA .eql v82 (.int .i64 2)) fun v=>k v H53) H53 fun v83 H54 =>
       opt (pick v78 v83 (.bool false)) fun v84 =>
       ifB v84 (
       Q (.int .i64 21) H54) (
       gd v48 true (fun k=>k v71 H54) H54 fun v85 H55 =>
       gd v48 true (fun k=>opt (aH v85) fun v=>k v H55) H55 fun v86 H56 =>
       gd v48 true (fun k=>opt (aC v86 2) fun v=>k v H56) H56 fun v87 H57 =>
       gd v48 true (fun k=>opt (aB v87 H57) fun v=>k v H57) H57 fun v88 H58 =>
       gd v48 true (fun k=>opt (lenSlc v88) fun v=>k v H58) H58 fun v89 H59 =>
       gd v48 true (fun k=>opt (aA .gtr v89 (.int .i64 0)) fun v=>k v H59) H59 fun v90 H60 =>
       opt (pick v48 v90 (.bool false)) fun v91 =>
       ifB v91 (
       Q (.int .i64 39) H60) (
       E.call (E.fid i.f51) [(ptr t 0),(vi (to.toNat:Int)),(str other),v48] H60 fun v92 H61 =>
       F.f56_j1 E Q (ptr t 0) (vi (fr.toNat:Int)) (str s) (vi (to.toNat:Int)) (str other) (vi (n.toNat:Int)) v48 H61)))) (
       F.f56_j1 E Q (ptr t 0) (vi (fr.toNat:Int)) (str s) (vi (to.toNat:Int)) (str other) (vi (n.toNat:Int)) v48 H42)))))):=by
  have tail:=fun Hx ex=>vE (Q:=Q) hE h hs fr to n s other hc hn k1 k2 c2 k3 hold hnd hel i8 old (decide ((T.node n).kind=2#8)) Hx ex;unfold Tr.may at hQ;refine S.f46 hE other hsl ?_
  by_cases p1:dL other=false
  · simp [p1] at hQ
    simp only [p1,dP,Bool.not_false,aJ,aE,aO];exact hQ _ _ (h.same ex)
  have p1:dL other=true:=by simpa using p1
  simp only [p1,dP,Bool.not_true,aJ,aE,aI];refine S.f57 hE (h.mono ex) to fun b1 q1 y1 H3 e3 n3 _ =>?_;obtain ⟨_,_,_,_,_,c5,_⟩:=n3.cell;have ex3:=ex.trans e3
  by_cases p2:(T.node to).links=0
  · simp [p1,p2] at hQ
    simp only [aX,aK,aD,c5,p2,aT,decide_true,aJ,aE,aO];exact hQ _ _ (h.same ex3)
  simp only [aX,aK,aD,c5,p2,aT,decide_false,aJ,aE,aI];refine S.f57 hE (h.mono ex3) n fun b2 q2 y2 H4 e4 n4 _ =>?_;obtain ⟨d0,_⟩:=n4.cell;have ex4:=ex3.trans e4;have hkn:=nG (T.node n).kind;simp only [p1,p2,Bool.true_eq_false,if_false] at hQ
  by_cases d1:(T.node n).kind=2#8
  · obtain ⟨hdp1,hdp2⟩:=hdp d1 p2 k3
    simp only [aX,aK,aD,Nat.add_zero,d0,aT,hkn,eq_true d1,decide_true,dJ,aJ,aE];refine S.f59 hE (h.mono ex4) to n fun H5 e5 =>?_;have ex5:=ex4.trans e5;rw [hdp2]
    by_cases p3:T.within n to=true
    · simp only [d1,p3,and_self,if_true] at hQ
      simp only [p3,aQ,aJ,aE,aO];exact hQ _ _ (h.same ex5)
    have p3:T.within n to=false:=by simpa using p3
    simp only [p3,aQ,aJ,aE,aI,dJ];refine S.f61 hE (h.mono ex5) to fun H6 e6 =>?_;have ex6:=ex5.trans e6;rw [hdp1];simp only [dJ,aJ];refine S.f65 hE hs f (h.mono ex6) n (hf d1) hf20 fun H7 e7 =>?_;have ex7:=ex6.trans e7;have hdle:T.deep to<=17:=Tr.deepF_le T 17 to;have htle:T.tall n<=20:=Tr.tallF_le T 20 n
    by_cases p4:16<T.deep to+T.tall n
    · have p4':(16:Int)<(T.deep to:Int)+(T.tall n:Int):=by omega
      simp only [d1,p3,p4,Bool.false_eq_true,and_false,and_self,if_true,if_false] at hQ;simp only [dJ,eF (a:=(T.deep to:Int)) (b:=(T.tall n:Int)) (by omega) (by omega),cU,gt_iff_lt,p4',decide_true,aQ,aJ,aE,aO]
      exact hQ _ _ (h.same ex7)
    · have p4':¬ (16:Int)<(T.deep to:Int)+(T.tall n:Int):=by omega
      simp only [d1,p3,p4,Bool.false_eq_true,and_false,if_false] at hQ;simp only [dJ,eF (a:=(T.deep to:Int)) (b:=(T.tall n:Int)) (by omega) (by omega),cU,gt_iff_lt,p4',decide_false,aQ,aJ,aE,aI]
      have:=tail H7 ex7 rfl ho hcase (by simpa only [d1] using hQ)
      simp only [eq_true d1,decide_true] at this;exact this
  · simp only [d1,false_and,if_false] at hQ
    simp only [aX,aK,aD,Nat.add_zero,d0,aT,hkn,eq_false d1,decide_false,fM,aU,aJ,aE,aI];have:=tail H4 ex4 rfl ho hcase (by simpa only [d1] using hQ)
    simp only [eq_false d1,decide_false] at this;exact this
theorem S.f56 (hE:bK E) (h:eE H t nv mv nx mr Y T) (hs:T.small) (fr to:BitVec 16) (s other:aM) (hsl:other.length<2 ^ 63)
  (hc : -9223372036854775808<=T.change/\T.change<9223372036854775806)
  (hn:(T.look fr s).2=0->(T.node (T.look fr s).1).kind≠0#8)
  (hdp:(T.node (T.look fr s).1).kind=2#8->(T.node to).links≠0->(T.node to).kind=2#8->T.deepF 20 to=T.deep to/\T.withinF (T.look fr s).1 20 to=T.within (T.look fr s).1 to)
  {f:Nat} (hf:(T.look fr s).2=0->(T.node (T.look fr s).1).kind=2#8->T.fitsF f (T.look fr s).1) (hf20:f<=20)
  (hold:∀ y,(T.node to).kind=2#8->bS other (T.node to).ents=some y->(T.node y).kind≠0#8/\0<=(T.node y).links/\(T.node y).links<9223372036854775807)
  (hnd:(T.node to).kind=2#8->((T.node to).ents.map Prod.fst).Nodup) (hel:(T.node fr).ents.length<2 ^ 35/\(T.node to).ents.length<2 ^ 35)
  (hQ:∀ Y' H',gA t nv mv nx mr Y T nv Y' (T.move fr s to other).1 H H'->Q (vi (T.move fr s to other).2) H') :
  E.call (E.fid i.f56) [ptr t 0,vi (fr.toNat:Int),str s,vi (to.toNat:Int),str other] H Q:=by
 apply hE.f56;simp only [F.f56];refine S.f54 hE h hs fr s fun H1 e1 =>?_;unfold Tr.move at hQ
 by_cases c1:(T.look fr s).2=0
 rotate_left
 ·simp [c1] at hQ
  simp only [aJ,dG,List.getElem?_cons_zero,List.getElem?_cons_succ,c1,cX,ne_eq,not_false_iff,decide_true,aE,aO];exact hQ _ _ (h.same e1)
 obtain ⟨k1,k2⟩:=Tr.look_ok c1;have hn:=hn c1;have hf:=hf c1;simp only [c1,ne_eq,not_true,if_false] at hQ;simp only [aJ,dG,List.getElem?_cons_zero,List.getElem?_cons_succ,c1,cX,ne_eq,not_true,decide_false,aE,aI];generalize hnn:(T.look fr s).1=n at *;refine S.f62 hE (h.mono e1) to fun H2 e2 =>?_;have x2:=e1.trans e2
 by_cases c2:T.dir to=0
 rotate_left
 ·simp only [c2,ne_eq,not_false_eq_true,if_true] at hQ
  simp only [c2,cX,ne_eq,not_false_iff,decide_true,aJ,aE,aO];exact hQ _ _ (h.same x2)
 have k3:=Tr.dir_zero.1 c2;have tolt:to.toNat<T.N.length:=cT (by rw [k3]; decide)
 have frlt:fr.toNat<T.N.length:=cT (by rw [k1]; decide)
 simp only [c2,ne_eq,not_true,if_false] at hQ;simp only [c2,cX,ne_eq,not_true,decide_false,aJ,aE,aI];refine S.f57 hE (h.mono x2) to fun bt ot yt H3 e3 n3 hat3 =>?_;have x3:=x2.trans e3;obtain ⟨_,_,t2,_⟩:=n3.cell;have tl:=n3.lenL;refine S.f67 hE n3 other (by omega) ?_
 cases c3:bS other (T.node to).ents with
 | none =>
  rw [nO _ _ c3];have key:=fun Hx ex=>pK (Q:=Q) hE h hs fr to n s other hc hn k1 k2 c2 k3 hold hnd hel hsl hdp hf hf20 (-1) none Hx ex;simp only [c3] at hQ;simp only [dY,ge_iff_le,show ¬ (0:Int) <= -1 from by omega,decide_false,fM,aU,aJ,aE,aI,bI,show ((-1:Int)<0)=True from by simp,decide_true,dJ,cX,ne_eq,rW,aQ]
  by_cases c4:fr=to
  ·subst c4
   simp [c3] at hQ;simp only [not_true,decide_false,fM,aU,aJ,aE,aI];exact key H3 x3 c3 (.inl ⟨rfl,rfl⟩) (by simpa using hQ)
  ·simp only [c4,not_false_iff,decide_true,dJ,aJ]
   refine S.f57 hE (h.mono x3) to fun b4 o4 y4 H4 e4 n4 _ =>?_;obtain ⟨_,_,u2,_⟩:=n4.cell;have ul:=n4.lenL;have x4:=x3.trans e4
   by_cases c5:32<=(T.node to).ents.length
   ·have c5':(32:Int)<=(T.node to).ents.length:=by omega
    simp [c4,c5] at hQ;simp only [c4,not_false_iff,not_false_eq_true,decide_true,dJ,aX,aK,aD,u2,ul,dY,ge_iff_le,c5',decide_true,aQ,aJ,aE,aO];exact hQ _ _ (h.same x4)
   ·have c5':¬ (32:Int)<=(T.node to).ents.length:=by omega
    simp [c4,c5] at hQ;simp only [c4,not_false_iff,not_false_eq_true,decide_true,dJ,aX,aK,aD,u2,ul,dY,ge_iff_le,c5',decide_false,aQ,aJ,aE,aI];exact key H4 x4 c3 (.inl ⟨rfl,rfl⟩) (by simpa using hQ)
 | some o =>
  obtain ⟨j,hj,j1,j2,_⟩:=iJ other _ o c3;rw [j1];have hj0:(0:Int)<=j:=by omega
  have hj1:¬ (j:Int)<0:=by omega
  simp only [dY,ge_iff_le,hj0,decide_true,dJ,aJ,aE];refine S.f57 hE (h.mono x3) to fun b4 o4 y4 H4 e4 n4 _ =>?_;have x4:=x3.trans e4;obtain ⟨_,_,u2,_⟩:=n4.cell;obtain ⟨b',o',f1,f2⟩:=n4.2.2.ix (i:=j) (by rw [bD]; exact hj)
  have hrow:(fK (T.node to).ents)[j]'(by rw [bD]; exact hj)=[str other,vi (o.toNat:Int)]:=by simp [fK,j2]
  rw [hrow] at f2;have f3:(H4.get b').cell (o'+1)=some (vi (o.toNat:Int)):=by have:=dK f2 (j:=1) (by omega); simpa using this
  by_cases c4:o=n
  ·simp [c3,c4] at hQ
   simp only [dJ,aX,aK,aD,u2,f1,f3,aT,rW,eq_true c4,decide_true,aQ,aJ,aE,aO];exact hQ _ _ (h.same x4)
  ·simp [c3,c4] at hQ
   simp only [dJ,fM,aX,aK,aD,u2,f1,f3,aT,bI,hj1,rW,eq_false c4,decide_false,aQ,aU,aJ,aE,aI];exact pK (Q:=Q) hE h hs fr to n s other hc hn k1 k2 c2 k3 hold hnd hel hsl hdp hf hf20 j (some o) H4 x4 c3 (.inr ⟨j,hj,o,rfl,rfl,j2,c4⟩) (by simpa using hQ)
end
end Go.AM
end
section
namespace Go.AM
section
variable {E:Sy} {H0 H H' H'' H1:AH} {Q:Value->AH->Prop} {t:Nat} {nv nv' nv'' mv:Value} {nx:Int} {mr:List (List Value)} {Y Y' Y'':List RLy} {T T' T'':Tr}
def mN:List (List Value):=[dE.cells ⟨0,1,cE.zero,0⟩]
theorem S.f47 (hE:bK E) (limit:Int) (hQ:∀ t nv mv Y H',Ext H H'->eE H' t nv mv 1 mN Y (Tr.new limit)->(∀ b∈(fT t nv mv 1 mN Y (Tr.new limit)).fp,H.next<=b)->Q (ptr t 0) H'):E.call (E.fid i.f47) [vi limit] H Q:=by
 apply hE.f47;have e1:(if (1:Int) > limit then 1 else limit)=max limit 1:=by omega
 have e2:∀ x:Int,(if (256:Int)<x then 256 else x)=min x 256:=fun x=>by omega
 have hb1:bW [(0,1),(1,1),(2,1),(3,1),(4,1),(5,1),(6,1)] #[(.int .i64 0),(.slice none 0 0),(.slice none 0 0),(.int .i64 0),(.string ⟨#[]⟩),(.int .i64 0),(.int .i64 0)] []=some (bX.v bX.zero):=rfl;have hb2:bW [(0,1),(1,1),(2,1),(3,1),(4,1),(5,1),(6,1)] #[(.int .i64 0),(.slice none 0 0),(.slice none 0 0),(.int .i64 0),(.string ⟨#[]⟩),(.int .i64 0),(.int .i64 0)] [(0,(.int .i64 2)),(3,(.int .i64 1)),(5,(.int .i64 1))]=some (bX.v ⟨2,aW,aW,1,[],1,0⟩):=rfl;have hb3:buildS 2 7 #[(.int .i64 0),(.slice none 0 0),(.slice none 0 0),(.int .i64 0),(.string ⟨#[]⟩),(.int .i64 0),(.int .i64 0)] [(0,bX.v bX.zero),(1,bX.v ⟨2,aW,aW,1,[],1,0⟩)]=some (.cells (bX.zero.cells++(⟨2,aW,aW,1,[],1,0⟩:bX).cells) none,dZ 2 2):=bX.buildS [bX.zero,⟨2,aW,aW,1,[],1,0⟩];have hb4:bW [(0,1),(1,1),(2,2),(4,1)] #[(.int .i64 0),(.int .i64 0),(.int .i64 0),(.int .i64 0),(.int .i64 0)] [(1,(.int .i64 1))]=some (dE.v ⟨0,1,cE.zero,0⟩):=rfl;have hb5:buildS 1 5 #[(.int .i64 0),(.int .i64 0),(.int .i64 0),(.int .i64 0),(.int .i64 0)] [(0,dE.v ⟨0,1,cE.zero,0⟩)]=some (.cells (dE.cells ⟨0,1,cE.zero,0⟩) none,dZ 1 1):=dE.build1 _;generalize hlim:min (max limit 1) 256=lim;have hb6:∀ a b,bW [(0,1),(1,1),(2,1),(3,1),(4,1)] #[(.slice none 0 0),(.int .i64 0),(.slice none 0 0),(.int .i64 0),(.int .i64 0)] [(0,slc a 0 2 2),(1,vi lim),(2,slc b 0 1 1),(3,(.int .i64 1))]=some (cA.v ⟨slc a 0 2 2,lim,slc b 0 1 1,1,0⟩):=fun _ _=>rfl;have hmm:(jC max2 [vi limit,(.int .i64 1)])=some (vi (max limit 1)):=by simp [e1]
 have hmn:(jC min2 [vi (max limit 1),(.int .i64 256)])=some (vi lim):=by simp [e2,hlim]
 have hbx:∀ x:cA,gX (cA.v x)=some (.cells x.cells none,fun b=>ptr b 0):=fun x=>rfl;simp only [F.f47,hb1,hb2,hb3,hb4,hb5,hmm,hmn,AM.dN,eN,hb6,hbx,aJ,aE];have hT:Tr.new limit=⟨[Nd.none,{ Nd.none with kind:=2#8,parent:=1#16,links:=1 }],lim,0⟩:=by unfold Tr.new; rw [hlim]
 rw [hT] at hQ;refine hQ (H.next+2) (slc H.next 0 2 2) (slc (H.next+1) 0 1 1) [⟨aW,aW⟩,⟨aW,aW⟩] _ ((((Ext.refl H).new _).new _).new _) ⟨⟨?_,?_,?_⟩,rfl,by simp⟩ ?_
 ·intro r hr
  simp only [dQ,List.zip,List.zipWith,List.map_cons,List.map_nil,List.mem_cons,List.not_mem_nil,or_false] at hr
  have g0:((((H.new (.cells (bX.zero.cells++(⟨2,aW,aW,1,[],1,0⟩:bX).cells) none)).new (.cells (dE.cells ⟨0,1,cE.zero,0⟩) none)).new (.cells (cA.cells ⟨slc H.next 0 2 2,lim,slc (H.next+1) 0 1 1,1,0⟩) none))).get H.next = .cells (bX.zero.cells++(⟨2,aW,aW,1,[],1,0⟩:bX).cells) none:=by
   rw [AH.get_new_ne _ _ (by simp; omega),AH.get_new_ne _ _ (by simp),AH.get_new_self]
  have g1:((((H.new (.cells (bX.zero.cells++(⟨2,aW,aW,1,[],1,0⟩:bX).cells) none)).new (.cells (dE.cells ⟨0,1,cE.zero,0⟩) none)).new (.cells (cA.cells ⟨slc H.next 0 2 2,lim,slc (H.next+1) 0 1 1,1,0⟩) none))).get (H.next+1) = .cells (dE.cells ⟨0,1,cE.zero,0⟩) none:=by
   rw [AH.get_new_ne _ _ (by simp)]
   exact AH.get_new_self _ _
  have g2:((((H.new (.cells (bX.zero.cells++(⟨2,aW,aW,1,[],1,0⟩:bX).cells) none)).new (.cells (dE.cells ⟨0,1,cE.zero,0⟩) none)).new (.cells (cA.cells ⟨slc H.next 0 2 2,lim,slc (H.next+1) 0 1 1,1,0⟩) none))).get (H.next+2) = .cells (cA.cells ⟨slc H.next 0 2 2,lim,slc (H.next+1) 0 1 1,1,0⟩) none:=AH.get_new_self _ _;rcases hr with rfl | rfl | rfl | rfl | rfl
  ·exact g2
  ·exact cB.made (f:=none) (lO _) (g0.trans rfl) (.inl rfl) rfl (by
    intro r hr;simp only [cC,List.zip,List.zipWith,List.map_cons,List.map_nil,List.mem_cons,List.not_mem_nil,or_false] at hr;rcases hr with rfl | rfl <;> exact ⟨rfl,rfl⟩)
  ·exact cB.made (f:=none) (lO _) (g1.trans rfl) (.inl rfl) rfl (by
    intro r hr;simp only [mN,List.mem_cons,List.not_mem_nil,or_false] at hr;subst hr;exact ⟨rfl,rfl⟩)
  ·intro r hr
   simp only [List.mem_cons,List.not_mem_nil,or_false] at hr;rcases hr with rfl | rfl
   ·exact cB.nil _ _ _
   ·exact cB.nil _ _ _
  ·intro r hr
   simp only [List.mem_cons,List.not_mem_nil,or_false] at hr;rcases hr with rfl | rfl
   ·exact cB.nil _ _ _
   ·exact cB.nil _ _ _
 ·intro b hb
  simp [fT,cW,dQ,bN,bP,cL,eP,blk] at hb ⊢;omega
 ·simp [fT,cW,dQ,bN,bP,cL,eP,blk]
 ·intro b hb
  simp [fT,cW,dQ,bN,bP,cL,eP,blk] at hb;omega
end
end Go.AM
end
section
namespace Go.AM
theorem cB.cut {Z H:AH} {sz:Nat} {v:Value} {rows:List (List Value)} (h:cB Z H sz v rows) {k:Nat} (hk:k<=rows.length) :
  ∃ v',dW sz v none (some (vi k)) none H=some v'/\cB Z H sz v' (rows.take k)/\blk v'=blk v:=by
 have hs:=(h.toRows.slice' (lo:=none) (hi:=some (vi k)) (i:=0) (j:=k) (.inr ⟨rfl,rfl⟩) (.inl rfl) (Nat.zero_le _) hk).1;refine ⟨_,hs,?_⟩;rcases h.2 with ⟨rfl,rfl⟩ | ⟨b,f,c,cs,g1,rfl,g3,g4,g5,g6,g7⟩
 ·have:k=0:=by simpa using hk
  subst this;exact ⟨⟨by simp,.inl ⟨by simp,rfl⟩⟩,rfl⟩
 ·have e:gV sz (slc b 0 rows.length c) 0 k=slc b 0 k c:=by
   simp [gV,Addr.add]
  rw [e];refine ⟨⟨fun r hr=>h.1 r (List.mem_of_mem_take hr),.inr ⟨b,f,c,cs,g1,by rw [List.length_take,Nat.min_eq_left hk],g3,by rw [List.length_take]; omega,g5,?_,g7⟩⟩,rfl⟩
  rw [List.length_take,Nat.min_eq_left hk,<- kD rows (fun r hr=>(h.1 r hr).1),<- g6,List.take_take,Nat.min_eq_left (Nat.mul_le_mul_right _ hk)]
theorem aCM (l:List (BitVec 8)) (i:Nat) (x:BitVec 8):cG (l.set i x)=(cG l).set i [u8 x]:=by simp [cG,List.map_set]
theorem yY (a b:List (BitVec 8)):cG (a++b)=cG a++cG b:=by simp [cG]
theorem aBt (a:List (BitVec 8)) (k:Nat):cG (a.take k)=(cG a).take k:=by simp [cG,List.map_take]
section
variable {E:Sy} {H0 H H' H'' H1:AH} {Q:Value->AH->Prop} {t:Nat} {nv nv' nv'' mv:Value} {nx:Int} {mr:List (List Value)} {Y Y' Y'':List RLy} {T T' T'':Tr}
theorem eE.newD (h:eE H t nv mv nx mr Y T) {n:BitVec 16} (hn:n.toNat<T.N.length) {y:RLy} (hy:Y[n.toNat]? = some y) {b o:Nat} (hp:aG 7 nv (vi (n.toNat:Int))=some (ptr b o)) (f:Nd->Nd)
  (hf:∀ x:Nd,(f x).ents=x.ents) {v':Value} (e:Ext H H1) (g:cB zH H1 1 v' (cG (f (T.node n)).data)) (fr:fH H.next v') (hc:(fQ (f (T.node n)) { y with data:=v' }).cells=(fQ (T.node n) y).cells.set 1 v') :
  ∃ H',aN (ptr b (o+1)) v' H1=some H'/\gA t nv mv nx mr Y T nv (Y.set n.toNat { y with data:=v' }) (T.upd n f) H H' :=
 h.cell hn hy hp f _ (cL.setD (h.node_y hn hy) (hf _) e g fr) (by omega) g.plain hc
theorem wX {H0 H:AH} {v:Value} {l:List (BitVec 8)} (g:cB zH H 1 v (cG l)) (e:Ext H0 H) (f:fH H0.next v) (hl:l.length<2 ^ 40) :
  ∃ v' H',AM.app 1 1 v (slc H.next 0 1 1) (H.new (.cells [u8 0#8] none))=some (v',H')/\cB zH H' 1 v' (cG (l++[0#8]))/\Ext H0 H'/\fH H0.next v':=by
 obtain ⟨v',H',a1,a2,a3⟩:=g.app1 (Nat.zero_le _) (bytes:=1) [u8 0#8] rfl rfl (by decide) (by decide) (by rw [bU]; omega)
 obtain ⟨q1,q2⟩:=jU a3 e f;refine ⟨v',H',a1,?_,q1,q2⟩;rw [yY]; exact a2
theorem S.f50 (hE:bK E) (h:eE H t nv mv nx mr Y T) (n:BitVec 16) (size:Int) (hc : -9223372036854775808<=T.change/\T.change<9223372036854775807) (hdl:(T.node n).data.length<2 ^ 39)
  (hQ:∀ Y' H',gA t nv mv nx mr Y T nv Y' (T.cut n size).1 H H'->Q (vi (T.cut n size).2) H'):E.call (E.fid i.f50) [ptr t 0,vi (n.toNat:Int),vi size] H Q:=by
 apply hE.f50;simp only [F.f50];refine S.f57 hE h n fun b o y H1 e1 hn hat =>?_;obtain ⟨c0,c1,_⟩:=hn.cell;have k1:=aGK (T.node n).kind;have k2:=nG (T.node n).kind;have k0:=xC (T.node n).kind;unfold Tr.cut at hQ
 by_cases g0:(T.node n).kind=0#8
 ·simp [g0] at hQ
  simp only [aX,aK,aD,Nat.add_zero,c0,aT,k0,eq_true g0,decide_true,aJ,aE,aO];exact hQ _ _ (h.same e1)
 have hlt:=cT g0;obtain ⟨rfl,hy,hp⟩:=hat hlt
 by_cases g2:(T.node n).kind=2#8
 ·simp [g2] at hQ
  simp only [aX,aK,aD,Nat.add_zero,c0,aT,k0,k2,eq_false g0,eq_true g2,decide_true,decide_false,aJ,aE,aO,aI];exact hQ _ _ (h.same e1)
 by_cases g1:(T.node n).kind=1#8
 rotate_left
 ·simp [g0,g2,g1] at hQ
  simp only [aX,aK,aD,Nat.add_zero,c0,aT,cX,ne_eq,k0,k1,k2,eq_false g0,eq_false g2,eq_false g1,not_false_eq_true,decide_true,decide_false,pI,aQ,aJ,aE,aO,aI];exact hQ _ _ (h.same e1)
 by_cases g3:size<0
 ·simp [g0,g2,g1,g3] at hQ
  simp only [aX,aK,aD,Nat.add_zero,c0,aT,cX,ne_eq,k0,k1,k2,eq_false g0,eq_false g2,eq_true g1,not_true,bI,g3,decide_true,decide_false,jT,aQ,aU,aJ,aE,aO,aI];exact hQ _ _ (h.same e1)
 by_cases g4:1024<size
 ·simp [g0,g2,g1,g3,g4] at hQ
  simp only [aX,aK,aD,Nat.add_zero,c0,aT,cX,cU,gt_iff_lt,ne_eq,k0,k1,k2,eq_false g0,eq_false g2,eq_true g1,not_true,bI,g3,g4,decide_true,decide_false,jT,aQ,aU,aJ,aE,aO,aI];exact hQ _ _ (h.same e1)
 simp [g0,g2,g1,g3,g4] at hQ;have hb0:buildS 0 1 #[(.int .u8 0)] []=some (.cells [] none,dZ 0 0):=tK 1 [u8 0#8] rfl;have e9:Ext H1 (H1.new (.cells [] none)):=(Ext.refl H1).new _;have gr9:cB zH (H1.new (.cells [] none)) 1 (slc H1.next 0 0 0) []:=cB.room (lO _) (AH.get_new_self _ _) rfl
 have c1':((H1.new (.cells [] none)).get b).cell (o+1)=some y.data:=by
  rw [AH.get_new_lt _ _ (AH.lt_of_get (iL hn.1))];exact c1
 simp only [aX,aK,aD,Nat.add_zero,c0,aT,cX,cU,gt_iff_lt,ne_eq,k0,k1,k2,eq_false g0,eq_false g2,eq_true g1,not_true,bI,g3,g4,decide_false,jT,aQ,aU,hb0,AM.dN,eN,c1',aJ,aE,aI];obtain ⟨v18,H11,a1,a2,a3⟩:=gr9.app (bytes:=1) (Nat.zero_le _) (hn.2.1.mono e9) (jV _) (by decide) (by decide) (by simp [bU]; omega) (by simp [bU]; omega)
 obtain ⟨e11,f11⟩:=jU a3 e9 (fun b hb=>by simp [blk] at hb; omega)
 have a1':app 1 1 (slc H1.next 0 0 0) y.data (H1.new (.cells [] none))=some (v18,H11):=a1;simp only [a1',eC,aJ];obtain ⟨sz,rfl⟩:∃ sz:Nat,size=sz:=⟨size.toNat,by omega⟩
 rw [List.nil_append] at a2;have hb1:buildS 1 1 #[(.int .u8 0)] [(0,(.int .u8 0))]=some (.cells [u8 0#8] none,dZ 1 1):=eJ 1 [u8 0#8] [u8 0#8] rfl rfl;generalize hD:(T.node n).data=D at *;refine aP.ind (fun j ls H'=>∃ v,∃ k:Nat,ls=[ptr t 0,vi sz,ptr b o,v]/\Ext H1 H'/\fH H1.next v/\cB zH H' 1 v (cG (D++List.replicate k 0#8))/\(k=0\/D.length+k<=sz)/\j=sz - (D.length+k)) ?_ (sz - D.length) ⟨v18,0,rfl,e11,f11,by simpa using a2,.inl rfl,by omega⟩
 rintro j _ H3 X hX ⟨v,k,rfl,e3,f3,g5,hk,rfl⟩;have hlv:=g5.toRows.lenSlc;rw [bU,List.length_append,List.length_replicate] at hlv
 by_cases hlt2:D.length+k<sz
 ·have hlt2':((D.length+k:Nat):Int)<(sz:Int):=by omega
  obtain ⟨v',H4,b1,b2,b3,b4⟩:=wX g5 e3 f3 (by simp; omega)
  simp only [F.f50_l1,dF,dI,dO,eK,hlv,bI,hlt2',decide_true,hb1,AM.dN,eN,b1,eC,aJ,aE,aO];refine hX (sz - (D.length+(k+1))) (by omega) _ _ ⟨v',k+1,rfl,b3,b4,?_,.inr (by omega),rfl⟩
  rw [List.replicate_succ',<- List.append_assoc];exact b2
 ·have hlt2':¬ ((D.length+k:Nat):Int)<(sz:Int):=by omega
  obtain ⟨v',s1,s2,s3⟩:=g5.cut (k:=sz) (by rw [bU,List.length_append,List.length_replicate]; omega)
  have hcut:cG ((fun x:Nd=>{ x with data:=oF x.data sz }) (T.node n)).data=(cG (D++List.replicate k 0#8)).take sz:=by
   rw [<- aBt]
   show cG (oF (T.node n).data sz)=_
   rw [hD]
   congr 1
   unfold oF;rw [List.take_append]
   congr 1
   rw [List.take_replicate]
   congr 1
   rcases hk with rfl | hk <;> omega
  obtain ⟨H4,s4,u4⟩:=h.newD (v':=v') hlt hy hp (fun x=>{ x with data:=oF x.data sz }) (fun _=>rfl) e3 (by rw [hcut]; exact s2) (fun b hb=>f3 b (by rw [<- s3]; exact hb)) rfl
  have h4:=u4.ref h;have hh4:=h4.head;obtain ⟨H5,s5,u5⟩:=h4.tick;have hcc:(T.upd n (fun x=>{ x with data:=oF x.data sz })).change=T.change:=rfl
  rw [hcc] at s5 hh4;simp only [F.f50_l1,dF,dI,dO,eK,hlv,bI,hlt2',decide_false,s1,aX,aK,s4,aD,hh4,aZ,Nat.zero_add,cA.at4,eF (a:=T.change) (b:=1) (by omega) (by omega),s5,aJ,aE,aI]
  exact hQ _ _ (u4.trans u5)
end
end Go.AM
end
section
namespace Go.AM
theorem yG (e b:List (BitVec 8)) (i j:Nat) (hj:j<b.length) (hi:i+j<e.length):(dH e i (b.take j)).set (i+j) b[j]=dH e i (b.take (j+1)):=by
 unfold dH;have h1:(e.take i).length=i:=by rw [List.length_take]; omega
 have h2:(b.take j).length=j:=by rw [List.length_take]; omega
 have h3:(b.take (j+1)).length=j+1:=by rw [List.length_take]; omega
 rw [h2,h3,List.set_append_right _ _ (by rw [List.length_append,h1,h2]; omega),List.length_append,h1,h2,Nat.sub_self]
 rw [List.drop_eq_getElem_cons hi,List.set_cons_zero];simp [Nat.add_assoc];rw [List.take_succ_eq_append_getElem hj];simp only [List.append_assoc,List.singleton_append]
theorem vM (e b:List (BitVec 8)) (i:Nat) (h:i+b.length<=e.length):(dH e i b).length=e.length:=by
 simp [dH]; omega
section
variable {E:Sy} {H0 H H' H'' H1:AH} {Q:Value->AH->Prop} {t:Nat} {nv nv' nv'' mv:Value} {nx:Int} {mr:List (List Value)} {Y Y' Y'':List RLy} {T T' T'':Tr}
theorem aAQ (h:eE H1 t nv mv nx mr Y T) (n:BitVec 16) (hlt:n.toNat<T.N.length) {y:RLy} {b o:Nat} (hy:Y[n.toNat]? = some y) (hp:aG 7 nv (vi (n.toNat:Int))=some (ptr b o)) (at_:Nat) (xv:Value) (x:List (BitVec 8)) (hx:Rows H1 1 xv (cG x)) (hc : -9223372036854775808<=T.change/\T.change<9223372036854775807)
  (hat:at_<=1024/\at_+x.length<=1024) (e:List (BitVec 8)) (he:at_+x.length<=e.length) (hw:gL (T.node n).data at_ x=dH e at_ x) (v:Value) (H3:AH) (e3:Ext H1 H3) (f3:fH H1.next v) (g3:cB zH H3 1 v (cG e))
  (hQ:∀ Y' H',gA t nv mv nx mr Y T nv Y' ((T.upd n (fun z=>{ z with data:=gL z.data at_ x })).bump) H1 H'->Q (vi 0) H') :
  aP (fun l H X0=>F.f60_l2 E Q (nth l 0) (nth l 1) (nth l 2) (nth l 3) (nth l 4) (nth l 5) H X0) [ptr t 0,vi at_,xv,ptr b o,v,(.int .i64 0)] H3:=by
 refine aP.count x.length (fun j ls H'=>ls=[ptr t 0,vi at_,xv,ptr b o,v,vi j]/\Ext H1 H'/\cB zH H' 1 v (cG (dH e at_ (x.take j)))) ?_ ⟨rfl,e3,by simpa [dH] using g3⟩
 rintro j _ H4 X hj hX ⟨rfl,e4,g4⟩;have hxl:=(hx.mono e4).lenSlc;rw [bU] at hxl
 by_cases hjl:j<x.length
 ·have hjl':(j:Int)<x.length:=by omega
  obtain ⟨b1,o1,p1,p2⟩:=(hx.mono e4).ix (i:=j) (by rw [bU]; exact hjl)
  have hrow:(cG x)[j]'(by rw [bU]; exact hjl)=[u8 x[j]]:=by simp [cG]
  rw [hrow] at p2;have p3:(H4.get b1).cell o1=some (u8 x[j]):=by have:=dK p2 (j:=0) (by omega); simpa using this
  have hls:(dH e at_ (x.take j)).length=e.length:=vM _ _ _ (by rw [List.length_take]; omega)
  have hi:at_+j<(cG (dH e at_ (x.take j))).length:=by rw [bU,hls]; omega
  obtain ⟨b2,o2,H5,q1,q2,q3,q4,q5⟩:=g4.store (i:=at_+j) (k:=0) hi (by omega) (u8 x[j]) rfl
  have hadd:aA .add (vi at_) (vi j)=some (vi ((at_+j:Nat):Int)):=by rw [eF (by omega) (by omega)]; simp
  have hjj:=aY j (by omega)
  have hset:(cG (dH e at_ (x.take j))).set (at_+j) ((cG (dH e at_ (x.take j)))[at_+j].set 0 (u8 x[j]))=cG (dH e at_ (x.take (j+1))):=by
   rw [<- yG e x at_ j hjl (by omega),aCM]
   congr 1
   simp [cG]
  rw [hset] at q4;rw [Nat.add_zero] at q3;have q3':aN (ptr b2 o2) (u8 x[j]) H4=some H5:=q3;generalize hj1:j+1=j1 at *;simp only [F.f60_l2,dF,dI,dO,eK,iM,kC,hxl,bI,hjl',decide_true,hadd,p1,aD,p3,q1,q3',hjj,aJ,aE,aO];refine hX hjl _ _ ⟨rfl,q5.ext e4 fun b hb=>f3 b (bV.1 hb),q4⟩
 ·have hjl':¬ (j:Int)<x.length:=by omega
  have hje:j=x.length:=by omega
  have hD:cG ((fun z:Nd=>{ z with data:=gL z.data at_ x }) (T.node n)).data=cG (dH e at_ (x.take j)):=by
   show cG (gL (T.node n).data at_ x)=_
   rw [hw,hje,List.take_length]
  obtain ⟨H5,s5,u5⟩:=h.newD (v':=v) hlt hy hp (fun z=>{ z with data:=gL z.data at_ x }) (fun _=>rfl) e4 (by rw [hD]; exact g4) f3 rfl
  have h5:=u5.ref h;have hh5:=h5.head;obtain ⟨H6,s6,u6⟩:=h5.tick;have hcc:(T.upd n (fun z=>{ z with data:=gL z.data at_ x })).change=T.change:=rfl
  rw [hcc] at s6 hh5;simp only [F.f60_l2,dF,dI,dO,eK,iM,kC,hxl,bI,hjl',decide_false,aX,aK,s5,aD,hh5,aZ,Nat.zero_add,cA.at4,eF (a:=T.change) (b:=1) (by omega) (by omega),s6,aJ,aE,aI]
  exact hQ _ _ (u5.trans u6)
theorem S.f60 (hE:bK E) (h:eE H t nv mv nx mr Y T) (n:BitVec 16) (at_:Int) (xv:Value) (x:List (BitVec 8)) (hx:Rows H 1 xv (cG x)) (hxl:x.length<2 ^ 62) (hc : -9223372036854775808<=T.change/\T.change<9223372036854775807) (hdl:(T.node n).data.length<2 ^ 39)
  (hQ:∀ Y' H',gA t nv mv nx mr Y T nv Y' (T.write n at_ x).1 H H'->Q (vi (T.write n at_ x).2) H'):E.call (E.fid i.f60) [ptr t 0,vi (n.toNat:Int),vi at_,xv] H Q:=by
 apply hE.f60;simp only [F.f60];refine S.f57 hE h n fun b o y H1 e1 hn hat =>?_;obtain ⟨c0,c1,_⟩:=hn.cell;have k1:=aGK (T.node n).kind;have k2:=nG (T.node n).kind;have k0:=xC (T.node n).kind;unfold Tr.write at hQ
 by_cases g0:(T.node n).kind=0#8
 ·simp [g0] at hQ
  simp only [aX,aK,aD,Nat.add_zero,c0,aT,k0,eq_true g0,decide_true,aJ,aE,aO];exact hQ _ _ (h.same e1)
 have hlt:=cT g0;obtain ⟨rfl,hy,hp⟩:=hat hlt
 by_cases g2:(T.node n).kind=2#8
 ·simp [g2] at hQ
  simp only [aX,aK,aD,Nat.add_zero,c0,aT,k0,k2,eq_false g0,eq_true g2,decide_true,decide_false,aJ,aE,aO,aI];exact hQ _ _ (h.same e1)
 by_cases g1:(T.node n).kind=1#8
 rotate_left
 ·simp [g0,g2,g1] at hQ
  simp only [aX,aK,aD,Nat.add_zero,c0,aT,cX,ne_eq,k0,k1,k2,eq_false g0,eq_false g2,eq_false g1,not_false_eq_true,decide_true,decide_false,pI,aQ,aJ,aE,aO,aI];exact hQ _ _ (h.same e1)
 by_cases g3:at_<0
 ·simp [g0,g2,g1,g3] at hQ
  simp only [aX,aK,aD,Nat.add_zero,c0,aT,cX,ne_eq,k0,k1,k2,eq_false g0,eq_false g2,eq_true g1,not_true,bI,g3,decide_true,decide_false,jT,aQ,aU,aJ,aE,aO,aI];exact hQ _ _ (h.same e1)
 by_cases g4:1024<at_
 ·simp [g0,g2,g1,g3,g4] at hQ
  simp only [aX,aK,aD,Nat.add_zero,c0,aT,cX,cU,gt_iff_lt,ne_eq,k0,k1,k2,eq_false g0,eq_false g2,eq_true g1,not_true,bI,g3,g4,decide_true,decide_false,pI,jT,aQ,aU,aJ,aE,aO,aI];exact hQ _ _ (h.same e1)
 have hxs:=hx.lenSlc;rw [bU] at hxs;have hadd:aA .add (vi at_) (vi x.length)=some (vi (at_+x.length)):=eF (by omega) (by omega)
 by_cases g5:1024<at_+(x.length:Int)
 ·simp [g0,g2,g1,g3,g4,g5] at hQ
  simp only [aX,aK,aD,Nat.add_zero,c0,aT,cX,cU,gt_iff_lt,ne_eq,k0,k1,k2,eq_false g0,eq_false g2,eq_true g1,not_true,bI,g3,g4,hxs,hadd,g5,decide_true,decide_false,jT,aQ,aU,aJ,aE,aO,aI];exact hQ _ _ (h.same e1)
 simp [g0,g2,g1,g3,g4,g5] at hQ;have hb0:buildS 0 1 #[(.int .u8 0)] []=some (.cells [] none,dZ 0 0):=tK 1 [u8 0#8] rfl;have e9:Ext H1 (H1.new (.cells [] none)):=(Ext.refl H1).new _;have gr9:cB zH (H1.new (.cells [] none)) 1 (slc H1.next 0 0 0) []:=cB.room (lO _) (AH.get_new_self _ _) rfl
 have c1':((H1.new (.cells [] none)).get b).cell (o+1)=some y.data:=by
  rw [AH.get_new_lt _ _ (AH.lt_of_get (iL hn.1))];exact c1
 simp only [aX,aK,aD,Nat.add_zero,c0,aT,cX,cU,gt_iff_lt,ne_eq,k0,k1,k2,eq_false g0,eq_false g2,eq_true g1,not_true,bI,g3,g4,hxs,hadd,g5,decide_false,jT,aQ,aU,hb0,AM.dN,eN,c1',aJ,aE,aI];obtain ⟨v18,H11,a1,a2,a3⟩:=gr9.app (bytes:=1) (Nat.zero_le _) (hn.2.1.mono e9) (jV _) (by decide) (by decide) (by simp [bU]; omega) (by simp [bU]; omega)
 obtain ⟨e11,f11⟩:=jU a3 e9 (fun b hb=>by simp [blk] at hb; omega)
 have a1':app 1 1 (slc H1.next 0 0 0) y.data (H1.new (.cells [] none))=some (v18,H11):=a1;simp only [a1',eC,aJ];obtain ⟨sz,rfl⟩:∃ sz:Nat,at_=sz:=⟨at_.toNat,by omega⟩
 rw [List.nil_append] at a2;have hb1:buildS 1 1 #[(.int .u8 0)] [(0,(.int .u8 0))]=some (.cells [u8 0#8] none,dZ 1 1):=eJ 1 [u8 0#8] [u8 0#8] rfl rfl;have hw:=@aAQ E H1 Q t nv mv nx mr Y T h n hlt y b o hy hp sz xv x hx hc (by omega)
 generalize hD:(T.node n).data=D at *;refine aP.ind (fun j ls H'=>∃ v,∃ k:Nat,ls=[ptr t 0,vi sz,xv,ptr b o,v]/\Ext H1 H'/\fH H1.next v/\cB zH H' 1 v (cG (D++List.replicate k 0#8))/\(k=0\/D.length+k<=sz+x.length)/\j=sz+x.length - (D.length+k)) ?_ (sz+x.length - D.length) ⟨v18,0,rfl,e11,f11,by simpa using a2,.inl rfl,by omega⟩
 rintro j _ H3 X hX ⟨v,k,rfl,e3,f3,g6,hk,rfl⟩;have hlv:=g6.toRows.lenSlc;rw [bU,List.length_append,List.length_replicate] at hlv;have hxs3:=(hx.mono e3).lenSlc;rw [bU] at hxs3
 by_cases hlt2:D.length+k<sz+x.length
 ·have hlt2':((D.length+k:Nat):Int)<(sz:Int)+x.length:=by omega
  obtain ⟨v',H4,b1,b2,b3,b4⟩:=wX g6 e3 f3 (by simp; omega)
  simp only [F.f60_l1,dF,dI,dO,eK,iM,hlv,hxs,hadd,bI,hlt2',decide_true,hb1,AM.dN,eN,b1,eC,aJ,aE,aO];refine hX (sz+x.length - (D.length+(k+1))) (by omega) _ _ ⟨v',k+1,rfl,b3,b4,?_,.inr (by omega),rfl⟩
  rw [List.replicate_succ',<- List.append_assoc];exact b2
 ·have hlt2':¬ ((D.length+k:Nat):Int)<(sz:Int)+x.length:=by omega
  have hk':k=sz+x.length - D.length:=by rcases hk with rfl | hk <;> omega
  have:=hw (D++List.replicate k 0#8) (by simp; omega) (by unfold gL dH; rw [hk']) v H3 e3 f3 g6 hQ
  simp only [F.f60_l1,dF,dI,dO,eK,iM,hlv,hxs,hadd,bI,hlt2',decide_false,aJ,aE,aI];exact this
end
end Go.AM
end
section
namespace Go.AM
structure cR (X:List Res) (H0 H:AH) (p m:Nat) (L:LyL) (T:Tr) (t:Nat) (nv mv:Value) (nx:Int) (mr:List (List Value)) (Y:List RLy) (T2:Tr):Prop where
 ext:Ext H0 H
 ow:Ow (cW (nK p m L T :: fT t nv mv nx mr Y T2 :: X)) H
 own:∀ b∈(cW (nK p m L T :: fT t nv mv nx mr Y T2 :: X)).fp,H0.next<=b
 cov:Cov L T
 len:Y.length=T2.N.length
 fit:T2.N.length<=60000
section
variable {X:List Res} {E:Sy} {H0 H H' H'':AH} {Q:Value->AH->Prop} {p m:Nat} {L L' L'':LyL} {T T' T'' T2 T2':Tr} {t:Nat} {nv nv' mv:Value} {nx:Int} {mr:List (List Value)} {Y Y':List RLy}
theorem cR.ino (h:cR X H0 H p m L T t nv mv nx mr Y T2):Ino H p m L T:=⟨h.ow.part (k:=0) rfl,h.cov⟩
theorem cR.ref (h:cR X H0 H p m L T t nv mv nx mr Y T2):eE H t nv mv nx mr Y T2:=⟨h.ow.part (k:=1) rfl,h.len,h.fit⟩
theorem cR.upd {r:Res} (h:cR X H0 H p m L T t nv mv nx mr Y T2) (u:Upd (cW (nK p m L T :: fT t nv mv nx mr Y T2 :: X)) r H H'):Ext H0 H'/\Ow r H'/\∀ b∈r.fp,H0.next<=b :=
 ⟨u.only.ext h.ext h.own,h.ow.upd u,fun b hb=>(u.fp b hb).1.elim (h.own b) fun k=>Nat.le_trans h.ext.1 k⟩
theorem cR.step1 (h:cR X H0 H p m L T t nv mv nx mr Y T2) (u:gF p m L T L' T' H H'):cR X H0 H' p m L' T' t nv mv nx mr Y T2:=by
 obtain ⟨q1,q2,q3⟩:=h.upd (h.ow.set (k:=0) rfl u.upd);exact ⟨q1,q2,q3,u.cov,h.len,h.fit⟩
theorem cR.step2 (h:cR X H0 H p m L T t nv mv nx mr Y T2) (u:gA t nv mv nx mr Y T2 nv' Y' T2' H H'):cR X H0 H' p m L T t nv' mv nx mr Y' T2':=by
 obtain ⟨q1,q2,q3⟩:=h.upd (h.ow.set (k:=1) rfl u.upd);exact ⟨q1,q2,q3,h.cov,u.len,u.fit⟩
theorem cR.mono (h:cR X H0 H p m L T t nv mv nx mr Y T2) (e:Ext H H'):cR X H0 H' p m L T t nv mv nx mr Y T2:=h.step1 (h.ino.same e)
theorem cR.box (h:cR X H0 H p m L T t nv mv nx mr Y T2) (c:List Value):cR (X++[bN H.next c]) H0 (H.new (.cells c none)) p m L T t nv mv nx mr Y T2:=by
 obtain ⟨q1,q2,q3⟩:=h.upd (h.ow.add (bN H.next c) ((Ext.refl H).new _) (AH.get_new_self _ _) (fun b hb=>by simp [bN] at hb; subst hb; simp) (by simp [bN]))
 exact ⟨q1,q2,q3,h.cov,h.len,h.fit⟩
theorem cR.held {k:Nat} {c:List Value} (h:cR (X++[bN k c]) H0 H p m L T t nv mv nx mr Y T2):H.get k = .cells c none:=h.ow.holds (bN k c) (by simp)
theorem cR.drop {r:Res} (h:cR (X++[r]) H0 H p m L T t nv mv nx mr Y T2):cR X H0 H p m L T t nv mv nx mr Y T2:=by
 have u:=h.ow.erase (X.length+2);have e:(nK p m L T :: fT t nv mv nx mr Y T2 :: (X++[r])).eraseIdx (X.length+2)=nK p m L T :: fT t nv mv nx mr Y T2 :: X:=by simp [List.eraseIdx_append]
 rw [e] at u;obtain ⟨q1,q2,q3⟩:=h.upd u;exact ⟨q1,q2,q3,h.cov,h.len,h.fit⟩
theorem Tr.WF.small (h:T.WF):T.small:=fun n=>by have:=h.size n; omega
theorem cR.cMake (hE:bK E) (h:cR X H0 H p m L T t nv mv nx mr Y T2) (w:T.WF) (n:BitVec 16) (s:aM) (hs:s.length<2 ^ 63) (k:BitVec 8) (text:List UInt8) (ht:text.length<2 ^ 63) (hc : -9223372036854775808<=T.change/\T.change<9223372036854775807)
  (hQ:∀ L' H',cR X H0 H' p m L' (T.make n s k text).1 t nv mv nx mr Y T2->Q (.tuple #[u16 (T.make n s k text).2.1,vi (T.make n s k text).2.2]) H'):E.call (E.fid i.f16) [ptr p 0,u16 n,str s,u8 k,str text] H Q:=by
 have hlen:=w.len16;have hl2:=w.len.1;exact S.f16 hE h.ino n s hs k text ht hc ⟨by omega,by omega⟩ (fun _ r=>w.chain ⟨(Tr.room_ok r).1,(Tr.room_ok r).2.2.1⟩ 17) fun L1 H1 _ u1=>hQ _ _ (h.step1 u1)
theorem cR.rMake (hE:bK E) (h:cR X H0 H p m L T t nv mv nx mr Y T2) (w:T2.WF) (n:BitVec 16) (s:aM) (hs:s.length<2 ^ 63) (k:BitVec 8) (text:List UInt8) (hc : -9223372036854775808<=T2.change/\T2.change<9223372036854775807)
  (hQ:∀ nv' Y' H',cR X H0 H' p m L T t nv' mv nx mr Y' (T2.make n s k text).1->Q (.tuple #[vi ((T2.make n s k text).2.1.toNat:Int),vi (T2.make n s k text).2.2]) H'):E.call (E.fid i.f55) [ptr t 0,vi (n.toNat:Int),str s,vi (k.toNat:Int),str text] H Q:=by
 have hlen:=w.len16;have hl2:=w.len.1;exact S.f55 hE h.ref w.small n s hs k text hc ⟨by omega,by omega⟩ (fun _ r=>w.deep20 ⟨(Tr.room_ok r).1,(Tr.room_ok r).2.2.1⟩) fun nv2 Y2 H2 u2=>hQ _ _ _ (h.step2 u2)
theorem Tr.WF.look_bd (w:T.WF) (n:BitVec 16) (s:aM) (h:(T.look n s).2=0):(T.node (T.look n s).1).kind≠0#8/\0<=(T.node (T.look n s).1).links/\(T.node (T.look n s).1).links<=8224 :=
 ⟨(w.pos (Tr.look_ok h).2).2.2.2.1,(w.links_bd _).1,(w.links_bd _).2⟩
theorem cR.cAdd (hE:bK E) (h:cR X H0 H p m L T t nv mv nx mr Y T2) (w:T.WF) (n:BitVec 16) (s:aM) (hs:s.length<2 ^ 63) (v:BitVec 16) (hc : -9223372036854775808<=T.change/\T.change<9223372036854775807)
  (hQ:∀ L' H',cR X H0 H' p m L' (T.add n s v).1 t nv mv nx mr Y T2->Q (vi (T.add n s v).2) H'):E.call (E.fid i.f9) [ptr p 0,u16 n,str s,u16 v] H Q :=
 S.f9 hE h.ino n s hs v hc (w.links_bd v).1 fun L1 H1 _ u1=>hQ _ _ (h.step1 u1)
theorem cR.rAdd (hE:bK E) (h:cR X H0 H p m L T t nv mv nx mr Y T2) (w:T2.WF) (n:BitVec 16) (s:aM) (hs:s.length<2 ^ 63) (v:BitVec 16) (hc : -9223372036854775808<=T2.change/\T2.change<9223372036854775807)
  (hQ:∀ Y' H',cR X H0 H' p m L T t nv mv nx mr Y' (T2.add n s v).1->Q (vi (T2.add n s v).2) H'):E.call (E.fid i.f48) [ptr t 0,vi (n.toNat:Int),str s,vi (v.toNat:Int)] H Q :=
 S.f48 hE h.ref w.small n s hs v hc (w.links_bd v).1 fun Y2 H2 u2=>hQ _ _ (h.step2 u2)
theorem cR.cDrop (hE:bK E) (h:cR X H0 H p m L T t nv mv nx mr Y T2) (w:T.WF) (n:BitVec 16) (s:aM) (d:Bool) (hc : -9223372036854775808<=T.change/\T.change<9223372036854775807)
  (hQ:∀ L' H',cR X H0 H' p m L' (T.drop n s d).1 t nv mv nx mr Y T2->Q (vi (T.drop n s d).2) H'):E.call (E.fid i.f11) [ptr p 0,u16 n,str s,vb d] H Q :=
 S.f11 hE h.ino n s d hc (fun e=>by have:=w.look_bd n s e; exact ⟨this.1,by omega,by omega⟩) fun L1 H1 _ _ u1=>hQ _ _ (h.step1 u1)
theorem cR.rDrop (hE:bK E) (h:cR X H0 H p m L T t nv mv nx mr Y T2) (w:T2.WF) (n:BitVec 16) (s:aM) (d:Bool) (hc : -9223372036854775808<=T2.change/\T2.change<9223372036854775807)
  (hQ:∀ Y' H',cR X H0 H' p m L T t nv mv nx mr Y' (T2.drop n s d).1->Q (vi (T2.drop n s d).2) H'):E.call (E.fid i.f51) [ptr t 0,vi (n.toNat:Int),str s,vb d] H Q :=
 S.f51 hE h.ref w.small n s d hc (fun e=>by have:=w.look_bd n s e; exact ⟨this.1,by omega,by omega⟩) (by have:=w.size n; omega) fun Y2 H2 u2=>hQ _ _ (h.step2 u2)
theorem cR.cHold (hE:bK E) (h:cR X H0 H p m L T t nv mv nx mr Y T2) (w:T.WF) (n:BitVec 16) (more:Bool) (hb:(T.node n).held<9223372036854775807)
  (hQ:∀ L' H',cR X H0 H' p m L' (T.hold n more).1 t nv mv nx mr Y T2->Q (vi (T.hold n more).2) H'):E.call (E.fid i.f14) [ptr p 0,u16 n,vb more] H Q:=by
 refine S.f14 hE h.ino n more ⟨w.held n,hb⟩ ?_
 intros
 apply hQ;rename_i u1;exact h.step1 u1
theorem cR.rHold (hE:bK E) (h:cR X H0 H p m L T t nv mv nx mr Y T2) (w:T2.WF) (n:BitVec 16) (more:Bool) (hb:(T2.node n).held<9223372036854775807)
  (hQ:∀ Y' H',cR X H0 H' p m L T t nv mv nx mr Y' (T2.hold n more).1->Q (vi (T2.hold n more).2) H'):E.call (E.fid i.f52) [ptr t 0,vi (n.toNat:Int),vb more] H Q :=
 S.f52 hE h.ref n more ⟨w.held n,hb⟩ fun Y2 H2 u2=>hQ _ _ (h.step2 u2)
theorem cR.cMove (hE:bK E) (h:cR X H0 H p m L T t nv mv nx mr Y T2) (w:T.WF) (fr to:BitVec 16) (s other:aM) (hs:other.length<2 ^ 63) (hc : -9223372036854775808<=T.change/\T.change<9223372036854775806)
  (hQ:∀ L' H',cR X H0 H' p m L' (T.move fr s to other).1 t nv mv nx mr Y T2->Q (vi (T.move fr s to other).2) H'):E.call (E.fid i.f17) [ptr p 0,u16 fr,str s,u16 to,str other] H Q:=by
 exact S.f17 hE h.ino fr to s other hs hc (fun e=>(w.look_bd fr s e).1) (fun _ hk h1=>w.chain ⟨hk,h1⟩ 17) (f:=17) (fun e hk=>w.fits17 (w.look_live (Tr.look_ok e).2 hk)) (by omega)
  (fun y hk hy=>⟨(w.pos hy).2.2.2.1,(w.links_bd y).1,by have:=(w.links_bd y).2; omega⟩) fun L1 H1 _ _ u1=>hQ _ _ (h.step1 u1)
theorem cR.rMove (hE:bK E) (h:cR X H0 H p m L T t nv mv nx mr Y T2) (w:T2.WF) (fr to:BitVec 16) (s other:aM) (hs:other.length<2 ^ 63) (hc : -9223372036854775808<=T2.change/\T2.change<9223372036854775806)
  (hQ:∀ Y' H',cR X H0 H' p m L T t nv mv nx mr Y' (T2.move fr s to other).1->Q (vi (T2.move fr s to other).2) H'):E.call (E.fid i.f56) [ptr t 0,vi (fr.toNat:Int),str s,vi (to.toNat:Int),str other] H Q :=
 S.f56 hE h.ref w.small fr to s other hs hc (fun e=>(w.look_bd fr s e).1) (fun _ h1 hk=>⟨w.deep20 ⟨hk,h1⟩,w.within20 ⟨hk,h1⟩ _⟩) (f:=17) (fun e hk=>w.fits17 (w.look_live (Tr.look_ok e).2 hk)) (by omega)
  (fun y hk hy=>⟨(w.pos hy).2.2.2.1,(w.links_bd y).1,by have:=(w.links_bd y).2; omega⟩) (fun _=>(w.rising to).nodup) ⟨by have:=w.size fr; omega,by have:=w.size to; omega⟩ fun Y2 H2 u2=>hQ _ _ (h.step2 u2)
theorem cR.cWrite (hE:bK E) (h:cR X H0 H p m L T t nv mv nx mr Y T2) (w:T.WF) (n:BitVec 16) (at_:Int) (v:Value) (b:List (BitVec 8)) (hv:Rows H 1 v (cG b)) (hb:b.length<2 ^ 63) (hat : -9223372036854775808<=at_/\at_<9223372036854775808) (hc : -9223372036854775808<=T.change/\T.change<9223372036854775807)
  (hQ:∀ L' H',cR X H0 H' p m L' (T.write n at_ b).1 t nv mv nx mr Y T2->Q (vi (T.write n at_ b).2) H'):E.call (E.fid i.f20) [ptr p 0,u16 n,vi at_,v] H Q :=
 S.f20 hE h.ino n at_ v b hv hb hc hat (by have:=w.data n; omega) fun L1 H1 _ u1=>hQ _ _ (h.step1 u1)
theorem cR.rWrite (hE:bK E) (h:cR X H0 H p m L T t nv mv nx mr Y T2) (w:T2.WF) (n:BitVec 16) (at_:Int) (v:Value) (b:List (BitVec 8)) (hv:Rows H 1 v (cG b)) (hb:b.length<2 ^ 62) (hc : -9223372036854775808<=T2.change/\T2.change<9223372036854775807)
  (hQ:∀ Y' H',cR X H0 H' p m L T t nv mv nx mr Y' (T2.write n at_ b).1->Q (vi (T2.write n at_ b).2) H'):E.call (E.fid i.f60) [ptr t 0,vi (n.toNat:Int),vi at_,v] H Q :=
 S.f60 hE h.ref n at_ v b hv hb hc (by have:=w.data n; omega) fun Y2 H2 u2=>hQ _ _ (h.step2 u2)
theorem cR.cCut (hE:bK E) (h:cR X H0 H p m L T t nv mv nx mr Y T2) (w:T.WF) (n:BitVec 16) (size:Int) (hc : -9223372036854775808<=T.change/\T.change<9223372036854775807)
  (hQ:∀ L' H',cR X H0 H' p m L' (T.cut n size).1 t nv mv nx mr Y T2->Q (vi (T.cut n size).2) H'):E.call (E.fid i.f10) [ptr p 0,u16 n,vi size] H Q:=by
 exact S.f10 hE h.ino n size hc fun L1 H1 _ u1=>hQ _ _ (h.step1 u1)
theorem cR.rCut (hE:bK E) (h:cR X H0 H p m L T t nv mv nx mr Y T2) (w:T2.WF) (n:BitVec 16) (size:Int) (hc : -9223372036854775808<=T2.change/\T2.change<9223372036854775807)
  (hQ:∀ Y' H',cR X H0 H' p m L T t nv mv nx mr Y' (T2.cut n size).1->Q (vi (T2.cut n size).2) H'):E.call (E.fid i.f50) [ptr t 0,vi (n.toNat:Int),vi size] H Q :=
 S.f50 hE h.ref n size hc (by have:=w.data n; omega) fun Y2 H2 u2=>hQ _ _ (h.step2 u2)
end
end Go.AM
end
section
namespace Go.AM
theorem Ow.perm {rs rs':List Res} {H:AH} (h:Ow (cW rs) H) (hp:rs.Perm rs'):Ow (cW rs') H :=
 ⟨fun r hr=>h.holds r (hp.mem_iff.2 hr),fun b hb=>h.lt b ((hp.flatMap_right Res.fp).mem_iff.2 hb),(hp.flatMap_right Res.fp).nodup_iff.1 h.nd⟩
def qU (p m:Nat) (L:LyL) (T:Tr) (q:Nat) (v:Value) (M:List bT) (nx:Int) (w:Nat) (X:List Res):List Res:=nK p m L T :: iB q v M nx :: bN w [ptr p 0,ptr q 0] :: X
def WkO (X:List Res) (H0 H:AH) (w:Nat) (T:Tr) (M:List bT) (nx:Int):Prop :=
 ∃ p m L q v,Ext H0 H/\Ow (cW (qU p m L T q v M nx w X)) H/\(∀ b∈(cW (qU p m L T q v M nx w X)).fp,H0.next<=b)/\Cov L T/\xW M nx
section
variable {E:Sy} {X:List Res} {H H' H0 Z:AH} {Q:Value->AH->Prop} {w:Nat} {T T':Tr} {M M':List bT} {nx nx':Int} {L:List Res}
theorem WkO.ext (h:WkO X H0 H w T M nx):Ext H0 H:=by obtain ⟨_,_,_,_,_,h,_⟩:=h; exact h
theorem WkO.tab (h:WkO X H0 H w T M nx):xW M nx:=by obtain ⟨_,_,_,_,_,_,_,_,_,h⟩:=h; exact h
theorem mC {r r':Res} (e:Ext H0 H) (o:Ow r H) (own:∀ b∈r.fp,H0.next<=b) (u:Upd r r' H H'):Ext H0 H'/\Ow r' H'/\∀ b∈r'.fp,H0.next<=b :=
 ⟨u.only.ext e own,o.upd u,fun b hb=>(u.fp b hb).1.elim (own b) fun k=>Nat.le_trans e.1 k⟩
theorem WkO.open_ (h:WkO X H0 H w T M nx):∃ p q,H.get w = .cells [ptr p 0,ptr q 0] none /\
  (∃ m L,Ino H p m L T/\∀ L' T' H',gF p m L T L' T' H H'->WkO X H0 H' w T' M nx) /\
  (∃ v,(iB q v M nx).P H/\(iB q v M nx).fp.Nodup/\∀ v' M' nx' H',Upd (iB q v M nx) (iB q v' M' nx') H H'->xW M' nx'->WkO X H0 H' w T M' nx'):=by
 obtain ⟨p,m,L,q,v,e,o,own,cov,tab⟩:=h;refine ⟨p,q,o.holds (bN w [ptr p 0,ptr q 0]) (by simp [qU]),⟨m,L,⟨o.part (k:=0) rfl,cov⟩,fun L' T' H' u =>?_⟩,⟨v,o.holds (iB q v M nx) (by simp [qU]),(o.part (k:=1) rfl).nd,fun v' M' nx' H' u ok =>?_⟩⟩
 ·obtain ⟨a,b,c⟩:=mC e o own (o.set (k:=0) rfl u.upd)
  exact ⟨p,m,L',q,v,a,b,c,u.cov,tab⟩
 ·obtain ⟨a,b,c⟩:=mC e o own (o.set (k:=1) rfl u)
  exact ⟨p,m,L,q,v',a,b,c,cov,ok⟩
theorem WkO.openX (h:WkO X H0 H w T M nx) {k:Nat} {r:Res} (hk:X[k]? = some r):Ow r H/\∀ r' H',Upd r r' H H'->WkO (X.set k r') H0 H' w T M nx:=by
 obtain ⟨p,m,L,q,v,e,o,own,cov,tab⟩:=h;have hk':(qU p m L T q v M nx w X)[k+3]? = some r:=by simpa [qU] using hk
 refine ⟨o.part hk',fun r' H' u =>?_⟩;obtain ⟨a,b,c⟩:=mC e o own (o.set hk' u);exact ⟨p,m,L,q,v,a,b,c,cov,tab⟩
theorem WkO.mono (h:WkO X H0 H w T M nx) (e:Ext H H'):WkO X H0 H' w T M nx:=by
 obtain ⟨p,m,L,q,v,e0,o,own,cov,tab⟩:=h;exact ⟨p,m,L,q,v,e0.trans e,o.mono e,own,cov,tab⟩
theorem WkO.add (h:WkO X H0 H w T M nx) {r:Res} (n:zB r H H'):WkO (X++[r]) H0 H' w T M nx:=by
 obtain ⟨p,m,L,q,v,e0,o,own,cov,tab⟩:=h;obtain ⟨a,b,c⟩:=mC e0 o own (o.add r n.1 n.2.1 n.2.2.1 n.2.2.2);exact ⟨p,m,L,q,v,a,b,c,cov,tab⟩
theorem newbox (H:AH) (c:List Value):zB (bN H.next c) H (H.new (.cells c none)):=⟨(Ext.refl H).new _,AH.get_new_self _ _,fun b hb=>by simp [bN] at hb; subst hb; simp,by simp [bN]⟩
theorem WkO.box (h:WkO X H0 H w T M nx) (c:List Value):WkO (X++[bN H.next c]) H0 (H.new (.cells c none)) w T M nx:=h.add (newbox H c)
theorem WkO.drop {r:Res} (h:WkO (X++[r]) H0 H w T M nx):WkO X H0 H w T M nx:=by
 obtain ⟨p,m,L,q,v,e0,o,own,cov,tab⟩:=h;have u:=o.erase (X.length+3);have e:(qU p m L T q v M nx w (X++[r])).eraseIdx (X.length+3)=qU p m L T q v M nx w X:=by simp [qU,List.eraseIdx_append]
 rw [e] at u;obtain ⟨a,b,c⟩:=mC e0 o own u;exact ⟨p,m,L,q,v,a,b,c,cov,tab⟩
theorem WkO.held {k:Nat} {c:List Value} (h:WkO (X++[bN k c]) H0 H w T M nx):H.get k = .cells c none:=(h.openX (k:=X.length) (r:=bN k c) (by simp)).1.holds
theorem WkO.put {k:Nat} {c:List Value} (h:WkO (X++[bN k c]) H0 H w T M nx) (c':List Value):WkO (X++[bN k c']) H0 (H.put k (.cells c' none)) w T M nx:=by
 have:=(h.openX (k:=X.length) (r:=bN k c) (by simp)).2 _ _ (bN.put h.held c')
 rwa [aEG] at this
theorem WkO.at_ (h:WkO X H0 H w T M nx):wC H w T M:=by
 obtain ⟨p,q,hw,⟨m,L,hi,_⟩,⟨v,ht,_,_⟩⟩:=h.open_;have:=h.tab.len;exact ⟨⟨p,m,L,q,nx,hw,hi,iB.at_ ht (by omega)⟩,h.tab.older⟩
theorem WkO.two {t:Nat} {nv mv:Value} {mr:List (List Value)} {Y:List RLy} {T2:Tr} {rx:Int} (h:WkO (fT t nv mv rx mr Y T2 :: X) H0 H w T M nx) (hl:Y.length=T2.N.length) (hf:T2.N.length<=60000) :
  ∃ p q v m L,cR (iB q v M nx :: bN w [ptr p 0,ptr q 0] :: X) H0 H p m L T t nv mv rx mr Y T2 /\
   ∀ L' T' nv' Y' T2' H',cR (iB q v M nx :: bN w [ptr p 0,ptr q 0] :: X) H0 H' p m L' T' t nv' mv rx mr Y' T2'->WkO (fT t nv' mv rx mr Y' T2' :: X) H0 H' w T' M nx:=by
 obtain ⟨p,m,L,q,v,e0,o,own,cov,tab⟩:=h
 have perm:∀ (a b c d:Res),(a :: b :: c :: d :: X).Perm (a :: d :: b :: c :: X):=fun a b c d=>by
  refine .cons _ ?_;exact (List.Perm.cons _ (.swap _ _ _)).trans (.swap _ _ _)
 refine ⟨p,q,v,m,L,⟨e0,o.perm (perm _ _ _ _),fun b hb=>own b (((perm _ _ _ _).flatMap_right Res.fp).mem_iff.2 hb),cov,hl,hf⟩,fun L' T' nv' Y' T2' H' h2 =>?_⟩;exact ⟨p,m,L',q,v,h2.ext,h2.ow.perm (perm _ _ _ _).symm,fun b hb=>h2.own b (((perm _ _ _ _).flatMap_right Res.fp).mem_iff.1 hb),h2.cov,tab⟩
theorem S.f110 (hE:bK E) (limit:Int) (hQ:∀ w H',WkO [] H H' w (Tr.new limit) kG 1->Q (ptr w 0) H'):E.call (E.fid i.f110) [vi limit] H Q:=by
 apply hE.f110;simp only [F.f110];refine S.f8' hE limit fun p m L H1 h1 =>?_;refine S.f30 hE fun q v H2 n2 =>?_;have hb:bW [(0,1),(1,1)] #[(.pointer none),(.pointer none)] [(0,ptr p 0),(1,ptr q 0)]=some (.agg #[ptr p 0,ptr q 0]):=rfl;simp only [hb,jJ,AM.dN,jI,bO];refine hQ H2.next _ ⟨p,m,L,q,v,?_⟩
 have o1:Ow (cW [nK p m L (Tr.new limit)]) H1:=by
  refine ⟨fun r hr=>by rw [List.mem_singleton] at hr; rw [hr]; exact h1.ino.ow.holds,?_,?_⟩
  ·intro b hb; exact h1.ino.ow.lt b (by simpa [cW] using hb)
  ·simpa [cW] using h1.ino.ow.nd
 have own1:∀ b∈(cW [nK p m L (Tr.new limit)]).fp,H.next<=b:=fun b hb=>h1.own b (by simpa [cW] using hb)
 obtain ⟨a2,b2,c2⟩:=mC h1.ext o1 own1 (o1.add _ n2.1 n2.2.1 n2.2.2.1 n2.2.2.2);have n3:=newbox H2 [ptr p 0,ptr q 0];obtain ⟨a3,b3,c3⟩:=mC a2 b2 c2 (b2.add _ n3.1 n3.2.1 n3.2.2.1 n3.2.2.2);exact ⟨a3,b3,c3,h1.ino.cov,aG4⟩
end
end Go.AM
end
section
namespace Go.AM
def Tr.Each (P:Nd->Prop) (T:Tr):Prop:=∀ n,P (T.node n)
structure aGF (P:Nd->Prop):Prop where
 none:P Nd.none
 addE:∀ s k x,P x->P (Nd.addE s k x)
 delE:∀ s x,P x->P (Nd.delE s x)
 addL:∀ k x,P x->P (Nd.addL k x)
 addH:∀ k x,P x->P (Nd.addH k x)
 par:∀ (q:BitVec 16) (x:Nd),P x->P { x with parent:=q }
 made:∀ inn k text,¬ (k=0#8\/3#8<k\/(k=3#8/\(text.length<1\/120<text.length)))->P (Nd.made inn k text)
 data:∀ (x:Nd) (d:List (BitVec 8)),x.kind=1#8->P x->P { x with data:=d }
section
variable {T:Tr} {P:Nd->Prop} (K:aGF P)
theorem Tr.Each.upd (h:T.Each P) {n:BitVec 16} {f:Nd->Nd} (hf:∀ x:Nd,P x->P (f x)):(T.upd n f).Each P:=by
 intro k;rcases T.upd_or n k f with e | e
 ·rw [e]; exact h k
 ·rw [e]; exact hf _ (h k)
theorem Tr.Each.updAt (h:T.Each P) {n:BitVec 16} {f:Nd->Nd} (hf:P (f (T.node n))):(T.upd n f).Each P:=by
 intro k;unfold Tr.upd Tr.node;simp only [List.getD_eq_getElem?_getD,List.getElem?_modify];have hk:=h k;unfold Tr.node at hk hf;simp only [List.getD_eq_getElem?_getD] at hk hf
 by_cases e:n.toNat=k.toNat
 ·rw [e] at hf
  cases hh:T.N[k.toNat]? with
  | none=>rw [hh] at hk; exact hk
  | some x=>rw [hh] at hf; simpa [e] using hf
 ·simp only [e,if_false]
  cases hh:T.N[k.toNat]? with
  | none=>rw [hh] at hk; exact hk
  | some x=>rw [hh] at hk; exact hk
theorem Tr.Each.bump (h:T.Each P):T.bump.Each P:=h
include K
theorem Tr.Each.tidy (h:T.Each P) (n:BitVec 16):(T.tidy n).Each P:=by
 unfold Tr.tidy
 split
 ·exact h.upd fun _ _=>K.none
 ·exact h
theorem Tr.Each.put (h:T.Each P) (a:Nat) (x:Nd) (hx:P x):(T.put a x).Each P:=by
 intro k;unfold Tr.put Tr.node;simp only [List.getD_eq_getElem?_getD];have hk:=h k;unfold Tr.node at hk;simp only [List.getD_eq_getElem?_getD] at hk
 split
 ·rw [List.getElem?_set]
  split
  ·exact hx
  ·exact hk
 ·rw [List.getElem?_append]
  split
  ·exact hk
  ·cases hz:([x][k.toNat - T.N.length]? : Option Nd) with
   | none=>exact K.none
   | some z =>
    have:=List.mem_of_getElem? hz;simp at this;subst this;exact hx
theorem Tr.Each.make (h:T.Each P) (inn:BitVec 16) (s:aM) (kd:BitVec 8) (text:List UInt8):(T.make inn s kd text).1.Each P:=by
 unfold Tr.make
 split
 ·exact h
 split
 ·exact h
 rename_i hc
 split
 ·exact h
 exact ((h.put K T.free (Nd.made inn kd text) (K.made inn kd text hc)).upd (f:=Nd.addE s (BitVec.ofNat 16 T.free)) fun x hx=>K.addE _ _ _ hx).bump
theorem Tr.Each.add (h:T.Each P) (inn:BitVec 16) (s:aM) (v:BitVec 16):(T.add inn s v).1.Each P:=by
 unfold Tr.add
 repeat' split
 all_goals try exact h
 exact ((h.upd (f:=Nd.addE s v) fun x hx=>K.addE _ _ _ hx).upd (f:=Nd.addL 1) fun x hx=>K.addL _ _ hx).bump
theorem Tr.Each.drop (h:T.Each P) (inn:BitVec 16) (s:aM) (d:Bool):(T.drop inn s d).1.Each P:=by
 unfold Tr.drop
 repeat' split
 all_goals try exact h
 exact Tr.Each.tidy K ((h.upd (f:=Nd.delE s) fun x hx=>K.delE _ _ hx).upd (f:=Nd.addL (-1)) fun x hx=>K.addL _ _ hx).bump _
theorem Tr.Each.hold (h:T.Each P) (n:BitVec 16) (more:Bool):(T.hold n more).1.Each P:=by
 unfold Tr.hold
 repeat' split
 all_goals try exact h
 ·exact h.upd fun x hx=>K.addH _ _ hx
 ·exact Tr.Each.tidy K (h.upd fun x hx=>K.addH _ _ hx) _
theorem Tr.Each.move (h:T.Each P) (fr:BitVec 16) (s:aM) (to:BitVec 16) (other:aM):(T.move fr s to other).1.Each P:=by
 have key:∀ (U:Tr) (n:BitVec 16),U.Each P->(Tr.moved U fr s to other n).Each P:=by
  intro U n hU;have h2:((U.upd fr (Nd.delE s)).upd to (Nd.addE other n)).Each P:=(hU.upd (f:=Nd.delE s) fun x hx=>K.delE _ _ hx).upd (f:=Nd.addE other n) fun x hx=>K.addE _ _ _ hx;unfold Tr.moved;simp only
  split
  ·exact (h2.upd (f:=fun x=>{ x with parent:=to }) fun x hx=>K.par _ _ hx).bump
  ·exact h2.bump
 unfold Tr.move
 split
 ·exact h
 split
 ·exact h
 split
 ·exact h
 split
 ·exact h
 split
 ·exact h
 refine key _ _ ?_
 split
 ·exact h.drop K _ _ _
 ·exact h
theorem Tr.Each.write (h:T.Each P) (n:BitVec 16) (at_:Int) (b:List (BitVec 8)):(T.write n at_ b).1.Each P:=by
 unfold Tr.write
 split
 ·exact h
 split
 ·exact h
 split
 ·exact h
 rename_i hc
 split
 ·exact h
 refine Tr.Each.bump (Tr.Each.updAt h ?_);exact K.data _ _ (by simp only [not_or,Decidable.not_not] at hc; exact hc.1) (h n)
theorem Tr.Each.cut (h:T.Each P) (n:BitVec 16) (size:Int):(T.cut n size).1.Each P:=by
 unfold Tr.cut
 split
 ·exact h
 split
 ·exact h
 split
 ·exact h
 rename_i hc
 split
 ·exact h
 refine Tr.Each.bump (Tr.Each.updAt h ?_);exact K.data _ _ (by simp only [not_or,Decidable.not_not] at hc; exact hc.1) (h n)
omit K in
theorem Tr.Each.new (limit:Int) (h0:P Nd.none) (h1:P { Nd.none with kind:=2#8,parent:=1#16,links:=1 }):(Tr.new limit).Each P:=by
 intro n;unfold Tr.new Tr.node;simp only [List.getD_eq_getElem?_getD]
 by_cases e0:n.toNat=0
 ·rw [e0]; exact h0
 ·by_cases e1:n.toNat=1
  ·rw [e1]; exact h1
  ·rw [List.getElem?_eq_none (by simp; omega)]; exact h0
end
structure Nd.KD (x:Nd):Prop where
 kind:x.kind=0#8\/x.kind=1#8\/x.kind=2#8\/x.kind=3#8
 text:x.kind=3#8->x.text≠[]/\x.text.length<=120
 notext:x.kind≠3#8->x.text=[]
 nodata:x.kind≠1#8->x.data=[]
theorem gJ:aGF Nd.KD where
 none:=⟨.inl rfl,by simp [Nd.none],by simp [Nd.none],by simp [Nd.none]⟩
 addE:=fun _ _ _ h=>⟨h.kind,h.text,h.notext,h.nodata⟩
 delE:=fun _ _ h=>⟨h.kind,h.text,h.notext,h.nodata⟩
 addL:=fun _ _ h=>⟨h.kind,h.text,h.notext,h.nodata⟩
 addH:=fun _ _ h=>⟨h.kind,h.text,h.notext,h.nodata⟩
 par:=fun _ _ h=>⟨h.kind,h.text,h.notext,h.nodata⟩
 made:=fun inn k text h=>by
  simp only [not_or,not_and] at h;obtain ⟨h1,h2,h3⟩:=h
  have hk:k=1#8\/k=2#8\/k=3#8:=by
   have h2:¬ (3<k.toNat):=h2;have h1:k.toNat≠0:=fun e=>h1 (BitVec.eq_of_toNat_eq e);have:k.toNat=1\/k.toNat=2\/k.toNat=3:=by omega
   rcases this with e | e | e
   ·exact .inl (BitVec.eq_of_toNat_eq e)
   ·exact .inr (.inl (BitVec.eq_of_toNat_eq e))
   ·exact .inr (.inr (BitVec.eq_of_toNat_eq e))
  refine ⟨.inr hk,fun e =>?_,fun e =>?_,fun _=>rfl⟩
  ·have e:k=3#8:=e
   obtain ⟨a,b⟩:=h3 e;have ht:(Nd.made inn k text).text=text:=by simp [Nd.made,e]
   rw [ht];refine ⟨fun e0=>a (by rw [e0]; decide),by omega⟩
  ·have e:k≠3#8:=e
   simp [Nd.made,e]
 data:=fun x d hk h=>⟨h.kind,h.text,h.notext,fun e=>(e hk).elim⟩
abbrev Tr.KD (T:Tr):Prop:=T.Each Nd.KD
theorem Tr.KD.new (limit:Int):(Tr.new limit).KD:=Tr.Each.new limit gJ.none ⟨.inr (.inr (.inl rfl)),by simp,by simp [Nd.none],by simp [Nd.none]⟩
end Go.AM
end
section
namespace Go.AM
section
variable {E:Sy} {X:List Res} {H H' H0 Z:AH} {Q:Value->AH->Prop} {w p m:Nat} {T T':Tr} {M M':List bT} {nx nx':Int} {L:LyL}
abbrev Tr.CO (T:Tr):Prop := -9223372036854775808<=T.change/\T.change<9223372036854775806
theorem Ino.cMake (hE:bK E) (h:Ino H p m L T) (wf:T.WF) (n:BitVec 16) (s:aM) (hs:s.length<2 ^ 63) (k:BitVec 8) (text:List UInt8) (ht:text.length<2 ^ 63) (hc:T.CO)
  (hQ:∀ L' H',gF p m L T L' (T.make n s k text).1 H H'->Q (.tuple #[u16 (T.make n s k text).2.1,vi (T.make n s k text).2.2]) H'):E.call (E.fid i.f16) [ptr p 0,u16 n,str s,u8 k,str text] H Q:=by
 have hlen:=wf.len16;have hl2:=wf.len.1;exact S.f16 hE h n s hs k text ht ⟨hc.1,by have:=hc.2; omega⟩ ⟨by omega,by omega⟩ (fun _ r=>wf.chain ⟨(Tr.room_ok r).1,(Tr.room_ok r).2.2.1⟩ 17) fun L1 H1 _ u1=>hQ _ _ u1
end
end Go.AM
end
section
namespace Go.AM
def AH.since (H:AH) (n:Nat):AH:=⟨if n<H.next then H.next else 0,fun b=>if b<n then .dead else H.get b⟩
theorem AH.get_since (H:AH) (n b:Nat):(H.since n).get b=if n<=b then H.get b else .dead:=by
 unfold AH.since;simp only [AH.get]
 by_cases h:n<=b
 ·have h1:¬ b<n:=by omega
  rw [if_pos h];simp only [h1,if_false]
  by_cases hb:b<H.next
  ·have hn:n<H.next:=by omega
   simp [hb,hn]
  ·simp [hb]
 ·have h1:b<n:=by omega
  rw [if_neg h];simp [h1]
theorem AH.since_get {H:AH} {n b:Nat} (h:n<=b):(H.since n).get b=H.get b:=by rw [AH.get_since,if_pos h]
def frR (n:Nat) (H:AH):Res where
 fp:=List.range' n (H.next - n)
 P:=fun K=>∀ b∈List.range' n (H.next - n),K.get b=H.get b
 keep:=fun h hk b hb=>(hk b hb).trans (h b hb)
theorem aFS {H H':AH} (e:Ext H H'):zB (frR H.next H') H H':=by
 refine ⟨e,fun b _=>rfl,fun b hb =>?_,List.nodup_range'⟩;simp only [frR,List.mem_range'_1] at hb;have:=e.1;omega
theorem Ow.since {n:Nat} {H K:AH} (o:Ow (frR n H) K):Sub (H.since n) K:=by
 have hm:∀ b,n<=b->b<H.next->b∈(frR n H).fp:=fun b h1 h2=>by simp only [frR,List.mem_range'_1]; omega
 constructor
 ·unfold AH.since
  simp only
  split
  ·rename_i h
   have:=o.lt (H.next - 1) (hm _ (by omega) (by omega))
   omega
  ·omega
 ·intro b hb
  rw [AH.get_since] at hb ⊢
  split at hb
  ·rename_i h
   rw [if_pos h];exact o.holds b (hm b h (AH.lt_of_get hb))
  ·exact (hb rfl).elim
theorem xL (H:AH) (n:Nat):Sub (H.since n) H:=by
 constructor
 ·unfold AH.since
  simp only
  split <;> omega
 ·intro b hb
  rw [AH.get_since] at hb ⊢
  split at hb
  ·rename_i h; rw [if_pos h]
  ·exact (hb rfl).elim
theorem vG {H H':AH} {n n':Nat} (hn:n<=n') (e:Ext H H'):Sub (H.since n') (H'.since n):=by
 constructor
 ·unfold AH.since
  simp only;have:=e.1
  split <;> split <;> omega
 ·intro b hb
  rw [AH.get_since] at hb ⊢
  split at hb
  ·rename_i h
   have hb':H.get b ≠ .dead:=hb;rw [if_pos (show n<=b by omega)]
   simp only [AH.get_since,h,if_true];exact e.get (AH.lt_of_get hb')
  ·exact (hb rfl).elim
section
variable {X:List Res} {H0 H H':AH} {w:Nat} {T:Tr} {M:List bT} {nx:Int}
theorem WkO.frz (h:WkO X H0 H w T M nx) (e:Ext H H'):WkO (X++[frR H.next H']) H0 H' w T M nx:=h.add (aFS e)
theorem WkO.since {K:AH} {k n:Nat} (h:WkO X H0 H w T M nx) (hk:X[k]? = some (frR n K)):Sub (K.since n) H:=(h.openX hk).1.since
end
end Go.AM
end
section
namespace Go.AM
section
variable {E:Sy} {X:List Res} {H H' H0 Z:AH} {Q:Value->AH->Prop} {t w:Nat} {T T':Tr} {M M':List bT} {nx nx':Int} {L:List Res} {s:Nat}
theorem aC9 {H:AH} {z c:List Value} (hz:z.length=2) (hc:c.length=2) (hp:c.all plain1=true):storeN 2 (ptr H.next 0) (.agg c.toArray) (H.new (.cells z none))=some (H.new (.cells c none)):=by
 rw [eS,AH.get_new_self];have:AM.splice z 0 c=c:=by simp [splice,hz,hc]
 simp only [List.size_toArray,List.toList_toArray,hc,hz,hp,Nat.zero_add,Nat.le_refl,and_self,if_true,this,AH.new_put]
end
end Go.AM
end
section
namespace Go.AM
section
variable {X:List Res} {E:Sy} {H0 H H' H'':AH} {Q:Value->AH->Prop} {p m:Nat} {L L' L'':LyL} {T T' T'' T2 T2':Tr} {t:Nat} {nv nv' mv:Value} {nx:Int} {mr:List (List Value)} {Y Y':List RLy}
theorem vL {v:Value} {l:List (BitVec 8)} (h:Rows H 1 v (cG l)):pE v H=some (str (l.map UInt8.ofBitVec)):=by
 refine aBT (l:=l) ?_;unfold aGb;rw [List.map_map];exact h
theorem aA7 (j:Nat):BitVec.ofInt 16 (j:Int)=BitVec.ofNat 16 j:=by
 apply BitVec.eq_of_toNat_eq;simp
theorem aHn (a:Nat):bB .u16 (vi a)=some (u16 (BitVec.ofNat 16 a)):=by rw [mP,aA7]
theorem aIk (a:BitVec 16):bB .u16 (vi (a.toNat:Int))=some (u16 a):=by rw [aHn]; simp
end
end Go.AM
end
section
namespace Go.AM
structure gG where
 kind:BitVec 8
 in_:BitVec 8
 to:BitVec 8
 name:BitVec 8
 other:BitVec 8
 any:List UInt8
 n:Int
 bytes:Value
 bl:List (BitVec 8)
 flag:Bool
 raw:Bool
def gG.cells (x:gG):List Value:=[u8 x.kind,u8 x.in_,u8 x.to,u8 x.name,u8 x.other,str x.any,vi x.n,x.bytes,vb x.flag,vb x.raw]
abbrev aGO:Sh := .struct [.int .u8,.int .u8,.int .u8,.int .u8,.int .u8,.str,.int .i64,.slice 1 (.int .u8),.bool,.bool]
structure gG.ok (H:AH) (x:gG):Prop where
 any:x.any.length<=9223372036854775807
 n : -9223372036854775808<=x.n/\x.n<9223372036854775808
 bytes:Rows H 1 x.bytes (cG x.bl)
 bl:x.bl.length<=9223372036854775807
theorem gG.ok.mono {H H':AH} {x:gG} (h:x.ok H) (e:Ext H H'):x.ok H':=⟨h.any,h.n,h.bytes.mono e,h.bl⟩
theorem SV.act {H:AH} {cs:List Value} (h:SV H aGO cs):∃ x:gG,cs=x.cells/\x.ok H:=by
 obtain ⟨c0,e0,rfl,h0,c1,e1,rfl,h1,c2,e2,rfl,h2,c3,e3,rfl,h3,c4,e4,rfl,h4,c5,e5,rfl,h5,c6,e6,rfl,h6,c7,e7,rfl,h7,c8,e8,rfl,h8,c9,e9,rfl,h9,rfl⟩:=h;obtain ⟨x0,rfl⟩:=h0.u8;obtain ⟨x1,rfl⟩:=h1.u8;obtain ⟨x2,rfl⟩:=h2.u8;obtain ⟨x3,rfl⟩:=h3.u8;obtain ⟨x4,rfl⟩:=h4.u8;obtain ⟨x5,rfl,g5⟩:=h5;obtain ⟨x6,rfl,g6⟩:=h6.i64;obtain ⟨v7,x7,rfl,g7,l7⟩:=SV.vals (fun r hr=>SV.u8 hr) h7;obtain ⟨x8,rfl⟩:=h8;obtain ⟨x9,rfl⟩:=h9;refine ⟨⟨x0,x1,x2,x3,x4,x5,x6,v7,x7,x8,x9⟩,rfl,g5,g6,?_,by simpa using l7⟩
 show Rows H 1 v7 (cG x7)
 have:cG x7=(x7.map AM.u8).map fun v=>[v]:=by simp [cG]
 rw [this]; exact g7
section
variable {X:List Res} {E:Sy} {H0 H H' H'':AH} {Q:Value->AH->Prop} {p m:Nat} {L L' L'':LyL} {T T' T'' T2 T2':Tr} {t:Nat} {nv nv' mv:Value} {nx:Int} {mr:List (List Value)} {Y Y':List RLy}
def iO:List aM:=[[97],[98],[99],[100,46,101],[102],[103],[],[46,46],[97,47,98]]
theorem S.f38 (hE:bK E) (hQ:∀ v H',Ext H H'->Rows H' 1 v (kJ iO)->Q v H'):E.call (E.fid i.f38) [] H Q:=by
 apply hE.f38
 have hb:buildS 9 1 #[(.string ⟨#[]⟩)] [(0,(.string ⟨#[97]⟩)),(1,(.string ⟨#[98]⟩)),(2,(.string ⟨#[99]⟩)),(3,(.string ⟨#[100,46,101]⟩)),(4,(.string ⟨#[102]⟩)),(5,(.string ⟨#[103]⟩)),(6,(.string ⟨#[]⟩)),(7,(.string ⟨#[46,46]⟩)),(8,(.string ⟨#[97,47,98]⟩))]=some (.cells (iO.map str) none,dZ 9 9):=by
  have:=iK 9 1 [str []] [(0,str [97]),(1,str [98]),(2,str [99]),(3,str [100,46,101]),(4,str [102]),(5,str [103]),(6,str []),(7,str [46,46]),(8,str [97,47,98])] (iO.map str) rfl rfl rfl rfl (by
   intro v hv;obtain ⟨s,_,rfl⟩:=List.mem_map.1 hv
   rfl)
  simpa [iO] using this
 simp only [F.f38,hb,AM.dN,eN,aJ];refine hQ _ _ ((Ext.refl H).new _) (Rows.made (f:=none) (by rw [AH.get_new_self]; rfl) (.inl rfl) rfl ?_)
 intro r hr;obtain ⟨s,_,rfl⟩:=List.mem_map.1 hr
 rfl
theorem aF9:([(.int .u8 0),(.int .u8 0),(.int .u8 0),(.int .u8 0),(.int .u8 0),(.string ⟨#[]⟩),(.int .i64 0),(.slice none 0 0),(.bool false),(.bool false)]:List Value)=(gG.mk 0#8 0#8 0#8 0#8 0#8 [] 0 aW [] false false).cells:=rfl
theorem gG.all_plain (x:gG) (h:plain1 x.bytes=true):x.cells.all plain1=true:=by
 simp only [gG.cells,List.all_cons,List.all_nil,h]; rfl
theorem aDb {x:gG} (hp:plain1 x.bytes=true) (z:gG):storeN 10 (ptr H.next 0) (.agg x.cells.toArray) (H.new (.cells z.cells none))=some (H.new (.cells x.cells none)):=by
 rw [eS,AH.get_new_self];have hs:AM.splice z.cells 0 x.cells=x.cells:=rfl;have h1:x.cells.length=10:=rfl;have h2:z.cells.length=10:=rfl;simp only [List.size_toArray,List.toList_toArray,h1,h2,gG.all_plain x hp,Nat.zero_add,Nat.le_refl,and_self,if_true,hs,AH.new_put]
theorem mT {v:Value} {rows:List (List Value)} {sz:Nat} (h:Rows H sz v rows):plain1 v=true:=by
 rcases h.at_ with ⟨_,c,rfl⟩ | ⟨b,o,c,rfl,_⟩
 ·cases c <;> rfl
 ·rfl
end
end Go.AM
end
section
namespace Go.AM
section
variable {X:List Res} {E:Sy} {H0 H H' H'':AH} {Q:Value->AH->Prop} {p m:Nat} {L L' L'':LyL} {T T' T'' T2 T2':Tr} {t:Nat} {nv nv' mv:Value} {nx:Int} {mr:List (List Value)} {Y Y':List RLy}
structure aGE (X:List Res) (H0 H':AH) (p m t:Nat) (mv:Value) (nx:Int) (mr:List (List Value)) (T:Tr) (B:Int) (L':LyL) (nv':Value) (Y':List RLy) (T':Tr):Prop where
 two:cR X H0 H' p m L' T' t nv' mv nx mr Y' T'
 wf:T'.WF
 cb:T.CB T'
 hb:T'.HB (B+1)
inductive Tr.Did (up:Bool) (T:Tr):Tr->Prop
 | make (a:BitVec 16) (s:aM) (k:BitVec 8) (text:List UInt8):T.Did up (T.make a s k text).1
 | add (a:BitVec 16) (s:aM) (b:BitVec 16):T.Did up (T.add a s b).1
 | drop (a:BitVec 16) (s:aM) (d:Bool):T.Did up (T.drop a s d).1
 | move (a:BitVec 16) (s:aM) (b:BitVec 16) (o:aM):T.Did up (T.move a s b o).1
 | hold (a:BitVec 16):T.Did up (T.hold a up).1
 | write (a:BitVec 16) (n:Int) (l:List (BitVec 8)):T.Did up (T.write a n l).1
 | cut (a:BitVec 16) (n:Int):T.Did up (T.cut a n).1
 | refl:T.Did up T
theorem aJd (o:BitVec 8) (k:BitVec 8) (hk:k<5#8):∃ kd:BitVec 8,([[u8 1#8],[u8 2#8],[u8 2#8],[u8 3#8],[u8 o]]:List (List Value))[k.toNat]? = some [u8 kd]:=by
 have h:k.toNat<5:=hk;have:k.toNat=0\/k.toNat=1\/k.toNat=2\/k.toNat=3\/k.toNat=4:=by omega
 rcases this with e | e | e | e | e <;> rw [e]
 ·exact ⟨_,rfl⟩
 ·exact ⟨_,rfl⟩
 ·exact ⟨_,rfl⟩
 ·exact ⟨_,rfl⟩
 ·exact ⟨_,rfl⟩
theorem aIJ (hE:bK E) {bx:Nat} {x:gG} (h:cR (X++[bN bx x.cells]) H0 H p m L T t nv mv nx mr Y T) (w:T.WF) {B:Int} (hb:T.HB B) (hB:0<=B/\B<1000000) (hc:0<=T.change/\T.change<1000000) (hx:x.ok H0) (hl:x.any.length<=200/\x.bl.length<=200) {up:Bool} (hup:x.kind % 15#8=11#8->x.flag=up)
  (a b:BitVec 16) (s o:aM) (hs:s.length<2 ^ 63) (ho:o.length<2 ^ 63) (hQ:∀ L' nv' Y' T' H',aGE X H0 H' p m t mv nx mr T B L' nv' Y' T'->T.Did up T'->Q (vb true) H') :
  F.f37_j1 E Q (ptr p 0) (ptr t 0) (ptr bx 0) (vi (a.toNat:Int)) (vi (b.toNat:Int)) (str s) (str o) H:=by
 have hbx:=h.held;have c0:x.cells[0]? = some (u8 x.kind):=rfl;have c4:x.cells[4]? = some (u8 x.other):=rfl;have c5:x.cells[5]? = some (str x.any):=rfl;have c6:x.cells[6]? = some (vi x.n):=rfl;have c7:x.cells[7]? = some x.bytes:=rfl;have c8:x.cells[8]? = some (vb x.flag):=rfl;have hrem:aA .rem (u8 x.kind) (.int .u8 15)=some (u8 (x.kind % 15#8)):=oL x.kind 15#8 (by decide)
 have hlt:(x.kind % 15#8).toNat<15:=by rw [BitVec.toNat_umod]; exact Nat.mod_lt _ (by decide)
 have n5:(.int .u8 5:Value)=u8 5#8:=rfl;have n8:(.int .u8 8:Value)=u8 8#8:=rfl;have n11:(.int .u8 11:Value)=u8 11#8:=rfl;have n12:(.int .u8 12:Value)=u8 12#8:=rfl;have n13:(.int .u8 13:Value)=u8 13#8:=rfl;simp only [F.f37_j1,aIk,aK,aD,Nat.zero_add,hbx,aZ,c0,hrem,aJ,aE];generalize x.kind % 15#8=k at *;have lss:∀ c:BitVec 8,aA .lss (u8 k) (u8 c)=some (vb (decide (k<c))):=fun c=>by rw [aEV]; rfl
 by_cases k5:k<5#8
 ·have q1:aA .lss (u8 k) (.int .u8 5)=some (vb true):=by rw [n5,lss]; simp [k5]
  have k5n:k.toNat<5:=k5;obtain ⟨kd,hkd⟩:=aJd x.other k k5
  have hbS:buildS 5 1 #[(.int .u8 0)] [(0,(.int .u8 1)),(1,(.int .u8 2)),(2,(.int .u8 2)),(3,(.int .u8 3)),(4,u8 x.other)]=some (.cells [u8 1#8,u8 2#8,u8 2#8,u8 3#8,u8 x.other] none,dZ 5 5):=by
   have:=iK 5 1 [u8 0#8] [(0,u8 1#8),(1,u8 2#8),(2,u8 2#8),(3,u8 3#8),(4,u8 x.other)] [u8 1#8,u8 2#8,u8 2#8,u8 3#8,u8 x.other] rfl rfl rfl rfl (by intro v hv; simp at hv; rcases hv with rfl | rfl | rfl | rfl <;> rfl)
   simpa using this
  have hx1:Ext H (H.new (.cells [u8 1#8,u8 2#8,u8 2#8,u8 3#8,u8 x.other] none)):=(Ext.refl H).new _;have hr:Rows (H.new (.cells [u8 1#8,u8 2#8,u8 2#8,u8 3#8,u8 x.other] none)) 1 (slc H.next 0 5 5) [[u8 1#8],[u8 2#8],[u8 2#8],[u8 3#8],[u8 x.other]]:=Rows.made (f:=none) (by rw [AH.get_new_self]; rfl) (.inl rfl) rfl (by intro r hr; simp at hr; rcases hr with rfl | rfl | rfl | rfl <;> rfl)
  obtain ⟨b1,o1,p1,p2⟩:=hr.ix (i:=k.toNat) k5n;rw [List.getElem?_eq_getElem (by simpa using k5n)] at hkd
  rw [Option.some.inj hkd] at p2;have p3:((H.new (.cells [u8 1#8,u8 2#8,u8 2#8,u8 3#8,u8 x.other] none)).get b1).cell o1=some (u8 kd):=by have:=dK p2 (j:=0) (by omega); simpa using this
  have h1:=h.mono hx1;simp only [q1,aK,aD,Nat.zero_add,hbx,aZ,c4,hbS,AM.dN,eN,aDo,p1,p3,h1.held,c5,aJ,aE,aO];refine cR.cMake hE h1 w a s hs kd x.any (by omega) ⟨by omega,by omega⟩ fun L2 H2 h2 =>?_
  simp only [dG,List.getElem?_cons_zero,List.getElem?_cons_succ,lX,aK,aD,Nat.zero_add,h2.held,aZ,c5,aJ,aE];refine cR.rMake hE h2 w a s hs kd x.any ⟨by omega,by omega⟩ fun nv3 Y3 H3 h3 =>?_
  simp only [dG,List.getElem?_cons_zero,List.getElem?_cons_succ,pV,aT,decide_true,dJ,aQ,aJ,aE];exact hQ _ _ _ _ _ ⟨h3.drop,w.make a s kd x.any,.make a s kd x.any,(hb.make hB.1 a s kd x.any).mono (by omega)⟩ (.make a s kd x.any)
 by_cases e5:k=5#8
 ·have q1:aA .lss (u8 k) (.int .u8 5)=some (vb false):=by rw [n5,lss]; simp [k5]
  have q2:aA .eql (u8 k) (.int .u8 5)=some (vb true):=by rw [n5]; simp [e5]
  simp only [q1,q2,aJ,aE,aI,aO];refine cR.cAdd hE h w a s hs b ⟨by omega,by omega⟩ fun L1 H1 h1 =>?_
  refine cR.rAdd hE h1 w a s hs b ⟨by omega,by omega⟩ fun Y2 H2 h2 =>?_
  simp only [aT,decide_true,aJ,aE];exact hQ _ _ _ _ _ ⟨h2.drop,w.add a s b,.add a s b,(hb.add a s b).mono (by omega)⟩ (.add a s b)
 by_cases k8:k<8#8
 ·have q1:aA .lss (u8 k) (.int .u8 5)=some (vb false):=by rw [n5,lss]; simp [k5]
  have q2:aA .eql (u8 k) (.int .u8 5)=some (vb false):=by rw [n5]; simp [e5]
  have q3:aA .lss (u8 k) (.int .u8 8)=some (vb true):=by rw [n8,lss]; simp [k8]
  simp only [q1,q2,q3,aK,aD,Nat.zero_add,hbx,aZ,c8,aJ,aE,aI,aO];refine cR.cDrop hE h w a s x.flag ⟨by omega,by omega⟩ fun L1 H1 h1 =>?_
  refine ⟨by rw [aD,aD,h1.held,hbx],?_⟩
  refine cR.rDrop hE h1 w a s x.flag ⟨by omega,by omega⟩ fun Y2 H2 h2 =>?_
  simp only [aT,decide_true,aJ,aE];exact hQ _ _ _ _ _ ⟨h2.drop,w.drop a s x.flag,.drop a s x.flag,(hb.drop hB.1 a s x.flag).mono (by omega)⟩ (.drop a s x.flag)
 by_cases k11:k<11#8
 ·have q1:aA .lss (u8 k) (.int .u8 5)=some (vb false):=by rw [n5,lss]; simp [k5]
  have q2:aA .eql (u8 k) (.int .u8 5)=some (vb false):=by rw [n5]; simp [e5]
  have q3:aA .lss (u8 k) (.int .u8 8)=some (vb false):=by rw [n8,lss]; simp [k8]
  have q4:aA .lss (u8 k) (.int .u8 11)=some (vb true):=by rw [n11,lss]; simp [k11]
  simp only [q1,q2,q3,q4,aJ,aE,aI,aO];refine cR.cMove hE h w a b s o ho ⟨by omega,by omega⟩ fun L1 H1 h1 =>?_
  refine cR.rMove hE h1 w a b s o ho ⟨by omega,by omega⟩ fun Y2 H2 h2 =>?_
  simp only [aT,decide_true,aJ,aE];exact hQ _ _ _ _ _ ⟨h2.drop,w.move a s b o,.move a s b o,(hb.move hB.1 a s b o).mono (by omega)⟩ (.move a s b o)
 have q1:aA .lss (u8 k) (.int .u8 5)=some (vb false):=by rw [n5,lss]; simp [k5]
 have q2:aA .eql (u8 k) (.int .u8 5)=some (vb false):=by rw [n5]; simp [e5]
 have q3:aA .lss (u8 k) (.int .u8 8)=some (vb false):=by rw [n8,lss]; simp [k8]
 have q4:aA .lss (u8 k) (.int .u8 11)=some (vb false):=by rw [n11,lss]; simp [k11]
 by_cases e11:k=11#8
 ·have q5:aA .eql (u8 k) (.int .u8 11)=some (vb true):=by rw [n11]; simp [e11]
  simp only [q1,q2,q3,q4,q5,aK,aD,Nat.zero_add,hbx,aZ,c8,aJ,aE,aI,aO];refine cR.cHold hE h w a x.flag (by have:=hb a; omega) fun L1 H1 h1 =>?_
  refine ⟨by rw [aD,aD,h1.held,hbx],?_⟩
  refine cR.rHold hE h1 w a x.flag (by have:=hb a; omega) fun Y2 H2 h2 =>?_
  simp only [aT,decide_true,aJ,aE];exact hQ _ _ _ _ _ ⟨h2.drop,w.hold a x.flag,.hold a x.flag,hb.hold hB.1 a x.flag⟩ (hup e11 ▸ .hold a)
 have q5:aA .eql (u8 k) (.int .u8 11)=some (vb false):=by rw [n11]; simp [e11]
 by_cases e12:k=12#8
 ·have q6:aA .eql (u8 k) (.int .u8 12)=some (vb true):=by rw [n12]; simp [e12]
  simp only [q1,q2,q3,q4,q5,q6,aK,aD,Nat.zero_add,hbx,aZ,c6,c7,aJ,aE,aI,aO];refine cR.cWrite hE h w a x.n x.bytes x.bl (hx.bytes.mono h.ext) (by omega) hx.n ⟨by omega,by omega⟩ fun L1 H1 h1 =>?_
  refine ⟨by rw [aD,aD,h1.held,hbx],by rw [aD,aD,h1.held,hbx],?_⟩
  refine cR.rWrite hE h1 w a x.n x.bytes x.bl (hx.bytes.mono h1.ext) (by omega) ⟨by omega,by omega⟩ fun Y2 H2 h2 =>?_
  simp only [aT,decide_true,aJ,aE];exact hQ _ _ _ _ _ ⟨h2.drop,w.write a x.n x.bl,.write a x.n x.bl,(hb.write a x.n x.bl).mono (by omega)⟩ (.write a x.n x.bl)
 have q6:aA .eql (u8 k) (.int .u8 12)=some (vb false):=by rw [n12]; simp [e12]
 by_cases e13:k=13#8
 ·have q7:aA .eql (u8 k) (.int .u8 13)=some (vb true):=by rw [n13]; simp [e13]
  simp only [q1,q2,q3,q4,q5,q6,q7,aK,aD,Nat.zero_add,hbx,aZ,c6,aJ,aE,aI,aO];refine cR.cCut hE h w a x.n ⟨by omega,by omega⟩ fun L1 H1 h1 =>?_
  refine ⟨by rw [aD,aD,h1.held,hbx],?_⟩
  refine cR.rCut hE h1 w a x.n ⟨by omega,by omega⟩ fun Y2 H2 h2 =>?_
  simp only [aT,decide_true,aJ,aE];exact hQ _ _ _ _ _ ⟨h2.drop,w.cut a x.n,.cut a x.n,(hb.cut a x.n).mono (by omega)⟩ (.cut a x.n)
 have q7:aA .eql (u8 k) (.int .u8 13)=some (vb false):=by rw [n13]; simp [e13]
 simp only [q1,q2,q3,q4,q5,q6,q7,aJ,aE,aI];refine S.f15 hE h.ino a s ?_;simp only [dG,List.getElem?_cons_zero,List.getElem?_cons_succ,aJ,aE];refine S.f54 hE h.ref w.small a s fun H2 e2 =>?_;simp only [dG,List.getElem?_cons_zero,List.getElem?_cons_succ,pV,aT,decide_true,dJ,aQ,aJ,aE];exact hQ _ _ _ _ _ ⟨(h.mono e2).drop,w,.refl,hb.mono (by omega)⟩ .refl
theorem aAB {v:Value} (h:Rows H 1 v (kJ iO)) (k:Nat):∃ b o s,aG 1 v (vi ((k % 9:Nat):Int))=some (ptr b o)/\(∀ H',Ext H H'->(H'.get b).cell o=some (str s))/\s.length<2 ^ 63:=by
 have hk:k % 9<9:=Nat.mod_lt _ (by omega)
 have hlen:(kJ iO).length=9:=rfl;obtain ⟨b,o,p1,p2⟩:=h.ix (i:=k % 9) (by rw [hlen]; exact hk)
 have hmem:(kJ iO)[k % 9]'(by rw [hlen]; exact hk)∈kJ iO:=List.getElem_mem _
 obtain ⟨s,hs,he⟩:=List.mem_map.1 hmem;rw [<- he] at p2;refine ⟨b,o,s,p1,fun H' e =>?_,?_⟩
 ·rw [e.get (AH.lt_of_get (iL p2))]
  have:=dK p2 (j:=0) (by omega)
  simpa using this
 ·have:∀ s∈iO,s.length<2 ^ 63:=by decide
  exact this s hs
theorem S.f37 (hE:bK E) {x:gG} (h:cR X H0 H p m L T t nv mv nx mr Y T) (w:T.WF) {B:Int} (hb:T.HB B) (hB:0<=B/\B<1000000) (hc:0<=T.change/\T.change<1000000) (hx:x.ok H0) (hl:x.any.length<=200/\x.bl.length<=200) (hraw:x.raw=false) {up:Bool} (hup:x.kind % 15#8=11#8->x.flag=up)
  (hQ:∀ L' nv' Y' T' H',aGE X H0 H' p m t mv nx mr T B L' nv' Y' T'->T.Did up T'->Q (vb true) H'):E.call (E.fid i.f37) [ptr p 0,ptr t 0,.agg x.cells.toArray] H Q:=by
 apply hE.f37
 have hbo:gX (.agg x.cells.toArray)=some (.cells x.cells none,fun b=>ptr b 0):=by
  have:x.cells.all plain1=true:=x.all_plain (mT hx.bytes)
  first
   | rfl
   | simp [gX,this]
 have h1:=h.box x.cells;have hb1:=h1.held;have c1:x.cells[1]? = some (u8 x.in_):=rfl;have c2:x.cells[2]? = some (u8 x.to):=rfl;have c3:x.cells[3]? = some (u8 x.name):=rfl;have c4:x.cells[4]? = some (u8 x.other):=rfl;have c9:x.cells[9]? = some (vb x.raw):=rfl;have r1:aA .rem (u8 x.in_) (.int .u8 8)=some (u8 (x.in_ % 8#8)):=oL _ 8#8 (by decide)
 have r2:aA .rem (u8 x.to) (.int .u8 8)=some (u8 (x.to % 8#8)):=oL _ 8#8 (by decide)
 have n1:(((x.in_ % 8#8).setWidth 16:BitVec 16).toNat)=(x.in_ % 8#8).toNat:=by simp; omega
 have n2:(((x.to % 8#8).setWidth 16:BitVec 16).toNat)=(x.to % 8#8).toNat:=by simp; omega
 simp only [F.f37,hbo,AM.dN,aK,aD,Nat.zero_add,hb1,aZ,c1,c2,c3,c4,r1,r2,lX,aJ,aE];generalize hH1:H.new (.cells x.cells none)=H1 at *;have ld:∀ {H'} (k:Nat),Ext H1 H'->aB (ptr H.next k) H'=aB (ptr H.next k) H1:=fun k e=>by rw [aD,aD,(h1.mono e).held,hb1]
 refine S.f38 hE fun v2 H2 e2 s2 =>?_;refine ⟨ld 4 e2,ld 3 e2,?_⟩;refine S.f38 hE fun v3 H3 e3 s3 =>?_;have e13:=e2.trans e3;refine ⟨ld 4 e13,ld 3 e13,?_⟩;have l3:AM.lenSlc v3=some (vi (9:Nat)):=s3.lenSlc;obtain ⟨b4,o4,sn,p4,q4,w4⟩:=aAB s2 x.name.toNat;simp only [l3,lB x.name.toNat 9 (by omega),p4,aD,q4 H3 e3,aJ,aE]
 refine S.f38 hE fun v5 H5 e5 s5 =>?_;have e15:=e13.trans e5;refine ⟨by rw [aD,aD,q4 H5 (e3.trans e5),q4 H3 e3],ld 4 e15,ld 3 e15,?_⟩
 refine S.f38 hE fun v6 H6 e6 s6 =>?_;have e16:=e15.trans e6;refine ⟨by rw [aD,aD,q4 H6 (e3.trans (e5.trans e6)),q4 H3 e3],ld 4 e16,ld 3 e16,?_⟩
 have l6:AM.lenSlc v6=some (vi (9:Nat)):=s6.lenSlc;obtain ⟨b7,o7,so,p7,q7,w7⟩:=aAB s5 x.other.toNat;have h6:=h1.mono e16;have hj:=aIJ (Q:=Q) hE h6 w hb hB hc hx hl hup ((x.in_ % 8#8).setWidth 16) ((x.to % 8#8).setWidth 16) sn so w4 w7 hQ;rw [n1,n2] at hj;simp only [l6,lB x.other.toNat 9 (by omega),p7,aD,q7 H6 e6,aK,Nat.zero_add,h6.held,aZ,c9,hraw,aJ,aE,aI]
 exact hj
end
end Go.AM
end
section
namespace Go.AM
def Tr.Stay (T T':Tr):Prop:=∀ n,(T.node n).kind≠0#8->1<=(T.node n).held->(T'.node n).kind=(T.node n).kind/\(T.node n).held<=(T'.node n).held
section
variable {T T' T'':Tr}
theorem Tr.node_upd_ne {n k:BitVec 16} (h:k≠n) (f:Nd->Nd):(T.upd n f).node k=T.node k:=by
 have e:¬ n.toNat=k.toNat:=fun e=>h (BitVec.eq_of_toNat_eq e.symm);unfold Tr.upd Tr.node;simp only [List.getD_eq_getElem?_getD,List.getElem?_modify,e,if_false];cases T.N[k.toNat]? <;> rfl
theorem Tr.Stay.refl:T.Stay T:=fun _ _ _=>⟨rfl,Int.le_refl _⟩
theorem Tr.Stay.trans (h:T.Stay T') (h':T'.Stay T''):T.Stay T'':=fun n hk hh=>by
 obtain ⟨a,b⟩:=h n hk hh;obtain ⟨c,d⟩:=h' n (by rw [a]; exact hk) (by omega)
 exact ⟨c.trans a,by omega⟩
theorem Tr.Stay.upd (n:BitVec 16) (f:Nd->Nd) (hf:∀ x:Nd,(f x).kind=x.kind/\x.held<=(f x).held):T.Stay (T.upd n f):=fun k _ _=>by
 rcases T.upd_or n k f with e | e
 ·rw [e]; exact ⟨rfl,Int.le_refl _⟩
 ·rw [e]; exact hf _
theorem Tr.Stay.bump (h:T.Stay T'):T.Stay T'.bump:=h
theorem Tr.Stay.tidy (n:BitVec 16):T.Stay (T.tidy n):=fun k hk hh=>by
 unfold Tr.tidy
 split
 ·rename_i hc
  have e:k≠n:=by rintro rfl; omega
  rw [Tr.node_upd_ne e];exact ⟨rfl,Int.le_refl _⟩
 ·exact ⟨rfl,Int.le_refl _⟩
theorem Tr.Stay.make (w:T.WF) (inn:BitVec 16) (s:aM) (kd:BitVec 8) (text:List UInt8):T.Stay (T.make inn s kd text).1:=by
 rcases w.make_node inn s kd text with e | ⟨_,_,A,_,hA,hi,hn⟩
 ·rw [e]; exact .refl
 ·intro n hk hh
  rw [hn]
  split
  ·rename_i e; subst e; exact ⟨rfl,Int.le_refl _⟩
  ·split
   ·rename_i e; subst e; exact (hk hA).elim
   ·exact ⟨rfl,Int.le_refl _⟩
theorem Tr.Stay.add (inn:BitVec 16) (s:aM) (v:BitVec 16):T.Stay (T.add inn s v).1:=by
 unfold Tr.add
 repeat' split
 all_goals try exact .refl
 exact (Tr.Stay.upd inn (Nd.addE s v) fun _=>⟨rfl,Int.le_refl _⟩).trans (Tr.Stay.upd v (Nd.addL 1) fun _=>⟨rfl,Int.le_refl _⟩)
theorem Tr.Stay.drop (inn:BitVec 16) (s:aM) (d:Bool):T.Stay (T.drop inn s d).1:=by
 unfold Tr.drop
 repeat' split
 all_goals try exact .refl
 exact ((Tr.Stay.upd inn (Nd.delE s) fun _=>⟨rfl,Int.le_refl _⟩).trans (Tr.Stay.upd _ (Nd.addL (-1)) fun _=>⟨rfl,Int.le_refl _⟩)).bump.trans (Tr.Stay.tidy _)
theorem Tr.Stay.hold (n:BitVec 16):T.Stay (T.hold n true).1:=by
 unfold Tr.hold
 repeat' split
 all_goals try exact .refl
 ·exact Tr.Stay.upd n (Nd.addH 1) fun x=>⟨rfl,by show x.held<=x.held+1; omega⟩
 ·rename_i h _; exact (h rfl).elim
theorem Tr.Stay.move (fr:BitVec 16) (s:aM) (to:BitVec 16) (other:aM):T.Stay (T.move fr s to other).1:=by
 have key:∀ (U:Tr) (n:BitVec 16),U.Stay (Tr.moved U fr s to other n):=by
  intro U n;have h2:U.Stay ((U.upd fr (Nd.delE s)).upd to (Nd.addE other n)):=(Tr.Stay.upd fr (Nd.delE s) fun _=>⟨rfl,Int.le_refl _⟩).trans (Tr.Stay.upd to (Nd.addE other n) fun _=>⟨rfl,Int.le_refl _⟩);unfold Tr.moved;simp only
  split
  ·exact (h2.trans (Tr.Stay.upd n (fun x=>{ x with parent:=to }) fun _=>⟨rfl,Int.le_refl _⟩)).bump
  ·exact h2.bump
 unfold Tr.move
 split
 ·exact .refl
 split
 ·exact .refl
 split
 ·exact .refl
 split
 ·exact .refl
 split
 ·exact .refl
 refine Tr.Stay.trans ?_ (key _ _)
 split
 ·exact .drop _ _ _
 ·exact .refl
theorem Tr.Stay.write (n:BitVec 16) (at_:Int) (b:List (BitVec 8)):T.Stay (T.write n at_ b).1:=by
 unfold Tr.write
 repeat' split
 all_goals try exact .refl
 exact (Tr.Stay.upd n (fun x=>{ x with data:=gL x.data at_.toNat b }) fun _=>⟨rfl,Int.le_refl _⟩).bump
theorem Tr.Stay.cut (n:BitVec 16) (size:Int):T.Stay (T.cut n size).1:=by
 unfold Tr.cut
 repeat' split
 all_goals try exact .refl
 exact (Tr.Stay.upd n (fun x=>{ x with data:=oF x.data size.toNat }) fun _=>⟨rfl,Int.le_refl _⟩).bump
theorem Tr.Did.stay (h:T.Did true T') (w:T.WF):T.Stay T':=by
 cases h
 ·exact .make w _ _ _ _
 ·exact .add _ _ _
 ·exact .drop _ _ _
 ·exact .move _ _ _ _
 ·exact .hold _
 ·exact .write _ _ _
 ·exact .cut _ _
 ·exact .refl
theorem Tr.Did.kd {up:Bool} (h:T.Did up T') (k:T.KD):T'.KD:=by
 cases h
 ·exact k.make gJ _ _ _ _
 ·exact k.add gJ _ _ _
 ·exact k.drop gJ _ _ _
 ·exact k.move gJ _ _ _ _
 ·exact k.hold gJ _ _
 ·exact k.write gJ _ _ _
 ·exact k.cut gJ _ _
 ·exact k
end
end Go.AM
end
section
namespace Go.AM
def Tr.dead (T:Tr) (n:BitVec 16):Prop:=(T.node n).kind=2#8/\(T.node n).links=0
structure Tr.Order (T:Tr):Prop where
 rank:∃ (r:BitVec 16->Nat) (B:Nat),(∀ n,r n<B)/\∀ n,T.dead n->T.dead (T.node n).parent->r n<r (T.node n).parent
 par:∀ n,(T.node n).kind≠2#8->(T.node n).parent=0#16
def Tr.DAt (T T':Tr) (n:BitVec 16):Prop:=(T'.dead n->(T'.node n).parent=(T.node n).parent/\(T.dead n\/¬ T'.dead (T'.node n).parent))/\((T'.node n).kind≠2#8->(T'.node n).parent=0#16\/((T.node n).kind≠2#8/\(T'.node n).parent=(T.node n).parent))
def Tr.DStep (T T':Tr):Prop:=∀ n,T.DAt T' n
section
variable {T T' T'':Tr}
open Classical in
theorem Tr.Order.step (h:T.Order) (d:T.DStep T'):T'.Order:=by
 obtain ⟨r,B,hr,ho⟩:=h.rank;refine ⟨⟨fun n=>if T.dead n then r n else B,B+1,fun n =>?_,fun n hn hp =>?_⟩,fun n hk =>?_⟩
 ·have:=hr n
  simp only
  split <;> omega
 ·obtain ⟨e,h1⟩:=(d n).1 hn
  rcases h1 with h1 | h1
  ·simp only [if_pos h1]
   split
   ·rename_i h2
    rw [e] at h2 ⊢;exact ho n h1 h2
   ·exact hr n
  ·exact (h1 hp).elim
 ·rcases (d n).2 hk with e | ⟨a,b⟩
  ·exact e
  ·rw [b]; exact h.par n a
theorem Tr.DAt.same {n:BitVec 16} (h1:(T'.node n).kind=(T.node n).kind) (h2:(T'.node n).parent=(T.node n).parent) (h3:(T'.node n).links=(T.node n).links):T.DAt T' n :=
 ⟨fun h=>⟨h2,.inl ⟨by rw [<- h1]; exact h.1,by rw [<- h3]; exact h.2⟩⟩,fun h => .inr ⟨by rw [<- h1]; exact h,h2⟩⟩
theorem Tr.DAt.none {n:BitVec 16} (h:T'.node n=Nd.none):T.DAt T' n :=
 ⟨fun hd=>by have:=hd.1; rw [h] at this; simp [Nd.none] at this,fun _ => .inl (by rw [h]; rfl)⟩
theorem Tr.DAt.file {n:BitVec 16} (h:(T'.node n).kind≠2#8) (h1:(T.node n).kind≠2#8) (h2:(T'.node n).parent=(T.node n).parent):T.DAt T' n :=
 ⟨fun hd=>(h hd.1).elim,fun _ => .inr ⟨h1,h2⟩⟩
theorem Tr.DAt.live {n:BitVec 16} (h:(T'.node n).kind=2#8) (h1:(T'.node n).links≠0):T.DAt T' n :=
 ⟨fun hd=>(h1 hd.2).elim,fun hk=>(hk h).elim⟩
theorem Tr.DStep.refl:T.DStep T:=fun _ => .same rfl rfl rfl
theorem Tr.DStep.upd (n:BitVec 16) (f:Nd->Nd) (hf:∀ x:Nd,(f x).kind=x.kind/\(f x).parent=x.parent/\(f x).links=x.links):T.DStep (T.upd n f):=fun k=>by
 rcases T.upd_or n k f with e | e
 ·exact .same (by rw [e]) (by rw [e]) (by rw [e])
 ·obtain ⟨a,b,c⟩:=hf (T.node k)
  exact .same (by rw [e,a]) (by rw [e,b]) (by rw [e,c])
theorem Tr.DStep.make (w:T.WF) (inn:BitVec 16) (s:aM) (kd:BitVec 8) (text:List UInt8):T.DStep (T.make inn s kd text).1:=by
 rcases w.make_node inn s kd text with e | ⟨_,_,A,_,hA,hi,hn⟩
 ·rw [e]; exact .refl
 ·intro n
  have hn:=hn n;generalize (T.make inn s kd text).1=T' at *
  by_cases e:n=inn
  ·subst e
   rw [if_pos rfl] at hn;exact .same (by rw [hn]; rfl) (by rw [hn]; rfl) (by rw [hn]; rfl)
  rw [if_neg e] at hn
  by_cases e2:n=A
  ·subst e2
   rw [if_pos rfl] at hn
   by_cases hk:kd=2#8
   ·exact .live (by rw [hn]; exact hk) (by rw [hn]; exact Int.one_ne_zero)
   ·exact ⟨fun hd=>by have:=hd.1; rw [hn] at this; exact (hk this).elim,fun _ => .inl (by rw [hn]; exact if_neg hk)⟩
  ·rw [if_neg e2] at hn
   exact .same (by rw [hn]) (by rw [hn]) (by rw [hn])
theorem Tr.DStep.add (inn:BitVec 16) (s:aM) (v:BitVec 16):T.DStep (T.add inn s v).1:=by
 unfold Tr.add
 split
 ·exact .refl
 split
 ·exact .refl
 split
 ·exact .refl
 split
 ·exact .refl
 split
 ·exact .refl
 rename_i h2 _ _ _;intro k
 have hV:((T.upd inn (Nd.addE s v)).node k).kind=(T.node k).kind/\((T.upd inn (Nd.addE s v)).node k).parent=(T.node k).parent/\((T.upd inn (Nd.addE s v)).node k).links=(T.node k).links:=by
  rcases T.upd_or inn k (Nd.addE s v) with e | e <;> rw [e] <;> exact ⟨rfl,rfl,rfl⟩
 obtain ⟨a,b,c⟩:=hV
 by_cases e:k=v
 ·subst e
  have:(((T.upd inn (Nd.addE s k)).upd k (Nd.addL 1)).node k).kind=(T.node k).kind/\(((T.upd inn (Nd.addE s k)).upd k (Nd.addL 1)).node k).parent=(T.node k).parent:=by
   rcases (T.upd inn (Nd.addE s k)).upd_or k k (Nd.addL 1) with e | e <;> rw [e] <;> exact ⟨a,b⟩
  exact .file (by show ¬ _=_; rw [Tr.bump_node,this.1]; exact h2) h2 this.2
 ·have hn:(((T.upd inn (Nd.addE s v)).upd v (Nd.addL 1)).bump.node k)=(T.upd inn (Nd.addE s v)).node k:=Tr.node_upd_ne e _
  exact .same (by rw [hn,a]) (by rw [hn,b]) (by rw [hn,c])
theorem Tr.DStep.hold (n:BitVec 16) (up:Bool):T.DStep (T.hold n up).1:=by
 unfold Tr.hold
 split
 ·exact .refl
 split
 ·exact .upd n _ fun _=>⟨rfl,rfl,rfl⟩
 split
 ·exact .refl
 intro k
 have hV:((T.upd n (Nd.addH (-1))).node k).kind=(T.node k).kind/\((T.upd n (Nd.addH (-1))).node k).parent=(T.node k).parent/\((T.upd n (Nd.addH (-1))).node k).links=(T.node k).links:=by
  rcases T.upd_or n k (Nd.addH (-1)) with e | e <;> rw [e] <;> exact ⟨rfl,rfl,rfl⟩
 obtain ⟨a,b,c⟩:=hV;unfold Tr.tidy
 split
 ·rcases (T.upd n (Nd.addH (-1))).upd_or n k (fun _=>Nd.none) with e | e
  ·exact .same (by rw [e,a]) (by rw [e,b]) (by rw [e,c])
  ·exact .none e
 ·exact .same a b c
theorem Tr.DStep.drop (w:T.WF) (inn:BitVec 16) (s:aM) (d:Bool):T.DStep (T.drop inn s d).1:=by
 unfold Tr.drop
 split
 ·exact .refl
 split
 ·exact .refl
 split
 ·exact .refl
 split
 ·exact .refl
 rename_i c1 _ _ _;have c1:(T.look inn s).2=0:=by simpa using c1
 obtain ⟨k1,k2⟩:=Tr.look_ok c1;generalize (T.look inn s).1=y at *;obtain ⟨e1,e2,e3,o0,o1,e6⟩:=w.pos k2;have hyi:inn≠y:=by rintro rfl; exact w.no_self (gS k2)
 intro k
 have hV:∀ k,((T.upd inn (Nd.delE s)).node k).kind=(T.node k).kind/\((T.upd inn (Nd.delE s)).node k).parent=(T.node k).parent/\((T.upd inn (Nd.delE s)).node k).links=(T.node k).links:=fun k=>by
  rcases T.upd_or inn k (Nd.delE s) with e | e <;> rw [e] <;> exact ⟨rfl,rfl,rfl⟩
 have hW:∀ k,k≠y->((((T.upd inn (Nd.delE s)).upd y (Nd.addL (-1))).bump).tidy y).node k=(T.upd inn (Nd.delE s)).node k:=fun k e=>by
  unfold Tr.tidy
  split
  ·rw [Tr.node_upd_ne e,Tr.bump_node,Tr.node_upd_ne e]
  ·rw [Tr.bump_node,Tr.node_upd_ne e]
 by_cases e:k=y
 ·subst e
  have hin:¬ ((((T.upd inn (Nd.delE s)).upd k (Nd.addL (-1))).bump).tidy k).dead inn:=fun hd=>by
   have h2:=hd.2;rw [hW inn hyi,(hV inn).2.2] at h2;exact e2 h2
  have hk:(((T.upd inn (Nd.delE s)).upd k (Nd.addL (-1))).node k).kind=(T.node k).kind/\(((T.upd inn (Nd.delE s)).upd k (Nd.addL (-1))).node k).parent=(T.node k).parent:=by
   rcases (T.upd inn (Nd.delE s)).upd_or k k (Nd.addL (-1)) with e | e <;> rw [e] <;> exact ⟨(hV k).1,(hV k).2.1⟩
  unfold Tr.tidy at hin ⊢
  split at hin
  ·rename_i hc
   rw [if_pos hc]
   have hz:((((T.upd inn (Nd.delE s)).upd k (Nd.addL (-1))).bump).upd k (fun _=>Nd.none)).node k=Nd.none:=by
    rw [Tr.node_upd (by rw [Tr.bump_node,hk.1]; exact o0),if_pos rfl]
   exact .none hz
  ·rename_i hc
   rw [if_neg hc]
   by_cases h2:(T.node k).kind=2#8
   ·refine ⟨fun _=>⟨hk.2,.inr ?_⟩,fun h=>(h (hk.1.trans h2)).elim⟩
    have:(((T.upd inn (Nd.delE s)).upd k (Nd.addL (-1))).bump.node k).parent=inn:=hk.2.trans (e6 h2);rw [this];exact hin
   ·exact .file (fun h=>h2 (hk.1.symm.trans h)) h2 hk.2
 ·obtain ⟨a,b,c⟩:=hV k
  have hn:=hW k e;exact .same (by rw [hn,a]) (by rw [hn,b]) (by rw [hn,c])
theorem Tr.node_upd_lt {n:BitVec 16} (h:n.toNat<T.N.length) (f:Nd->Nd):(T.upd n f).node n=f (T.node n):=by
 unfold Tr.upd Tr.node;simp [List.getD_eq_getElem?_getD,List.getElem?_modify,h]
theorem Tr.len_upd (n:BitVec 16) (f:Nd->Nd):(T.upd n f).N.length=T.N.length:=by simp [Tr.upd]
theorem Tr.len_tidy (n:BitVec 16):(T.tidy n).N.length=T.N.length:=by
 unfold Tr.tidy
 split
 ·exact Tr.len_upd _ _
 ·rfl
theorem Tr.len_drop (inn:BitVec 16) (s:aM) (d:Bool):(T.drop inn s d).1.N.length=T.N.length:=by
 unfold Tr.drop
 repeat' split
 all_goals try rfl
 rw [Tr.len_tidy]
 show ((T.upd _ _).upd _ _).N.length=_
 rw [Tr.len_upd,Tr.len_upd]
theorem Tr.DStep.moved {U:Tr} {fr to n:BitVec 16} {s other:aM} (hl:to.toNat<U.N.length) (w:(Tr.moved U fr s to other n).WF):U.DStep (Tr.moved U fr s to other n):=by
 have hV:∀ m,(((U.upd fr (Nd.delE s)).upd to (Nd.addE other n)).node m).kind=(U.node m).kind/\(((U.upd fr (Nd.delE s)).upd to (Nd.addE other n)).node m).parent=(U.node m).parent/\(((U.upd fr (Nd.delE s)).upd to (Nd.addE other n)).node m).links=(U.node m).links:=fun m=>by
  have h1:((U.upd fr (Nd.delE s)).node m).kind=(U.node m).kind/\((U.upd fr (Nd.delE s)).node m).parent=(U.node m).parent/\((U.upd fr (Nd.delE s)).node m).links=(U.node m).links:=by
   rcases U.upd_or fr m (Nd.delE s) with e | e <;> rw [e] <;> exact ⟨rfl,rfl,rfl⟩
  rcases (U.upd fr (Nd.delE s)).upd_or to m (Nd.addE other n) with e | e <;> rw [e] <;> exact h1
 have hm:(other,n)∈(((U.upd fr (Nd.delE s)).upd to (Nd.addE other n)).node to).ents:=by
  rw [Tr.node_upd_lt (by rw [Tr.len_upd]; exact hl)]
  exact jS.2 (.inl rfl)
 unfold Tr.moved at w ⊢;simp only at w ⊢
 split at w
 ·rename_i hk
  rw [if_pos hk];intro m
  by_cases e:m=n
  ·subst e
   have hk':((((U.upd fr (Nd.delE s)).upd to (Nd.addE other m)).upd m (fun x=>{ x with parent:=to })).bump.node m).kind=2#8:=by
    rw [Tr.bump_node];rcases ((U.upd fr (Nd.delE s)).upd to (Nd.addE other m)).upd_or m m (fun x=>{ x with parent:=to }) with e | e <;> rw [e] <;> exact (hV m).1.trans hk
   have hm':(other,m)∈((((U.upd fr (Nd.delE s)).upd to (Nd.addE other m)).upd m (fun x=>{ x with parent:=to })).bump.node to).ents:=by
    rw [Tr.bump_node];rcases ((U.upd fr (Nd.delE s)).upd to (Nd.addE other m)).upd_or m to (fun x=>{ x with parent:=to }) with e | e <;> rw [e] <;> exact hm
   have:=w.live_of hm' hk';exact .live this.1 this.2
  ·obtain ⟨a,b,c⟩:=hV m
   have hn:((((U.upd fr (Nd.delE s)).upd to (Nd.addE other n)).upd n (fun x=>{ x with parent:=to })).bump.node m)=((U.upd fr (Nd.delE s)).upd to (Nd.addE other n)).node m:=Tr.node_upd_ne e _
   exact .same (by rw [hn,a]) (by rw [hn,b]) (by rw [hn,c])
 ·rename_i hk
  rw [if_neg hk];intro m;obtain ⟨a,b,c⟩:=hV m;exact .same a b c
theorem Tr.Order.move (h:T.Order) (w:T.WF) (fr:BitVec 16) (s:aM) (to:BitVec 16) (other:aM):(T.move fr s to other).1.Order:=by
 have w':=w.move fr s to other;unfold Tr.move at w' ⊢
 split
 ·exact h
 rename_i c1
 split
 ·exact h
 rename_i c2
 split
 ·exact h
 rename_i c3
 split
 ·exact h
 rename_i c4
 split
 ·exact h
 rename_i c5;simp only [if_neg c1,if_neg c2,if_neg c3,if_neg c4,if_neg c5] at w'
 have hto:to.toNat<T.N.length:=by
  have c2:T.dir to=0:=by simpa using c2
  exact Tr.node_lt (by rw [Tr.dir_zero.1 c2]; decide)
 refine Tr.Order.step (T:=if (bS other (T.node to).ents).isSome then (T.drop to other (decide ((T.node (T.look fr s).1).kind=2#8))).1 else T) ?_ (Tr.DStep.moved ?_ w')
 ·split
  ·exact h.step (.drop w _ _ _)
  ·exact h
 ·split
  ·rw [Tr.len_drop]; exact hto
  ·exact hto
theorem Tr.Did.order {up:Bool} (h:T.Did up T') (w:T.WF) (o:T.Order):T'.Order:=by
 cases h
 ·exact o.step (.make w _ _ _ _)
 ·exact o.step (.add _ _ _)
 ·exact o.step (.drop w _ _ _)
 ·exact o.move w _ _ _ _
 ·exact o.step (.hold _ _)
 ·unfold Tr.write
  repeat' split
  all_goals try exact o
  exact o.step (.upd _ _ fun _=>⟨rfl,rfl,rfl⟩)
 ·unfold Tr.cut
  repeat' split
  all_goals try exact o
  exact o.step (.upd _ _ fun _=>⟨rfl,rfl,rfl⟩)
 ·exact o
theorem Tr.Order.new (limit:Int):(Tr.new limit).Order:=by
 have hp:∀ n,((Tr.new limit).node n).kind≠2#8->((Tr.new limit).node n).parent=0#16:=by
  intro n hk;unfold Tr.new Tr.node at hk ⊢;simp only [List.getD_eq_getElem?_getD] at hk ⊢
  by_cases e0:n.toNat=0
  ·rw [e0]; rfl
  ·by_cases e1:n.toNat=1
   ·rw [e1] at hk; exact (hk rfl).elim
   ·rw [List.getElem?_eq_none (by simp; omega)]; rfl
 refine ⟨⟨fun _=>0,1,fun _=>Nat.zero_lt_one,fun n hd _ =>?_⟩,hp⟩;obtain ⟨a,b⟩:=hd;unfold Tr.new Tr.node at a b;simp only [List.getD_eq_getElem?_getD] at a b
 by_cases e0:n.toNat=0
 ·rw [e0] at a; exact absurd a (by decide)
 ·by_cases e1:n.toNat=1
  ·rw [e1] at b; exact absurd b (by decide)
  ·rw [List.getElem?_eq_none (by simp; omega)] at a; exact absurd a (by decide)
end
end Go.AM
end
section
namespace Go.AM
variable {E:Sy} {H:AH} {Q:Value->AH->Prop}
def sJ (H:AH) (p:Nat) (t:cA) (M:List dE):Prop:=H.get p = .cells t.cells none/\M.length<2 ^ 62/\Rows H 5 t.m (M.map dE.cells)
theorem sJ.mono {H H':AH} {p:Nat} {t:cA} {M:List dE} (h:sJ H p t M) (e:Ext H H'):sJ H' p t M:=⟨e.cells h.1,h.2.1,h.2.2.mono e⟩
theorem sJ.len {H:AH} {p:Nat} {t:cA} {M:List dE} (h:sJ H p t M):lenSlc t.m=some (vi M.length):=by
 have:=h.2.2.lenSlc
 simpa using this
theorem S.f63 (hE:bK E) (p:Nat) (t:cA) (M:List dE) (hT:sJ H p t M) (id:Int) (hQ:Q (vi (jZ (fun m:dE=>decide (m.id=id)) M)) H):E.call (E.fid i.f63) [ptr p 0,vi id] H Q:=by
 apply hE.f63;have hl:=hT.len;have h0:=hT.2.1;simp [F.f63];refine aP.count M.length (fun j s H'=>s=[ptr p 0,vi id,vi j]/\H'=H/\∀ i (hi:i<M.length),i<j->¬ M[i].id=id) ?_ ⟨rfl,rfl,fun i _ h=>by omega⟩
 rintro j _ _ X hj hX ⟨rfl,rfl,hn⟩;simp only [F.f63_l1,dF,aFt];simp [hT.1,hl];refine oS (fun h =>?_) (fun h =>?_)
 ·have hjl:j<M.length:=by omega
  obtain ⟨b,o,f1,f2,f3,_⟩:=dE.elem hT.2.2 hjl;simp [hT.1,f1,f3];refine oS (fun h =>?_) (fun h =>?_)
  ·have:jZ (fun m:dE=>decide (m.id=id)) M=(j:Int):=by
    have:M.findIdx? (fun m:dE=>decide (m.id=id))=some j:=List.findIdx?_eq_some_iff_getElem.2 ⟨hjl,by simpa using h,fun i hi=>by simpa using hn i (by omega) hi⟩
    simp [jZ,this]
   rw [<- this];exact hQ
  ·rw [eA (by omega),aE]
   refine hX hjl _ _ ⟨rfl,rfl,fun i hi hij =>?_⟩
   by_cases e:i=j
   ·subst e; exact h
   ·exact hn i hi (by omega)
 ·have:j=M.length:=by omega
  subst this
  have:jZ (fun m:dE=>decide (m.id=id)) M = -1:=by
   have:M.findIdx? (fun m:dE=>decide (m.id=id))=none:=by
    rw [List.findIdx?_eq_none_iff];intro x hx;obtain ⟨i,hi,rfl⟩:=List.getElem_of_mem hx
    simpa using hn i hi hi
   simp [jZ,this]
  rw [<- this];exact hQ
def fD (p:cE) (m:dE):Bool:=decide (m.id≠0)&&decide (m.at_=p)
def gZ {α:Type} (P:α->Bool) (l:List α):Int:=match (List.range l.length).reverse.find? (fun i=>(l[i]?).any P) with | some i=>(i:Int) | none => -1
theorem nR {α:Type} (P:α->Bool) (l:List α) (x:α):gZ P (l++[x])=if P x then (l.length:Int) else gZ P l:=by
 unfold gZ;rw [List.length_append,List.length_singleton,List.range_succ,List.reverse_append,List.reverse_singleton,List.singleton_append,List.find?_cons];have h0:((l++[x])[l.length]?).any P=P x:=by simp
 rw [h0];cases P x with
 | true=>simp
 | false =>
  simp only [Bool.false_eq_true,if_false]
  have:∀ (L:List Nat),(∀ i∈L,i<l.length)->L.find? (fun i=>((l++[x])[i]?).any P)=L.find? (fun i=>(l[i]?).any P):=by
   intro L hL
   induction L with
   | nil=>rfl
   | cons a L ih =>
    have ha:=hL a (by simp)
    rw [List.find?_cons,List.find?_cons,List.getElem?_append_left ha,ih fun i hi=>hL i (by simp [hi])]
  rw [this _ (fun i hi=>by simpa using hi)]
theorem rE {α:Type} (P:α->Bool) (l:List α):(gZ P l = -1/\∀ x∈l,P x=false)\/∃ (i:Nat) (hi:i<l.length),gZ P l=i/\P l[i]=true:=by
 unfold gZ;cases h:(List.range l.length).reverse.find? (fun i=>(l[i]?).any P) with
 | none =>
  refine .inl ⟨rfl,fun x hx =>?_⟩;obtain ⟨i,hi,rfl⟩:=List.getElem_of_mem hx;have:=List.find?_eq_none.1 h i (by simpa using hi)
  simpa [hi] using this
 | some i =>
  have h1:=List.find?_some h;have h2:=List.mem_of_find?_eq_some h;have hi:i<l.length:=by simpa using h2
  exact .inr ⟨i,hi,rfl,by simpa [hi] using h1⟩
def lG (M:List dE):Nat->cE->cE
 | 0,p=>p
 | n+1,p=>if h:0<=gZ (fD p) M/\(gZ (fD p) M).toNat<M.length then lG M n ⟨(M[(gZ (fD p) M).toNat]'h.2).id,(M[(gZ (fD p) M).toNat]'h.2).root⟩ else p
theorem S.f58 (hE:bK E) (p:Nat) (t:cA) (M:List dE) (hT:sJ H p t M) (q:cE) (hQ:∀ H',Ext H H'->Q (lG M 20 q).v H'):E.call (E.fid i.f58) [ptr p 0,q.v] H Q:=by
 apply hE.f58;have hl:=hT.len;have h0:=hT.2.1;simp [F.f58];generalize hH2:(H.new _).new _=H2;have x2:Ext H H2:=by subst hH2; exact ((Ext.refl H).new _).new _
 have k1:H2.get H.next = .cells q.cells none:=by subst hH2; simp [AH.get_new]
 have k2:H2.get (H.next+1) = .cells [vi 0,vi 0] none:=by subst hH2; simp [AH.get_new]
 clear hH2;refine aP.count 20 (fun k s H'=>∃ r,s=[ptr p 0,ptr H.next 0,ptr (H.next+1) 0,vi k]/\Ext H H'/\lG M (20 - k) r=lG M 20 q/\H'.get H.next = .cells r.cells none/\H'.get (H.next+1) = .cells [vi 0,vi 0] none) ?_ ⟨q,rfl,x2,rfl,k1,k2⟩;rintro k _ H' X hk hX ⟨r,rfl,e1,hs,m1,m2⟩;have hT1:=hT.mono e1;have l1:=AH.lt_cells m1;have l2:=AH.lt_cells m2
 have leave:lG M 20 q=r->Q (lG M 20 q).v (H'.put (H.next+1) (.cells r.cells none)):=by
  intro h;exact hQ _ (e1.put (b:=H.next+1) (by omega) _)
 simp only [F.f58_l1,dF,aFt];simp
 by_cases hk20:(k:Int)<20
 ·simp [hk20]
  refine aP.count M.length (fun j s H''=>s=[ptr p 0,ptr H.next 0,ptr (H.next+1) 0,vi k,vi (gZ (fD r) (M.take j)),vi j]/\H''=H') ?_ ⟨rfl,rfl⟩;rintro j _ _ X1 hj hX1 ⟨rfl,rfl⟩;simp only [F.f58_l2,dF,aFt];simp [hT1.1,hl];refine oS (fun h =>?_) (fun h =>?_)
  ·have hjl:j<M.length:=by omega
   obtain ⟨b,o,f1,f2,f3,f4,f5,f6,f7,f8⟩:=dE.elem hT1.2.2 hjl;have htk:M.take (j+1)=M.take j++[M[j]]:=by rw [List.take_succ,List.getElem?_eq_getElem hjl]; rfl
   have hln:(M.take j).length=j:=by rw [List.length_take]; omega
   by_cases hid:M[j].id=0
   ·simp [hT1.1,f1,f3,hid]
    rw [eA (by omega),aE]
    refine hX1 hjl _ _ ⟨?_,rfl⟩;rw [htk,nR];simp [fD,hid]
   ·by_cases hat:M[j].at_=r
    ·simp [hT1.1,f1,f3,hid,m1,f8,hat]
     rw [eA (by omega),aE]
     refine hX1 hjl _ _ ⟨?_,rfl⟩;rw [htk,nR,hln];simp [fD,hid,hat]
    ·simp [hT1.1,f1,f3,hid,m1,f8,hat]
     rw [eA (by omega),aE]
     refine hX1 hjl _ _ ⟨?_,rfl⟩;rw [htk,nR];simp [fD,hid,hat]
  ·have:j=M.length:=by omega
   subst this;rw [List.take_length]
   have hstep:lG M (20 - k) r=if h:0<=gZ (fD r) M/\(gZ (fD r) M).toNat<M.length then lG M (20 - (k+1)) ⟨(M[(gZ (fD r) M).toNat]'h.2).id,(M[(gZ (fD r) M).toNat]'h.2).root⟩ else r:=by
    rw [show 20 - k=(20 - (k+1))+1 by omega]
    rfl
   rcases rE (fD r) M with ⟨h1,_⟩ | ⟨i,hi,h1,_⟩
   ·rw [h1] at hstep
    simp at hstep;simp [h1,m1,m2];have:=leave (by rw [<- hs,hstep])
    rw [<- hs,hstep] at this
    simpa [l2] using this
   ·rw [h1] at hstep
    simp [hi] at hstep;have hneg:¬ ((i:Int)<0):=by omega
    obtain ⟨b,o,f1,f2,f3,f4,f5,f6,f7,f8⟩:=dE.elem hT1.2.2 hi;simp [hT1.1,h1,hneg,f1,f3,f4,m1];rw [eA (by omega),aE]
    refine hX (by omega) _ _ ⟨⟨M[i].id,M[i].root⟩,rfl,e1.put (b:=H.next) (by omega) _,by rw [<- hs,hstep,show 20 - (k+1)=19 - k by omega],?_,?_⟩
    ·simp [l1]
    ·rw [AH.get_put_ne _ _ (by omega)]; exact m2
 ·have:k=20:=by omega
  subst this;simp at hs;simp [m1,m2];have:=leave (by rw [<- hs]; rfl)
  rw [<- hs] at this
  simpa [l2,lG] using this
end Go.AM
end
section
namespace Go.AM
variable {E:Sy} {H:AH} {Q:Value->AH->Prop}
def eQ (p:Nat) (t:cA) (N:List bX) (M:List dE):Res:=⟨p :: (eP t.n++eP t.m),fun H=>H.get p = .cells t.cells none/\cB zH H 7 t.n (N.map bX.cells)/\cB zH H 5 t.m (M.map dE.cells),
 fun h e=>⟨by rw [e _ (by simp)]; exact h.1,h.2.1.keep fun b hb _=>e b (by simp [bV.2 hb]),h.2.2.keep fun b hb _=>e b (by simp [bV.2 hb])⟩⟩
section
variable {p:Nat} {t:cA} {N:List bX} {M M':List dE} {H1:AH} {v':Value}
theorem eQ.at_ (h:(eQ p t N M).P H) (hn:M.length<2 ^ 62):sJ H p t M:=⟨h.1,hn,h.2.2.toRows⟩
theorem eQ.nodup (hnd:(eQ p t N M).fp.Nodup):p ∉ eP t.n/\p ∉ eP t.m/\∀ b∈eP t.n,b ∉ eP t.m:=by
 simp only [eQ,List.nodup_cons,List.mem_append,List.nodup_append,not_or] at hnd;obtain ⟨⟨h1,h2⟩,h3,h4,h5⟩:=hnd;exact ⟨h1,h2,fun b hb hm=>h5 b hb b hm rfl⟩
theorem eQ.fp_lt (hr:(eQ p t N M).P H):∀ b∈(eQ p t N M).fp,b<H.next:=by
 intro b hb;simp only [eQ,List.mem_cons,List.mem_append] at hb;rcases hb with rfl | hb | hb
 ·exact AH.lt_cells hr.1
 ·exact hr.2.1.blk_lt (bV.1 hb)
 ·exact hr.2.2.blk_lt (bV.1 hb)
theorem eQ.updM (h:(eQ p t N M).P H) (hnd:(eQ p t N M).fp.Nodup) (o:dB (p :: eP t.m) H H1) (g:cB zH H1 5 v' (M'.map dE.cells)) (hb:∀ b,blk v'=some b->blk t.m=some b\/H.next<=b) (nx:Int) :
  Upd (eQ p t N M) (eQ p { t with m:=v',next:=nx } N M') H (H1.put p (.cells ({ t with m:=v',next:=nx }:cA).cells none)):=by
 obtain ⟨n1,n2,n3⟩:=eQ.nodup hnd;have hlt:p<H.next:=AH.lt_cells h.1
 have hpb:p ∉ eP v':=fun k=>by
  rcases hb p (bV.1 k) with k | k
  ·exact n2 (bV.2 k)
  ·omega
 have hN:∀ b,blk t.n=some b->b<H.next:=fun b hb=>h.2.1.blk_lt hb
 have hNn:∀ b,blk t.n=some b->b ∉ eP v':=fun b hbn k=>by
  rcases hb b (bV.1 k) with k | k
  ·exact n3 b (bV.2 hbn) (bV.2 k)
  ·have:=hN b hbn; omega
 refine ⟨(o.put (.inl (by simp)) _).mono fun b hb => .inl ?_,⟨AH.get_put_self _ _ (Nat.lt_of_lt_of_le hlt o.1),?_,?_⟩,fun b hb' =>?_,?_⟩
 ·simp only [List.mem_cons,eQ,List.mem_append] at hb ⊢
  exact hb.imp id .inr
 ·refine h.2.1.keep fun b hb _ =>?_
  have hbp:b≠p:=by rintro rfl; exact n1 (bV.2 hb)
  rw [AH.get_put_ne _ _ hbp];exact o.get (hN b hb) (by simp only [List.mem_cons,not_or]; exact ⟨hbp,n3 b (bV.2 hb)⟩)
 ·exact g.keep fun b hb _=>AH.get_put_ne _ _ (by rintro rfl; exact hpb (bV.2 hb))
 ·simp only [eQ,List.mem_cons,List.mem_append] at hb' ⊢
  rcases hb' with rfl | hb' | hb'
  ·exact ⟨.inl (by simp),Nat.lt_of_lt_of_le hlt o.1⟩
  ·exact ⟨.inl (by simp [hb']),Nat.lt_of_lt_of_le (hN b (bV.1 hb')) o.1⟩
  ·exact ⟨(hb b (bV.1 hb')).imp (fun k=>by simp [bV.2 k]) id,g.blk_lt (bV.1 hb')⟩
 ·simp only [eQ,List.nodup_cons,List.mem_append,not_or,List.nodup_append]
  exact ⟨⟨n1,hpb⟩,nB _,nB _,fun a ha b hb' e=>hNn a (bV.1 ha) (e▸hb')⟩
end
end Go.AM
end
section
namespace Go.AM
variable {E:Sy} {H:AH} {Q:Value->AH->Prop}
structure aG5 where
 M:List dE
 nx:Int
 n:Int
 e:Int
def lD (M:List dE) (nx root:Int) (q:cE):aG5 :=
 if jZ (fun m:dE=>decide (m.id=q.mount)) M<0 then ⟨M,nx,0,22⟩ else if lG M 20 q≠q then ⟨M,nx,0,16⟩ else if 16<=M.length then ⟨M,nx,0,28⟩ else ⟨M++[⟨nx,root,q,0⟩],nx+1,nx,0⟩
theorem S.f49 (hE:bK E) (p:Nat) (t:cA) (N:List bX) (M:List dE) (hr:(eQ p t N M).P H) (hnd:(eQ p t N M).fp.Nodup) (hn:M.length<2 ^ 20) (hx:0<=t.next/\t.next<2 ^ 61) (root:Int) (q:cE)
  (hQ:∀ t' H',t'.next=(lD M t.next root q).nx/\t'.n=t.n/\t'.limit=t.limit/\t'.change=t.change->Upd (eQ p t N M) (eQ p t' N (lD M t.next root q).M) H H'->Q (.tuple #[vi (lD M t.next root q).n,vi (lD M t.next root q).e]) H'):E.call (E.fid i.f49) [ptr p 0,vi root,q.v] H Q:=by
 apply hE.f49;have hT:=eQ.at_ hr (by omega)
 have same:∀ H',Ext H H'->Upd (eQ p t N M) (eQ p t N M) H H':=fun H' e=>(Upd.refl hr (eQ.fp_lt hr) hnd).ext e;have x1:Ext H (H.new (.cells q.cells none)):=(Ext.refl H).new _;have k1:(H.new (.cells q.cells none)).get H.next = .cells q.cells none:=AH.get_new_self _ _;obtain ⟨n1,n2,n3⟩:=eQ.nodup hnd;have hlp:=AH.lt_cells hr.1;simp [F.f49];refine S.f63 hE p t M (hT.mono x1) q.mount ?_;unfold lD at hQ
 by_cases hf:jZ (fun m:dE=>decide (m.id=q.mount)) M<0
 ·simp only [hf,if_true] at hQ
  simp [hf];exact hQ t _ ⟨rfl,rfl,rfl,rfl⟩ (same _ x1)
 ·simp only [hf,if_false] at hQ
  simp [hf];refine S.f58 hE p t M (hT.mono x1) q fun H3 e3 =>?_;have x3:=x1.trans e3;have k3:=e3.cells k1;simp [k3]
  by_cases hs:lG M 20 q=q
  ·simp only [hs,ne_eq,not_true,if_false] at hQ
   have hT3:=hT.mono x3;simp [hs,hT3.1,hT3.len]
   by_cases h16:16<=M.length
   ·simp only [h16,if_true] at hQ
    have h16':(16:Int)<=M.length:=by omega
    simp [h16'];exact hQ t _ ⟨rfl,rfl,rfl,rfl⟩ (same _ x3)
   ·simp only [h16,if_false] at hQ
    have h16':¬ (16:Int)<=M.length:=by omega
    have l3:=AH.lt_cells hT3.1;simp [h16',hT3.1];rw [eF (by omega) (by omega),aE]
    simp [hT3.1,l3];have hpk:H.next≠p:=by omega
    have k4:(H3.put p (.cells ({ t with next:=t.next+1 }:cA).cells none)).get H.next = .cells q.cells none:=by rw [AH.get_put_ne _ _ hpk]; exact k3
    have hg3:=hr.2.2.ext x3;have hg4:cB zH (H3.put p (.cells ({ t with next:=t.next+1 }:cA).cells none)) 5 t.m (M.map dE.cells):=hg3.keep fun b hb _=>AH.get_put_ne _ _ (by rintro rfl; exact n2 (bV.2 hb))
    obtain ⟨v',H6,a1,a2,a3,a4⟩:=hg4.app1 (Nat.zero_le _) (bytes:=40) (dE.cells ⟨t.next,root,q,0⟩) rfl rfl (by omega) (by omega) (by simp; omega)
    have hpv6:H6.get p = .cells ({ t with next:=t.next+1 }:cA).cells none:=a3.cells (AH.get_put_self _ _ l3) n2
    have l6:=AH.lt_cells hpv6;simp only [AH.next_put] at a1;simp [k4];rw [a1];simp [a2.plain,hpv6];refine hQ { t with m:=v',next:=t.next+1 } _ ⟨rfl,rfl,rfl,rfl⟩ ?_
    have hO:dB (p :: eP t.m) H H6:=by
     refine ((x3.only (F:=p :: eP t.m)).put (.inl (by simp)) _).trans a3 fun b hb => .inl (by simp [hb])
    exact eQ.updM hr hnd hO (by simpa using a2) (fun b hb=>(a4 b hb).imp id fun h=>by have:=x3.1; simp at h; omega) _
  ·simp only [hs,ne_eq,not_false_eq_true,if_true] at hQ
   simp [hs];exact hQ t _ ⟨rfl,rfl,rfl,rfl⟩ (same _ x3)
end Go.AM
end
section
namespace Go.AM
variable {E:Sy} {H0 Z H:AH} {L:List Res} {Q:Value->AH->Prop}
def bL.toI (p:bL):cE:=⟨p.m,p.i.toNat⟩
def bT.toI (m:bT):dE:=⟨m.id,m.root.toNat,m.at_.toI,m.held⟩
theorem aB9 (p q:bL):p.toI=q.toI↔p=q:=by
 simp only [bL.toI,cE.ext_iff,bL.ext_iff];constructor
 ·rintro ⟨h1,h2⟩; exact ⟨h1,BitVec.eq_of_toNat_eq (by omega)⟩
 ·rintro ⟨h1,h2⟩; rw [h2]; exact ⟨h1,rfl⟩
theorem S.f39 (hE:bK E) (q:bL) (hQ:∀ H',Ext H H'->Q q.toI.v H'):E.call (E.fid i.f39) [q.v] H Q:=by
 apply hE.f39;simp [F.f39,AH.get_new,bL.cells];exact hQ _ (((Ext.refl H).new _).new _)
theorem aHO (T:List bT) (k:Int):jZ (fun m:dE=>decide (m.id=k)) (T.map bT.toI)=sY T k:=by
 unfold sY jZ;rw [List.findIdx?_map]; rfl
theorem aBu (p:bL) (m:bT):fD p.toI m.toI=dD p m:=by
 simp only [fD,dD,bT.toI,aB9]
 congr
structure oA (T:List bT) (nx k:Int):Prop where
 older:nE T
 uniq:∀ a∈T,∀ b∈T,a.id≠0->b.id≠0->a.at_=b.at_->a.id=b.id
 nodup:(T.map bT.id).Nodup
 len:T.length<=16
 ids:∀ m∈T,0<=m.id/\m.id<nx
 nx0:1<=nx
 nx1:nx<=1+k
 held:∀ m∈T,0<=m.held/\m.held<=k
theorem oA.ok {T:List bT} {nx k:Int} (h:oA T nx k) (hk:k<=1000):xW T nx :=
 ⟨h.older,h.len,by have:=h.nx0; omega,by have:=h.nx1; omega,fun m hm=>by have:=h.held m hm; omega⟩
theorem oA.mono {T:List bT} {nx k k':Int} (h:oA T nx k) (hk:k<=k'):oA T nx k' :=
 { h with nx1:=by have:=h.nx1; omega,held:=fun m hm=>by have:=h.held m hm; omega }
theorem aID:oA kG 1 0:=⟨by unfold nE; simp [kG],by simp [kG],by simp [kG],by simp [kG],by simp [kG],by omega,by omega,by simp [kG]⟩
theorem oA.inj {T:List bT} {nx k:Int} (h:oA T nx k) {i j:Nat} (hi:i<T.length) (hj:j<T.length) (e:T[i].id=T[j].id):i=j:=by
 have h1:i<(T.map bT.id).length:=by simpa using hi
 have h2:j<(T.map bT.id).length:=by simpa using hj
 have key:=List.pairwise_iff_getElem.1 h.nodup;rcases Nat.lt_trichotomy i j with g | g | g
 ·exact absurd (by simpa using e) (key i j h1 h2 g)
 ·exact g
 ·exact absurd (by simpa using e.symm) (key j i h2 h1 g)
theorem aFj {T:List bT} {nx k:Int} (h:oA T nx k) (p:bL):gZ (fD p.toI) (T.map bT.toI)=jZ (dD p) T:=by
 have hs:∀ i (hi:i<T.length),fD p.toI ((T.map bT.toI)[i]'(by simpa using hi))=dD p T[i]:=fun i hi=>by rw [List.getElem_map,aBu]
 rcases rE (fD p.toI) (T.map bT.toI) with ⟨h1,h2⟩ | ⟨i,hi,h1,h2⟩ <;> rcases kQ (dD p) T with ⟨g1,g2⟩ | ⟨j,hj,g1,_,g3,_⟩
 ·rw [h1,g2]
 ·have:=h2 _ (List.getElem_mem (by simpa using hj))
  rw [hs j hj,g3] at this;simp at this
 ·have hi':i<T.length:=by simpa using hi
  rw [hs i hi'] at h2;have:=List.find?_eq_none.1 g1 _ (List.getElem_mem hi');exact absurd h2 this
 ·have hi':i<T.length:=by simpa using hi
  rw [hs i hi'] at h2;simp only [dD,Bool.and_eq_true,decide_eq_true_eq] at h2 g3;have:=h.inj hi' hj (h.uniq _ (List.getElem_mem hi') _ (List.getElem_mem hj) h2.1 g3.1 (h2.2.trans g3.2.symm));subst this;rw [h1,g1]
theorem wR {T:List bT} {nx k:Int} (h:oA T nx k):∀ (n:Nat) (p:bL),lG (T.map bT.toI) n p.toI=(jW T n p).toI
 | 0,p=>rfl
 | n+1,p=>by
  simp only [lG,jW,aFj h];rcases kQ (dD p) T with ⟨g1,g2⟩ | ⟨j,hj,g1,g2,g3,_⟩
  ·simp [g2,g1]
  ·simp only [g1,g2,List.length_map]
   rw [dif_pos ⟨by omega,by simpa using hj⟩]
   have:=wR h n ⟨T[j].id,T[j].root⟩;simp only [List.getElem_map];exact this
theorem aG6 {T:List bT} {nx k:Int} (h:oA T nx k) (p:bL):lG (T.map bT.toI) 20 p.toI=(seen T p).toI:=by
 rw [wR h];have h1:=h.len;have h2:=aAa T p;have:=rB h.older p (20 - T.length) T.length h2;rw [show T.length+(20 - T.length)=20 by omega] at this
 rw [this]; rfl
theorem aAo {T:List bT} (h:nE T):∀ (n:Nat) (p:bL),p.m<=(jW T n p).m
 | 0,p=>by simp [jW]
 | n+1,p=>by
  rw [jW];cases hf:T.find? (dD p) with
  | none=>simp
  | some m =>
   have h1:=List.find?_some hf;have h2:=List.mem_of_find?_eq_some hf;simp only [dD,Bool.and_eq_true,decide_eq_true_eq] at h1;have h3:=h m h2 h1.1;have h4:=aAo h n ⟨m.id,m.root⟩;rw [h1.2] at h3;simp only at h4 ⊢;omega
theorem aFp {T:List bT} (h:nE T) {p:bL} (e:seen T p=p):T.find? (dD p)=none:=by
 cases hf:T.find? (dD p) with
 | none=>rfl
 | some m =>
  have h1:=List.find?_some hf;have h2:=List.mem_of_find?_eq_some hf;simp only [dD,Bool.and_eq_true,decide_eq_true_eq] at h1;have h3:=h m h2 h1.1;have h4:=aAo h T.length ⟨m.id,m.root⟩;have h5:=wT h hf;rw [e] at h5;unfold seen at h5;rw [<- h5] at h4;rw [h1.2] at h3;simp only at h4;omega
theorem aEu {T:List bT} {nx k:Int} (h:oA T nx k) (r:BitVec 16) (p:bL):(lD (T.map bT.toI) nx r.toNat p.toI).M=(eV T nx r p).T.map bT.toI/\(lD (T.map bT.toI) nx r.toNat p.toI).nx=(eV T nx r p).nx /\
  (lD (T.map bT.toI) nx r.toNat p.toI).n=(eV T nx r p).n/\(lD (T.map bT.toI) nx r.toNat p.toI).e=(eV T nx r p).e:=by
 unfold lD eV;have h0:p.toI.mount=p.m:=rfl;rw [h0,aHO,aG6 h,List.length_map];simp only [ne_eq,aB9]
 split
 ·simp
 ·split
  ·simp
  ·split
   ·simp
   ·simp [bT.toI]
theorem oA.bind {T:List bT} {nx k:Int} (h:oA T nx k) (r:BitVec 16) (p:bL):oA (eV T nx r p).T (eV T nx r p).nx (k+1):=by
 have hk:oA T nx (k+1):=h.mono (by omega)
 unfold eV
 split
 ·exact hk
 ·rename_i hf
  split
  ·exact hk
  ·rename_i hs
   split
   ·exact hk
   ·rename_i hl
    have hs:seen T p=p:=Classical.not_not.1 hs;have hno:=aFp h.older hs
    have hpm:p.m<nx:=by
     rcases kQ (fun m:bT=>decide (m.id=p.m)) T with ⟨h1,h2⟩ | ⟨j,hj,h1,h2,h3,_⟩
     ·have h2:sY T p.m = -1:=h2
      omega
     ·have:=(h.ids _ (List.getElem_mem hj)).2
      simp only [decide_eq_true_eq] at h3;omega
    have hnx:=h.nx0;refine ⟨fun m hm h0 =>?_,fun a ha b hb a0 b0 e =>?_,?_,by simp; omega,fun m hm =>?_,by simp only; omega,by have:=h.nx1; simp only; omega,fun m hm =>?_⟩
    ·rcases List.mem_append.1 hm with hm | hm
     ·exact h.older m hm h0
     ·simp only [List.mem_singleton] at hm; subst hm; exact hpm
    ·rcases List.mem_append.1 ha with ha | ha <;> rcases List.mem_append.1 hb with hb | hb
     ·exact h.uniq a ha b hb a0 b0 e
     ·simp only [List.mem_singleton] at hb; subst hb
      exact absurd (by simp only [dD,Bool.and_eq_true,decide_eq_true_eq]; exact ⟨a0,e⟩) (List.find?_eq_none.1 hno a ha)
     ·simp only [List.mem_singleton] at ha; subst ha
      exact absurd (by simp only [dD,Bool.and_eq_true,decide_eq_true_eq]; exact ⟨b0,e.symm⟩) (List.find?_eq_none.1 hno b hb)
     ·simp only [List.mem_singleton] at ha hb; subst ha hb; rfl
    ·rw [List.map_append,List.nodup_append]
     refine ⟨h.nodup,by simp,fun a ha b hb =>?_⟩
     obtain ⟨m,hm,rfl⟩:=List.mem_map.1 ha;simp at hb; subst hb;have:=(h.ids m hm).2;omega
    ·rcases List.mem_append.1 hm with hm | hm
     ·have:=h.ids m hm; simp only; omega
     ·simp only [List.mem_singleton] at hm; subst hm; simp only; omega
    ·rcases List.mem_append.1 hm with hm | hm
     ·have:=h.held m hm; omega
     ·simp only [List.mem_singleton] at hm; subst hm; simp only; have:=h.nx1; omega
end Go.AM
end
section
namespace Go.AM
theorem Upd.congr {r r' s s':Res} {H H':AH} (h:Upd r r' H H') (f:r.fp=s.fp) (f':r'.fp=s'.fp) (p':∀ H,r'.P H->s'.P H):Upd s s' H H':=by
 obtain ⟨a,b,c,d⟩:=h;exact ⟨f▸a,p' _ b,by rw [<- f,<- f']; exact c,f'▸d⟩
def oQ (T:Tr) (Y:List RLy):List bX:=(T.N.zip Y).map fun p=>fQ p.1 p.2
theorem sP (T:Tr) (Y:List RLy):(oQ T Y).map bX.cells=cC T Y:=by simp [oQ,cC]
def uS (M:List bT):List (List Value):=(M.map bT.toI).map dE.cells
section
variable {E:Sy} {H H':AH} {Q:Value->AH->Prop} {t:Nat} {nv mv mv':Value} {nx nx':Int} {Y:List RLy} {T:Tr} {M M':List dE}
def aA0 (Y:List RLy) (T:Tr):List Res:=(T.N.zip Y).map fun p=>cL p.1 p.2
theorem tJ:(fT t nv mv nx (M.map dE.cells) Y T).fp=(cW (eQ t ⟨nv,T.limit,mv,nx,T.change⟩ (oQ T Y) M :: aA0 Y T)).fp:=by
 simp [fT,dQ,cW,eQ,aA0,bN,bP]
theorem vD (H:AH):(fT t nv mv nx (M.map dE.cells) Y T).P H↔(cW (eQ t ⟨nv,T.limit,mv,nx,T.change⟩ (oQ T Y) M :: aA0 Y T)).P H:=by
 simp only [fT,dQ,cW,aA0,List.mem_cons,forall_eq_or_imp];constructor
 ·rintro ⟨a,b,c,d⟩
  exact ⟨⟨a,by rw [sP]; exact b,c⟩,d⟩
 ·rintro ⟨⟨a,b,c⟩,d⟩
  exact ⟨a,by rw [sP] at b; exact b,c,d⟩
theorem aAf (h:Ow (fT t nv mv nx (M.map dE.cells) Y T) H):Ow (cW (eQ t ⟨nv,T.limit,mv,nx,T.change⟩ (oQ T Y) M :: aA0 Y T)) H :=
 ⟨(vD H).1 h.holds,by rw [<- tJ]; exact h.lt,by rw [<- tJ]; exact h.nd⟩
theorem aE0 (h:Ow (fT t nv mv nx (M.map dE.cells) Y T) H) (u:Upd (eQ t ⟨nv,T.limit,mv,nx,T.change⟩ (oQ T Y) M) (eQ t ⟨nv,T.limit,mv',nx',T.change⟩ (oQ T Y) M') H H') :
  Upd (fT t nv mv nx (M.map dE.cells) Y T) (fT t nv mv' nx' (M'.map dE.cells) Y T) H H' :=
 ((aAf h).set (k:=0) rfl u).congr tJ.symm tJ.symm fun H h=>(vD H).2 h
theorem S.pinfoldref16_Tree_BindT (hE:bK E) (h:Ow (fT t nv mv nx (M.map dE.cells) Y T) H) (hn:M.length<2 ^ 20) (hx:0<=nx/\nx<2 ^ 61) (root:Int) (q:cE)
  (hQ:∀ mv' H',Upd (fT t nv mv nx (M.map dE.cells) Y T) (fT t nv mv' (lD M nx root q).nx ((lD M nx root q).M.map dE.cells) Y T) H H'->Q (.tuple #[vi (lD M nx root q).n,vi (lD M nx root q).e]) H') :
  E.call (E.fid i.f49) [ptr t 0,vi root,q.v] H Q:=by
 have o:=(aAf h).part (k:=0) rfl;refine S.f49 hE t ⟨nv,T.limit,mv,nx,T.change⟩ (oQ T Y) M o.holds o.nd hn hx root q fun t' H' ht u =>?_;obtain ⟨a,b,c,d⟩:=ht;obtain ⟨n',l',m',x',c'⟩:=t';simp only at a b c d;subst a b c d;exact hQ m' H' (aE0 h u)
end
end Go.AM
end
section
namespace Go.AM
theorem Tr.Did.limit {up:Bool} {T T':Tr} (h:T.Did up T'):T'.limit=T.limit:=by
 have htd:∀ (U:Tr) (n:BitVec 16),(U.tidy n).limit=U.limit:=fun U n=>by unfold Tr.tidy; split <;> rfl
 have hdr:∀ (U:Tr) (n:BitVec 16) (s:aM) (d:Bool),(U.drop n s d).1.limit=U.limit:=fun U n s d=>by
  unfold Tr.drop
  repeat' split
  all_goals try rfl
  rw [htd]; rfl
 have hmv:∀ (U:Tr) (fr to n:BitVec 16) (s o:aM),(Tr.moved U fr s to o n).limit=U.limit:=fun U fr to n s o=>by
  unfold Tr.moved;simp only
  split <;> rfl
 cases h
 ·unfold Tr.make
  repeat' split
  all_goals rfl
 ·unfold Tr.add
  repeat' split
  all_goals rfl
 ·exact hdr _ _ _ _
 ·unfold Tr.move
  split
  ·rfl
  split
  ·rfl
  split
  ·rfl
  split
  ·rfl
  split
  ·rfl
  rw [hmv]
  split
  ·exact hdr _ _ _ _
  ·rfl
 ·unfold Tr.hold
  repeat' split
  all_goals try rfl
  exact htd _ _
 ·unfold Tr.write
  repeat' split
  all_goals rfl
 ·unfold Tr.cut
  repeat' split
  all_goals rfl
 ·rfl
def aIt:bT:=⟨0,⟨0,0#16⟩,1#16,0⟩
structure GI (k:Int) (T:Tr) (M:List bT) (nx l:Int):Prop where
 k0:0<=k
 k1:k<=900
 wf:T.WF
 kd:T.KD
 ord:T.Order
 lim:T.limit<=l
 hb:T.HB (2*k)
 c0:0<=T.change
 c1:T.change<=2*k
 pin:oA M nx k
 top:qE M 0=some aIt
 mnt:∀ m∈M,(T.node m.root).kind=2#8/\(m.id=0->m=aIt)/\(m.id≠0->1<=(T.node m.root).held/\(T.node m.at_.i).kind=2#8/\1<=(T.node m.at_.i).held/\0<=m.at_.m/\m.at_.m<=2)
section
variable {T T':Tr} {M:List bT} {nx k l:Int}
theorem GI.mono (g:GI k T M nx l) {k':Int} (h:k<=k') (h1:k'<=900):GI k' T M nx l :=
 { g with k0:=by have:=g.k0; omega,k1:=h1,hb:=g.hb.mono (by omega),c1:=by have:=g.c1; omega,pin:=g.pin.mono h }
theorem GI.stay (g:GI k T M nx l) (s:T.Stay T') (wf:T'.WF) (kd:T'.KD) (ord:T'.Order) (lim:T'.limit<=l) {k':Int} (hk:k<=k') (h1:k'<=900) (hb:T'.HB (2*k')) (c0:0<=T'.change) (c1:T'.change<=2*k'):GI k' T' M nx l where
 k0:=by have:=g.k0; omega
 k1:=h1
 wf:=wf
 kd:=kd
 ord:=ord
 lim:=lim
 hb:=hb
 c0:=c0
 c1:=c1
 pin:=g.pin.mono hk
 top:=g.top
 mnt:=fun m hm=>by
  obtain ⟨a,b,c⟩:=g.mnt m hm;refine ⟨?_,b,fun h0 =>?_⟩
  ·by_cases h0:m.id=0
   ·rw [b h0]; exact wf.root.1
   ·obtain ⟨c1,_⟩:=c h0
    rw [(s m.root (by rw [a]; decide) c1).1]; exact a
  ·obtain ⟨c1,c2,c3,c4⟩:=c h0
   have h1:=s m.root (by rw [a]; decide) c1
   have h2:=s m.at_.i (by rw [c2]; decide) c3
   exact ⟨by omega,by rw [h2.1]; exact c2,by omega,c4⟩
theorem GI.did (g:GI k T M nx l) (d:T.Did true T') (wf:T'.WF) (cb:T.CB T') (hb:T'.HB (2*k+1)) (h1:k+1<=900):GI (k+1) T' M nx l:=by
 have hc0:=g.c0;have hc1:=g.c1;exact g.stay (d.stay g.wf) wf (d.kd g.kd) (d.order g.wf g.ord) (by rw [d.limit]; exact g.lim) (by omega) h1 (hb.mono (by omega)) (by have:=cb.1; omega) (by have:=cb.2; omega)
theorem aAJ {l:List bT} {x:bT} {id:Int} {m:bT} (h:qE l id=some m):qE (l++[x]) id=some m:=by
 unfold qE at h ⊢;rw [List.find?_append,h]; rfl
theorem GI.new (limit l:Int) (hl:1<=l/\limit<=l):GI 0 (Tr.new limit) kG 1 l where
 k0:=Int.le_refl _
 k1:=by decide
 wf:=Tr.new_wf limit
 kd:=Tr.KD.new limit
 ord:=Tr.Order.new limit
 lim:=by show min (max limit 1) 256<=l; omega
 hb:=Tr.HB.new limit
 c0:=Int.le_refl _
 c1:=Int.le_refl _
 pin:=aID
 top:=rfl
 mnt:=fun m hm=>by
  simp [kG] at hm;subst hm;exact ⟨(Tr.new_wf limit).root.1,fun _=>rfl,fun h=>(h rfl).elim⟩
theorem GI.bind (g:GI k T M nx l) (h1:k+1<=900) (root:BitVec 16) (p:bL) (hp:0<=p.m/\p.m<=2) (hr:(T.node root).kind=2#8) (ha:(T.node p.i).kind=2#8) (ok:(eV M nx root p).e=0) :
  GI (k+1) ((T.hold root true).1.hold p.i true).1 (eV M nx root p).T (eV M nx root p).nx l:=by
 have s1:T.Stay (T.hold root true).1 := .hold root;have s2:(T.hold root true).1.Stay ((T.hold root true).1.hold p.i true).1 := .hold p.i;have w1:=g.wf.hold root true;have w2:=w1.hold p.i true;have hk0:=g.k0;have hc0:=g.c0;have hc1:=g.c1;have b1:=g.hb.hold (by omega) root true
 have b2:=b1.hold (by omega) p.i true
 have e1:(T.hold root true).1=T.upd root (Nd.addH 1):=by
  unfold Tr.hold;rw [if_neg (by rw [hr]; decide),if_pos rfl]
 have n1:∀ m,(T.hold root true).1.node m=if m=root then Nd.addH 1 (T.node root) else T.node m:=fun m=>by
  rw [e1,Tr.node_upd (by rw [hr]; decide)]
 have ha1:((T.hold root true).1.node p.i).kind=2#8:=by
  rw [n1]; split
  ·exact hr
  ·exact ha
 have e2:((T.hold root true).1.hold p.i true).1=(T.hold root true).1.upd p.i (Nd.addH 1):=by
  show (Tr.hold _ _ _).1=_
  rw [Tr.hold,if_neg (by rw [ha1]; decide),if_pos rfl]
 have n2:∀ m,((T.hold root true).1.hold p.i true).1.node m=if m=p.i then Nd.addH 1 ((T.hold root true).1.node p.i) else (T.hold root true).1.node m:=fun m=>by
  rw [e2,Tr.node_upd (by rw [ha1]; decide)]
 have q1:=g.wf.held root;have q2:=g.wf.held p.i
 have hr2:(((T.hold root true).1.hold p.i true).1.node root).kind=2#8/\1<=(((T.hold root true).1.hold p.i true).1.node root).held:=by
  rw [n2]
  split
  ·rename_i e
   refine ⟨ha1,?_⟩
   show 1<=((T.hold root true).1.node p.i).held+1
   have:=w1.held p.i;omega
  ·rw [n1,if_pos rfl]
   refine ⟨hr,?_⟩
   show 1<=(T.node root).held+1
   omega
 have ha2:(((T.hold root true).1.hold p.i true).1.node p.i).kind=2#8/\1<=(((T.hold root true).1.hold p.i true).1.node p.i).held:=by
  rw [n2,if_pos rfl];refine ⟨ha1,?_⟩
  show 1<=((T.hold root true).1.node p.i).held+1
  have:=w1.held p.i;omega
 have c1:(T.hold root true).1.change=T.change:=by rw [e1]; rfl
 have c2:((T.hold root true).1.hold p.i true).1.change=T.change:=by rw [e2]; exact c1
 have l1:(T.hold root true).1.limit=T.limit:=by rw [e1]; rfl
 have l2:((T.hold root true).1.hold p.i true).1.limit=T.limit:=by rw [e2]; exact l1
 have kd:=(g.kd.hold gJ root true).hold gJ p.i true;have o2:=(g.ord.step (.hold root true)).step (.hold p.i true);have pin:=g.pin.bind root p;have base:=g.stay (s1.trans s2) w2 kd o2 (by rw [l2]; exact g.lim) (k':=k+1) (by omega) h1 (b2.mono (by omega)) (by rw [c2]; exact hc0) (by rw [c2]; omega)
 have hT:(eV M nx root p).T=M++[⟨nx,p,root,0⟩]:=by
  unfold eV at ok ⊢
  split at ok
  ·simp at ok
  ·rename_i h
   rw [if_neg h]
   split at ok
   ·simp at ok
   ·rename_i h
    rw [if_neg h]
    split at ok
    ·simp at ok
    ·rename_i h
     rw [if_neg h]
 refine { base with pin:=pin,top :=?_,mnt:=fun m hm =>?_ }
 ·rw [hT]; exact aAJ g.top
 ·rw [hT] at hm
  rcases List.mem_append.1 hm with hm | hm
  ·exact base.mnt m hm
  ·simp only [List.mem_singleton] at hm
   subst hm;have:=g.pin.nx0;exact ⟨hr2.1,fun h=>by simp only at h; omega,fun _=>⟨hr2.2,ha2.1,ha2.2,hp⟩⟩
end
end Go.AM
end
section
namespace Go.AM
set_option maxRecDepth 20000
structure eG where
 kind:BitVec 8
 act:gG
 root:BitVec 8
 seen:BitVec 8
 link:BitVec 8
def eG.cells (x:eG):List Value:=u8 x.kind :: (x.act.cells++[u8 x.root,u8 x.seen,u8 x.link])
abbrev yS:Sh := .struct [.int .u8,aGO,.int .u8,.int .u8,.int .u8]
theorem SV.gact {H:AH} {cs:List Value} (h:SV H yS cs):∃ x:eG,cs=x.cells/\x.act.ok H:=by
 obtain ⟨c0,e0,rfl,h0,c1,e1,rfl,h1,c2,e2,rfl,h2,c3,e3,rfl,h3,c4,e4,rfl,h4,rfl⟩:=h;obtain ⟨x0,rfl⟩:=h0.u8;obtain ⟨x1,rfl,ok⟩:=SV.act h1;obtain ⟨x2,rfl⟩:=h2.u8;obtain ⟨x3,rfl⟩:=h3.u8;obtain ⟨x4,rfl⟩:=h4.u8;exact ⟨⟨x0,x1,x2,x3,x4⟩,by simp [eG.cells],ok⟩
theorem pD.gacts {H:AH} {v:Value} (h:pD H (.slice 14 yS) v):∃ l:List eG,Rows H 14 v (l.map eG.cells)/\l.length<=9223372036854775807/\∀ x∈l,x.act.ok H:=pD.rowsOf (fun _ h=>SV.gact h) h
theorem lQ:([(.int .u8 0),(.int .u8 0),(.int .u8 0),(.int .u8 0),(.int .u8 0),(.int .u8 0),(.string ⟨#[]⟩),(.int .i64 0),(.slice none 0 0),(.bool false),(.bool false),(.int .u8 0),(.int .u8 0),(.int .u8 0)]:List Value)=(eG.mk 0#8 (gG.mk 0#8 0#8 0#8 0#8 0#8 [] 0 aW [] false false) 0#8 0#8 0#8).cells:=rfl
theorem eG.len (x:eG):x.cells.length=14:=rfl
theorem eG.all_plain (x:eG) (h:plain1 x.act.bytes=true):x.cells.all plain1=true:=by
 have:=x.act.all_plain h;simp only [eG.cells,List.all_cons,List.all_append,this,List.all_nil,Bool.and_true,Bool.true_and]; rfl
theorem vK {H:AH} {x:eG} (hp:plain1 x.act.bytes=true) (z:eG):storeN 14 (ptr H.next 0) (.agg x.cells.toArray) (H.new (.cells z.cells none))=some (H.new (.cells x.cells none)):=by
 rw [eS,AH.get_new_self];have hs:AM.splice z.cells 0 x.cells=x.cells:=rfl;simp only [List.size_toArray,List.toList_toArray,eG.len,eG.all_plain x hp,Nat.zero_add,Nat.le_refl,and_self,if_true,hs,AH.new_put]
section
variable {X:List Res} {E:Sy} {H0 H H' H'':AH} {Q:Value->AH->Prop} {w t:Nat} {T T':Tr} {M M':List bT} {nx nx' k l:Int}
def kU (l:List eG):Bool:=l.all fun x=>decide (x.act.any.length<=200)&&decide (x.act.bl.length<=200)
theorem S.f41 (hE:bK E) (v:Value) (l:List eG) (hv:Rows H 14 v (l.map eG.cells)) (hll:l.length<=9223372036854775807) (hok:∀ x∈l,x.act.ok H)
  (hQ:∀ H',Ext H H'->Q (vb (kU l)) H'):E.call (E.fid i.f41) [v] H Q:=by
 apply hE.f41;have hl:=hv.lenSlc;rw [List.length_map] at hl;simp only [F.f41,hl,aJ,aE];refine aP.count l.length (fun j ls H'=>ls=[v,vi l.length,vi j]/\Ext H H'/\kU (l.take j)=true) ?_ ⟨rfl,Ext.refl H,rfl⟩;rintro j _ H1 X hj hX ⟨rfl,e1,hn⟩
 by_cases hjl:j<l.length
 ·have hjl':(j:Int)<l.length:=by omega
  have hX:=hX hjl;have hjj:=eA (i:=j) (by omega)
  obtain ⟨b,o,p1,p2⟩:=(hv.mono e1).ix (i:=j) (by simpa using hjl)
  rw [List.getElem_map] at p2;have hmem:=List.getElem_mem hjl;have hx:=(hok l[j] hmem).mono e1;have htk:l.take (j+1)=l.take j++[l[j]]:=by rw [List.take_succ,List.getElem?_eq_getElem hjl]; rfl
  have hno:¬ (l[j].act.any.length<=200/\l[j].act.bl.length<=200)->kU l=false:=by
   intro h;unfold kU;rw [List.all_eq_false];refine ⟨l[j],hmem,?_⟩
   simpa using h
  have hyes:l[j].act.any.length<=200->l[j].act.bl.length<=200->kU (l.take (j+1))=true:=by
   intro h1 h2;unfold kU at hn ⊢;rw [htk,List.all_append,hn];simp [h1,h2]
  generalize l[j]=x at *;generalize hj1:j+1=j1 at *;have hlo:bM 14 (ptr b o) H1=some (.agg x.cells.toArray):=by rw [dV,p2]; rfl
  have hst:=vK (H:=H1) (mT hx.bytes) (eG.mk 0#8 (gG.mk 0#8 0#8 0#8 0#8 0#8 [] 0 aW [] false false) 0#8 0#8 0#8);have hx2:Ext H1 (H1.new (.cells x.cells none)):=(Ext.refl H1).new _;have hb2:=AH.get_new_self H1 (.cells x.cells none);have c6:x.cells[6]? = some (str x.act.any):=rfl;have c8:x.cells[8]? = some x.act.bytes:=rfl;have hbl:=hx.bytes.lenSlc;rw [bU] at hbl
  by_cases a1:200<x.act.any.length
  ·have a1':(200:Int)<x.act.any.length:=by omega
   have hQ:=hQ _ (e1.trans hx2);rw [hno (by omega)] at hQ
   simp only [F.f41_l1,bI,hjl',decide_true,p1,hlo,dX,lQ,hst,hb2,c6,kR,cU,gt_iff_lt,a1',bO];exact hQ
  have a1':¬ (200:Int)<x.act.any.length:=by omega
  by_cases a2:200<x.act.bl.length
  ·have a2':(200:Int)<x.act.bl.length:=by omega
   have hQ:=hQ _ (e1.trans hx2);rw [hno (by omega)] at hQ
   simp only [F.f41_l1,bI,hjl',decide_true,p1,hlo,dX,lQ,hst,hb2,c6,c8,kR,cU,gt_iff_lt,a1',a2',decide_false,hbl,bO];exact hQ
  have a2':¬ (200:Int)<x.act.bl.length:=by omega
  simp only [F.f41_l1,bI,hjl',decide_true,p1,hlo,dX,lQ,hst,hb2,c6,c8,kR,cU,gt_iff_lt,a1',a2',decide_false,hbl,hjj,bO];exact hX _ _ ⟨rfl,e1.trans hx2,hyes (by omega) (by omega)⟩
 ·have hjl':¬ (j:Int)<l.length:=by omega
  have:j=l.length:=by omega
  subst this;rw [List.take_length] at hn;have hQ:=hQ _ e1;rw [hn] at hQ;simp only [F.f41_l1,bI,hjl',decide_false,bO];exact hQ
def jE:List aM:=[[97],[47,97],[46,46,47,98],[98,47,99],[47],[46],[46,46],[47,98,47,46,46,47,97],[102],[97,47],[110,111,116,104,105,110,103],[47,97,47,98,47,99]]
theorem S.f43 (hE:bK E) (hQ:∀ v H',Ext H H'->Rows H' 1 v (kJ jE)->Q v H'):E.call (E.fid i.f43) [] H Q:=by
 apply hE.f43
 have hb:=iK 12 1 [str []] [(0,str [97]),(1,str [47,97]),(2,str [46,46,47,98]),(3,str [98,47,99]),(4,str [47]),(5,str [46]),(6,str [46,46]),(7,str [47,98,47,46,46,47,97]),(8,str [102]),(9,str [97,47]),(10,str [110,111,116,104,105,110,103]),(11,str [47,97,47,98,47,99])] (jE.map str) rfl rfl rfl rfl (by
   intro v hv;obtain ⟨s,_,rfl⟩:=List.mem_map.1 hv
   rfl)
 have hb:buildS 12 1 #[(.string ⟨#[]⟩)] [(0,(.string ⟨#[97]⟩)),(1,(.string ⟨#[47,97]⟩)),(2,(.string ⟨#[46,46,47,98]⟩)),(3,(.string ⟨#[98,47,99]⟩)),(4,(.string ⟨#[47]⟩)),(5,(.string ⟨#[46]⟩)),(6,(.string ⟨#[46,46]⟩)),(7,(.string ⟨#[47,98,47,46,46,47,97]⟩)),(8,(.string ⟨#[102]⟩)),(9,(.string ⟨#[97,47]⟩)),(10,(.string ⟨#[110,111,116,104,105,110,103]⟩)),(11,(.string ⟨#[47,97,47,98,47,99]⟩))]=some (.cells (jE.map str) none,dZ 12 12):=by
  simpa [jE] using hb
 simp only [F.f43,hb,AM.dN,eN,aJ];refine hQ _ _ ((Ext.refl H).new _) (Rows.made (f:=none) (by rw [AH.get_new_self]; rfl) (.inl rfl) rfl ?_)
 intro r hr;obtain ⟨s,_,rfl⟩:=List.mem_map.1 hr
 rfl
def GwO (X:List Res) (H0 H:AH) (w t:Nat) (T:Tr) (M:List bT) (nx:Int):Prop:=∃ nv mv Y,WkO (fT t nv mv nx (uS M) Y T :: X) H0 H w T M nx/\Y.length=T.N.length/\T.N.length<=60000
theorem GwO.ext (h:GwO X H0 H w t T M nx):Ext H0 H:=by obtain ⟨_,_,_,h,_⟩:=h; exact h.ext
theorem GwO.mono (h:GwO X H0 H w t T M nx) (e:Ext H H'):GwO X H0 H' w t T M nx:=by obtain ⟨nv,mv,Y,h,a,b⟩:=h; exact ⟨nv,mv,Y,h.mono e,a,b⟩
theorem GwO.at_ (h:GwO X H0 H w t T M nx):wC H w T M:=by obtain ⟨nv,mv,Y,h,a,b⟩:=h; exact h.at_
theorem GwO.box (h:GwO X H0 H w t T M nx) (c:List Value):GwO (X++[bN H.next c]) H0 (H.new (.cells c none)) w t T M nx:=by obtain ⟨nv,mv,Y,h,a,b⟩:=h; exact ⟨nv,mv,Y,h.box c,a,b⟩
theorem GwO.drop {r:Res} (h:GwO (X++[r]) H0 H w t T M nx):GwO X H0 H w t T M nx:=by obtain ⟨nv,mv,Y,h,a,b⟩:=h; exact ⟨nv,mv,Y,WkO.drop (X:=fT t nv mv nx (uS M) Y T :: X) h,a,b⟩
theorem GwO.held {b:Nat} {c:List Value} (h:GwO (X++[bN b c]) H0 H w t T M nx):H.get b = .cells c none:=by obtain ⟨nv,mv,Y,h,_⟩:=h; exact WkO.held (X:=fT t nv mv nx (uS M) Y T :: X) h
theorem GwO.put {b:Nat} {c:List Value} (h:GwO (X++[bN b c]) H0 H w t T M nx) (c':List Value):GwO (X++[bN b c']) H0 (H.put b (.cells c' none)) w t T M nx:=by obtain ⟨nv,mv,Y,h,a,b⟩:=h; exact ⟨nv,mv,Y,WkO.put (X:=fT t nv mv nx (uS M) Y T :: X) h c',a,b⟩
theorem aCp (hE:bK E) {c:Nat} {x:gG} (h:GwO (X++[bN c x.cells]) H0 H w t T M nx) (g:GI k T M nx l) (hk:k+1<=900) (hx:x.ok H0) (hl:x.any.length<=200/\x.bl.length<=200) (hraw:x.raw=false) (hup:x.kind % 15#8=11#8->x.flag=true)
  {av nv:Value} {j:Nat} (hj:j<2 ^ 62) {X0:List Value->AH->Prop} (next:∀ T' H',GwO X H0 H' w t T' M nx->GI (k+1) T' M nx l->X0 [ptr w 0,ptr t 0,av,nv,vi ((j+1:Nat):Int)] H') :
  F.f42_j2 E Q X0 (ptr w 0) (ptr t 0) (ptr c 0) av nv (vi j) H:=by
 have hb:=h.held;have hlo:bM 10 (ptr c 0) H=some (.agg x.cells.toArray):=by rw [dV,hb,mK _ _ 10 rfl]; rfl
 obtain ⟨rv,mv,Y,h,hyl,hyf⟩:=h;obtain ⟨p,q,hw,_⟩:=h.open_;obtain ⟨p',q',v,m,L,h2,back⟩:=h.two hyl hyf;have hw2:=h2.ow.holds (bN w [ptr p' 0,ptr q' 0]) (by simp)
 have hw2:H.get w = .cells [ptr p' 0,ptr q' 0] none:=hw2;have hjj:=eA (i:=j) (by omega)
 have hk0:=g.k0;have hc0:=g.c0;have hc1:=g.c1;generalize hj1:j+1=j1 at *;simp only [F.f42_j2,hw2,hlo,bO];refine S.f37 hE h2 g.wf g.hb ⟨by omega,by omega⟩ ⟨by omega,by omega⟩ hx hl hraw hup fun L' nv' Y' T' H' ha hd =>?_
 simp only [hjj,bO];have ho:=back _ _ _ _ _ _ ha.two;have hg:GwO (X++[bN c x.cells]) H0 H' w t T' M nx:=⟨nv',mv,Y',ho,ha.two.len,ha.two.fit⟩;exact next T' H' hg.drop (g.did hd ha.wf ha.cb ha.hb hk)
end
end Go.AM
end
section
namespace Go.AM
set_option maxRecDepth 20000
section
variable {X:List Res} {E:Sy} {H0 H H' H'':AH} {Q:Value->AH->Prop} {w t:Nat} {T T':Tr} {M M':List bT} {nx nx' k l:Int}
theorem aC0 {root:BitVec 16} {p:bL} (h:(eV M nx root p).e≠0):(eV M nx root p).T=M/\(eV M nx root p).nx=nx:=by
 unfold eV at h ⊢
 split
 ·exact ⟨rfl,rfl⟩
 ·rename_i h1
  rw [if_neg h1] at h
  split
  ·exact ⟨rfl,rfl⟩
  ·rename_i h2
   rw [if_neg h2] at h
   split
   ·exact ⟨rfl,rfl⟩
   ·rename_i h3
    rw [if_neg h3] at h;exact (h rfl).elim
theorem aCc (hE:bK E) {a c:Nat} {z:eG} {x:gG} (h:GwO ((X++[bN a z.cells])++[bN c x.cells]) H0 H w t T M nx) (g:GI k T M nx l) (hk:k+1<=900) (hx:x.ok H0) (hl:x.any.length<=200/\x.bl.length<=200) (hraw:x.raw=false) (hup:x.kind % 15#8=11#8->x.flag=true)
  {av nv:Value} {j:Nat} (hj:j<2 ^ 62) {X0:List Value->AH->Prop} (next:∀ T' H',GwO X H0 H' w t T' M nx->GI (k+1) T' M nx l->X0 [ptr w 0,ptr t 0,av,nv,vi ((j+1:Nat):Int)] H') :
  F.f42_j1 E Q X0 (ptr w 0) (ptr t 0) (ptr a 0) (ptr c 0) av nv (vi j) H:=by
 have hb:=h.held;have ha:=h.drop.held;have c0:x.cells[0]? = some (u8 x.kind):=rfl;have z13:z.cells[13]? = some (u8 z.link):=rfl;have r1:aA .rem (u8 x.kind) (.int .u8 15)=some (u8 (x.kind % 15#8)):=oL _ 15#8 (by decide)
 have e1:aA .eql (u8 (x.kind % 15#8)) (.int .u8 3)=some (vb (decide (x.kind % 15#8=3#8))):=iS _ 3#8;simp only [F.f42_j1,hb,c0,r1,e1,bO]
 by_cases h3:x.kind % 15#8=3#8
 ·simp only [h3,decide_true,ha,z13,lX,bO]
  refine S.f43 hE fun v1 H1 x1 s1 =>?_;refine ⟨by rw [aD,aD,x1.cells ha,ha],?_⟩
  refine S.f43 hE fun v2 H2 x2 s2 =>?_;refine ⟨by rw [aD,aD,x2.cells (x1.cells ha),ha],?_⟩
  have l2:AM.lenSlc v2=some (vi ((12:Nat):Int)):=s2.lenSlc;have hlen:(kJ jE).length=12:=rfl;have hlt:z.link.toNat % 12<(kJ jE).length:=by rw [hlen]; exact Nat.mod_lt _ (by omega)
  obtain ⟨b,o,p1,p2⟩:=(s1.mono x2).ix hlt;obtain ⟨s,hs,he⟩:=List.mem_map.1 (List.getElem_mem hlt);rw [<- he] at p2
  have p3:(H2.get b).cell o=some (str s):=by
   have:=dK p2 (j:=0) (by omega)
   simpa using this
  have hsl:s.length<=120:=by
   have:∀ s∈jE,s.length<=120:=by decide
   exact this s hs
  have h2:=(h.mono x1).mono x2
  have hst:aN (ptr c 5) (str s) H2=some (H2.put c (.cells ({ x with any:=s }:gG).cells none)):=by
   rw [aF,if_pos (show plain1 (str s)=true from rfl),h2.held];have q1:x.cells.length=10:=rfl;have q2:x.cells.set 5 (str s)=({ x with any:=s }:gG).cells:=rfl
   simp only [q1,q2,show (5<10)=True from by simp,if_true]
  simp only [l2,lB z.link.toNat 12 (by omega),p1,p3,hst,bO]
  exact aCp hE (h2.put ({ x with any:=s }:gG).cells) g hk ⟨by show s.length<=_; omega,hx.n,hx.bytes,hx.bl⟩ ⟨by show s.length<=200; omega,hl.2⟩ hraw hup hj fun T' H' h' g'=>next T' H' h'.drop g'
 ·simp only [h3,decide_false,bO]
  exact aCp hE h g hk hx hl hraw hup hj fun T' H' h' g'=>next T' H' h'.drop g'
theorem aFI (hE:bK E) {a b:BitVec 16} {c:Nat} (h:GwO (X++[bN c [vi a.toNat,vi b.toNat]]) H0 H w t T M nx) (wf:T.WF) {B:Int} (hb:T.HB B) (hB:0<=B/\B<1000000)
  {av nv:Value} {j:Nat} (hj:j<2 ^ 62) {X0:List Value->AH->Prop} (next:∀ H',GwO X H0 H' w t ((T.hold a true).1.hold b true).1 M nx->X0 [ptr w 0,ptr t 0,av,nv,vi ((j+1:Nat):Int)] H') :
  aP (fun l H X1=>F.f42_l2 E Q X0 (nth l 0) (nth l 1) (nth l 2) (nth l 3) (nth l 4) (nth l 5) (nth l 6) (nth l 7) H X1) [ptr w 0,ptr t 0,av,nv,vi j,slc c 0 2 2,vi 2,(.int .i64 0)] H:=by
 have hjj:=eA (i:=j) (by omega)
 generalize hj1:j+1=j1 at *
 have one:∀ {T:Tr} {H:AH} {B:Int} (n:BitVec 16) (Q1:Value->AH->Prop),GwO (X++[bN c [vi a.toNat,vi b.toNat]]) H0 H w t T M nx->T.WF->T.HB B->B<1100000->(∀ H',GwO (X++[bN c [vi a.toNat,vi b.toNat]]) H0 H' w t (T.hold n true).1 M nx->Q1 (.tuple #[]) H') ->
   ∃ p q,H.get w = .cells [ptr p 0,ptr q 0] none/\E.call (E.fid i.f14) [ptr p 0,u16 n,vb true] H fun _ H1=>E.call (E.fid i.f52) [ptr t 0,vi (n.toNat:Int),vb true] H1 fun _ H2=>Q1 (.tuple #[]) H2:=by
  intro T H B n Q1 h wf hb hB hQ1;obtain ⟨rv,mv,Y,h,hyl,hyf⟩:=h;obtain ⟨p',q',v,m,L,h2,back⟩:=h.two hyl hyf;have hw2:=h2.ow.holds (bN w [ptr p' 0,ptr q' 0]) (by simp)
  have hn:=hb n;refine ⟨p',q',hw2,?_⟩;refine cR.cHold hE h2 wf n true (by omega) fun L1 H1 h3 =>?_
  refine cR.rHold hE h3 wf n true (by omega) fun Y2 H2 h4 =>?_
  exact hQ1 _ ⟨rv,mv,Y2,back _ _ _ _ _ _ h4,h4.len,h4.fit⟩
 have conv:∀ x:BitVec 16,bB .u16 (vi (x.toNat:Int))=some (u16 x):=fun x=>by
  rw [mP]
  congr 2
  rw [BitVec.ofInt_natCast,BitVec.ofNat_toNat,BitVec.setWidth_eq]
 have i0:(.int .i64 0:Value)=vi ((0:Nat):Int):=rfl;rw [i0];refine aP.count 2 (fun i ls H'=>ls=[ptr w 0,ptr t 0,av,nv,vi j,slc c 0 2 2,vi 2,vi i]/\((i=0/\GwO (X++[bN c [vi a.toNat,vi b.toNat]]) H0 H' w t T M nx)\/(i=1/\GwO (X++[bN c [vi a.toNat,vi b.toNat]]) H0 H' w t (T.hold a true).1 M nx)\/(i=2/\GwO (X++[bN c [vi a.toNat,vi b.toNat]]) H0 H' w t ((T.hold a true).1.hold b true).1 M nx))) ?_ ⟨rfl,.inl ⟨rfl,h⟩⟩;rintro i _ H1 X1 hi hX ⟨rfl,(⟨rfl,h1⟩ | ⟨rfl,h1⟩ | ⟨rfl,h1⟩)⟩
 ·have hX:=hX (by omega)
  have p1:aG 1 (slc c 0 2 2) (vi ((0:Nat):Int))=some (ptr c 0):=rfl;have p2:=h1.held;obtain ⟨p,q,hw,hc⟩:=one a (fun v H=>X1 [ptr w 0,ptr t 0,av,nv,vi j,slc c 0 2 2,vi 2,vi ((1:Nat):Int)] H) h1 wf hb (by omega) fun H' h'=>hX _ _ ⟨rfl,.inr (.inl ⟨rfl,h'⟩)⟩
  have hlt:(((0:Nat):Int)<2)=True:=by simp
  have inc:aA .add (vi ((0:Nat):Int)) (vi 1)=some (vi ((1:Nat):Int)):=eA (i:=0) (by omega)
  simp only [F.f42_l2,bI,hlt,decide_true,p1,p2,hw,conv,inc,bO]
  exact hc
 ·have hX:=hX (by omega)
  have p1:aG 1 (slc c 0 2 2) (vi ((1:Nat):Int))=some (ptr c 1):=rfl;have p2:=h1.held;obtain ⟨p,q,hw,hc⟩:=one b (fun v H=>X1 [ptr w 0,ptr t 0,av,nv,vi j,slc c 0 2 2,vi 2,vi ((2:Nat):Int)] H) h1 (wf.hold a true) (hb.hold hB.1 a true) (by omega) fun H' h'=>hX _ _ ⟨rfl,.inr (.inr ⟨rfl,h'⟩)⟩
  have hlt:(((1:Nat):Int)<2)=True:=by simp
  have inc:aA .add (vi ((1:Nat):Int)) (vi 1)=some (vi ((2:Nat):Int)):=eA (i:=1) (by omega)
  simp only [F.f42_l2,bI,hlt,decide_true,p1,p2,hw,conv,inc,bO]
  exact hc
 ·have hlt:(((2:Nat):Int)<2)=False:=by simp
  simp only [F.f42_l2,bI,hlt,decide_false,hjj,bO];exact next _ h1.drop
end
end Go.AM
end
section
namespace Go.AM
set_option maxRecDepth 20000
section
variable {X:List Res} {E:Sy} {H0 H H' H'':AH} {Q:Value->AH->Prop} {w t:Nat} {T T':Tr} {M M':List bT} {nx nx' k l:Int}
theorem xM {p:bL} (h:aC6 T M p=true):(T.node p.i).kind=2#8:=by
 unfold aC6 at h;simp only [Bool.and_eq_true,decide_eq_true_eq] at h;exact h.2
theorem aCB (hE:bK E) {b:Nat} {p:bL} (h:GwO (X++[bN b p.cells]) H0 H w t T M nx) (g:GI k T M nx l) (hk:k+1<=900) (root:BitVec 16) (hp:0<=p.m/\p.m<=2) (hr:(T.node root).kind=2#8) (ha:(T.node p.i).kind=2#8)
  {av nv:Value} {j:Nat} (hj:j<2 ^ 62) {X0:List Value->AH->Prop} (next:∀ T' M' nx' H',GwO X H0 H' w t T' M' nx'->GI (k+1) T' M' nx' l->X0 [ptr w 0,ptr t 0,av,nv,vi ((j+1:Nat):Int)] H') :
  opt (aH (ptr w 0)) fun v42=>opt (aC v42 1) fun v43=>opt (aB v43 H) fun v44=>opt (bB .u16 (vi (root.toNat:Int))) fun v45=>opt (bM 2 (ptr b 0) H) fun v46 =>
  E.call (E.fid i.f31) [v44,v45,v46] H fun v47 H13 =>
  opt (ext v47 0) fun v48=>opt (ext v47 1) fun v49=>opt (aA .eql v49 (.int .i64 0)) fun v50 =>
  ifB v50 (
  opt (bM 2 (ptr b 0) H13) fun v51 =>
  E.call (E.fid i.f39) [v51] H13 fun v52 H14 =>
  E.call (E.fid i.f49) [(ptr t 0),(vi (root.toNat:Int)),v52] H14 fun v53 H15 =>
  opt (aC (ptr b 0) 1) fun v54=>opt (aB v54 H15) fun v55=>opt (bB .i64 v55) fun v56 =>
  mk (buildS 2 1 #[(.int .i64 0)] [(0,(vi (root.toNat:Int))),(1,v56)]) H15 fun v57 H16 =>
  opt (lenSlc v57) fun v58 =>
  aP (fun l H X1=>F.f42_l2 E Q X0 (nth l 0) (nth l 1) (nth l 2) (nth l 3) (nth l 4) (nth l 5) (nth l 6) (nth l 7) H X1) [(ptr w 0),(ptr t 0),av,nv,(vi j),v57,v58,(.int .i64 0)] H16) (
  opt (aA .add (vi j) (.int .i64 1)) fun v59 =>
  X0 [(ptr w 0),(ptr t 0),av,nv,v59] H13):=by
 have hb:=h.held;have hlo:∀ {H':AH},H'.get b = .cells p.cells none->bM 2 (ptr b 0) H'=some p.v:=fun hh=>by rw [dV,hh]; rfl
 have conv:bB .u16 (vi (root.toNat:Int))=some (u16 root):=by
  rw [mP]
  congr 2
  rw [BitVec.ofInt_natCast,BitVec.ofNat_toNat,BitVec.setWidth_eq]
 have hjj:=eA (i:=j) (by omega)
 have hk0:=g.k0;generalize hj1:j+1=j1 at *;obtain ⟨rv,mv,Y,h,hyl,hyf⟩:=h;obtain ⟨pp,q,hw,_,⟨v,ht,hnd,back⟩⟩:=h.open_;simp only [hw,conv,hlo hb,bO]
 have ok':=(g.pin.bind root p).ok (by omega)
 refine S.f31 hE q v M nx ht hnd h.tab root p fun v' H1 u1 =>?_;have h1:=back _ _ _ _ u1 ok';obtain ⟨g1,g2,g3,g4⟩:=aEu g.pin root p;have hb1:=WkO.held (X:=fT t rv mv nx (uS M) Y T :: X) h1
 by_cases he:(eV M nx root p).e=0
 ·have gb:=g.bind hk root p hp hr ha he
  simp only [he,aT,decide_true,hlo hb1,bO];refine S.f39 hE p fun H2 e2 =>?_;have h2:=h1.mono e2;obtain ⟨o2,back2⟩:=WkO.openX (k:=0) h2 (r:=fT t rv mv nx (uS M) Y T) rfl;have hnx:=g.pin.nx0;have hnx1:=g.pin.nx1;have hlen:=g.pin.len;refine S.pinfoldref16_Tree_BindT hE (M:=M.map bT.toI) o2 (by rw [List.length_map]; omega) (by omega) _ _ fun mv' H3 u3 =>?_
  rw [g1,g2] at u3;have h3:=back2 _ _ u3;have h3:WkO ((fT t rv mv' (eV M nx root p).nx (uS (eV M nx root p).T) Y T :: X)++[bN b p.cells]) H0 H3 w T (eV M nx root p).T (eV M nx root p).nx:=h3;have hb3:=h3.held;have c1:p.cells[1]? = some (u16 p.i):=rfl
  have hbs:buildS 2 1 #[(.int .i64 0)] [(0,vi (root.toNat:Int)),(1,vi (p.i.toNat:Int))]=some (.cells [vi (root.toNat:Int),vi (p.i.toNat:Int)] none,dZ 2 2):=iK 2 1 [vi 0] [(0,vi (root.toNat:Int)),(1,vi (p.i.toNat:Int))] [vi (root.toNat:Int),vi (p.i.toNat:Int)] rfl rfl rfl rfl (by
   intro v hv;simp only [List.mem_cons,List.not_mem_nil,or_false] at hv;rcases hv with rfl | rfl <;> rfl)
  have l2:AM.lenSlc (slc H3.next 0 2 2)=some (vi 2):=rfl;simp only [hb3,c1,pV,hbs,l2,bO];have h4:GwO (X++[bN H3.next [vi (root.toNat:Int),vi (p.i.toNat:Int)]]) H0 (H3.new (.cells [vi (root.toNat:Int),vi (p.i.toNat:Int)] none)) w t T (eV M nx root p).T (eV M nx root p).nx:=⟨rv,mv',Y,WkO.box (X:=fT t rv mv' (eV M nx root p).nx (uS (eV M nx root p).T) Y T :: X) (WkO.drop (X:=fT t rv mv' (eV M nx root p).nx (uS (eV M nx root p).T) Y T :: X) h3) _,hyl,hyf⟩;refine aFI hE h4 g.wf g.hb ⟨by omega,by have:=g.k1; omega⟩ hj fun H5 h5 =>?_
  rw [hj1];exact next _ _ _ _ h5 gb
 ·obtain ⟨t1,t2⟩:=aC0 he
  rw [t1,t2] at h1;simp only [he,aT,decide_false,hjj,bO];exact next T M nx _ ⟨rv,mv,Y,WkO.drop (X:=fT t rv mv nx (uS M) Y T :: X) h1,hyl,hyf⟩ (g.mono (by omega) hk)
end
end Go.AM
end
section
namespace Go.AM
set_option maxRecDepth 20000
section
variable {X:List Res} {E:Sy} {H0 H H' H'':AH} {Q:Value->AH->Prop} {w t:Nat} {T T':Tr} {M M':List bT} {nx nx' k l:Int}
theorem aEj (hE:bK E) {a:Nat} {z:eG} (h:GwO (X++[bN a z.cells]) H0 H w t T M nx) (g:GI k T M nx l) (hk:k+1<=900) (hx:z.act.ok H0) (hl:z.act.any.length<=200/\z.act.bl.length<=200)
  {av nv:Value} {j:Nat} (hj:j<2 ^ 62) {X0:List Value->AH->Prop} (next:∀ T' H',GwO X H0 H' w t T' M nx->GI (k+1) T' M nx l->X0 [ptr w 0,ptr t 0,av,nv,vi ((j+1:Nat):Int)] H') :
  opt (aC (ptr a 0) 1) fun v10=>opt (bM 10 v10 H) fun v11 =>
  eR [(.int .u8 0),(.int .u8 0),(.int .u8 0),(.int .u8 0),(.int .u8 0),(.string ⟨#[]⟩),(.int .i64 0),(.slice none 0 0),(.bool false),(.bool false)] H fun v12 H3 =>
  opt (storeN 10 v12 v11 H3) fun H4=>opt (aC v12 9) fun v13=>opt (aN v13 (.bool false) H4) fun H5 =>
  opt (aC v12 0) fun v14=>opt (aB v14 H5) fun v15=>opt (aA .rem v15 (.int .u8 15)) fun v16=>opt (aA .eql v16 (.int .u8 11)) fun v17 =>
  ifB v17 (
  opt (aC v12 8) fun v18=>opt (aN v18 (.bool true) H5) fun H6 =>
  F.f42_j1 E Q X0 (ptr w 0) (ptr t 0) (ptr a 0) v12 av nv (vi j) H6) (
  F.f42_j1 E Q X0 (ptr w 0) (ptr t 0) (ptr a 0) v12 av nv (vi j) H5):=by
 have ha:=h.held
 have hlo:bM 10 (ptr a 1) H=some (.agg z.act.cells.toArray):=by
  have hr:cY.row (.cells z.cells none) 1 10=some z.act.cells:=by
   have h0:=mK z.cells none 14 rfl;exact lW h0 (j:=1) (m:=10) (by omega)
  rw [dV,ha,hr]; rfl
 have hst:=aDb (H:=H) (mT hx.bytes) (gG.mk 0#8 0#8 0#8 0#8 0#8 [] 0 aW [] false false)
 have hs1:aN (ptr H.next 9) (.bool false) (H.new (.cells z.act.cells none))=some (H.new (.cells ({ z.act with raw:=false }:gG).cells none)):=by
  rw [aF,if_pos (show plain1 (.bool false)=true from rfl),AH.get_new_self];have h1:z.act.cells.length=10:=rfl;have h2:z.act.cells.set 9 (.bool false)=({ z.act with raw:=false }:gG).cells:=rfl
  simp only [h1,h2,show (9<10)=True from by simp,if_true,AH.new_put]
 have h5:=h.box ({ z.act with raw:=false }:gG).cells
 have hb5:=h5.held;have c0:({ z.act with raw:=false }:gG).cells[0]? = some (u8 z.act.kind):=rfl
 have r1:aA .rem (u8 z.act.kind) (.int .u8 15)=some (u8 (z.act.kind % 15#8)):=oL _ 15#8 (by decide)
 have e1:aA .eql (u8 (z.act.kind % 15#8)) (.int .u8 11)=some (vb (decide (z.act.kind % 15#8=11#8))):=iS _ 11#8;simp only [hlo,dX,aF9,hst,hs1,hb5,c0,r1,e1,bO]
 by_cases h11:z.act.kind % 15#8=11#8
 ·have hs2:aN (ptr H.next 8) (.bool true) (H.new (.cells ({ z.act with raw:=false }:gG).cells none))=some ((H.new (.cells ({ z.act with raw:=false }:gG).cells none)).put H.next (.cells ({ z.act with raw:=false,flag:=true }:gG).cells none)):=by
   rw [aF,if_pos (show plain1 (.bool true)=true from rfl),AH.get_new_self];have h1:({ z.act with raw:=false }:gG).cells.length=10:=rfl
   have h2:({ z.act with raw:=false }:gG).cells.set 8 (.bool true)=({ z.act with raw:=false,flag:=true }:gG).cells:=rfl
   simp only [h1,h2,show (8<10)=True from by simp,if_true]
  have h6:=h5.put ({ z.act with raw:=false,flag:=true }:gG).cells
  simp only [h11,decide_true,hs2,bO];exact aCc hE (x:={ z.act with raw:=false,flag:=true }) h6 g hk ⟨hx.any,hx.n,hx.bytes,hx.bl⟩ hl rfl (fun _=>rfl) hj next
 ·simp only [h11,decide_false,bO]
  exact aCc hE (x:={ z.act with raw:=false }) h5 g hk ⟨hx.any,hx.n,hx.bytes,hx.bl⟩ hl rfl (fun h=>(h11 h).elim) hj next
def eG.rootN (z:eG):BitVec 16:=BitVec.ofNat 16 (1+z.root.toNat % 8)
def eG.atP (z:eG):bL:=⟨((z.link % 3#8).toNat:Int),(1#8+z.seen % 8#8).setWidth 16⟩
theorem S.f42 (hE:bK E) (h:GwO X H0 H w t T M nx) (g:GI k T M nx l) (hk:k+60<=900) (av:Value) (acts:List eG) (hv:Rows H0 14 av (acts.map eG.cells)) (hll:acts.length<=9223372036854775807) (hok:∀ x∈acts,x.act.ok H0) (hlt:kU acts=true)
  (hQ:∀ T' M' nx' H',GwO X H0 H' w t T' M' nx'->GI (k+60) T' M' nx' l->Q (.tuple #[]) H'):E.call (E.fid i.f42) [ptr w 0,ptr t 0,av] H Q:=by
 apply hE.f42;have hl:=hv.mono h.ext;have hl:=hl.lenSlc;rw [List.length_map] at hl;simp only [F.f42,hl,bO];have i0:(.int .i64 0:Value)=vi ((0:Nat):Int):=rfl;rw [i0];refine aP.count acts.length (fun j ls H'=>j<=60/\∃ T' M' nx',ls=[ptr w 0,ptr t 0,av,vi acts.length,vi j]/\GwO X H0 H' w t T' M' nx'/\GI (k+j) T' M' nx' l) ?_ ⟨by omega,T,M,nx,rfl,h,by simpa using g⟩
 rintro j _ H1 X1 hj hX ⟨hj60,T,M,nx,rfl,h,g⟩
 by_cases hjl:j<acts.length
 rotate_left
 ·have hjl':¬ (j:Int)<acts.length:=by omega
  simp only [F.f42_l1,bI,hjl',decide_false,bO];exact hQ _ _ _ _ h (g.mono (by omega) hk)
 have hjl':(j:Int)<acts.length:=by omega
 have hX:=hX hjl;obtain ⟨b,o,p1,p2⟩:=(hv.mono h.ext).ix (i:=j) (by simpa using hjl)
 rw [List.getElem_map] at p2;have hx:=hok acts[j] (List.getElem_mem hjl)
 have hxl:acts[j].act.any.length<=200/\acts[j].act.bl.length<=200:=by
  unfold kU at hlt;have:=List.all_eq_true.1 hlt _ (List.getElem_mem hjl)
  simpa using this
 generalize acts[j]=z at *;have hlo:bM 14 (ptr b o) H1=some (.agg z.cells.toArray):=by rw [dV,p2]; rfl
 have hst:=vK (H:=H1) (mT hx.bytes) (eG.mk 0#8 (gG.mk 0#8 0#8 0#8 0#8 0#8 [] 0 aW [] false false) 0#8 0#8 0#8);have h2:=h.box z.cells;have hb2:=h2.held
 by_cases h60:j<60
 rotate_left
 ·have h60':(60:Int)<=j:=by omega
  simp only [F.f42_l1,bI,dY,hjl',h60',ge_iff_le,decide_true,p1,hlo,dX,lQ,hst,bO];exact hQ _ _ _ _ h2.drop (g.mono (by omega) hk)
 have h60':¬ (60:Int)<=j:=by omega
 have next:∀ T' M' nx' H',GwO X H0 H' w t T' M' nx'->GI (k+j+1) T' M' nx' l->X1 [ptr w 0,ptr t 0,av,vi acts.length,vi ((j+1:Nat):Int)] H':=fun T' M' nx' H' h' g' =>
  hX _ _ ⟨by omega,T',M',nx',rfl,h',g'.mono (by omega) (by omega)⟩
 have c0:z.cells[0]? = some (u8 z.kind):=rfl;have r1:aA .rem (u8 z.kind) (.int .u8 12)=some (u8 (z.kind % 12#8)):=oL _ 12#8 (by decide)
 have e1:aA .lss (u8 (z.kind % 12#8)) (.int .u8 10)=some (vb (decide (z.kind % 12#8<10#8))):=aEV _ 10#8
 by_cases h10:z.kind % 12#8<10#8
 ·have ha:=aEj (Q:=Q) hE h2 g (by omega) hx hxl (av:=av) (nv:=vi acts.length) (j:=j) (by omega) (X0:=X1) fun T' H' h' g'=>next T' M nx H' h' g'
  simp only [F.f42_l1,bI,dY,hjl',h60',ge_iff_le,decide_true,decide_false,p1,hlo,dX,lQ,hst,hb2,c0,r1,e1,h10,bO] at ha ⊢;exact ha
 generalize H1.new (.cells z.cells none)=H2 at *;have c11:z.cells[11]? = some (u8 z.root):=rfl;have c12:z.cells[12]? = some (u8 z.seen):=rfl;have c13:z.cells[13]? = some (u8 z.link):=rfl
 have hr8:(z.rootN.toNat:Int)=((1+z.root.toNat % 8:Nat):Int):=by
  unfold eG.rootN;rw [BitVec.toNat_ofNat,Nat.mod_eq_of_lt (by omega)]
 have a1:aA .add (.int .i64 1) (vi ((z.root.toNat % 8:Nat):Int))=some (vi (z.rootN.toNat:Int)):=by
  rw [hr8];have:=eF (a:=1) (b:=((z.root.toNat % 8:Nat):Int)) (by omega) (by omega)
  rw [show ((1+z.root.toNat % 8:Nat):Int)=1+((z.root.toNat % 8:Nat):Int) by omega]
  exact this
 have r8:aA .rem (vi (z.root.toNat:Int)) (.int .i64 8)=some (vi ((z.root.toNat % 8:Nat):Int)):=lB z.root.toNat 8 (by omega)
 have r3:aA .rem (u8 z.link) (.int .u8 3)=some (u8 (z.link % 3#8)):=oL _ 3#8 (by decide)
 have r8':aA .rem (u8 z.seen) (.int .u8 8)=some (u8 (z.seen % 8#8)):=oL _ 8#8 (by decide)
 have a2:aA .add (.int .u8 1) (u8 (z.seen % 8#8))=some (u8 (1#8+z.seen % 8#8)):=aHy 1#8 _;have hbv:bW [(0,1),(1,1)] bL.zero.cells.toArray [(0,vi ((z.link % 3#8).toNat:Int)),(1,u16 ((1#8+z.seen % 8#8).setWidth 16))]=some z.atP.v:=rfl;have hz2:([(.int .i64 0),(.int .u16 0)]:List Value)=bL.zero.cells:=rfl;have hbv2:∀ n:BitVec 16,bW [(0,1),(1,1)] bL.zero.cells.toArray [(1,u16 n)]=some (bL.v ⟨0,n⟩):=fun n=>rfl
 have conv:bB .u16 (vi (z.rootN.toNat:Int))=some (u16 z.rootN):=by
  rw [mP]
  congr 2
  rw [BitVec.ofInt_natCast,BitVec.ofNat_toNat,BitVec.setWidth_eq]
 have hst2:storeN 2 (ptr H2.next 0) z.atP.v (H2.new (.cells bL.zero.cells none))=some (H2.new (.cells z.atP.cells none)):=aC9 rfl rfl rfl;have h3:=h2.drop.box z.atP.cells
 have hpm:0<=z.atP.m/\z.atP.m<=2:=by
  have:(z.link % 3#8).toNat=z.link.toNat % 3:=by simp
  unfold eG.atP;simp only;omega
 generalize z.rootN=root at *;generalize hp:z.atP=p at *;have hjj:=eA (i:=j) (by omega)
 simp only [F.f42_l1,bI,dY,hjl',h60',ge_iff_le,decide_true,decide_false,p1,hlo,dX,lQ,hst,hb2,c0,r1,e1,h10,c11,c12,c13,lX,r8,a1,r3,r8',a2,aCT,hz2,hbv,hst2,conv,bO]
 simp only [hz2,hst2,conv,hbv2,bO]
 have hlo3:∀ {H':AH},H'.get H2.next = .cells p.cells none->bM 2 (ptr H2.next 0) H'=some p.v:=fun hh=>by rw [dV,hh]; rfl
 generalize H2.new (.cells p.cells none)=H3 at *;generalize H2.next=b3 at *;refine S.f111 hE h3.at_ ⟨0,root⟩ fun H4 e4 =>?_;have h4:=h3.mono e4;cases hd:aC6 T M ⟨0,root⟩ with
 | false =>
  simp only [hjj,bO];exact next T M nx _ h4.drop (g.mono (by omega) (by omega))
 | true =>
  simp only [hlo3 h4.held,bO];refine S.f111 hE h4.at_ p fun H5 e5 =>?_;have h5:=h4.mono e5;cases hd2:aC6 T M p with
  | false =>
   simp only [hjj,bO];exact next T M nx _ h5.drop (g.mono (by omega) (by omega))
  | true =>
   have hf:=aCB (Q:=Q) hE h5 g (by omega) root hpm (xM hd) (xM hd2) (av:=av) (nv:=vi acts.length) (j:=j) (by omega) (X0:=X1) fun T' M' nx' H' h' g'=>next T' M' nx' H' h' g'
   simp only [bO] at hf ⊢;exact hf
theorem aEn (hE:bK E) (l:Int) {Q:Value->Value->AH->Prop} (hQ:∀ w t H',GwO [] H H' w t (Tr.new l) kG 1->Q (ptr w 0) (ptr t 0) H') :
  E.call (E.fid i.f110) [vi l] H fun v1 H1=>E.call (E.fid i.f47) [vi l] H1 fun v2 H2=>Q v1 v2 H2:=by
 refine S.f110 hE l fun w H1 h1 =>?_;refine S.f47 hE l fun t nv mv Y H2 e2 h2 f2 =>?_;refine hQ w t H2 ⟨nv,mv,Y,?_,h2.len,h2.fit⟩;obtain ⟨p,m,L,q,v,e,o,own,cov,tab⟩:=h1;have o2:=o.ext e2;have hm:uS kG=mN:=rfl;rw [hm]
 have perm:(fT t nv mv 1 mN Y (Tr.new l) :: qU p m L (Tr.new l) q v kG 1 w []).Perm (qU p m L (Tr.new l) q v kG 1 w (fT t nv mv 1 mN Y (Tr.new l) :: [])):=by
  show List.Perm (_ :: ([_,_,_]++[])) ([_,_,_]++_ :: [])
  exact List.perm_middle.symm
 have ho:Ow (cW (fT t nv mv 1 mN Y (Tr.new l) :: qU p m L (Tr.new l) q v kG 1 w [])) H2:=by
  refine ⟨fun r hr =>?_,fun b hb =>?_,?_⟩
  ·rcases List.mem_cons.1 hr with rfl | hr
   ·exact h2.ow.holds
   ·exact o2.holds r hr
  ·have hb:b∈(fT t nv mv 1 mN Y (Tr.new l)).fp++(qU p m L (Tr.new l) q v kG 1 w []).flatMap Res.fp:=hb
   rcases List.mem_append.1 hb with hb | hb
   ·exact h2.ow.lt b hb
   ·exact (o2.fp b hb).2
  ·show ((fT t nv mv 1 mN Y (Tr.new l)).fp++(qU p m L (Tr.new l) q v kG 1 w []).flatMap Res.fp).Nodup
   rw [List.nodup_append];refine ⟨h2.ow.nd,o2.nd,fun a ha b hb =>?_⟩;have h3:=f2 a ha;have h4:=o.lt b hb;omega
 refine ⟨p,m,L,q,v,e.trans e2,ho.perm perm,fun b hb =>?_,cov,tab⟩;have hb:=((perm.flatMap_right Res.fp).mem_iff).2 hb;rw [List.flatMap_cons,List.mem_append] at hb;rcases hb with hb | hb
 ·exact Nat.le_trans e.1 (f2 b hb)
 ·exact own b hb
theorem S.f40 (hE:bK E) (av:Value) (acts:List eG) (hv:Rows H 14 av (acts.map eG.cells)) (hll:acts.length<=9223372036854775807) (hok:∀ x∈acts,x.act.ok H) (hlt:kU acts=true)
  (hQ:∀ w t T' M' nx' H',GwO [] H H' w t T' M' nx'->GI 60 T' M' nx' 60->Q (.tuple #[ptr w 0,ptr t 0]) H'):E.call (E.fid i.f40) [av] H Q:=by
 apply hE.f40;simp only [F.f40,bO];refine aEn (Q:=fun v1 v2 H2=>E.call (E.fid i.f42) [v1,v2,av] H2 fun v3 H3=>Q (.tuple #[v1,v2]) H3) hE 60 fun w t H1 h1 =>?_;refine S.f42 hE h1 (GI.new 60 60 ⟨by omega,by omega⟩) (by omega) av acts hv hll hok hlt fun T' M' nx' H' h' g' =>?_
 exact hQ w t T' M' nx' H' h' g'
end
end Go.AM
end
section
namespace Go.AM
set_option maxRecDepth 20000
structure eL where
 number:BitVec 16
 kind:BitVec 8
 content:List UInt8
 ents:List (aM×BitVec 16)
 deriving DecidableEq
def dA (H:AH) (x:eL) (c:List Value):Prop:=∃ nv iv,c=[u16 x.number,u8 x.kind,str x.content,nv,iv]/\Rows H 1 nv (kJ (x.ents.map Prod.fst))/\Rows H 1 iv (kX (x.ents.map Prod.snd))
theorem dA.sub {Z H:AH} {x:eL} {c:List Value} (h:dA Z x c) (z:Sub Z H):dA H x c:=by
 obtain ⟨nv,iv,e,h1,h2⟩:=h;exact ⟨nv,iv,e,h1.sub z,h2.sub z⟩
abbrev cP (H:AH) (v:Value) (l:List eL):Prop:=fO dA H 5 v l
theorem cP.sub {Z H:AH} {v:Value} {l:List eL} (h:cP Z v l) (z:Sub Z H):cP H v l:=fO.sub h (fun _ _ _ _ h z=>dA.sub h z) z
def aGZ (l:List (BitVec 8)):List UInt8:=l.map UInt8.ofBitVec
def Tr.thing (T:Tr) (n:BitVec 16):eL:=⟨n,(T.node n).kind,aGZ (T.node n).data++(T.node n).text,(T.node n).ents⟩
def Tr.snap (T:Tr):List eL:=T.nums.map T.thing
theorem Sub.since {Z H:AH} {n:Nat} (z:Sub Z H) (hn:n<H.next) (hd:∀ b,b<n->Z.get b = .dead):Sub Z (H.since n):=by
 constructor
 ·unfold AH.since
  simp only [hn,if_true];exact z.1
 ·intro b hb
  have hle:n<=b:=by
   rcases Nat.lt_or_ge b n with h | h
   ·exact (hb (hd b h)).elim
   ·exact h
  rw [AH.since_get hle];exact z.2 b hb
theorem aHd (H:AH):Sub zH H:=⟨by show zH.next<=H.next; exact Nat.zero_le _,fun b hb=>(hb (lO b)).elim⟩
section
variable {E:Sy} {H H' H0 Z:AH} {Q:Value->AH->Prop} {w t:Nat} {T:Tr} {M:List bT} {L:List Res} {v:Value}
theorem Tr.WF.nodup_names (wf:T.WF) (n:BitVec 16):((T.node n).ents.map Prod.fst).Nodup:=by
 have h:=wf.rising n;unfold iW at h;rw [List.Nodup,List.pairwise_map];refine List.Pairwise.imp (fun {a b} h' =>?_) h;intro e;rw [e] at h';exact iY b.1 h'
theorem Tr.WF.look_ent (wf:T.WF) {n:BitVec 16} (hk:(T.node n).kind=2#8) {e:aM×BitVec 16} (he:e∈(T.node n).ents):T.look n e.1=(e.2,0):=by
 unfold Tr.look;have hd:T.dir n=0:=by unfold Tr.dir; rw [hk]; rfl
 rw [if_neg (by simp [hd]),rO (wf.nodup_names n) he]
theorem Tr.entries_eq (wf:T.WF) (a:BitVec 16):T.entries a=(T.node a).ents.map Prod.fst:=by
 unfold Tr.entries
 split
 ·rfl
 ·rename_i hd
  cases he:(T.node a).ents with
  | nil=>rfl
  | cons x l =>
   have:=(wf.ents a x.1 x.2 (by rw [he]; exact List.mem_cons_self)).1
   exact (hd (by unfold Tr.dir; rw [this]; simp)).elim
theorem Tr.ents_dir (wf:T.WF) {a:BitVec 16} (hk:(T.node a).kind≠2#8):(T.node a).ents=[]:=by
 cases he:(T.node a).ents with
 | nil=>rfl
 | cons x l=>exact (hk (wf.ents a x.1 x.2 (by rw [he]; exact List.mem_cons_self)).1).elim
theorem aGM (hE:bK E) {rb ob tb:Nat} {u:Value} {rows:List (List Value)} {c:List Value} (g:Has H0 Z H [bN rb [aW],bN ob [u],bP 5 u rows,bN tb c]) (hc:c.length=5) (hp:c.all plain1=true) (hn:rows.length<2 ^ 30)
  {X0:List Value->AH->Prop} {t0 nv:Value} {ln j:Nat} (hj:j<2 ^ 62)
  (next:∀ u' H',Has H0 Z H' [bN rb [aW],bN ob [u'],bP 5 u' (rows++[c])]->X0 [t0,ptr rb 0,ptr ob 0,nv,vi ln,vi ((j+1:Nat):Int)] H') :
  F.f103_j1 E Q X0 t0 (ptr rb 0) (ptr ob 0) (ptr tb 0) nv (vi ln) (vi j) H:=by
 have hjj:=eA (i:=j) (by omega)
 have hb:=g.box (k:=1) (b:=ob) rfl;have ht:=g.box (k:=3) (b:=tb) rfl;have hlo:bM 5 (ptr tb 0) H=some (.agg c.toArray):=by rw [dV,ht,mK _ _ 5 hc]; rfl
 have hbS:buildS 1 5 #[(.int .u16 0),(.int .u8 0),(.string ⟨#[]⟩),(.slice none 0 0),(.slice none 0 0)] [(0,.agg c.toArray)]=some (.cells c none,dZ 1 1):=eJ 5 [u16 0#16,u8 0#8,str [],aW,aW] c rfl hc;obtain ⟨u',H2,a1,a2,g2⟩:=g.app1 (k:=2) (bytes:=72) rfl c hc hp (by decide) (by decide) (by omega)
 have g2:Has H0 Z H2 [bN rb [aW],bN ob [u],bP 5 u' (rows++[c]),bN tb c]:=g2
 have hst:aN (ptr ob 0) u' H2=some (H2.put ob (.cells [u'] none)):=by
  rw [aF,if_pos a2,g2.box (k:=1) (b:=ob) rfl]; rfl
 have g3:=(g2.put (k:=1) (b:=ob) rfl [u']).drop 3;simp only [F.f103_j1,hb,hlo,hbS,a1,hst,hjj,bO];exact next u' _ g3
theorem aIS (hE:bK E) (hw:∀ H',Ext H0 H'->wC H' w T M) (wf:T.WF) {n:BitVec 16} (hk:(T.node n).kind=2#8) {rb ob tb:Nat} {u nv2:Value} {rows:List (List Value)} (g:Has H0 Z H [bN rb [aW],bN ob [u],bP 5 u rows,bN tb [u16 n,u8 (T.node n).kind,str (T.thing n).content,nv2,aW]])
  (hnv:Rows Z 1 nv2 (kJ ((T.node n).ents.map Prod.fst))) (hn:rows.length<2 ^ 30) (hel:(T.node n).ents.length<2 ^ 30) {X0:List Value->AH->Prop} {nv:Value} {ln j:Nat} (hj:j<2 ^ 62)
  (next:∀ Z' u' c H',Fz H0.next Z Z'->Has H0 Z' H' [bN rb [aW],bN ob [u'],bP 5 u' (rows++[c])]->dA Z' (T.thing n) c->X0 [ptr w 0,ptr rb 0,ptr ob 0,nv,vi ln,vi ((j+1:Nat):Int)] H') :
  aP (fun l H X1=>F.f103_l2 E Q X0 (nth l 0) (nth l 1) (nth l 2) (nth l 3) (nth l 4) (nth l 5) (nth l 6) (nth l 7) (nth l 8) (nth l 9) (nth l 10) H X1) [ptr w 0,ptr rb 0,ptr ob 0,u16 n,ptr tb 0,nv,vi ln,vi j,nv2,vi (T.node n).ents.length,(.int .i64 0)] H:=by
 have i0:(.int .i64 0:Value)=vi ((0:Nat):Int):=rfl;rw [i0];have g1:=g.nils 1;refine aP.count (T.node n).ents.length (fun q ls H'=>∃ iv,ls=[ptr w 0,ptr rb 0,ptr ob 0,u16 n,ptr tb 0,nv,vi ln,vi j,nv2,vi (T.node n).ents.length,vi q]/\Has H0 Z H' [bN rb [aW],bN ob [u],bP 5 u rows,bN tb [u16 n,u8 (T.node n).kind,str (T.thing n).content,nv2,iv],bP 1 iv (kX (((T.node n).ents.map Prod.snd).take q))]) ?_ ⟨aW,rfl,g1⟩;rintro q _ H1 X1 hq hX ⟨iv,rfl,g2⟩;have ht:=g2.box (k:=3) (b:=tb) rfl;rcases Nat.lt_or_ge q (T.node n).ents.length with hql | hql
 ·have hX:=hX hql
  have hql':(q:Int)<(T.node n).ents.length:=by omega
  have hqq:=eA (i:=q) (by omega)
  obtain ⟨b,o,p1,p2,_⟩:=aB8 (hnv.sub g2.sub) (i:=q) (by rw [List.length_map]; exact hql)
  rw [List.getElem_map] at p2;have hle:=wf.look_ent hk (List.getElem_mem hql)
  have htk:((T.node n).ents.map Prod.snd).take (q+1)=((T.node n).ents.map Prod.snd).take q++[((T.node n).ents[q]).2]:=by
   rw [List.take_succ_eq_append_getElem (by rw [List.length_map]; exact hql),List.getElem_map]
  rw [htk] at hX;generalize (T.node n).ents[q]=e at *;obtain ⟨⟨p,m,L',q',nx,q1,q2,q3⟩,_⟩:=hw _ g2.ext;have c4:([u16 n,u8 (T.node n).kind,str (T.thing n).content,nv2,iv]:List Value)[4]? = some iv:=rfl;simp only [F.f103_l2,bI,hql',decide_true,p1,p2,q1,bO];refine S.f15 hE q2 n e.1 ?_;rw [hle];have hbS:buildS 1 1 #[(.int .u16 0)] [(0,u16 e.2)]=some (.cells [u16 e.2] none,dZ 1 1):=eJ 1 [u16 0#16] [u16 e.2] rfl rfl;obtain ⟨iv',H2,a1,a2,g3⟩:=g2.app1 (k:=4) (bytes:=2) rfl [u16 e.2] rfl rfl (by decide) (by decide) (by rw [gO,List.length_take,List.length_map]; omega)
  have hu:∀ l:List (BitVec 16),kX l++[[u16 e.2]]=kX (l++[e.2]):=fun l=>by simp [kX]
  rw [hu] at g3;have g3:Has H0 Z H2 [bN rb [aW],bN ob [u],bP 5 u rows,bN tb [u16 n,u8 (T.node n).kind,str (T.thing n).content,nv2,iv],bP 1 iv' (kX (((T.node n).ents.map Prod.snd).take q++[e.2]))]:=g3
  have hst:aN (ptr tb 4) iv' H2=some (H2.put tb (.cells [u16 n,u8 (T.node n).kind,str (T.thing n).content,nv2,iv'] none)):=by
   rw [aF,if_pos a2,g3.box (k:=3) (b:=tb) rfl]; rfl
  have g4:=g3.put (k:=3) (b:=tb) rfl [u16 n,u8 (T.node n).kind,str (T.thing n).content,nv2,iv'];simp only [ht,c4,hbS,a1,hst,hqq,bO];exact hX _ _ ⟨iv',rfl,g4⟩
 ·have hql':¬ (q:Int)<(T.node n).ents.length:=by omega
  rw [List.take_of_length_le (by rw [List.length_map]; exact hql)] at g2
  obtain ⟨Z',z1,z2,g3⟩:=g2.freeze (k:=4) rfl;have z2:cB zH Z' 1 iv (kX ((T.node n).ents.map Prod.snd)):=z2;have g3:Has H0 Z' H1 [bN rb [aW],bN ob [u],bP 5 u rows,bN tb [u16 n,u8 (T.node n).kind,str (T.thing n).content,nv2,iv]]:=g3
  have hp:([u16 n,u8 (T.node n).kind,str (T.thing n).content,nv2,iv]:List Value).all plain1=true:=by
   simp only [List.all_cons,hnv.plain,z2.toRows.plain,List.all_nil,Bool.and_true,Bool.true_and]; rfl
  simp only [F.f103_l2,bI,hql',decide_false,bO];exact aGM hE g3 rfl hp hn hj fun u' H' g'=>next Z' u' _ H' z1 g' ⟨nv2,iv,rfl,hnv.sub z1.1,z2.toRows⟩
theorem S.f103 (hE:bK E) (hw:wC H w T M) (wf:T.WF) (kd:T.KD) (hQ:∀ v H',Ext H H'->cP (H'.since H.next) v T.snap->Q (.agg #[v]) H'):E.call (E.fid i.f103) [ptr w 0] H Q:=by
 apply hE.f103;have hwm:∀ H',Ext H H'->wC H' w T M:=fun H' e=>hw.mono e;have zn:([(.slice none 0 0)]:List Value)=[aW]:=rfl;have g0:Has H zH H []:=Has.begin (Ext.refl H) (aHd H);have g2:=(g0.newbox [aW]).newbox [aW];have hob:H.next<(H.new (.cells [aW] none)).next:=by simp
 simp only [F.f103,zn,dX,aDL,bO];have g2:Has H zH ((H.new (.cells [aW] none)).new (.cells [aW] none)) [bN H.next [aW],bN (H.next+1) [aW]]:=g2;generalize (H.new (.cells [aW] none)).new (.cells [aW] none)=H2 at *;have hlen16:=wf.len16;obtain ⟨⟨p,m,L',q',nx,q1,q2,q3⟩,_⟩:=hwm _ g2.ext;simp only [q1,bO];refine S.f18 hE q2 (by omega) fun nv H4 e4 r4 f4 =>?_
 obtain ⟨Z4,z4,g4,zr⟩:=g2.callee e4;have rz:=zr 1 nv _ r4 f4;have hd4:∀ b,b<H.next->Z4.get b = .dead:=fun b hb=>by rw [z4.2 b (by have:=g2.ext.1; omega)]; exact lO b
 have hlv:=r4.lenSlc;rw [gO] at hlv;have i0:(.int .i64 0:Value)=vi ((0:Nat):Int):=rfl;have g5:=g4.nils 5
 have hnl:T.nums.length<=65536:=by
  unfold Tr.nums;refine Nat.le_trans (List.length_filter_le _ _) ?_;simp; omega
 simp only [hlv,i0,bO]
 refine aP.count T.nums.length (fun j ls H'=>∃ u rows Z,ls=[ptr w 0,ptr H.next 0,ptr (H.next+1) 0,nv,vi T.nums.length,vi j]/\Has H Z H' [bN H.next [aW],bN (H.next+1) [u],bP 5 u rows]/\(∀ b,b<H.next->Z.get b = .dead)/\Rows Z 1 nv (kX T.nums)/\rows.length=j/\∀ a (h1:a<j) (h2:a<rows.length) (h3:a<T.nums.length),dA Z (T.thing T.nums[a]) rows[a]) ?_
  ⟨aW,[],Z4,rfl,g5,hd4,rz,rfl,fun a h=>by omega⟩
 rintro j _ H5 X0 hj hX ⟨u,rows,Z,rfl,g,hd,rz,hrl,hrow⟩;rcases Nat.lt_or_ge j T.nums.length with hjl | hjl
 rotate_left
 ·have hjl':¬ (j:Int)<T.nums.length:=by omega
  have hbo:=g.box (k:=1) (b:=H.next+1) rfl;have hlo:bM 1 (ptr (H.next+1) 0) H5=some (.agg #[u]):=by rw [dV,hbo]; rfl
  have hpu:plain1 u=true:=(g.rows (k:=2) rfl).plain
  have hst:storeN 1 (ptr H.next 0) (.agg #[u]) H5=some (H5.put H.next (.cells [u] none)):=by
   rw [eS,g.box (k:=0) (b:=H.next) rfl];simp [hpu,splice]
  have g6:=g.put (k:=0) (b:=H.next) rfl [u];have g6:Has H Z (H5.put H.next (.cells [u] none)) [bN H.next [u],bN (H.next+1) [u],bP 5 u rows]:=g6;have hlo2:bM 1 (ptr H.next 0) (H5.put H.next (.cells [u] none))=some (.agg #[u]):=by rw [dV,g6.box (k:=0) (b:=H.next) rfl]; rfl
  simp only [F.f103_l1,bI,hjl',decide_false,hlo,hst,hlo2,bO];obtain ⟨Z7,w1,w2,g7⟩:=g6.freeze (k:=2) rfl;have w2:cB zH Z7 5 u rows:=w2;refine hQ u _ g6.ext ?_;have hlt:=g6.box_lt (k:=0) (b:=H.next) rfl;refine cP.sub ⟨rows,w2.toRows,by rw [hrl]; show j=(T.nums.map T.thing).length; rw [List.length_map]; omega,fun a h1 h2 =>?_⟩ (g7.sub.since hlt fun b hb=>by rw [w1.2 b hb]; exact hd b hb)
  have h1':a<T.nums.length:=by simpa [Tr.snap] using h1
  have:T.snap[a]=T.thing T.nums[a]:=by simp [Tr.snap]
  rw [this];exact (hrow a (by omega) h2 h1').sub w1.1
 have hX:=hX hjl;have hjl':(j:Int)<T.nums.length:=by omega
 obtain ⟨b,o,p1,p2⟩:=(rz.sub g.sub).ix (i:=j) (by rw [gO]; exact hjl)
 have hrw:(kX T.nums)[j]'(by rw [gO]; exact hjl)=[u16 T.nums[j]]:=by simp [kX]
 rw [hrw] at p2;have p3:(H5.get b).cell o=some (u16 T.nums[j]):=by have:=dK p2 (j:=0) (by omega); simpa using this
 have hkn:(T.node T.nums[j]).kind≠0#8:=(Tr.nums_mem (by omega) _).1 (List.getElem_mem hjl)
 have fin:∀ Z' u' c H',Fz H.next Z Z'->Has H Z' H' [bN H.next [aW],bN (H.next+1) [u'],bP 5 u' (rows++[c])]->dA Z' (T.thing T.nums[j]) c->X0 [ptr w 0,ptr H.next 0,ptr (H.next+1) 0,nv,vi T.nums.length,vi ((j+1:Nat):Int)] H':=by
  intro Z' u' c H' f g' ht;refine hX _ _ ⟨u',rows++[c],Z',rfl,g',fun b hb=>by rw [f.2 b hb]; exact hd b hb,rz.sub f.1,by simp; omega,fun a h1 h2 h3 =>?_⟩
  by_cases ha:a<rows.length
  ·rw [List.getElem_append_left ha]
   exact (hrow a (by omega) ha h3).sub f.1
  ·have:a=j:=by omega
   subst this;rw [List.getElem_append_right (by omega)]
   simpa [hrl] using ht
 generalize T.nums[j]=n at *;obtain ⟨⟨p',m',L'',q'',nx',s1,s2,s3⟩,_⟩:=hwm _ g.ext;simp only [F.f103_l1,bI,hjl',decide_true,p1,p3,s1,bO];refine S.f13 hE s2 n ?_;rcases s2.get n with ⟨k0,_⟩ | ⟨kk,yy,k0,k1,k2,k3,k4⟩
 ·exact (hkn k0).elim
 have so:=vL (cM.bytes (s2.node k1)).toRows;have c1:(inC n (T.node n) yy)[1]? = some (u8 (T.node n).kind):=rfl;have c2:(inC n (T.node n) yy)[2]? = some yy.data:=rfl;have c5:(inC n (T.node n) yy)[5]? = some (str (T.node n).text):=rfl;have hdl:=wf.data n
 have htl:(T.node n).text.length<=120:=by
  by_cases h3:(T.node n).kind=3#8
  ·exact ((kd n).text h3).2
  ·rw [(kd n).notext h3]; simp
 have hadd:=eB ((T.node n).data.map UInt8.ofBitVec) (T.node n).text (by rw [List.length_map]; omega)
 have hcont:(T.node n).data.map UInt8.ofBitVec++(T.node n).text=(T.thing n).content:=rfl;rw [hcont] at hadd;have hbv:bW [(0,1),(1,1),(2,1),(3,1),(4,1)] #[(.int .u16 0),(.int .u8 0),(.string ⟨#[]⟩),(.slice none 0 0),(.slice none 0 0)] [(0,u16 n),(1,u8 (T.node n).kind),(2,str (T.thing n).content)]=some (.agg [u16 n,u8 (T.node n).kind,str (T.thing n).content,aW,aW].toArray):=rfl;have z5:([(.int .u16 0),(.int .u8 0),(.string ⟨#[]⟩),aW,aW]:List Value).length=5:=rfl
 have hst:storeN 5 (ptr H5.next 0) (.agg [u16 n,u8 (T.node n).kind,str (T.thing n).content,aW,aW].toArray) (H5.new (.cells [(.int .u16 0),(.int .u8 0),(.string ⟨#[]⟩),(.slice none 0 0),(.slice none 0 0)] none))=some (H5.new (.cells [u16 n,u8 (T.node n).kind,str (T.thing n).content,aW,aW] none)):=by
  rw [eS,AH.get_new_self];have h3:AM.splice [(.int .u16 0),(.int .u8 0),(.string ⟨#[]⟩),(.slice none 0 0),(.slice none 0 0)] 0 [u16 n,u8 (T.node n).kind,str (T.thing n).content,aW,aW]=[u16 n,u8 (T.node n).kind,str (T.thing n).content,aW,aW]:=rfl;have h4:([u16 n,u8 (T.node n).kind,str (T.thing n).content,aW,aW]:List Value).all plain1=true:=rfl;have h5:([u16 n,u8 (T.node n).kind,str (T.thing n).content,aW,aW]:List Value).length=5:=rfl;have h6:([(.int .u16 0),(.int .u8 0),(.string ⟨#[]⟩),(.slice none 0 0),(.slice none 0 0)]:List Value).length=5:=rfl;simp only [List.size_toArray,List.toList_toArray,h5,h4,h6,Nat.zero_add,Nat.le_refl,and_self,if_true,h3,AH.new_put]
 have g6:=g.newbox [u16 n,u8 (T.node n).kind,str (T.thing n).content,aW,aW];have e56:Ext H5 (H5.new (.cells [u16 n,u8 (T.node n).kind,str (T.thing n).content,aW,aW] none)):=(Ext.refl _).new _;have n2:(.int .u8 2:Value)=u8 2#8:=rfl;simp only [bR s2.cov.nd k1,k3,c1,c2,c5,so,hadd,hbv,dX,hst,e56.cells k3,n2,iS,bO];generalize hH6:H5.new (.cells [u16 n,u8 (T.node n).kind,str (T.thing n).content,aW,aW] none)=H6 at *;generalize H5.next=tb at *;have g6:Has H Z H6 [bN H.next [aW],bN (H.next+1) [u],bP 5 u rows,bN tb [u16 n,u8 (T.node n).kind,str (T.thing n).content,aW,aW]]:=g6
 by_cases h2:(T.node n).kind=2#8
 ·obtain ⟨⟨p3',m3,L3,q3',nx3,t1,t2,t3⟩,_⟩:=hwm _ g6.ext
  have hsz:=wf.size n;simp only [h2,decide_true,t1,bO];refine S.f12 hE t2 n (wf.rising n) (by omega) fun nv2 H7 e7 r7 f7 =>?_
  obtain ⟨Z7,z7,g7,zr7⟩:=g6.callee e7;have rz7:=zr7 1 nv2 _ r7.toRows f7;rw [Tr.entries_eq wf] at rz7;have hl7:=nS (rz7.sub g7.sub);rw [List.length_map] at hl7
  have hst7:aN (ptr tb 3) nv2 H7=some (H7.put tb (.cells [u16 n,u8 (T.node n).kind,str (T.thing n).content,nv2,aW] none)):=by
   rw [aF,if_pos rz7.plain,g7.box (k:=3) (b:=tb) rfl]; rfl
  have g8:=g7.put (k:=3) (b:=tb) rfl [u16 n,u8 (T.node n).kind,str (T.thing n).content,nv2,aW];have g8:Has H Z7 (H7.put tb (.cells [u16 n,u8 (T.node n).kind,str (T.thing n).content,nv2,aW] none)) [bN H.next [aW],bN (H.next+1) [u],bP 5 u rows,bN tb [u16 n,u8 (T.node n).kind,str (T.thing n).content,nv2,aW]]:=g8;have hb8:=g8.box (k:=3) (b:=tb) rfl;have c3:([u16 n,u8 (T.node n).kind,str (T.thing n).content,nv2,aW]:List Value)[3]? = some nv2:=rfl;have hf7:Fz H.next Z Z7:=z7.le g6.ext.1;simp only [hst7,hb8,c3,hl7,bO];exact aIS hE hwm wf h2 g8 rz7 (by omega) (by omega) (by omega) fun Z' u' c H' f g' ht=>fin Z' u' c H' (hf7.trans f) g' ht
 ·have hen:=Tr.ents_dir wf h2
  have ht:dA Z (T.thing n) [u16 n,u8 (T.node n).kind,str (T.thing n).content,aW,aW]:=⟨aW,aW,rfl,by show Rows Z 1 aW (kJ ((T.node n).ents.map Prod.fst)); rw [hen]; exact Rows.nil _ _ none,by show Rows Z 1 aW (kX ((T.node n).ents.map Prod.snd)); rw [hen]; exact Rows.nil _ _ none⟩
  simp only [h2,decide_false,bO];exact aGM hE g6 rfl rfl (by omega) (by omega) fun u' H' g'=>fin Z u' _ H' (Fz.refl _ _) g' ht
end
end Go.AM
end
section
namespace Go.AM
set_option maxRecDepth 20000
structure bE where
 how:BitVec 8
 number:BitVec 16
 name:aM
 old:BitVec 16
 new:BitVec 16
 deriving DecidableEq
def bE.cells (c:bE):List Value:=[u8 c.how,u16 c.number,str c.name,u16 c.old,u16 c.new]
def dM (l:List bE):List (List Value):=l.map bE.cells
theorem eO (l:List bE):(dM l).length=l.length:=by simp [dM]
theorem wI (l:List bE):∀ r∈dM l,r.all plain1=true:=by
 intro r hr;obtain ⟨x,_,rfl⟩:=List.mem_map.1 hr
 rfl
abbrev aEO:=List (aM×BitVec 16)
def rD (n:BitVec 16) (x y:aM×BitVec 16):List bE:=if x.2=y.2 then [] else [⟨6#8,n,x.1,x.2,y.2⟩]
def cQ (n:BitVec 16):aEO->aEO->List bE
 | [],[]=>[]
 | [],y :: b=>⟨4#8,n,y.1,0#16,y.2⟩ :: cQ n [] b
 | x :: a,[]=>⟨5#8,n,x.1,x.2,0#16⟩ :: cQ n a []
 | x :: a,y :: b=>if x.1<y.1 then ⟨5#8,n,x.1,x.2,0#16⟩ :: cQ n a (y :: b) else if y.1<x.1 then ⟨4#8,n,y.1,0#16,y.2⟩ :: cQ n (x :: a) b else rD n x y++cQ n a b
termination_by a b=>a.length+b.length
decreasing_by all_goals simp_wf <;> omega
theorem xA (n:BitVec 16) (a b:aEO):(cQ n a b).length<=a.length+b.length:=by
 induction a,b using cQ.induct with
 | case1=>simp [cQ]
 | case2 y b ih=>rw [cQ]; simp at ih ⊢; omega
 | case3 x a ih=>rw [cQ]; simp at ih ⊢; omega
 | case4 x a y b h ih=>rw [cQ,if_pos h]; simp at ih ⊢; omega
 | case5 x a y b h h2 ih=>rw [cQ,if_neg h,if_pos h2]; simp at ih ⊢; omega
 | case6 x a y b h h2 ih =>
  rw [cQ,if_neg h,if_neg h2,List.length_append];have:(rD n x y).length<=1:=by unfold rD; split <;> simp
  simp at ih ⊢; omega
def qN (x y:eL):Bool:=decide (x.kind=y.kind)&&decide (x.content=y.content)
def yK (x y:eL):List bE:=(if qN x y=true then [] else [⟨3#8,x.number,[],0#16,0#16⟩])++if x.kind=y.kind then cQ x.number x.ents y.ents else []
def cS:List eL->List eL->List bE
 | [],[]=>[]
 | [],y :: b=>⟨1#8,y.number,[],0#16,0#16⟩ :: cS [] b
 | x :: a,[]=>⟨2#8,x.number,[],0#16,0#16⟩ :: cS a []
 | x :: a,y :: b=>if x.number.toNat<y.number.toNat then ⟨2#8,x.number,[],0#16,0#16⟩ :: cS a (y :: b) else if y.number.toNat<x.number.toNat then ⟨1#8,y.number,[],0#16,0#16⟩ :: cS (x :: a) b else yK x y++cS a b
termination_by a b=>a.length+b.length
decreasing_by all_goals simp_wf <;> omega
def jX (l:List eL):Nat:=(l.map fun x=>1+x.ents.length).sum
theorem aE5 (x y:eL):(yK x y).length<=1+x.ents.length+y.ents.length:=by
 unfold yK;rw [List.length_append];have h1:(if qN x y=true then [] else [(⟨3#8,x.number,[],0#16,0#16⟩:bE)]).length<=1:=by split <;> simp
 have h2:(if x.kind=y.kind then cQ x.number x.ents y.ents else []).length<=x.ents.length+y.ents.length:=by
  split
  ·exact xA _ _ _
  ·simp
 omega
theorem aCN (a b:List eL):(cS a b).length<=jX a+jX b:=by
 induction a,b using cS.induct with
 | case1=>simp [cS,jX]
 | case2 y b ih=>rw [cS]; simp [jX] at ih ⊢; omega
 | case3 x a ih=>rw [cS]; simp [jX] at ih ⊢; omega
 | case4 x a y b h ih=>rw [cS,if_pos h]; simp [jX] at ih ⊢; omega
 | case5 x a y b h h2 ih=>rw [cS,if_neg h,if_pos h2]; simp [jX] at ih ⊢; omega
 | case6 x a y b h h2 ih =>
  rw [cS,if_neg h,if_neg h2,List.length_append];have:=aE5 x y;simp [jX] at ih ⊢; omega
section
variable {E:Sy} {H H' H0 Z:AH} {Q:Value->AH->Prop} {w t:Nat} {T:Tr} {M:List bT} {L:List Res} {v:Value}
def aGY (a b:aM):Int:=if a<b then -1 else if b<a then 1 else 0
theorem S.f5 (hE:bK E) (a:aM) (hQ:Q (vb false) H):E.call (E.fid i.f5) [str a] H Q:=by
 apply hE.f5;simp [F.f5];exact hQ
theorem sG (a b:aM):cN .lss (str a) (str b)=some (vb (decide (a<b))):=by
 rw [uL,dR]
theorem aBk {a b:aM} (h:¬ a<b) (h':a≠b):b<a:=by
 by_cases h2:b<a
 ·exact h2
 ·exact (h' (rZ a b (by rw [dR]; simpa using h) (by rw [dR]; simpa using h2))).elim
theorem xK (a b:aM):cN .gtr (str a) (str b)=some (vb (decide (b<a))):=by
 simp only [jN,cN,oY];rw [dR]
 congr 2
 by_cases h1:a<b
 ·have h2:¬ b<a:=fun h=>iY a (lK h1 h)
  simp [h1,h2]
 ·by_cases h3:a=b
  ·subst h3
   simp [h1]
  ·have h2:=aBk h1 h3
   simp [h1,h2,h3]
theorem S.f1 (hE:bK E) (a b:aM) (hQ:Q (vi (aGY a b)) H):E.call (E.fid i.f1) [str a,str b] H Q:=by
 apply hE.f1;simp only [F.f1];refine S.f5 hE a ?_;refine S.f5 hE b ?_;unfold aGY at hQ
 by_cases h1:a<b
 ·rw [if_pos h1] at hQ
  simp only [sG,h1,decide_true,bO];exact hQ
 ·rw [if_neg h1] at hQ
  by_cases h2:b<a
  ·rw [if_pos h2] at hQ
   simp only [sG,xK,h1,h2,decide_true,decide_false,bO];exact hQ
  ·rw [if_neg h2] at hQ
   simp only [sG,xK,h1,h2,decide_false,bO];exact hQ
theorem dA.name {x:eL} {nv:Value} (h:Rows H 1 nv (kJ (x.ents.map Prod.fst))) {q:Nat} (hq:q<x.ents.length):∃ b o,aG 1 nv (vi (q:Int))=some (ptr b o)/\(H.get b).cell o=some (str (x.ents[q]).1):=by
 obtain ⟨b,o,p1,p2,_⟩:=aB8 h (i:=q) (by rw [List.length_map]; exact hq)
 rw [List.getElem_map] at p2;exact ⟨b,o,p1,p2⟩
theorem dA.inode {x:eL} {iv:Value} (h:Rows H 1 iv (kX (x.ents.map Prod.snd))) {q:Nat} (hq:q<x.ents.length):∃ b o,aG 1 iv (vi (q:Int))=some (ptr b o)/\(H.get b).cell o=some (u16 (x.ents[q]).2):=by
 obtain ⟨b,o,p1,p2⟩:=h.ix (i:=q) (by rw [gO,List.length_map]; exact hq)
 have hrow:(kX (x.ents.map Prod.snd))[q]'(by rw [gO,List.length_map]; exact hq)=[u16 (x.ents[q]).2]:=by simp [kX]
 rw [hrow] at p2;exact ⟨b,o,p1,by have:=dK p2 (j:=0) (by omega); simpa using this⟩
abbrev chZ:Array Value := #[(.int .u8 0),(.int .u16 0),(.string ⟨#[]⟩),(.int .u16 0),(.int .u16 0)]
theorem chS (c:bE):buildS 1 5 chZ [(0,.agg c.cells.toArray)]=some (.cells c.cells none,dZ 1 1):=eJ 5 [u8 0#8,u16 0#16,str [],u16 0#16,u16 0#16] c.cells rfl rfl
theorem Has.chg {k:Nat} {u:Value} {l:List bE} (g:Has H0 Z H L) (hk:L[k]? = some (bP 5 u (dM l))) (c:bE) (hl:l.length<2 ^ 40) :
  ∃ u' H',AM.app 5 32 u (slc H.next 0 1 1) (H.new (.cells c.cells none))=some (u',H')/\Has H0 Z H' (L.set k (bP 5 u' (dM (l++[c])))):=by
 obtain ⟨u',H',a1,_,g'⟩:=g.app1 (k:=k) (bytes:=32) hk c.cells rfl rfl (by decide) (by decide) (by rw [eO]; omega)
 have:dM l++[c.cells]=dM (l++[c]):=by simp [dM]
 rw [this] at g';exact ⟨u',H',a1,g'⟩
theorem S.f104 (hE:bK E) (x y:eL) (ca cb:List Value) (hx:dA H x ca) (hy:dA H y cb) (hl:x.ents.length<2 ^ 30/\y.ents.length<2 ^ 30)
  (hQ:∀ v H',Ext H H'->Rows H' 5 v (dM (cQ x.number x.ents y.ents))->Q v H'):E.call (E.fid i.f104) [.agg ca.toArray,.agg cb.toArray] H Q:=by
 apply hE.f104;obtain ⟨nv1,iv1,rfl,n1,m1⟩:=hx;obtain ⟨nv2,iv2,rfl,n2,m2⟩:=hy;have g0:Has H H H []:=Has.start (Ext.refl H);have g2:=((g0.newbox [u16 x.number,u8 x.kind,str x.content,nv1,iv1]).newbox [u16 y.number,u8 y.kind,str y.content,nv2,iv2]).nils 5;simp only [F.f104,jJ,AM.dN,jI,List.toList_toArray,bO];have zn:(.slice none 0 0:Value)=aW:=rfl;have i0:(.int .i64 0:Value)=vi ((0:Nat):Int):=rfl;have g2:Has H H ((H.new (.cells [u16 x.number,u8 x.kind,str x.content,nv1,iv1] none)).new (.cells [u16 y.number,u8 y.kind,str y.content,nv2,iv2] none)) [bN H.next [u16 x.number,u8 x.kind,str x.content,nv1,iv1],bN (H.next+1) [u16 y.number,u8 y.kind,str y.content,nv2,iv2],bP 5 aW (dM [])]:=g2;rw [zn,i0];generalize (H.new (.cells [u16 x.number,u8 x.kind,str x.content,nv1,iv1] none)).new (.cells [u16 y.number,u8 y.kind,str y.content,nv2,iv2] none)=H2 at *
 refine aP.ind (fun m ls H'=>∃ (a b:Nat) (u:Value) (done:List bE),m=(x.ents.length - a)+(y.ents.length - b)/\a<=x.ents.length/\b<=y.ents.length/\ls=[ptr H.next 0,ptr (H.next+1) 0,u,vi (a:Int),vi (b:Int)]/\Has H H H' [bN H.next [u16 x.number,u8 x.kind,str x.content,nv1,iv1],bN (H.next+1) [u16 y.number,u8 y.kind,str y.content,nv2,iv2],bP 5 u (dM done)] /\
  done++cQ x.number (x.ents.drop a) (y.ents.drop b)=cQ x.number x.ents y.ents) ?_ (x.ents.length+y.ents.length) ⟨0,0,aW,[],by omega,by omega,by omega,rfl,g2,by simp⟩
 rintro m _ H3 X ih ⟨a,b,u,done,rfl,ha,hb,rfl,g,heq⟩;have b1:=g.box (k:=0) (b:=H.next) rfl;have b2:=g.box (k:=1) (b:=H.next+1) rfl;have c13:([u16 x.number,u8 x.kind,str x.content,nv1,iv1]:List Value)[3]? = some nv1:=rfl;have c14:([u16 x.number,u8 x.kind,str x.content,nv1,iv1]:List Value)[4]? = some iv1:=rfl;have c10:([u16 x.number,u8 x.kind,str x.content,nv1,iv1]:List Value)[0]? = some (u16 x.number):=rfl;have c23:([u16 y.number,u8 y.kind,str y.content,nv2,iv2]:List Value)[3]? = some nv2:=rfl;have c24:([u16 y.number,u8 y.kind,str y.content,nv2,iv2]:List Value)[4]? = some iv2:=rfl;have l1:=nS (n1.mono g.ext);have l2:=nS (n2.mono g.ext);rw [List.length_map] at l1 l2;have haa:=eA (i:=a) (by omega)
 have hbb:=eA (i:=b) (by omega)
 have hdl:done.length<2 ^ 40:=by
  have h1:=congrArg List.length heq;have h2:=xA x.number x.ents y.ents;rw [List.length_append] at h1;omega
 have z0:(.int .u16 0:Value)=u16 0#16:=rfl
 have left:∀ (ha':a<x.ents.length),(cQ x.number (x.ents.drop a) (y.ents.drop b)=⟨5#8,x.number,(x.ents[a]).1,(x.ents[a]).2,0#16⟩ :: cQ x.number (x.ents.drop (a+1)) (y.ents.drop b))->F.f104_j1 E Q X (ptr H.next 0) (ptr (H.next+1) 0) u (vi a) (vi b) (vi (-1)) H3:=by
  intro ha' he;obtain ⟨q1,q2,q3,q4⟩:=dA.name (n1.mono g.ext) ha';obtain ⟨r1,r2,r3,r4⟩:=dA.inode (m1.mono g.ext) ha';have hbv:bW [(0,1),(1,1),(2,1),(3,1),(4,1)] chZ [(0,(.int .u8 5)),(1,u16 x.number),(2,str (x.ents[a]).1),(3,u16 (x.ents[a]).2),(4,(.int .u16 0))]=some (.agg (bE.cells ⟨5#8,x.number,(x.ents[a]).1,(x.ents[a]).2,0#16⟩).toArray):=rfl;obtain ⟨u',H4,a1,g4⟩:=g.chg (k:=2) rfl ⟨5#8,x.number,(x.ents[a]).1,(x.ents[a]).2,0#16⟩ hdl;have hneg:((-1:Int)<0):=by decide
  simp only [F.f104_j1,bI,hneg,decide_true,b1,c10,c13,c14,q3,q4,r3,r4,hbv,chS,a1,haa,bO];exact ih _ (by omega) _ _ ⟨a+1,b,u',_,rfl,by omega,hb,rfl,g4,by rw [List.append_assoc,List.singleton_append,<- he]; exact heq⟩
 have right:∀ (hb':b<y.ents.length),(cQ x.number (x.ents.drop a) (y.ents.drop b)=⟨4#8,x.number,(y.ents[b]).1,0#16,(y.ents[b]).2⟩ :: cQ x.number (x.ents.drop a) (y.ents.drop (b+1)))->F.f104_j1 E Q X (ptr H.next 0) (ptr (H.next+1) 0) u (vi a) (vi b) (vi 1) H3:=by
  intro hb' he;obtain ⟨q1,q2,q3,q4⟩:=dA.name (n2.mono g.ext) hb';obtain ⟨r1,r2,r3,r4⟩:=dA.inode (m2.mono g.ext) hb';have hbv:bW [(0,1),(1,1),(2,1),(3,1),(4,1)] chZ [(0,(.int .u8 4)),(1,u16 x.number),(2,str (y.ents[b]).1),(3,(.int .u16 0)),(4,u16 (y.ents[b]).2)]=some (.agg (bE.cells ⟨4#8,x.number,(y.ents[b]).1,0#16,(y.ents[b]).2⟩).toArray):=rfl;obtain ⟨u',H4,a1,g4⟩:=g.chg (k:=2) rfl ⟨4#8,x.number,(y.ents[b]).1,0#16,(y.ents[b]).2⟩ hdl;have hneg:¬ ((1:Int)<0):=by decide
  have hpos:((0:Int)<1):=by decide
  simp only [F.f104_j1,bI,cU,gt_iff_lt,hneg,hpos,decide_true,decide_false,b1,b2,c10,c23,c24,q3,q4,r3,r4,hbv,chS,a1,hbb,bO];exact ih _ (by omega) _ _ ⟨a,b+1,u',_,rfl,ha,by omega,rfl,g4,by rw [List.append_assoc,List.singleton_append,<- he]; exact heq⟩
 have both:∀ (ha':a<x.ents.length) (hb':b<y.ents.length),(cQ x.number (x.ents.drop a) (y.ents.drop b)=rD x.number x.ents[a] y.ents[b]++cQ x.number (x.ents.drop (a+1)) (y.ents.drop (b+1)))->F.f104_j1 E Q X (ptr H.next 0) (ptr (H.next+1) 0) u (vi a) (vi b) (vi 0) H3:=by
  intro ha' hb' he;obtain ⟨q1,q2,q3,q4⟩:=dA.name (n1.mono g.ext) ha';obtain ⟨r1,r2,r3,r4⟩:=dA.inode (m1.mono g.ext) ha';obtain ⟨s1,s2,s3,s4⟩:=dA.inode (m2.mono g.ext) hb';have hneg:¬ ((0:Int)<0):=by decide
  unfold rD at he
  by_cases hee:(x.ents[a]).2=(y.ents[b]).2
  ·rw [if_pos hee,List.nil_append] at he
   simp only [F.f104_j1,F.f104_j2,bI,cU,gt_iff_lt,hneg,decide_false,b1,b2,c14,c24,r3,r4,s3,s4,rM,hee,ne_eq,not_true,haa,hbb,bO];exact ih _ (by omega) _ _ ⟨a+1,b+1,u,done,rfl,by omega,by omega,rfl,g,by rw [<- he]; exact heq⟩
  ·rw [if_neg hee] at he
   have hbv:bW [(0,1),(1,1),(2,1),(3,1),(4,1)] chZ [(0,(.int .u8 6)),(1,u16 x.number),(2,str (x.ents[a]).1),(3,u16 (x.ents[a]).2),(4,u16 (y.ents[b]).2)]=some (.agg (bE.cells ⟨6#8,x.number,(x.ents[a]).1,(x.ents[a]).2,(y.ents[b]).2⟩).toArray):=rfl;obtain ⟨u',H4,a1,g4⟩:=g.chg (k:=2) rfl ⟨6#8,x.number,(x.ents[a]).1,(x.ents[a]).2,(y.ents[b]).2⟩ hdl;simp only [F.f104_j1,F.f104_j2,bI,cU,gt_iff_lt,hneg,decide_false,decide_true,b1,b2,c10,c13,c14,c24,q3,q4,r3,r4,s3,s4,rM,hee,ne_eq,not_false_eq_true,hbv,chS,a1,haa,hbb,bO];exact ih _ (by omega) _ _ ⟨a+1,b+1,u',_,rfl,by omega,by omega,rfl,g4,by rw [List.append_assoc,<- he]; exact heq⟩
 by_cases ha':a<x.ents.length
 ·have hai:(a:Int)<x.ents.length:=by omega
  have hane:¬ ((a:Int)=x.ents.length):=by omega
  have da:=List.drop_eq_getElem_cons ha'
  by_cases hb':b<y.ents.length
  ·have hbne:¬ ((b:Int)=y.ents.length):=by omega
   have db:=List.drop_eq_getElem_cons hb';obtain ⟨q1,q2,q3,q4⟩:=dA.name (n1.mono g.ext) ha';obtain ⟨r1,r2,r3,r4⟩:=dA.name (n2.mono g.ext) hb';simp only [F.f104_l1,b1,b2,c13,c23,l1,l2,bI,aT,hai,hane,hbne,decide_true,decide_false,q3,q4,r3,r4,bO];refine S.f1 hE _ _ ?_;unfold aGY
   by_cases h1:(x.ents[a]).1<(y.ents[b]).1
   ·rw [if_pos h1]
    refine left ha' ?_;rw [da,db,cQ,if_pos h1]
   ·rw [if_neg h1]
    by_cases h2:(y.ents[b]).1<(x.ents[a]).1
    ·rw [if_pos h2]
     refine right hb' ?_;rw [da,db,cQ,if_neg h1,if_pos h2]
    ·rw [if_neg h2]
     refine both ha' hb' ?_;rw [da,db,cQ,if_neg h1,if_neg h2]
  ·have hbe:(b:Int)=y.ents.length:=by omega
   have db:y.ents.drop b=[]:=List.drop_of_length_le (by omega)
   simp only [F.f104_l1,b1,b2,c13,c23,l1,l2,bI,aT,hai,hane,hbe,decide_true,decide_false,bO];rw [<- hbe];refine left ha' ?_;rw [da,db,cQ]
 ·have hai:¬ (a:Int)<x.ents.length:=by omega
  have hae:(a:Int)=x.ents.length:=by omega
  have da:x.ents.drop a=[]:=List.drop_of_length_le (by omega)
  by_cases hb':b<y.ents.length
  ·have hbi:(b:Int)<y.ents.length:=by omega
   have db:=List.drop_eq_getElem_cons hb';simp only [F.f104_l1,b1,b2,c13,c23,l1,l2,bI,aT,hae,hbi,Int.lt_irrefl,decide_true,decide_false,bO];rw [<- hae];refine right hb' ?_;rw [da,db,cQ]
  ·have hbi:¬ (b:Int)<y.ents.length:=by omega
   have db:y.ents.drop b=[]:=List.drop_of_length_le (by omega)
   rw [da,db,cQ,List.append_nil] at heq;simp only [F.f104_l1,b1,b2,c13,c23,l1,l2,bI,hai,hbi,decide_false,bO];refine hQ u H3 g.ext ?_;rw [<- heq];exact g.rows (k:=2) rfl
end
end Go.AM
end
section
namespace Go.AM
set_option maxRecDepth 20000
section
variable {E:Sy} {H H' H0 Z:AH} {Q:Value->AH->Prop} {w t:Nat} {T:Tr} {M:List bT} {L:List Res} {v:Value}
theorem S.f105 (hE:bK E) (x y:eL) (ca cb:List Value) (hx:dA H x ca) (hy:dA H y cb) (hQ:∀ H',Ext H H'->Q (vb (qN x y)) H'):E.call (E.fid i.f105) [.agg ca.toArray,.agg cb.toArray] H Q:=by
 apply hE.f105;obtain ⟨nv1,iv1,rfl,_⟩:=hx;obtain ⟨nv2,iv2,rfl,_⟩:=hy;have g2:=((Has.start (Ext.refl H)).newbox [u16 x.number,u8 x.kind,str x.content,nv1,iv1]).newbox [u16 y.number,u8 y.kind,str y.content,nv2,iv2];have g2:Has H H ((H.new (.cells [u16 x.number,u8 x.kind,str x.content,nv1,iv1] none)).new (.cells [u16 y.number,u8 y.kind,str y.content,nv2,iv2] none)) [bN H.next [u16 x.number,u8 x.kind,str x.content,nv1,iv1],bN (H.next+1) [u16 y.number,u8 y.kind,str y.content,nv2,iv2]]:=g2;simp only [F.f105,jJ,AM.dN,jI,List.toList_toArray,bO];generalize (H.new (.cells [u16 x.number,u8 x.kind,str x.content,nv1,iv1] none)).new (.cells [u16 y.number,u8 y.kind,str y.content,nv2,iv2] none)=H2 at *;have b1:=g2.box (k:=0) (b:=H.next) rfl;have b2:=g2.box (k:=1) (b:=H.next+1) rfl;have c11:([u16 x.number,u8 x.kind,str x.content,nv1,iv1]:List Value)[1]? = some (u8 x.kind):=rfl;have c12:([u16 x.number,u8 x.kind,str x.content,nv1,iv1]:List Value)[2]? = some (str x.content):=rfl;have c21:([u16 y.number,u8 y.kind,str y.content,nv2,iv2]:List Value)[1]? = some (u8 y.kind):=rfl;have c22:([u16 y.number,u8 y.kind,str y.content,nv2,iv2]:List Value)[2]? = some (str y.content):=rfl;have hQ:=hQ H2 g2.ext;unfold qN at hQ
 by_cases hk:x.kind=y.kind
 ·rw [hk] at hQ c11 b1
  simp only [decide_true,Bool.true_and] at hQ;rw [<- hk] at b1;simp only [b1,b2,c21,iS,hk,decide_true,bO];have c11':([u16 x.number,u8 y.kind,str x.content,nv1,iv1]:List Value)[1]? = some (u8 y.kind):=rfl;have c12':([u16 x.number,u8 y.kind,str x.content,nv1,iv1]:List Value)[2]? = some (str x.content):=rfl;simp only [c11',c12',c22,iS,decide_true,pU,bO];exact hQ
 ·simp only [hk,decide_false,Bool.false_and] at hQ
  simp only [b1,b2,c11,c21,iS,hk,decide_false,bO];exact hQ
theorem cP.elem {l:List eL} (h:cP H v l) {i:Nat} (hi:i<l.length):∃ b o c,aG 5 v (vi (i:Int))=some (ptr b o)/\bM 5 (ptr b o) H=some (.agg c.toArray)/\dA H l[i] c/\(H.get b).cell o=some (u16 (l[i]).number)/\(H.get b).cell (o+1)=some (u8 (l[i]).kind):=by
 obtain ⟨b,o,c,h1,h2,h3⟩:=h.ix hi;refine ⟨b,o,c,h1,by rw [dV,h2]; rfl,h3,?_,?_⟩
 ·obtain ⟨nv,iv,rfl,_⟩:=h3
  have:=dK h2 (j:=0) (by omega); simpa using this
 ·obtain ⟨nv,iv,rfl,_⟩:=h3
  have:=dK h2 (j:=1) (by omega); simpa using this
theorem cP.tail {x:eL} {l:List eL} (h:cP H v (x :: l)):∃ v',cP H v' l/\∀ H',Ext H H'->dW 5 v (some (.int .i64 1)) none none H'=some v':=by
 obtain ⟨rows,h1,h2,h3⟩:=h;have i1:(.int .i64 1:Value)=vi ((1:Nat):Int):=rfl
 have key:∀ H',Ext H H'->dW 5 v (some (vi ((1:Nat):Int))) none none H'=some (gV 5 v 1 rows.length)/\Rows H' 5 (gV 5 v 1 rows.length) ((rows.take rows.length).drop 1):=fun H' e =>
  (h1.mono e).slice' (.inl rfl) (.inr ⟨rfl,rfl⟩) (by rw [h2]; simp) (Nat.le_refl _)
 refine ⟨gV 5 v 1 rows.length,⟨rows.drop 1,?_,?_,?_⟩,fun H' e=>by rw [i1]; exact (key H' e).1⟩
 ·have:=(key H (Ext.refl _)).2
  rw [List.take_length] at this;exact this
 ·rw [List.length_drop,h2]; simp
 ·intro i a b
  rw [List.getElem_drop];have:=h3 (1+i) (by simp at a ⊢; omega) (by simp at b; omega)
  rw [List.getElem_cons] at this
  simpa using this
theorem S.f102 (hE:bK E) {va vb':Value} {la lb:List eL} (ha:cP H va la) (hb:cP H vb' lb) (hla:la.length<2 ^ 40/\lb.length<2 ^ 40) (hea:∀ x∈la,x.ents.length<2 ^ 30) (heb:∀ x∈lb,x.ents.length<2 ^ 30) (hn:(cS la lb).length<2 ^ 40)
  (hQ:∀ v H',Ext H H'->Rows H' 5 v (dM (cS la lb))->fH H.next v->Q v H'):E.call (E.fid i.f102) [.agg #[va],.agg #[vb']] H Q:=by
 apply hE.f102;have g2:=(((Has.start (Ext.refl H)).newbox [va]).newbox [vb']).nils 5;have g2:Has H H ((H.new (.cells [va] none)).new (.cells [vb'] none)) [bN H.next [va],bN (H.next+1) [vb'],bP 5 aW (dM [])]:=g2;have b1:=g2.box (k:=0) (b:=H.next) rfl;have b2:=g2.box (k:=1) (b:=H.next+1) rfl;have zn:(.slice none 0 0:Value)=aW:=rfl;have hbo:∀ x:Value,(.agg #[x]:Value) = .agg [x].toArray:=fun x=>rfl;simp only [F.f102,hbo,jJ,AM.dN,jI,List.toList_toArray,zn,bO];generalize (H.new (.cells [va] none)).new (.cells [vb'] none)=H2 at *;simp only [b1,b2,bO];have g3:=(g2.drop 1).drop 0;have g3:Has H H H2 [bP 5 aW (dM [])]:=g3;refine aP.ind (fun m ls H'=>∃ (la' lb':List eL) (u t6 t7:Value) (done:List bE),m=la'.length+lb'.length/\ls=[u,t6,t7]/\Has H H H' [bP 5 u (dM done)]/\cP H t6 la'/\cP H t7 lb'/\done++cS la' lb'=cS la lb/\(∀ x∈la',x.ents.length<2 ^ 30)/\(∀ x∈lb',x.ents.length<2 ^ 30)/\la'.length<=la.length/\lb'.length<=lb.length) ?_ (la.length+lb.length) ⟨la,lb,aW,va,vb',[],rfl,rfl,g3,ha,hb,rfl,hea,heb,Nat.le_refl _,Nat.le_refl _⟩;clear b1 b2 g3 g2;rintro m _ H3 X ih ⟨la',lb',u,t6,t7,done,rfl,rfl,g,hA,hB,heq,hea',heb',n1,n2⟩
 have hdl:done.length+(cS la' lb').length<2 ^ 40:=by
  have h1:=congrArg List.length heq;rw [List.length_append] at h1;omega
 have mA:=fO.lenSlc (fO.mono hA (fun _ _ _ _ h e=>dA.sub h e.sub) g.ext);have mB:=fO.lenSlc (fO.mono hB (fun _ _ _ _ h e=>dA.sub h e.sub) g.ext);have i0:∀ v:Value,aG 5 v (.int .i64 0)=aG 5 v (vi ((0:Nat):Int)):=fun _=>rfl;have sA:cP H3 t6 la':=cP.sub hA g.ext.sub;have sB:cP H3 t7 lb':=cP.sub hB g.ext.sub;cases la' with
 | nil =>
  cases lb' with
  | nil =>
   rw [cS,List.append_nil] at heq;have z1:AM.lenSlc t6=some (vi 0):=mA;have z2:AM.lenSlc t7=some (vi 0):=mB;simp only [F.f102_l1,dF,dI,dO,z1,z2,cU,gt_iff_lt,Int.lt_irrefl,decide_false,bO];refine hQ u H3 g.ext (by rw [<- heq]; exact g.rows (k:=0) rfl) fun b hb =>?_
   exact ((g.all _ (List.mem_singleton.2 rfl)).2 b (by simp [bP,eP,hb])).1
  | cons y lb' =>
   have z1:AM.lenSlc t6=some (vi 0):=mA;have hp:(0:Int)<((y :: lb').length:Nat):=by simp only [List.length_cons]; omega
   have hne:¬ (((y :: lb').length:Nat):Int)=0:=by simp only [List.length_cons]; omega
   obtain ⟨b,o,c,q1,q2,q3,q4,_⟩:=sB.elem (i:=0) (by simp)
   have q4:(H3.get b).cell o=some (u16 y.number):=q4;obtain ⟨t7',hB',hs⟩:=hB.tail;rw [cS] at heq hdl;obtain ⟨u',H4,a1,g4⟩:=g.chg (k:=0) rfl ⟨1#8,y.number,[],0#16,0#16⟩ (by omega)
   have hbv:bW [(0,1),(1,1),(2,1),(3,1),(4,1)] chZ [(0,(.int .u8 1)),(1,u16 y.number)]=some (.agg (bE.cells ⟨1#8,y.number,[],0#16,0#16⟩).toArray):=rfl;have hs4:=hs H4 g4.ext;simp only [F.f102_l1,dF,dI,dO,z1,mB,cU,gt_iff_lt,Int.lt_irrefl,hp,hne,aT,decide_true,decide_false,i0,q1,q4,hbv,chS,a1,hs4,bO];exact ih _ (by simp) _ _ ⟨[],lb',u',t6,t7',_,rfl,rfl,g4,hA,hB',by rw [List.append_assoc]; exact heq,hea',fun x hx=>heb' x (by simp [hx]),n1,by simp at n2; omega⟩
 | cons x la' =>
  have hpa:(0:Int)<((x :: la').length:Nat):=by simp only [List.length_cons]; omega
  have hna:¬ (((x :: la').length:Nat):Int)=0:=by simp only [List.length_cons]; omega
  obtain ⟨b,o,c,q1,q2,q3,q4,q5⟩:=sA.elem (i:=0) (by simp)
  have q4:(H3.get b).cell o=some (u16 x.number):=q4;obtain ⟨t6',hA',hs⟩:=hA.tail
  have gone:cS (x :: la') lb'=⟨2#8,x.number,[],0#16,0#16⟩ :: cS la' lb'->∃ u' H4,AM.app 5 32 u (slc H3.next 0 1 1) (H3.new (.cells (bE.cells ⟨2#8,x.number,[],0#16,0#16⟩) none))=some (u',H4)/\dW 5 t6 (some (.int .i64 1)) none none H4=some t6'/\X [u',t6',t7] H4:=by
   intro he;rw [he] at heq hdl;obtain ⟨u',H4,a1,g4⟩:=g.chg (k:=0) rfl ⟨2#8,x.number,[],0#16,0#16⟩ (by omega)
   exact ⟨u',H4,a1,hs H4 g4.ext,ih _ (by simp) _ _ ⟨la',lb',u',t6',t7,_,rfl,rfl,g4,hA',hB,by rw [List.append_assoc]; exact heq,fun z hz=>hea' z (by simp [hz]),heb',by simp at n1; omega,n2⟩⟩
  have hbv2:bW [(0,1),(1,1),(2,1),(3,1),(4,1)] chZ [(0,(.int .u8 2)),(1,u16 x.number)]=some (.agg (bE.cells ⟨2#8,x.number,[],0#16,0#16⟩).toArray):=rfl;cases lb' with
  | nil =>
   have z2:AM.lenSlc t7=some (vi 0):=mB;obtain ⟨u',H4,a1,a2,a3⟩:=gone (by rw [cS])
   simp only [F.f102_l1,dF,dI,dO,mA,z2,cU,gt_iff_lt,hpa,aT,decide_true,i0,q1,q4,hbv2,chS,a1,a2,bO];exact a3
  | cons y lb' =>
   have hpb:(0:Int)<((y :: lb').length:Nat):=by simp only [List.length_cons]; omega
   have hnb:¬ (((y :: lb').length:Nat):Int)=0:=by simp only [List.length_cons]; omega
   obtain ⟨b',o',c',r1,r2,r3,r4,r5⟩:=sB.elem (i:=0) (by simp)
   have r4:(H3.get b').cell o'=some (u16 y.number):=r4;obtain ⟨t7',hB',hsB⟩:=hB.tail
   by_cases hlt:x.number.toNat<y.number.toNat
   ·obtain ⟨u',H4,a1,a2,a3⟩:=gone (by rw [cS,if_pos hlt])
    simp only [F.f102_l1,dF,dI,dO,mA,mB,cU,gt_iff_lt,hpa,hnb,aT,zW,hlt,decide_true,decide_false,i0,q1,q4,r1,r4,hbv2,chS,a1,a2,bO];exact a3
   by_cases hgt:y.number.toNat<x.number.toNat
   ·rw [cS,if_neg hlt,if_pos hgt] at heq hdl
    obtain ⟨u',H4,a1,g4⟩:=g.chg (k:=0) rfl ⟨1#8,y.number,[],0#16,0#16⟩ (by omega)
    have hbv:bW [(0,1),(1,1),(2,1),(3,1),(4,1)] chZ [(0,(.int .u8 1)),(1,u16 y.number)]=some (.agg (bE.cells ⟨1#8,y.number,[],0#16,0#16⟩).toArray):=rfl;have hs4:=hsB H4 g4.ext;simp only [F.f102_l1,dF,dI,dO,mA,mB,cU,gt_iff_lt,hpa,hna,hnb,aT,zW,hlt,hgt,decide_true,decide_false,i0,q1,q4,r1,r4,hbv,chS,a1,hs4,bO];exact ih _ (by simp) _ _ ⟨x :: la',lb',u',t6,t7',_,rfl,rfl,g4,hA,hB',by rw [List.append_assoc]; exact heq,hea',fun z hz=>heb' z (by simp [hz]),n1,by simp at n2; omega⟩
   rw [cS,if_neg hlt,if_neg hgt] at heq hdl;have q3:dA H3 x c:=q3;have r3:dA H3 y c':=r3;simp only [F.f102_l1,dF,dI,dO,mA,mB,cU,gt_iff_lt,hpa,hna,hnb,aT,zW,hlt,hgt,decide_true,decide_false,i0,q1,q2,q4,r1,r2,r4,bO];refine S.f105 hE x y c c' q3 r3 fun H4 e4 =>?_;have g4:=g.grow e4
   have j2:∀ u' H5 done',Has H H H5 [bP 5 u' (dM done')]->done'++cS la' lb'=cS la lb->F.f102_j2 E Q X u' t6 t7 H5:=by
    intro u' H5 done' g5 he;simp only [F.f102_j2,hs H5 g5.ext,hsB H5 g5.ext,bO];exact ih _ (by simp only [List.length_cons]; omega) _ _ ⟨la',lb',u',t6',t7',done',rfl,rfl,g5,hA',hB',he,fun z hz=>hea' z (by simp [hz]),fun z hz=>heb' z (by simp [hz]),by simp at n1; omega,by simp at n2; omega⟩
   have j1:∀ u' H5 done',Has H H H5 [bP 5 u' (dM done')]->(done'++if x.kind=y.kind then cQ x.number x.ents y.ents else [])++cS la' lb'=cS la lb->F.f102_j1 E Q X u' t6 t7 H5:=by
    intro u' H5 done' g5 he;have sA5:cP H5 t6 (x :: la'):=cP.sub hA g5.ext.sub;have sB5:cP H5 t7 (y :: lb'):=cP.sub hB g5.ext.sub;obtain ⟨b,o,c,q1,q2,q3,_,q5⟩:=sA5.elem (i:=0) (by simp)
    obtain ⟨b',o',c',r1,r2,r3,_,r5⟩:=sB5.elem (i:=0) (by simp)
    have q3:dA H5 x c:=q3;have r3:dA H5 y c':=r3;have q5:(H5.get b).cell (o+1)=some (u8 x.kind):=q5;have r5:(H5.get b').cell (o'+1)=some (u8 y.kind):=r5
    by_cases hk:x.kind=y.kind
    ·rw [if_pos hk] at he
     simp only [F.f102_j1,i0,q1,q2,q5,r1,r2,r5,iS,hk,decide_true,bO];refine S.f104 hE x y c c' q3 r3 ⟨hea' x (by simp),heb' y (by simp)⟩ fun v6 H6 e6 r6 =>?_
     have g6:=g5.grow e6
     have hln:done'.length+(cQ x.number x.ents y.ents).length<2 ^ 40:=by
      have h1:=congrArg List.length he;rw [List.length_append,List.length_append] at h1;omega
     obtain ⟨u7,H7,a1,_,g7⟩:=g6.app (k:=0) (bytes:=32) rfl r6 (wI _) (by decide) (by decide) (by rw [eO,eO]; omega) (by rw [eO,eO]; omega)
     have hcr:dM done'++dM (cQ x.number x.ents y.ents)=dM (done'++cQ x.number x.ents y.ents):=by simp [dM]
     rw [hcr] at g7;simp only [a1,bO];exact j2 u7 H7 _ g7 he
    ·rw [if_neg hk,List.append_nil] at he
     simp only [F.f102_j1,i0,q1,q5,r1,r5,iS,hk,decide_false,bO];exact j2 u' H5 done' g5 he
   unfold yK at heq;cases hsm:qN x y with
   | true =>
    rw [hsm,if_pos rfl,List.nil_append] at heq;simp only [bO];exact j1 u H4 done g4 (by rw [List.append_assoc]; exact heq)
   | false =>
    rw [hsm,if_neg (by simp)] at heq
    have sA4:cP H4 t6 (x :: la'):=cP.sub sA e4.sub;obtain ⟨b,o,c,q1,q2,q3,q4,q5⟩:=sA4.elem (i:=0) (by simp)
    have q4:(H4.get b).cell o=some (u16 x.number):=q4;have hbv:bW [(0,1),(1,1),(2,1),(3,1),(4,1)] chZ [(0,(.int .u8 3)),(1,u16 x.number)]=some (.agg (bE.cells ⟨3#8,x.number,[],0#16,0#16⟩).toArray):=rfl;obtain ⟨u',H5,a1,g5⟩:=g4.chg (k:=0) rfl ⟨3#8,x.number,[],0#16,0#16⟩ (by omega)
    simp only [i0,q1,q4,hbv,chS,a1,bO];refine j1 u' H5 _ g5 ?_;rw [<- heq];simp only [List.append_assoc]
end
end Go.AM
end
section
namespace Go.AM
set_option maxRecDepth 20000
def tN (n:Nat):UInt8:=UInt8.ofNat (48+n)
def cZ (n:Nat):List UInt8:=if h:9<n then cZ (n / 10)++[tN (n % 10)] else [tN n]
termination_by n
decreasing_by omega
theorem iQ {n:Nat} (h:n<=9):cZ n=[tN n]:=by
 rw [cZ]; simp; omega
theorem vB {n:Nat} (h:9<n):cZ n=cZ (n / 10)++[tN (n % 10)]:=by
 rw [cZ]; simp [h]
theorem qB:∀ (k n:Nat),n<10 ^ k->(cZ n).length<=k+1
 | 0,n,h=>by rw [iQ (by omega)]; simp
 | k+1,n,h=>by
  by_cases h9:9<n
  ·rw [vB h9,List.length_append]
   have:=qB k (n / 10) (by rw [Nat.pow_succ] at h; omega)
   simp; omega
  ·rw [iQ (by omega)]; simp
section
variable {E:Sy} {H H' H0 Z:AH} {Q:Value->AH->Prop}
theorem aDf {H:AH} (x:BitVec 64) (hx:x.toNat<=9):aA .add (.int .u64 48) (u64 x)=some (u64 (48#64+x))/\bB .u8 (u64 (48#64+x))=some (u8 ((48#64+x).setWidth 8))/\UInt8.ofBitVec ((48#64+x).setWidth 8)=tN x.toNat:=by
 refine ⟨aFZ 48#64 x,wQ _,?_⟩;unfold tN;apply UInt8.toNat_inj.1;simp
theorem aEP (y:BitVec 8):∃ H',Ext H H'/\∀ (K:Value->AH->Prop),K (str [UInt8.ofBitVec y]) H'->AM.mk (buildS 1 1 #[(.int .u8 0)] [(0,u8 y)]) H fun v9 H3=>opt (pE v9 H3) fun v10=>K v10 H3:=by
 have hb:buildS 1 1 #[(.int .u8 0)] [(0,u8 y)]=some (.cells [u8 y] none,dZ 1 1):=eJ 1 [u8 0#8] [u8 y] rfl rfl;refine ⟨H.new (.cells [u8 y] none),(Ext.refl _).new _,fun K hK =>?_⟩;have hr:Rows (H.new (.cells [u8 y] none)) 1 (slc H.next 0 1 1) (cG [y]):=Rows.made (rows:=[[u8 y]]) (AH.get_new_self _ _) (.inl rfl) rfl (by simp)
 have hs:=vL hr;simp only [hb,AM.dN,eN,hs,List.map_cons,List.map_nil,bO];exact hK
theorem S.f0 (hE:bK E):∀ (n:Nat) (x:BitVec 64) (_:x.toNat=n) (_:n<10 ^ 6) (H:AH) (Q:Value->AH->Prop) (_:∀ H',Ext H H'->Q (str (cZ n)) H'),E.call (E.fid i.f0) [u64 x] H Q:=by
 intro n
 induction n using Nat.strongRecOn with
 | _ n ih =>
 intro x hx hn H Q hQ;apply hE.f0;have n9:(.int .u64 9:Value)=u64 9#64:=rfl;have n10:(.int .u64 10:Value)=u64 10#64:=rfl
 by_cases h9:9<n
 ·have h9':(9#64).toNat<x.toNat:=by simp; omega
  have hq:(x / 10#64).toNat=n / 10:=by rw [BitVec.toNat_udiv,hx]; rfl
  have hr:(x % 10#64).toNat=n % 10:=by rw [BitVec.toNat_umod,hx]; rfl
  have q1:aA .quo (u64 x) (u64 10#64)=some (u64 (x / 10#64)):=aGs x 10#64 (by decide)
  have q2:aA .rem (u64 x) (u64 10#64)=some (u64 (x % 10#64)):=aFD x 10#64 (by decide)
  simp only [F.f0,n9,n10,aCd,h9',decide_true,q1,q2,bO];refine ih (n / 10) (by omega) _ hq (by omega) H _ fun H1 e1 =>?_
  refine ih (n % 10) (by omega) _ hr (by omega) H1 _ fun H2 e2 =>?_
  have l1:=qB 6 (n / 10) (by omega)
  rw [iQ (show n % 10<=9 by omega)]
  have hadd:=eB (cZ (n / 10)) [tN (n % 10)] (by simp; omega)
  rw [vB h9] at hQ;simp only [hadd,bO];exact hQ _ (e1.trans e2)
 ·have h9':¬ (9#64).toNat<x.toNat:=by simp; omega
  obtain ⟨d1,d2,d3⟩:=aDf (H:=H) x (by omega)
  rw [iQ (by omega)] at hQ
  simp only [F.f0,n9,aCd,h9',decide_false,d1,d2,bO];obtain ⟨H',e,hk⟩:=aEP (H:=H) ((48#64+x).setWidth 8);refine hk _ ?_;rw [d3,hx];exact hQ _ e
def pC:List (List UInt8):=[[63],[109,97,100,101],[103,111,110,101],[119,114,105,116,116,101,110],[97,100,100,101,100],[114,101,109,111,118,101,100],[116,117,114,110,101,100]]
def uN (h:BitVec 8):List UInt8:=pC.getD h.toNat [63]
def bE.text (c:bE):List UInt8:=uN c.how++([32]++cZ c.number.toNat) ++
 (if c.how=4#8 then ([32]++c.name++[32])++cZ c.new.toNat else if c.how=5#8 then ([32]++c.name++[32])++cZ c.old.toNat else if c.how=6#8 then (([32]++c.name++[32])++cZ c.old.toNat++[32])++cZ c.new.toNat else [])
theorem aD5 (x:BitVec 16):bB .u64 (u16 x)=some (u64 (x.setWidth 64))/\(x.setWidth 64).toNat=x.toNat/\x.toNat<10 ^ 6/\(cZ x.toNat).length<=7:=by
 have h:=x.isLt;refine ⟨aBQ x,by simp; omega,by omega,qB 6 _ (by omega)⟩
theorem aCX (h:BitVec 8):(uN h).length<=7:=by
 unfold uN;rw [List.getD_eq_getElem?_getD];cases hh:pC[h.toNat]? with
 | none=>simp
 | some x =>
  have:=List.mem_of_getElem? hh;have hall:∀ y∈pC,y.length<=7:=by decide
  exact hall x this
theorem aCe (hE:bK E) (c:bE) (hl:c.name.length<2 ^ 60) {b:Nat} (hb:H.get b = .cells c.cells none) (w:List UInt8) (hw:w.length<=7) (hQ:∀ H',Ext H H'->Q (str (w++([32]++cZ c.number.toNat) ++
 (if c.how=4#8 then ([32]++c.name++[32])++cZ c.new.toNat else if c.how=5#8 then ([32]++c.name++[32])++cZ c.old.toNat else if c.how=6#8 then (([32]++c.name++[32])++cZ c.old.toNat++[32])++cZ c.new.toNat else []))) H') :
  F.f101_j1 E Q (ptr b 0) (str w) H:=by
 obtain ⟨n1,n2,n3,n4⟩:=aD5 c.number;obtain ⟨o1,o2,o3,o4⟩:=aD5 c.old;obtain ⟨w1,w2,w3,w4⟩:=aD5 c.new;have c0:c.cells[0]? = some (u8 c.how):=rfl;have c1:c.cells[1]? = some (u16 c.number):=rfl;have c2:c.cells[2]? = some (str c.name):=rfl;have c3:c.cells[3]? = some (u16 c.old):=rfl;have c4:c.cells[4]? = some (u16 c.new):=rfl;have s32:(.string ⟨#[32]⟩:Value)=str [32]:=rfl;have k4:(.int .u8 4:Value)=u8 4#8:=rfl;have k5:(.int .u8 5:Value)=u8 5#8:=rfl;have k6:(.int .u8 6:Value)=u8 6#8:=rfl;simp only [F.f101_j1,hb,c1,n1,s32,bO];refine S.f0 hE _ _ n2 n3 H _ fun H1 e1 =>?_;have hb1:=e1.cells hb;have a1:=eB [32] (cZ c.number.toNat) (by simp; omega)
 have a2:=eB w ([32]++cZ c.number.toNat) (by simp; omega)
 have a3:=eB [32] c.name (by simp; omega)
 have a4:=eB ([32]++c.name) [32] (by simp; omega)
 have l3:([32]++c.name++[32]:List UInt8).length=c.name.length+2:=by simp
 have l2:(w++([32]++cZ c.number.toNat)).length<=15:=by simp; omega
 simp only [s32,a1,a2,hb1,c0,k4,k5,k6,iS,bO]
 by_cases h4:c.how=4#8
 ·rw [if_pos h4] at hQ
  simp only [k4,iS,h4,decide_true,hb1,c2,c4,s32,a3,a4,w1,bO];refine S.f0 hE _ _ w2 w3 H1 _ fun H2 e2 =>?_;have hb2:=e2.cells hb1;have a5:=eB ([32]++c.name++[32]) (cZ c.new.toNat) (by omega)
  have a6:=eB (w++([32]++cZ c.number.toNat)) (([32]++c.name++[32])++cZ c.new.toNat) (by rw [List.length_append (as:=[32]++c.name++[32])]; omega)
  refine ⟨by simp only [hb1,hb2,c2,bO],?_⟩
  simp only [s32,a5,a6,bO];exact hQ _ (e1.trans e2)
 rw [if_neg h4] at hQ
 by_cases h5:c.how=5#8
 ·rw [if_pos h5] at hQ
  have d:¬ (5#8:BitVec 8)=4#8:=by decide
  simp only [k4,k5,k6,iS,h5,d,decide_true,decide_false,hb1,c2,c3,s32,a3,a4,o1,bO];refine S.f0 hE _ _ o2 o3 H1 _ fun H2 e2 =>?_;have hb2:=e2.cells hb1;have a5:=eB ([32]++c.name++[32]) (cZ c.old.toNat) (by omega)
  have a6:=eB (w++([32]++cZ c.number.toNat)) (([32]++c.name++[32])++cZ c.old.toNat) (by rw [List.length_append (as:=[32]++c.name++[32])]; omega)
  refine ⟨by simp only [hb1,hb2,c2,bO],?_⟩
  simp only [s32,a5,a6,bO];exact hQ _ (e1.trans e2)
 rw [if_neg h5] at hQ
 by_cases h6:c.how=6#8
 ·rw [if_pos h6] at hQ
  have d:¬ (6#8:BitVec 8)=4#8:=by decide
  have d':¬ (6#8:BitVec 8)=5#8:=by decide
  simp only [k4,k5,k6,iS,h6,d,d',decide_true,decide_false,hb1,c2,c3,c4,s32,a3,a4,o1,w1,bO];refine S.f0 hE _ _ o2 o3 H1 _ fun H2 e2 =>?_;have hb2:=e2.cells hb1;have a5:=eB ([32]++c.name++[32]) (cZ c.old.toNat) (by omega)
  have l5:(([32]++c.name++[32])++cZ c.old.toNat).length<=c.name.length+9:=by rw [List.length_append]; omega
  have a6:=eB (([32]++c.name++[32])++cZ c.old.toNat) [32] (by simp only [List.length_singleton]; omega)
  have l6:((([32]++c.name++[32])++cZ c.old.toNat)++[32]).length<=c.name.length+10:=by rw [List.length_append,List.length_singleton]; omega
  refine ⟨by simp only [hb1,hb2,c4,bO],by simp only [hb1,hb2,c2,bO],?_⟩
  simp only [s32,a5,a6,bO];refine S.f0 hE _ _ w2 w3 H2 _ fun H3 e3 =>?_;have hb3:=e3.cells hb2;have a7:=eB ((([32]++c.name++[32])++cZ c.old.toNat)++[32]) (cZ c.new.toNat) (by omega)
  have a8:=eB (w++([32]++cZ c.number.toNat)) ((((([32]++c.name++[32])++cZ c.old.toNat)++[32]))++cZ c.new.toNat) (by rw [List.length_append (bs:=cZ c.new.toNat)]; omega)
  refine ⟨by simp only [hb1,hb3,c2,bO],?_⟩
  simp only [s32,a7,a8,bO];exact hQ _ (e1.trans (e2.trans e3))
 ·rw [if_neg h6,List.append_nil] at hQ
  simp only [k4,k5,k6,iS,h4,h5,h6,decide_false,bO];exact hQ _ e1
theorem S.f101 (hE:bK E) (c:bE) (hl:c.name.length<2 ^ 60) (hQ:∀ H',Ext H H'->Q (str c.text) H'):E.call (E.fid i.f101) [.agg c.cells.toArray] H Q:=by
 apply hE.f101;have x1:Ext H (H.new (.cells c.cells none)):=(Ext.refl _).new _;have hb1:=AH.get_new_self H (.cells c.cells none);have hbA:zF 1 #[(.string ⟨#[]⟩),(.string ⟨#[]⟩),(.string ⟨#[]⟩),(.string ⟨#[]⟩),(.string ⟨#[]⟩),(.string ⟨#[]⟩),(.string ⟨#[]⟩)] [(0,(.string ⟨#[63]⟩)),(1,(.string ⟨#[109,97,100,101]⟩)),(2,(.string ⟨#[103,111,110,101]⟩)),(3,(.string ⟨#[119,114,105,116,116,101,110]⟩)),(4,(.string ⟨#[97,100,100,101,100]⟩)),(5,(.string ⟨#[114,101,109,111,118,101,100]⟩)),(6,(.string ⟨#[116,117,114,110,101,100]⟩))]=some (.agg (pC.map str).toArray):=rfl;simp only [F.f101,jJ,AM.dN,jI,List.toList_toArray,hbA,dX,bO];have hn1:(H.new (.cells c.cells none)).next=H.next+1:=rfl;generalize hA:H.next=A at *;generalize H.new (.cells c.cells none)=H1 at *
 have hst:storeN 7 (ptr H1.next 0) (.agg (pC.map str).toArray) (H1.new (.cells [(.string ⟨#[]⟩),(.string ⟨#[]⟩),(.string ⟨#[]⟩),(.string ⟨#[]⟩),(.string ⟨#[]⟩),(.string ⟨#[]⟩),(.string ⟨#[]⟩)] none))=some (H1.new (.cells (pC.map str) none)):=by
  rw [eS,AH.get_new_self];have h3:AM.splice [(.string ⟨#[]⟩),(.string ⟨#[]⟩),(.string ⟨#[]⟩),(.string ⟨#[]⟩),(.string ⟨#[]⟩),(.string ⟨#[]⟩),(.string ⟨#[]⟩)] 0 (pC.map str)=pC.map str:=rfl;have h4:(pC.map str).all plain1=true:=rfl;have h5:(pC.map str).length=7:=rfl;have h6:([(.string ⟨#[]⟩),(.string ⟨#[]⟩),(.string ⟨#[]⟩),(.string ⟨#[]⟩),(.string ⟨#[]⟩),(.string ⟨#[]⟩),(.string ⟨#[]⟩)]:List Value).length=7:=rfl;simp only [List.size_toArray,List.toList_toArray,h5,h4,h6,Nat.zero_add,Nat.le_refl,and_self,if_true,h3,AH.new_put]
 have x2:Ext H1 (H1.new (.cells (pC.map str) none)):=(Ext.refl _).new _;have hb2:=AH.get_new_self H1 (.cells (pC.map str) none);have hb12:=x2.cells hb1;have ix0:oC 7 1 (ptr H1.next 0) (.int .i64 0)=some (ptr H1.next 0):=xF 7 1 H1.next 0 0 0 rfl (by omega)
 have w0:(pC.map str)[0]? = some (str [63]):=rfl;have c0:c.cells[0]? = some (u8 c.how):=rfl;have k6:(.int .u8 6:Value)=u8 6#8:=rfl;rw [hn1] at hst hb2 ix0 ⊢;simp only [hst,ix0,bO];generalize H1.new (.cells (pC.map str) none)=H2 at *;have e2:=x1.trans x2;simp only [hb2,w0,hb12,c0,k6,aGV,bO]
 by_cases h6:c.how.toNat<=(6#8).toNat
 ·have h6':c.how.toNat<7:=by simp at h6; omega
  have ix:oC 7 1 (ptr (A+1) 0) (u8 c.how)=some (ptr (A+1) c.how.toNat):=by rw [aFs,xF 7 1 (A+1) 0 c.how.toNat _ rfl h6']; simp
  have hw:(pC.map str)[c.how.toNat]? = some (str (uN c.how)):=by
   unfold uN;rw [List.getElem?_map,List.getD_eq_getElem?_getD,List.getElem?_eq_getElem (show c.how.toNat<pC.length from h6')]
   rfl
  simp only [h6,decide_true,hb12,c0,ix,hb2,hw,bO];exact aCe hE c hl hb12 _ (aCX _) fun H' e'=>hQ H' (e2.trans e')
 ·have hw:uN c.how=[63]:=by
   unfold uN;rw [List.getD_eq_getElem?_getD,List.getElem?_eq_none (by show 7<=_; simp at h6; omega)]
   rfl
  simp only [h6,decide_false,bO]
  exact aCe hE c hl hb12 [63] (by simp) fun H' e'=>by
   have:=hQ H' (e2.trans e');unfold bE.text at this;rw [hw] at this;exact this
end
end Go.AM
end
section
namespace Go.AM
set_option maxRecDepth 20000
theorem sX (T:Tr) (wf:T.WF):jX T.snap<=65536*33:=by
 have hl:T.nums.length<=65536:=by
  have:=wf.len16;unfold Tr.nums;refine Nat.le_trans (List.length_filter_le _ _) ?_;simp; omega
 have key:∀ l:List (BitVec 16),jX (l.map T.thing)<=l.length*33:=by
  intro l
  induction l with
  | nil=>simp [jX]
  | cons n l ih =>
   have:=wf.size n;have he:(T.thing n).ents.length=(T.node n).ents.length:=rfl;simp only [jX,List.map_cons,List.sum_cons,List.length_cons] at ih ⊢;omega
 have:=key T.nums;unfold Tr.snap;omega
theorem xS (T:Tr) (wf:T.WF):∀ x∈T.snap,x.ents.length<2 ^ 30:=by
 intro x hx;obtain ⟨n,_,rfl⟩:=List.mem_map.1 hx;have:=wf.size n;have he:(T.thing n).ents.length=(T.node n).ents.length:=rfl;omega
theorem aAX (T:Tr) (wf:T.WF):T.snap.length<=65536:=by
 have:=wf.len16;unfold Tr.snap Tr.nums;rw [List.length_map];refine Nat.le_trans (List.length_filter_le _ _) ?_;simp; omega
theorem vR (T T':Tr) (wf:T.WF) (wf':T'.WF):(cS T.snap T'.snap).length<=65536*66:=by
 have:=aCN T.snap T'.snap;have:=sX T wf;have:=sX T' wf';omega
section
variable {E:Sy} {H H' H0 Z:AH} {Q:Value->AH->Prop} {w t:Nat} {T T':Tr} {M:List bT} {v v':Value}
theorem S.snap_DiffT (hE:bK E) (ha:cP H v T.snap) (hb:cP H v' T'.snap) (wf:T.WF) (wf':T'.WF)
  (hQ:∀ v H',Ext H H'->Rows H' 5 v (dM (cS T.snap T'.snap))->fH H.next v->Q v H'):E.call (E.fid i.f102) [.agg #[v],.agg #[v']] H Q:=by
 have h1:=aAX T wf;have h2:=aAX T' wf';have h3:=vR T T' wf wf';exact S.f102 hE ha hb ⟨by omega,by omega⟩ (xS T wf) (xS T' wf') (by omega) hQ
def aDG:Tr:=(Tr.new 5).make 1#16 [97] 1#8 [] |>.1
theorem wW:(Tr.new 5).snap=[⟨1#16,2#8,[],[]⟩]/\aDG.snap=[⟨1#16,2#8,[],[([97],2#16)]⟩,⟨2#16,1#8,[],[]⟩]:=by
 constructor <;> decide +kernel
theorem aCL:cS (Tr.new 5).snap aDG.snap=[⟨4#8,1#16,[97],0#16,2#16⟩,⟨1#8,2#16,[],0#16,0#16⟩]:=by
 rw [wW.1,wW.2];simp [cS,yK,qN,cQ]
theorem Rows.chg {l:List bE} (h:Rows H 5 v (dM l)) {q:Nat} (hq:q<l.length):∃ b o,aG 5 v (vi (q:Int))=some (ptr b o)/\bM 5 (ptr b o) H=some (.agg (l[q]).cells.toArray)/\(H.get b).cell o=some (u8 (l[q]).how)/\(H.get b).cell (o+1)=some (u16 (l[q]).number)/\(H.get b).cell (o+2)=some (str (l[q]).name)/\(H.get b).cell (o+3)=some (u16 (l[q]).old)/\(H.get b).cell (o+4)=some (u16 (l[q]).new):=by
 obtain ⟨b,o,f1,f2⟩:=h.ix (i:=q) (by rw [eO]; exact hq)
 have hrow:(dM l)[q]'(by rw [eO]; exact hq)=(l[q]).cells:=by simp [dM]
 rw [hrow] at f2;refine ⟨b,o,f1,by rw [dV,f2]; rfl,?_,?_,?_,?_,?_⟩
 ·have:=dK f2 (j:=0) (by omega); simpa [bE.cells] using this
 ·have:=dK f2 (j:=1) (by omega); simpa [bE.cells] using this
 ·have:=dK f2 (j:=2) (by omega); simpa [bE.cells] using this
 ·have:=dK f2 (j:=3) (by omega); simpa [bE.cells] using this
 ·have:=dK f2 (j:=4) (by omega); simpa [bE.cells] using this
theorem S.f44 (hE:bK E) (hQ:∀ H',Ext H H'->Q (vb true) H'):E.call (E.fid i.f44) [] H Q:=by
 apply hE.f44;have s97:(.string ⟨#[97]⟩:Value)=str [97]:=rfl;have s0:(.string ⟨#[]⟩:Value)=str []:=rfl;have n1:(.int .u16 1:Value)=u16 1#16:=rfl;have k1:(.int .u8 1:Value)=u8 1#8:=rfl;simp only [F.f44,bO];refine S.f110 hE 5 fun w H1 h1 =>?_;have wf0:=Tr.new_wf 5;simp only [aDL,bO];refine S.f103 hE h1.at_ wf0 (Tr.KD.new 5) fun va H2 e2 sa =>?_;have hpa:plain1 va=true:=by obtain ⟨rows,h,_⟩:=sa; exact h.plain
 have hst:storeN 1 (ptr H2.next 0) (.agg #[va]) (H2.new (.cells [(.slice none 0 0)] none))=some (H2.new (.cells [va] none)):=by
  rw [eS,AH.get_new_self];simp [hpa,splice,AH.new_put]
 have x3:Ext H2 (H2.new (.cells [va] none)):=(Ext.refl _).new _;have hb3:=AH.get_new_self H2 (.cells [va] none);have h3:=h1.frz (e2.trans x3);obtain ⟨p,q,hw,⟨m,L,hi,ki⟩,_⟩:=h3.open_;simp only [dX,hst,hw,n1,s97,k1,s0,bO];generalize H2.new (.cells [va] none)=H3 at *;refine Ino.cMake hE hi wf0 1#16 [97] (by decide) 1#8 [] (by decide) ⟨by decide,by decide⟩ fun L' H5 u5 =>?_
 have h5:WkO [frR H1.next H3] H H5 w aDG kG 1:=ki _ _ _ u5;have z5:=h5.since (k:=0) rfl;have wf5:aDG.WF:=wf0.make _ _ _ _
 have hb5:H5.get H2.next = .cells [va] none:=by
  have hge:H1.next<=H2.next:=e2.1;rw [z5.2 H2.next (by rw [AH.since_get hge,hb3]; simp),AH.since_get hge,hb3]
 have sa5:cP H5 va (Tr.new 5).snap:=cP.sub (cP.sub sa (vG (Nat.le_refl _) x3)) z5;have lo:∀ {H'},Ext H5 H'->bM 1 (ptr H2.next 0) H'=some (.agg #[va]):=fun e=>by rw [dV,e.cells hb5]; rfl
 have kd5:aDG.KD:=Tr.Each.make gJ (Tr.KD.new 5) _ _ _ _;simp only [lo (Ext.refl _),bO];refine S.f103 hE h5.at_ wf5 kd5 fun vb' H6 e6 sb =>?_;refine ⟨(lo e6).trans (lo (Ext.refl _)).symm,?_⟩;refine S.snap_DiffT hE (cP.sub sa5 e6.sub) (cP.sub sb (xL _ _)) wf0 wf5 fun vd H7 e7 rd _ =>?_;rw [aCL] at rd;have hl:AM.lenSlc vd=some (vi 2):=rd.lenSlc;obtain ⟨b,o,f1,f2,f3,f4,f5,f6,f7⟩:=rd.chg (q:=0) (by simp)
 obtain ⟨b',o',g1,g2,_⟩:=rd.chg (q:=1) (by simp)
 have f3:(H7.get b).cell o=some (u8 4#8):=f3;have f5:(H7.get b).cell (o+2)=some (str [97]):=f5;have f7:(H7.get b).cell (o+4)=some (u16 2#16):=f7;have g2:bM 5 (ptr b' o') H7=some (.agg (bE.cells ⟨1#8,2#16,[],0#16,0#16⟩).toArray):=g2;have i0:(.int .i64 0:Value)=vi ((0:Nat):Int):=rfl;have i1:(.int .i64 1:Value)=vi ((1:Nat):Int):=rfl;have k4:(.int .u8 4:Value)=u8 4#8:=rfl;have n2:(.int .u16 2:Value)=u16 2#16:=rfl;have stx:(.string ⟨#[109,97,100,101,32,50]⟩:Value)=str [109,97,100,101,32,50]:=rfl;have ext:∀ H',Ext H7 H'->Ext H H':=fun H' e=>h5.ext.trans (e6.trans (e7.trans e));simp only [hl,aT,decide_true,i0,i1,f1,f3,k4,iS,bO];simp only [i0,i1,f1,f5,s97,pU,decide_true,bO];simp only [i0,i1,f1,f7,n2,aFP,decide_true,bO];simp only [i0,i1,g1,g2,bO];refine S.f101 hE ⟨1#8,2#16,[],0#16,0#16⟩ (by simp) fun H8 e8 =>?_
 have htx:(bE.mk 1#8 2#16 [] 0#16 0#16).text=[109,97,100,101,32,50]:=by
  unfold bE.text;rw [show (2#16:BitVec 16).toNat=2 from rfl,iQ (by omega)]
  decide
 rw [htx];simp only [stx,pU,decide_true,bO];exact hQ _ (ext _ e8)
end
end Go.AM
end
section
namespace Go.AM
set_option maxRecDepth 20000
section
variable {X:List Res} {E:Sy} {H H' H0 Z:AH} {Q:Value->AH->Prop} {w t:Nat} {T T':Tr} {M:List bT} {v v':Value} {nx:Int}
theorem GwO.frz (h:GwO X H0 H w t T M nx) (e:Ext H H'):GwO (X++[frR H.next H']) H0 H' w t T M nx:=by
 obtain ⟨nv,mv,Y,h,a,b⟩:=h;exact ⟨nv,mv,Y,h.frz e,a,b⟩
theorem GwO.since {K:AH} {k n:Nat} (h:GwO X H0 H w t T M nx) (hk:X[k]? = some (frR n K)):Sub (K.since n) H:=by
 obtain ⟨nv,mv,Y,h,a,b⟩:=h;exact h.since (k:=k+1) (by simpa using hk)
theorem aAi (hpa:plain1 v=true) (H:AH):storeN 1 (ptr H.next 0) (.agg #[v]) (H.new (.cells [(.slice none 0 0)] none))=some (H.new (.cells [v] none)):=by
 rw [eS,AH.get_new_self];simp [hpa,splice,AH.new_put]
theorem cP.plain {l:List eL} (h:cP H v l):plain1 v=true:=by obtain ⟨rows,h,_⟩:=h; exact h.plain
def aCq:List (BitVec 8×BitVec 8):=iN 6#8 6#8 (iN 5#8 4#8 (iN 4#8 5#8 (iN 3#8 3#8 (iN 2#8 1#8 (iN 1#8 2#8 [])))))
def oH (h:BitVec 8):BitVec 8:=(aCq.lookup h).getD 0#8
def bE.flip (c:bE):bE:=⟨oH c.how,c.number,c.name,c.new,c.old⟩
theorem fI:oH 1#8=2#8/\oH 2#8=1#8/\oH 3#8=3#8/\oH 4#8=5#8/\oH 5#8=4#8/\oH 6#8=6#8:=by decide
theorem aBP (n:BitVec 16) {x y:aM×BitVec 16} (h:x.1=y.1):rD n y x=(rD n x y).map bE.flip:=by
 unfold rD
 by_cases e:x.2=y.2
 ·rw [if_pos e,if_pos e.symm]; rfl
 ·rw [if_neg e,if_neg fun h=>e h.symm]
  simp [bE.flip,fI,h]
theorem aBJ (n:BitVec 16) (a b:aEO):cQ n b a=(cQ n a b).map bE.flip:=by
 induction a,b using cQ.induct with
 | case1=>simp [cQ]
 | case2 y b ih=>rw [cQ,cQ,ih]; simp [bE.flip,fI]
 | case3 x a ih=>rw [cQ,cQ,ih]; simp [bE.flip,fI]
 | case4 x a y b h ih =>
  have h':¬ y.1<x.1:=fun h2=>iY x.1 (lK h h2);rw [cQ,if_neg h',if_pos h,cQ.eq_4 n x a y b,if_pos h,ih];simp [bE.flip,fI]
 | case5 x a y b h h2 ih =>
  rw [cQ,if_pos h2,cQ.eq_4 n x a y b,if_neg h,if_pos h2,ih];simp [bE.flip,fI]
 | case6 x a y b h h2 ih =>
  have e:x.1=y.1:=rZ x.1 y.1 (by rw [dR]; simpa using h) (by rw [dR]; simpa using h2)
  rw [cQ,if_neg h2,if_neg h,cQ.eq_4 n x a y b,if_neg h,if_neg h2,ih,aBP n e,List.map_append]
theorem aCt {x y:eL} (h:x.number=y.number):yK y x=(yK x y).map bE.flip:=by
 have hs:qN y x=qN x y:=by
  unfold qN;rw [show decide (y.kind=x.kind)=decide (x.kind=y.kind) by rw [decide_eq_decide]; exact eq_comm,show decide (y.content=x.content)=decide (x.content=y.content) by rw [decide_eq_decide]; exact eq_comm]
 unfold yK;rw [hs,h,List.map_append]
 congr 1
 ·split
  ·rfl
  ·simp [bE.flip,fI]
 ·by_cases hk:x.kind=y.kind
  ·rw [if_pos hk,if_pos hk.symm,aBJ]
  ·rw [if_neg hk,if_neg fun h=>hk h.symm]; rfl
theorem aBr (a b:List eL):cS b a=(cS a b).map bE.flip:=by
 induction a,b using cS.induct with
 | case1=>simp [cS]
 | case2 y b ih=>rw [cS,cS,ih]; simp [bE.flip,fI]
 | case3 x a ih=>rw [cS,cS,ih]; simp [bE.flip,fI]
 | case4 x a y b h ih =>
  have h':¬ y.number.toNat<x.number.toNat:=by omega
  rw [cS,if_neg h',if_pos h,cS.eq_4 x a y b,if_pos h,ih];simp [bE.flip,fI]
 | case5 x a y b h h2 ih =>
  rw [cS,if_pos h2,cS.eq_4 x a y b,if_neg h,if_pos h2,ih];simp [bE.flip,fI]
 | case6 x a y b h h2 ih =>
  have e:x.number=y.number:=BitVec.eq_of_toNat_eq (by omega)
  rw [cS,if_neg h2,if_neg h,cS.eq_4 x a y b,if_neg h,if_neg h2,ih,aCt e,List.map_append]
def nM:List (BitVec 8):=[1#8,2#8,3#8,4#8,5#8,6#8]
theorem jO {d:bE} {l:List bE} (hd:d.how∈nM) (h:∀ c∈l,c.how∈nM):∀ c∈d :: l,c.how∈nM:=by
 intro c hc;rcases List.mem_cons.1 hc with rfl | hc
 ·exact hd
 ·exact h c hc
theorem aCU (n:BitVec 16) (a b:aEO):∀ c∈cQ n a b,c.how∈nM:=by
 induction a,b using cQ.induct with
 | case1=>simp [cQ]
 | case2 y b ih=>rw [cQ]; exact jO (by simp [nM]) ih
 | case3 x a ih=>rw [cQ]; exact jO (by simp [nM]) ih
 | case4 x a y b h ih=>rw [cQ,if_pos h]; exact jO (by simp [nM]) ih
 | case5 x a y b h h2 ih=>rw [cQ,if_neg h,if_pos h2]; exact jO (by simp [nM]) ih
 | case6 x a y b h h2 ih =>
  rw [cQ,if_neg h,if_neg h2];intro c hc;rcases List.mem_append.1 hc with hc | hc
  ·unfold rD at hc
   split at hc
   ·simp at hc
   ·simp only [List.mem_singleton] at hc
    subst hc;simp [nM]
  ·exact ih c hc
theorem aCC (a b:List eL):∀ c∈cS a b,c.how∈nM:=by
 induction a,b using cS.induct with
 | case1=>simp [cS]
 | case2 y b ih=>rw [cS]; exact jO (by simp [nM]) ih
 | case3 x a ih=>rw [cS]; exact jO (by simp [nM]) ih
 | case4 x a y b h ih=>rw [cS,if_pos h]; exact jO (by simp [nM]) ih
 | case5 x a y b h h2 ih=>rw [cS,if_neg h,if_pos h2]; exact jO (by simp [nM]) ih
 | case6 x a y b h h2 ih =>
  rw [cS,if_neg h,if_neg h2];intro c hc;rcases List.mem_append.1 hc with hc | hc
  ·unfold yK at hc
   rcases List.mem_append.1 hc with hc | hc
   ·split at hc
    ·simp at hc
    ·simp only [List.mem_singleton] at hc
     subst hc;simp [nM]
   ·split at hc
    ·exact aCU _ _ _ c hc
    ·simp at hc
  ·exact ih c hc
end
end Go.AM
end
section
namespace Go.AM
set_option maxRecDepth 20000
section
variable {X:List Res} {E:Sy} {H H' H0 Z:AH} {Q:Value->AH->Prop} {w t:Nat} {T T':Tr} {M:List bT} {v v':Value} {nx:Int}
theorem aBf {h:BitVec 8} (hh:h∈nM):aCq.lookup h=some (oH h):=by
 have:nM.all (fun h=>decide (aCq.lookup h=some (oH h)))=true:=by decide +kernel
 simpa using List.all_eq_true.1 this h hh
theorem aFX (hE:bK E) {l:List bE} {vx vy:Value} (hx:Rows H 5 vx (dM l)) (hy:Rows H 5 vy (dM (l.map bE.flip))) {r:Nat} (hm:fF u8 u8 H r aCq) (hh:∀ c∈l,c.how∈nM) (hl:l.length<2 ^ 60) (hQ:∀ H',Q (vb true) H') :
  aP (fun l H X0=>F.f45_l1 E Q (nth l 0) (nth l 1) (nth l 2) (nth l 3) (nth l 4) H X0) [vy,.map (some r),vx,vi l.length,(.int .i64 0)] H:=by
 have i0:(.int .i64 0:Value)=vi ((0:Nat):Int):=rfl;rw [i0];refine aP.count l.length (fun j ls H'=>ls=[vy,.map (some r),vx,vi l.length,vi j]/\Ext H H') ?_ ⟨rfl,Ext.refl _⟩;rintro j _ H1 X0 hj hX ⟨rfl,e1⟩;rcases Nat.lt_or_ge j l.length with hjl | hjl
 ·have hX:=hX hjl
  have hjl':(j:Int)<l.length:=by omega
  have hjj:=eA (i:=j) (by omega)
  obtain ⟨b,o,f1,f2,_⟩:=(hx.mono e1).chg hjl;have hj2:j<(l.map bE.flip).length:=by rw [List.length_map]; exact hjl
  have hc:=hh _ (List.getElem_mem hjl);have hfl:(l.map bE.flip)[j]=(l[j]).flip:=List.getElem_map _;generalize l[j]=c at *
  have hst:∀ (K:AH) (d:bE),storeN 5 (ptr K.next 0) (.agg d.cells.toArray) (K.new (.cells [(.int .u8 0),(.int .u16 0),(.string ⟨#[]⟩),(.int .u16 0),(.int .u16 0)] none))=some (K.new (.cells d.cells none)):=fun K d=>by
   rw [eS,AH.get_new_self];have h3:AM.splice [(.int .u8 0),(.int .u16 0),(.string ⟨#[]⟩),(.int .u16 0),(.int .u16 0)] 0 d.cells=d.cells:=rfl;have h4:d.cells.all plain1=true:=rfl;have h5:d.cells.length=5:=rfl;have h6:([(.int .u8 0),(.int .u16 0),(.string ⟨#[]⟩),(.int .u16 0),(.int .u16 0)]:List Value).length=5:=rfl;simp only [List.size_toArray,List.toList_toArray,h5,h4,h6,Nat.zero_add,Nat.le_refl,and_self,if_true,h3,AH.new_put]
  have x2:Ext H1 (H1.new (.cells c.cells none)):=(Ext.refl _).new _;have hb2:=AH.get_new_self H1 (.cells c.cells none);simp only [F.f45_l1,bI,hjl',decide_true,f1,f2,dX,hst,bO];generalize H1.next=a at *;generalize H1.new (.cells c.cells none)=H2 at *;have e2:=e1.trans x2;obtain ⟨b',o',g1,g2,_⟩:=(hy.mono e2).chg hj2;rw [hfl] at g2;have x3:Ext H2 (H2.new (.cells c.flip.cells none)):=(Ext.refl _).new _;have hb3:=AH.get_new_self H2 (.cells c.flip.cells none);have hb23:=x3.cells hb2;simp only [g1,g2,dX,hst,bO];generalize H2.new (.cells c.flip.cells none)=H3 at *;have e3:=e2.trans x3;have hlk:=(hm.keep (e3.get hm.lt)).look (kd:=0) (fun a b=>zJ a b) c.how (.int .u8 0) false;rw [aBf hc] at hlk;have hlk:look 0 (.int .u8 0) false (.map (some r)) (u8 c.how) H3=some (u8 (oH c.how)):=hlk;have c0:c.cells[0]? = some (u8 c.how):=rfl;have c1:c.cells[1]? = some (u16 c.number):=rfl;have c2:c.cells[2]? = some (str c.name):=rfl;have c3:c.cells[3]? = some (u16 c.old):=rfl;have c4:c.cells[4]? = some (u16 c.new):=rfl;have d0:c.flip.cells[0]? = some (u8 (oH c.how)):=rfl;have d1:c.flip.cells[1]? = some (u16 c.number):=rfl;have d2:c.flip.cells[2]? = some (str c.name):=rfl;have d3:c.flip.cells[3]? = some (u16 c.new):=rfl;have d4:c.flip.cells[4]? = some (u16 c.old):=rfl;simp only [hb3,hb23,c0,d0,hlk,aHv,ne_eq,not_true,decide_false,bO];simp only [hb3,hb23,c1,d1,rM,ne_eq,not_true,decide_false,bO];simp only [hb3,hb23,c2,d2,aB0,ne_eq,not_true,decide_false,bO];simp only [hb3,hb23,c3,c4,d3,d4,rM,ne_eq,not_true,decide_false,bO];simp only [hb3,hb23,c3,c4,d3,d4,rM,ne_eq,not_true,decide_false,hjj,bO];exact hX _ _ ⟨rfl,e3⟩
 ·have hjl':¬ (j:Int)<l.length:=by omega
  simp only [F.f45_l1,bI,hjl',decide_false,bO];exact hQ _
theorem S.f45 (hE:bK E) (av:Value) (acts:List eG) (hv:Rows H 14 av (acts.map eG.cells)) (hll:acts.length<=9223372036854775807) (hok:∀ x∈acts,x.act.ok H) (bv:Value) (more:List eG) (hv2:Rows H 14 bv (more.map eG.cells)) (hll2:more.length<=9223372036854775807) (hok2:∀ x∈more,x.act.ok H) (hQ:∀ H',Q (vb true) H'):E.call (E.fid i.f45) [av,bv] H Q:=by
 apply hE.f45;simp only [F.f45];refine S.f44 hE fun H1 e1 =>?_;simp only [bO];refine S.f41 hE av acts (hv.mono e1) hll (fun x hx=>(hok x hx).mono e1) fun H2 e2 =>?_;have e12:=e1.trans e2;cases hl:kU acts with
 | false =>
  simp only [bO];exact hQ _
 | true =>
 simp only [bO];refine S.f41 hE bv more (hv2.mono e12) hll2 (fun x hx=>(hok2 x hx).mono e12) fun H3 e3 =>?_;have e13:=e12.trans e3;cases hl2:kU more with
 | false =>
  simp only [bO];exact hQ _
 | true =>
 simp only [bO];refine S.f40 hE av acts (hv.mono e13) hll (fun x hx=>(hok x hx).mono e13) hl fun w t T M nx H6 h6 g6 =>?_;simp only [bO];refine S.f103 hE h6.at_ g6.wf g6.kd fun va H7 e7 sa =>?_;have x8:Ext H7 (H7.new (.cells [va] none)):=(Ext.refl _).new _;have hb8:=AH.get_new_self H7 (.cells [va] none);simp only [dX,aAi sa.plain,bO];generalize H7.new (.cells [va] none)=H8 at *;have h8:=h6.frz (e7.trans x8);refine S.f42 hE h8 g6 (by omega) bv more (hv2.mono e13) hll2 (fun x hx=>(hok2 x hx).mono e13) hl2 fun T' M' nx' H10 h10 g10 =>?_
 have z10:=h10.since (k:=0) rfl;have sa10:cP H10 va T.snap:=cP.sub (cP.sub sa (vG (Nat.le_refl _) x8)) z10;have hge:H6.next<=H7.next:=e7.1
 have hb10:H10.get H7.next = .cells [va] none:=by
  rw [z10.2 H7.next (by rw [AH.since_get hge,hb8]; simp),AH.since_get hge,hb8]
 refine S.f103 hE h10.at_ g10.wf g10.kd fun vb' H11 e11 sb =>?_;have x12:Ext H11 (H11.new (.cells [vb'] none)):=(Ext.refl _).new _;have hb12:=AH.get_new_self H11 (.cells [vb'] none);have hA:=x12.cells (e11.cells hb10);simp only [dX,aAi sb.plain,bO];generalize H11.new (.cells [vb'] none)=H12 at *;have lo1:∀ {H'},Ext H12 H'->bM 1 (ptr H7.next 0) H'=some (.agg #[va]):=fun e=>by rw [dV,e.cells hA]; rfl
 have lo2:∀ {H'},Ext H12 H'->bM 1 (ptr H11.next 0) H'=some (.agg #[vb']):=fun e=>by rw [dV,e.cells hb12]; rfl
 have sa12:cP H12 va T.snap:=cP.sub sa10 (e11.trans x12).sub;have sb12:cP H12 vb' T'.snap:=cP.sub (cP.sub sb (xL _ _)) x12.sub;simp only [lo1 (Ext.refl _),lo2 (Ext.refl _),bO];refine S.snap_DiffT hE sa12 sb12 g6.wf g10.wf fun vx H13 e13' rx _ =>?_;refine ⟨(lo1 e13').trans (lo1 (Ext.refl _)).symm,(lo2 e13').trans (lo2 (Ext.refl _)).symm,?_⟩;refine S.snap_DiffT hE (cP.sub sb12 e13'.sub) (cP.sub sa12 e13'.sub) g10.wf g6.wf fun vy H14 e14 ry _ =>?_;have hlen:=vR T T' g6.wf g10.wf;have hhow:=aCC T.snap T'.snap;rw [aBr T.snap T'.snap] at ry;have rx:=rx.mono e14;have l1:=rx.lenSlc;have l2:=ry.lenSlc;rw [eO] at l1 l2;rw [List.length_map] at l2;generalize cS T.snap T'.snap=l at *;simp only [l1,l2,cX,ne_eq,not_true,decide_false,aGu,bO];have g0:Has H14 H14 (H14.new (.map [] 0 true)) [eY u8 u8 H14.next ([]:List (BitVec 8×BitVec 8))]:=(Has.start (Ext.refl H14)).newmap u8 u8;generalize H14.next=r at *;generalize H14.new (.map [] 0 true)=H15 at *;have set1:∀ {K:AH} {ml:List (BitVec 8×BitVec 8)} (k x:BitVec 8),Has H14 H14 K [eY u8 u8 r ml]->∃ K',setMap 0 (.map (some r)) (u8 k) (u8 x) K=some K'/\Has H14 H14 K' [eY u8 u8 r (iN k x ml)]:=fun k x g=>g.mapset (n:=0) (kd:=0) rfl (fun a b=>zJ a b) k x;obtain ⟨K1,m1,g1⟩:=set1 1#8 2#8 g0;obtain ⟨K2,m2,g2⟩:=set1 2#8 1#8 g1;obtain ⟨K3,m3,g3⟩:=set1 3#8 3#8 g2;obtain ⟨K4,m4,g4⟩:=set1 4#8 5#8 g3;obtain ⟨K5,m5,g5⟩:=set1 5#8 4#8 g4;obtain ⟨K6,m6,g6'⟩:=set1 6#8 6#8 g5;have k1:(.int .u8 1:Value)=u8 1#8:=rfl;have k2:(.int .u8 2:Value)=u8 2#8:=rfl;have k3:(.int .u8 3:Value)=u8 3#8:=rfl;have k4:(.int .u8 4:Value)=u8 4#8:=rfl;have k5:(.int .u8 5:Value)=u8 5#8:=rfl;have k6:(.int .u8 6:Value)=u8 6#8:=rfl;simp only [k1,k2,m1,bO];simp only [k1,k2,m2,bO];simp only [k3,m3,bO];simp only [k4,k5,m4,bO];simp only [k4,k5,m5,bO];simp only [k6,m6,l1,bO];exact aFX hE (rx.mono g6'.ext) (ry.mono g6'.ext) (g6'.mapAt (k:=0) rfl) hhow (by omega) hQ
theorem S.law_SnapBack (hE:bK E) (args:List Value) (ha:jL H [.slice 14 yS,.slice 14 yS] args) (hQ:∀ H',Q (vb true) H'):E.call (E.fid i.f45) args H Q:=by
 obtain ⟨v1,_,rfl,h1,ha⟩:=ha.cons_inv;obtain ⟨v2,_,rfl,h2,ha⟩:=ha.cons_inv;obtain rfl:=ha.nil_inv;obtain ⟨l,q1,q2,q3⟩:=pD.gacts h1;obtain ⟨l2,r1,r2,r3⟩:=pD.gacts h2;exact S.f45 hE v1 l q1 q2 q3 v2 l2 r1 r2 r3 hQ
end
end Go.AM
end
