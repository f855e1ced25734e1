/- CONTRACTS ON THE PRINTED FUNCTIONS. -/
import Derived.Test.YtgeenpollgalkaaGreatDoorDcb1bC1
set_option linter.all false
section
namespace Go.AM
section
variable {E:Sy} {H0 H H' H'' H1:AH} {Q:Value->AH->Prop} {t:Nat} {nv nv' nv'' mv:Value} {nx:Int} {mr:List (List Value)} {Y Y' Y'':List RLy} {T T' T'':Tr}
theorem eB.setRow (h:eB H t nv mv nx mr Y T) {n:BitVec 16} (hn:n.toNat<T.N.length) (x':Nd) (hd:x'.data=[]) (he:x'.ents=[]) :
  ∃ b o H',aK 7 nv (vi (n.toNat:Int))=some (ptr b o)/\storeN 7 (ptr b o) (.agg (fM x' ⟨aW,aW⟩).cells.toArray) H=some H'/\gE t nv mv nx mr Y T nv (Y.set n.toNat ⟨aW,aW⟩) (T.upd n fun _=>x') H H':=by
 obtain ⟨y,b,o,h1,h2,h3⟩:=h.at_ hn;have hx:=Tr.node_get hn;have hylt:n.toNat<Y.length:=by rw [h.len]; exact hn
 have hz:(T.N.zip Y)[n.toNat]? = some (T.node n,y):=by simp [List.zip,List.getElem?_zipWith,hx,h1]
 have hi:n.toNat<(bY T Y).length:=by rw [h.rows_len]; exact hn
 obtain ⟨b',o',H',q1,q2,q3,q4⟩:=h.rows.storeN (i:=n.toNat) hi (fM x' ⟨aW,aW⟩).cells rfl rfl;have u1:=h.ow.set (rs:=dM t nv mv nx mr Y T) (k:=1) (r:=bT 7 nv (bY T Y)) (by simp [dM]) (bR.upd (v:=nv) (rows:=bY T Y) ⟨q4,fun b hb => .inl hb⟩ q3)
 have o1:=h.ow.upd u1;have hk3:((dM t nv mv nx mr Y T).set 1 (bT 7 nv ((bY T Y).set n.toNat (fM x' ⟨aW,aW⟩).cells)))[n.toNat+3]? = some (cH (T.node n) y):=by simp [dM,hz]
 have ue:Upd (cH (T.node n) y) (cH x' ⟨aW,aW⟩) H' H':=by
  refine ⟨dC.refl _ _,?_,?_,?_⟩
  ·intro r hr
   simp only [List.mem_cons,List.not_mem_nil,or_false] at hr;rcases hr with rfl | rfl
   ·rw [hd]; exact bR.nil _ _ _
   ·rw [he]; exact bR.nil _ _ _
  ·intro b hb
   simp [cH,cV,bT,eF,blk] at hb
  ·simp [cH,cV,bT,eF,blk]
 have u2:=o1.set hk3 ue;have hzz:=nN (fun _=>x') (⟨aW,aW⟩:RLy) hx hylt
 have he:((dM t nv mv nx mr Y T).set 1 (bT 7 nv ((bY T Y).set n.toNat (fM x' ⟨aW,aW⟩).cells))).set (n.toNat+3) (cH x' ⟨aW,aW⟩)=dM t nv mv nx mr (Y.set n.toNat ⟨aW,aW⟩) (T.upd n fun _=>x'):=by
  simp only [dM,bY,Tr.upd,hzz,List.map_set,List.set_cons_succ,List.set_cons_zero]
 have u3:=u1.trans u2;rw [he] at u3;exact ⟨b',o',H',q1,q2,u3,by simp [Tr.upd,h.len],by simpa [Tr.upd] using h.fit⟩
theorem eB.push (h:eB H t nv mv nx mr Y T) (hfit:T.N.length<60000) :
  ∃ v' H2 H3,AM.app 7 96 nv (slc H.next 0 1 1) (H.new (.cells (fM Nd.none ⟨aW,aW⟩).cells none))=some (v',H2)/\aR (ptr t 0) v' H2=some H3/\gE t nv mv nx mr Y T v' (Y++[⟨aW,aW⟩]) { T with N:=T.N++[Nd.none] } H H3:=by
 obtain ⟨v',H2,a1,a2,a3⟩:=h.rows.app1 (Nat.zero_le _) (bytes:=96) (fM Nd.none ⟨aW,aW⟩).cells rfl rfl (by decide) (by decide) (by rw [h.rows_len]; omega)
 have u1:=h.ow.set (rs:=dM t nv mv nx mr Y T) (k:=1) (r:=bT 7 nv (bY T Y)) (by simp [dM]) (bR.upd (v:=nv) (rows:=bY T Y) a3 a2)
 have o1:=h.ow.upd u1;have hh:H2.get t = .cells (bX.cells ⟨nv,T.limit,mv,nx,T.change⟩) none:=o1.holds (bN t (bX.cells ⟨nv,T.limit,mv,nx,T.change⟩)) (by simp [dM])
 have u2:=o1.set (rs:=(dM t nv mv nx mr Y T).set 1 (bT 7 v' (bY T Y++[(fM Nd.none ⟨aW,aW⟩).cells]))) (k:=0) (by simp [dM]) (bN.put hh (bX.cells ⟨v',T.limit,mv,nx,T.change⟩))
 have o2:=o1.upd u2
 have u3:=o2.add (cH Nd.none ⟨aW,aW⟩) (Ext.refl _) (by
  intro r hr;simp only [List.mem_cons,List.not_mem_nil,or_false] at hr;rcases hr with rfl | rfl
  ·exact bR.nil _ _ _
  ·exact bR.nil _ _ _) (by intro b hb; simp [cH,cV,bT,eF,blk] at hb) (by simp [cH,cV,bT,eF,blk])
 have he:(((dM t nv mv nx mr Y T).set 1 (bT 7 v' (bY T Y++[(fM Nd.none ⟨aW,aW⟩).cells]))).set 0 (bN t (bX.cells ⟨v',T.limit,mv,nx,T.change⟩)))++[cH Nd.none ⟨aW,aW⟩]=dM t v' mv nx mr (Y++[⟨aW,aW⟩]) { T with N:=T.N++[Nd.none] }:=by
  have hz:(T.N++[Nd.none]).zip (Y++[(⟨aW,aW⟩:RLy)])=T.N.zip Y++[(Nd.none,⟨aW,aW⟩)]:=by
   rw [List.zip_append h.len.symm]; rfl
  simp [dM,bY,hz]
 have u4:=u1.trans (u2.trans u3);rw [he] at u4;refine ⟨v',H2,_,a1,?_,u4,by simp [h.len],by simp; omega⟩
 rw [aM,if_pos a2.plain,hh];simp
theorem aKK (k:Int):aT [(0,1),(1,1),(2,1),(3,1),(4,1),(5,1),(6,1)] #[(.int .i64 0),(.slice none 0 0),(.slice none 0 0),(.int .i64 0),(.string ⟨#[]⟩),(.int .i64 0),(.int .i64 0)] [(0,vi k),(5,vi 1)]=some (.agg (bW.cells ⟨k,aW,aW,0,[],1,0⟩).toArray):=rfl
theorem Tr.put_same {a:Nat} (x:Nd) (h:a<T.N.length) (hlt:a<65536):T.upd (BitVec.ofNat 16 a) (fun _=>x)=T.put a x:=by
 have e:(BitVec.ofNat 16 a).toNat=a:=by rw [BitVec.toNat_ofNat,Nat.mod_eq_of_lt (by omega)]
 unfold Tr.upd Tr.put;rw [if_pos h,e]
 congr 1
 apply List.ext_getElem?;intro i;rw [List.getElem?_modify,List.getElem?_set]
 by_cases hi:a=i
 ·subst hi
  simp [h]
 ·simp [hi]
theorem Tr.put_push (x:Nd) (hlt:T.N.length<65536):Tr.upd { T with N:=T.N++[Nd.none] } (BitVec.ofNat 16 T.N.length) (fun _=>x)=T.put T.N.length x:=by
 rw [Tr.put_same x (by simp) hlt]
 unfold Tr.put;simp
theorem aKE:([(.int .i64 0),(.slice none 0 0),(.slice none 0 0),(.int .i64 0),(.string ⟨#[]⟩),(.int .i64 0),(.int .i64 0)]:List Value)=bW.zero.cells:=rfl
theorem S.f75 (hE:bF E) (h:eB H t nv mv nx mr Y T) (hs:T.small) (n:BitVec 16) (s:aL) (hsl:s.length<2 ^ 63) (k:BitVec 8) (text:List UInt8) (hc : -9223372036854775808<=T.change/\T.change<9223372036854775807)
    (hN:1<=T.N.length/\T.N.length<60000) (hdp:k=2#8->T.room n s=0->T.deepF 20 n=T.deep n)
    (hQ:∀ nv' Y' H',gE t nv mv nx mr Y T nv' Y' (T.make n s k text).1 H H'->Q (.tuple #[vi ((T.make n s k text).2.1.toNat:Int),vi (T.make n s k text).2.2]) H'):E.call (E.fid i.f75) [ptr t 0,vi (n.toNat:Int),str s,vi (k.toNat:Int),str text] H Q:=by
  apply hE.f75;simp only [F.f75];refine S.f84 hE h hs n s hsl fun H1 e1 =>?_;unfold Tr.make at hQ
  by_cases r0:T.room n s=0
  rotate_left
  · simp [r0] at hQ
    simp only [cT,r0,ne_eq,not_false_iff,decide_true,aJ,aD,aO];exact hQ _ _ _ (h.same e1)
  have h1:=h.mono e1;obtain ⟨hd,hno,_,_,hel⟩:=Tr.room_zero r0;have hnlt:n.toNat<T.N.length:=cS (by rw [hd]; decide)
  simp only [r0,ne_eq,not_true,if_false] at hQ;simp only [cT,r0,ne_eq,not_true,decide_false,aJ,aD,aI];have hfree:=Tr.free_ok hN.1 (by omega:T.N.length<=60000)
  have hft:(BitVec.ofNat 16 T.free).toNat=T.free:=by rw [BitVec.toNat_ofNat,Nat.mod_eq_of_lt (by have:=hfree.lt; omega)]
  have last:(¬ (k=0#8\/3#8<k\/(k=3#8/\(text.length<1\/120<text.length))))->¬ (T.limit<=T.len\/(k=2#8/\16<=T.deep n))->∀ H2,Ext H1 H2 ->
      aP (fun l H X0=>F.f75_l1 E Q (nth l 0) (nth l 1) (nth l 2) (nth l 3) (nth l 4) (nth l 5) H X0) [ptr t 0,vi (n.toNat:Int),str s,vi (k.toNat:Int),str text,(.int .i64 1)] H2:=by
    intro g1 g2 H2 e2;rw [if_neg g1,if_neg g2] at hQ;have h2:=h1.mono e2;have hh2:=h2.head
    have fin:∀ nv2 Y2 T2 H3,gE t nv mv nx mr Y T nv2 Y2 T2 H2 H3->T.free<T2.N.length->(∀ x,T2.upd (BitVec.ofNat 16 T.free) (fun _=>x)=T.put T.free x)->F.f75_j1 E Q (ptr t 0) (vi (n.toNat:Int)) (str s) (vi (k.toNat:Int)) (str text) (vi ((BitVec.ofNat 16 T.free).toNat:Int)) H3:=by
      intro nv2 Y2 T2 H3 u3 hlt3 hput;have h3:=u3.ref h2
      have last2:∀ H4,H4=H3.new (.cells (fM (Nd.made n k text) ⟨aW,aW⟩).cells none)->F.f75_j3 E Q (ptr t 0) (vi (n.toNat:Int)) (str s) (vi ((BitVec.ofNat 16 T.free).toNat:Int)) (ptr H3.next 0) H4:=by
        rintro H4 rfl;have h4:=h3.mono ((Ext.refl H3).new (.cells (fM (Nd.made n k text) ⟨aW,aW⟩).cells none));have hh4:=h4.head
        have lo:aU 7 (ptr H3.next 0) (H3.new (.cells (fM (Nd.made n k text) ⟨aW,aW⟩).cells none))=some (.agg (fM (Nd.made n k text) ⟨aW,aW⟩).cells.toArray):=by
          rw [bP,AH.get_new_self,kX _ _ 7 rfl]; rfl
        have hlt4:(BitVec.ofNat 16 T.free).toNat<T2.N.length:=by rw [hft]; exact hlt3
        obtain ⟨b,o,H5,q1,q2,u5⟩:=h4.setRow hlt4 (Nd.made n k text) rfl rfl;rw [hput] at u5;have h5:=u5.ref h4;have hh5:=h5.head;have hnf:n≠BitVec.ofNat 16 T.free:=by rintro e; have:=hfree.zero; rw [<- e,hd] at this; simp at this
        have hnode:(T.put T.free (Nd.made n k text)).node n=T.node n:=by rw [Tr.node_put hfree.le hfree.lt,if_neg hnf]
        have hnlt5:n.toNat<(T.put T.free (Nd.made n k text)).N.length:=cS (by rw [hnode,hd]; decide)
        obtain ⟨yn,bn,on,y1,p1,nd1⟩:=h5.at_ hnlt5;rw [hnode] at nd1;obtain ⟨_,_,c2,_⟩:=nd1.cell;have hen:=aDt s (BitVec.ofNat 16 T.free);simp only [F.f75_j3,aY,aH,aE,Nat.add_zero,Nat.zero_add,hh4,bB,bX.at0,lo,q1,q2,hh5,p1,c2,hen,aJ,aD];refine S.f88 hE yn.l (T.node n).ents nd1.2.2 (by omega) s (BitVec.ofNat 16 T.free) fun v' H6 e6 g6 f6 =>?_
        have hh6:=(h5.mono e6).head;obtain ⟨H7,s7,u7⟩:=h5.newL hnlt5 y1 p1 (Nd.addE s (BitVec.ofNat 16 T.free)) (fun _=>rfl) e6 (by rw [hnode]; exact g6) f6 (by rw [hnode]; rfl)
        have h7:=u7.ref h5;obtain ⟨H8,s8,u8⟩:=h7.tick;have hh7:=h7.head;have hcc:((T.put T.free (Nd.made n k text)).upd n (Nd.addE s (BitVec.ofNat 16 T.free))).change=T.change:=rfl;rw [hcc] at s8 hh7;refine ⟨by simp only [aE,hh6,hh5],?_⟩
        simp only [p1,aH,s7,aY,aE,hh7,bB,Nat.zero_add,bX.at4,cU (a:=T.change) (b:=1) (by omega) (by omega),s8,aJ,aD]
        have hfin:=hQ _ _ _ (gE.after (e1.trans e2) (u3.trans (gE.after ((Ext.refl H3).new _) (u5.trans (u7.trans u8)))));exact hfin
      have k2:=oT k;have k3:=aIO k;simp only [F.f75_j1,aKK (k.toNat:Int),aJ,aD];simp only [cW,aKE,cJ,AH.get_new_self,bW.cells_length,bW.splice_cells,AH.new_put,List.size_toArray,Nat.zero_add,Nat.le_refl,show (bW.cells ⟨(k.toNat:Int),aW,aW,0,[],1,0⟩).all plain1=true from rfl,and_self,if_true,aJ,aD,bC,k2,aH,aM,sI,F.f75_j2,k3]
      by_cases c2:k=2#8
      · have c3:¬ k=3#8:=by rw [c2]; decide
        simp only [aO,aI,F.f75_j2,bC,k3,eq_true c2,eq_false c3,decide_true,decide_false,aO,aI,aH,Nat.zero_add,aM,sI,if_true,AH.get_new_self,bW.cells_length,show (3<7)=True from by simp,AH.new_put,bW.set3,aJ,aD]
        refine last2 _ ?_
        congr 2
        subst c2
        rfl
      · by_cases c3:k=3#8
        · simp only [F.f75_j2,bC,k3,eq_false c2,eq_true c3,decide_true,decide_false,aO,aI,aH,Nat.zero_add,aM,aBu,if_true,AH.get_new_self,bW.cells_length,show (4<7)=True from by simp,AH.new_put,bW.set4,aJ,aD]
          refine last2 _ ?_
          congr 2
          subst c3
          rfl
        · simp only [F.f75_j2,bC,k3,eq_false c2,eq_false c3,decide_false,aI,aJ,aD]
          refine last2 _ ?_
          congr 2
          simp [fM,Nd.made,c2,c3]
    refine aP.ind (fun i l H'=>H2=H'/\∃ a:Nat,l=[ptr t 0,vi (n.toNat:Int),str s,vi (k.toNat:Int),str text,vi a]/\1<=a/\i+a=T.free) ?_ (T.free - 1) ⟨rfl,1,rfl,by omega,by have:=hfree.pos; omega⟩
    rintro i _ _ X hX ⟨rfl,a,rfl,ha,hia⟩;have hls:=h2.lenSlc;have hflt:=hfree.lt;have hfle:=hfree.le;have hat:(BitVec.ofNat 16 a).toNat=a:=by rw [BitVec.toNat_ofNat,Nat.mod_eq_of_lt (by omega)]
    by_cases hlt:a<T.free
    · have hu:=hfree.used a ha hlt
      have hal:(a:Int)<T.N.length:=by omega
      obtain ⟨y,b,o,q1,q2,q3⟩:=h2.at_ (n:=BitVec.ofNat 16 a) (by rw [hat]; omega)
      rw [hat] at q2;obtain ⟨c0,_⟩:=q3.cell
      have hk:(0:Int)<((T.node (BitVec.ofNat 16 a)).kind.toNat:Int):=by
        have:¬ ((T.node (BitVec.ofNat 16 a)).kind.toNat:Int)=0:=by rw [aAu]; exact hu
        omega
      simp only [F.f75_l1,dX,eC,eE,eS,jG,lS,aY,aH,aE,Nat.add_zero,Nat.zero_add,hh2,bB,bX.at0,hls,aV,hal,decide_true,dJ,q2,c0,cL,gt_iff_lt,hk,aS,cE a (by omega),aJ,aD,aO]
      exact hX (i - 1) (by omega) _ _ ⟨rfl,a+1,rfl,by omega,by omega⟩
    · have:a=T.free:=by omega
      subst this
      by_cases hlen:T.free<T.N.length
      · have hal:(T.free:Int)<T.N.length:=by omega
        have hne:¬ (T.free:Int)=T.N.length:=by omega
        obtain ⟨y,b,o,q1,q2,q3⟩:=h2.at_ (n:=BitVec.ofNat 16 T.free) (by rw [hat]; omega)
        rw [hat] at q2;obtain ⟨c0,_⟩:=q3.cell;have hk:¬ (0:Int)<((T.node (BitVec.ofNat 16 T.free)).kind.toNat:Int):=by rw [hfree.zero]; decide
        have hf:=fin _ _ _ _ (h2.same (Ext.refl _)) hlen fun x=>Tr.put_same x hlen hflt;rw [hft] at hf;simp only [F.f75_l1,dX,eC,eE,eS,jG,lS,aY,aH,aE,Nat.add_zero,Nat.zero_add,hh2,bB,bX.at0,hls,aV,hal,decide_true,dJ,q2,c0,cL,gt_iff_lt,hk,decide_false,aS,bC,hne,aJ,aD,aI];exact hf
      · have hal:¬ (T.free:Int)<T.N.length:=by omega
        have heq:T.free=T.N.length:=by omega
        have hne:(T.free:Int)=T.N.length:=by omega
        obtain ⟨v',H4,H5,a1,a2,u5⟩:=h2.push hN.2;have hf:=fin _ _ _ _ u5 (by simp; omega) fun x=>by rw [heq]; exact Tr.put_push x (by omega)
        rw [hft] at hf;have hb1:buildS 1 7 #[(.int .i64 0),(.slice none 0 0),(.slice none 0 0),(.int .i64 0),(.string ⟨#[]⟩),(.int .i64 0),(.int .i64 0)] [(0,.agg (fM Nd.none ⟨aW,aW⟩).cells.toArray)]=some (.cells (fM Nd.none ⟨aW,aW⟩).cells none,dL 1 1):=bW.build1 _;simp only [F.f75_l1,dX,eC,eE,eS,jG,lS,aY,aH,aE,Nat.add_zero,Nat.zero_add,hh2,bB,bX.at0,hls,aV,hal,Int.lt_irrefl,decide_false,fI,aZ,bC,hne,decide_true,aI0,hb1,AM.cY,dV,a1,dU,a2,aJ,aD,aI,aO];rw [hne] at hf;exact hf
  have hkn:∀ j:Nat,j<256->(((k.toNat:Int)=(j:Int))=(k=BitVec.ofNat 8 j)):=fun j hj=>propext (lZ k j hj)
  have hk0:((k.toNat:Int)<1)=(k=0#8):=by
    rw [<- aAu,eq_iff_iff]; omega
  have hk3l:((3:Int)<k.toNat)=(3#8<k):=by
    rw [eq_iff_iff,BitVec.lt_def]
    show (3:Int)<k.toNat↔3<k.toNat
    omega
  have k3:=aIO k;have k2:=oT k
  have rest:(¬ (k=0#8\/3#8<k\/(k=3#8/\(text.length<1\/120<text.length)))) ->
      (opt (aF (ptr t 0)) fun v20=>opt (aB v20 1) fun v21=>opt (aC v21 H1) fun v22=>E.call (E.fid i.f73) [ptr t 0] H1 fun v23 H16=>aC v21 H16=aC v21 H1 /\
       opt (aA .geq v23 v22) fun v24 =>
       gd v24 false (fun k'=>k' (vi (k.toNat:Int)) H16) H16 fun v25 H17 =>
       gd v24 false (fun k=>opt (aA .eql v25 (.int .i64 2)) fun v=>k v H17) H17 fun v26 H18 =>
       gd v24 false (fun k=>k v26 H18) H18 fun v27 H19 =>
       gd v27 true (fun k=>k (ptr t 0) H19) H19 fun v28 H20 =>
       gd v27 true (fun k=>k (vi (n.toNat:Int)) H20) H20 fun v29 H21 =>
       gd v27 true (fun k=>E.call (E.fid i.f81) [v28,v29] H21 fun v h=>k v h) H21 fun v30 H22 =>
       gd v27 true (fun k=>opt (aA .geq v30 (.int .i64 16)) fun v=>k v H22) H22 fun v31 H23 =>
       gd v24 false (fun k=>opt (pick v27 v31 (.bool false)) fun v=>k v H23) H23 fun v32 H24 =>
       opt (pick v24 (.bool true) v32) fun v33 =>
       ifB v33 (Q (.tuple #[(.int .i64 0),(.int .i64 28)]) H24) (
       aP (fun l H X0=>F.f75_l1 E Q (nth l 0) (nth l 1) (nth l 2) (nth l 3) (nth l 4) (nth l 5) H X0) [ptr t 0,vi (n.toNat:Int),str s,vi (k.toNat:Int),str text,(.int .i64 1)] H24)):=by
    intro g1;have last:=last g1;simp only [g1,if_false] at hQ;have hh:=h1.head;simp only [aY,aH,aE,Nat.zero_add,hh,bB,bX.at1,aJ,aD];refine S.f73 hE h1 ?_;refine ⟨rfl,?_⟩
    by_cases t4:T.limit<=T.len
    · simp [t4] at hQ
      simp only [eD,ge_iff_le,t4,decide_true,qY,aS,aJ,aD,aO];exact hQ _ _ _ (h.same e1)
    by_cases t5:k=2#8
    · simp only [eD,ge_iff_le,t4,decide_false,jR,bC,k2,eq_true t5,decide_true,dJ,aJ,aD]
      refine S.f81 hE h1 n fun H2 e2 =>?_;rw [hdp t5 r0]
      by_cases t6:16<=T.deep n
      · have t6':(16:Int)<=T.deep n:=by omega
        simp [t4,t5,t6] at hQ;simp only [dJ,jR,eD,ge_iff_le,t6',decide_true,aS,aZ,aJ,aD,aO];exact hQ _ _ _ (h.same (e1.trans e2))
      · have t6':¬ (16:Int)<=T.deep n:=by omega
        simp only [dJ,jR,eD,ge_iff_le,t6',decide_false,aS,aZ,aJ,aD,aI];exact last (by simp only [t4,t6,and_false,or_self,not_false_eq_true]) _ e2
    · simp only [eD,ge_iff_le,t4,decide_false,jR,fI,bC,k2,eq_false t5,aS,aZ,aJ,aD,aI]
      exact last (by simp [t4,t5]) _ (Ext.refl _)
  by_cases t1:k=0#8
  · simp [t1] at hQ
    simp only [aV,hk0,eq_true t1,decide_true,qY,aS,aJ,aD,aO];exact hQ _ _ _ (h.same e1)
  by_cases t2:3#8<k
  · simp [t2] at hQ
    simp only [aV,hk0,eq_false t1,decide_false,jR,cL,gt_iff_lt,hk3l,eq_true t2,decide_true,qY,aS,aZ,aJ,aD,aO];exact hQ _ _ _ (h.same e1)
  by_cases t3:k=3#8
  · by_cases t7:text.length<1
    · have:(text.length:Int)<1:=by omega
      simp [t3,t7] at hQ;simp only [aV,hk0,eq_false t1,decide_false,jR,cL,gt_iff_lt,hk3l,eq_false t2,bC,k3,eq_true t3,decide_true,dJ,qY,fK,this,aS,aZ,aJ,aD,aO];exact hQ _ _ _ (h.same e1)
    have t7':¬ (text.length:Int)<1:=by omega
    by_cases t8:120<text.length
    · have:(120:Int)<text.length:=by omega
      simp [t3,t8] at hQ;simp only [aV,hk0,eq_false t1,decide_false,jR,cL,gt_iff_lt,hk3l,eq_false t2,bC,k3,eq_true t3,decide_true,dJ,qY,fK,t7',this,aS,aZ,aJ,aD,aO];exact hQ _ _ _ (h.same e1)
    have t8':¬ (120:Int)<text.length:=by omega
    have:=rest (by simp [t1,t2,t7,t8])
    simp only [aV,hk0,eq_false t1,decide_false,jR,cL,gt_iff_lt,hk3l,eq_false t2,bC,k3,eq_true t3,decide_true,dJ,qY,fK,t7',t8',aS,aZ,aJ,aD,aI];exact this
  · have:=rest (by simp [t1,t2,t3])
    simp only [aV,hk0,eq_false t1,decide_false,jR,fI,cL,gt_iff_lt,hk3l,eq_false t2,bC,k3,eq_false t3,aS,aZ,aJ,aD,aI];exact this
end
end Go.AM
end
section
namespace Go.AM
section
variable {E:Sy} {H0 H H' H'' H1:AH} {Q:Value->AH->Prop} {t:Nat} {nv nv' nv'' mv:Value} {nx:Int} {mr:List (List Value)} {Y Y' Y'':List RLy} {T T' T'':Tr}
theorem Tr.deepF_le (T:Tr):∀ (f:Nat) (n:BitVec 16),T.deepF f n<=f
 | 0,_=>Nat.le_refl _
 | f+1,n=>by
  have:=Tr.deepF_le T f (T.node n).parent;simp only [Tr.deepF]
  split <;> omega
theorem qV (hE:bF E) (h:eB H t nv mv nx mr Y T) (fr to n:BitVec 16) (s other:aL) (hn:(T.node n).kind≠0#8) (T1:Tr) (Y1:List RLy) (H1:AH) (u1:gE t nv mv nx mr Y T nv Y1 T1 H H1) (hc1 : -9223372036854775808<=T1.change/\T1.change<9223372036854775807) (a1:(T1.node fr).kind=2#8) (a2:(T1.node to).kind=2#8) (a3:(T1.node n).kind=(T.node n).kind)
  (a4:bS s (T1.node fr).ents=some n) (a5:(T1.node fr).ents.length<2 ^ 35) (a6:(T1.node to).ents.length<2 ^ 35) (hQ:∀ Y' H',gE t nv mv nx mr Y T nv Y' (Tr.moved T1 fr s to other n) H H'->Q (vi 0) H') :
  F.f76_j1 E Q (ptr t 0) (vi (fr.toNat:Int)) (str s) (vi (to.toNat:Int)) (str other) (vi (n.toNat:Int)) (vb (decide ((T.node n).kind=2#8))) H1:=by
 have h1:=u1.ref h;have frlt1:fr.toNat<T1.N.length:=cS (by rw [a1]; decide)
 have tolt1:to.toNat<T1.N.length:=cS (by rw [a2]; decide)
 have nlt1:n.toNat<T1.N.length:=cS (by rw [a3]; exact hn)
 have b1:(T1.node fr).kind≠0#8:=by rw [a1]; decide
 have hh:=h1.head;obtain ⟨yn,bn,on,y1,p1,nd1⟩:=h1.at_ frlt1;obtain ⟨_,_,c2n,_⟩:=nd1.cell;obtain ⟨j,hj,j1,j2,j3⟩:=jF s _ n a4;simp only [F.f76_j1,aY,aH,aE,Nat.add_zero,Nat.zero_add,hh,bB,bX.at0,p1,c2n,aJ,aD];refine S.f77 hE h1 fr fun bz oz yz H3 e3 hnz hatz =>?_;obtain ⟨rfl,hyz,hpz⟩:=hatz frlt1;refine ⟨rfl,rfl,rfl,?_⟩;refine S.f87 hE hnz s (by omega) ?_
 refine ⟨rfl,rfl,rfl,?_⟩;rw [j1];refine S.f89 hE yn.l (T1.node fr).ents nd1.2.2 (by omega) j hj fun v' H4 e4 g4 f4 =>?_
 rw [<- j3] at g4;have hh4:=(h1.mono e4).head;obtain ⟨H5,s5,u5⟩:=h1.newL frlt1 y1 p1 (Nd.delE s) (fun _=>rfl) e4 g4 f4 rfl;have h5:=u5.ref h1;have hh5:=h5.head;have hc5:(T1.upd fr (Nd.delE s)).change=T1.change:=rfl;have hnode5:=fun w=>Tr.node_upd b1 (Nd.delE s) w;have tolt5:to.toNat<(T1.upd fr (Nd.delE s)).N.length:=by simpa [Tr.upd] using tolt1
 have hlen5:((T1.upd fr (Nd.delE s)).node to).ents.length<2 ^ 35:=by
  rw [hnode5]
  split
  ·show (eR s (T1.node fr).ents).length<_
   exact Nat.lt_of_le_of_lt (gH _ _).length_le a5
  ·exact a6
 have hkind5:∀ w,((T1.upd fr (Nd.delE s)).node w).kind=(T1.node w).kind:=by
  intro w;rw [hnode5]
  split
  ·rename_i e; rw [e]; rfl
  ·rfl
 obtain ⟨yt,bt,ot,y5,p5,nd5⟩:=h5.at_ tolt5;obtain ⟨_,_,c5,_⟩:=nd5.cell;refine ⟨by simp only [aE,hh4,hh],?_⟩
 simp only [p1,aH,s5,aY,aE,hh5,bB,Nat.zero_add,bX.at0,p5,c5,aDt,aJ,aD];refine S.f88 hE yt.l _ nd5.2.2 (by omega) other n fun v6 H6 e6 g6 f6 =>?_
 have hh6:=(h5.mono e6).head;obtain ⟨H7,s7,u7⟩:=h5.newL tolt5 y5 p5 (Nd.addE other n) (fun _=>rfl) e6 g6 f6 rfl;have h7:=u7.ref h5;have hh7:=h7.head;have b5:((T1.upd fr (Nd.delE s)).node to).kind≠0#8:=by rw [hkind5,a2]; decide
 have nlt7:n.toNat<((T1.upd fr (Nd.delE s)).upd to (Nd.addE other n)).N.length:=by simpa [Tr.upd] using nlt1
 refine ⟨by simp only [aE,hh6,hh5],?_⟩
 simp only [p5,aH,s7,aJ,aD];have hcc:((T1.upd fr (Nd.delE s)).upd to (Nd.addE other n)).change=T1.change:=rfl;unfold Tr.moved at hQ
 by_cases d1:(T.node n).kind=2#8
 ·simp only [a3,d1,if_true] at hQ
  obtain ⟨y8,b8,o8,q8,p8,nd8⟩:=h7.at_ nlt7;obtain ⟨H8,s8,u8⟩:=h7.num nlt7 q8 p8 (fun x=>{ x with parent:=to }) (fun _=>⟨rfl,rfl⟩) (k:=3) (by omega) (v:=(to.toNat:Int)) rfl
  have h8:=u8.ref h7;have hh8:=h8.head;obtain ⟨H9,s9,u9⟩:=h8.tick;have hc8:(((T1.upd fr (Nd.delE s)).upd to (Nd.addE other n)).upd n (fun x=>{ x with parent:=to })).change=T1.change:=rfl
  rw [hc8] at s9 hh8;simp only [eq_true d1,decide_true,aO,aY,aH,aE,hh7,bB,Nat.zero_add,bX.at0,p8,s8,F.f76_j2,hh8,bX.at4,cU (a:=T1.change) (b:=1) (by omega) (by omega),s9,aJ,aD]
  exact hQ _ _ (u1.trans (u5.trans (u7.trans (u8.trans u9))))
 ·simp only [a3,d1,if_false] at hQ
  obtain ⟨H9,s9,u9⟩:=h7.tick;rw [hcc] at s9 hh7;simp only [eq_false d1,decide_false,aI,F.f76_j2,aY,aH,aE,hh7,bB,Nat.zero_add,bX.at4,cU (a:=T1.change) (b:=1) (by omega) (by omega),s9,aJ,aD]
  exact hQ _ _ (u1.trans (u5.trans (u7.trans u9)))
theorem wI (hE:bF E) (h:eB H t nv mv nx mr Y T) (hs:T.small) (fr to n:BitVec 16) (s other:aL) (hc : -9223372036854775808<=T.change/\T.change<9223372036854775806)
  (hn:(T.node n).kind≠0#8) (k1:(T.node fr).kind=2#8) (k2:bS s (T.node fr).ents=some n) (c2:T.dir to=0) (k3:(T.node to).kind=2#8)
  (hold:∀ y,(T.node to).kind=2#8->bS other (T.node to).ents=some y->(T.node y).kind≠0#8/\0<=(T.node y).links/\(T.node y).links<9223372036854775807)
  (hnd:(T.node to).kind=2#8->((T.node to).ents.map Prod.fst).Nodup) (hel:(T.node fr).ents.length<2 ^ 35/\(T.node to).ents.length<2 ^ 35)
  (o:BitVec 16) (ho:bS other (T.node to).ents=some o) (hon:o≠n) (hpos0:0<(T.node to).ents.length) (H4:AH) (ex4:Ext H H4) (dm:T.mayOld n (some o)=0)
  (hQ:∀ Y' H',gE t nv mv nx mr Y T nv Y' (Tr.moved (T.drop to other (decide ((T.node n).kind=2#8))).1 fr s to other n) H H'->Q (vi 0) H') :
  (E.call (E.fid i.f71) [(ptr t 0),(vi (to.toNat:Int)),(str other),(vb (decide ((T.node n).kind=2#8)))] H4 fun v92 H61 =>
    F.f76_j1 E Q (ptr t 0) (vi (fr.toNat:Int)) (str s) (vi (to.toNat:Int)) (str other) (vi (n.toNat:Int)) (vb (decide ((T.node n).kind=2#8))) H61):=by
 obtain ⟨o1,o2,o3⟩:=hold o k3 ho
 have hlk:T.look to other=(o,0):=by
  unfold Tr.look;simp [c2,ho]
 obtain ⟨g1,g2⟩:=Tr.drop_ok k3 ho dm o1;refine S.f71 hE (h.mono ex4) hs to other _ ⟨hc.1,by omega⟩ (fun _=>by rw [hlk]; exact ⟨o1,by show -9223372036854775807<=(T.node o).links; omega,o3⟩) (by omega) fun Y5 H5 u5 =>?_
 have hm:=dm;unfold Tr.mayOld at hm
 have of:fr≠o:=by
  rintro rfl
  have hpos:0<(T.node fr).ents.length:=by
   cases he:(T.node fr).ents with
   | nil=>rw [he] at k2; simp [bS] at k2
   | cons a b=>simp
  simp only [k1] at hm
  by_cases d1:(T.node n).kind=2#8
  ·simp [d1,hpos] at hm
  ·simp [d1] at hm
 have ot:to≠o:=by
  rintro rfl;have hpos:0<(T.node to).ents.length:=by omega
  simp only [k3] at hm
  by_cases d1:(T.node n).kind=2#8
  ·simp [d1,hpos] at hm
  ·simp [d1] at hm
 have hchg:=Tr.drop_change (T:=T) to other (decide ((T.node n).kind=2#8))
 have hkk:∀ w,w≠o->((T.drop to other (decide ((T.node n).kind=2#8))).1.node w).kind=(T.node w).kind:=by
  intro w hw;rw [g2 w hw]
  split
  ·rename_i e; rw [e]; rfl
  ·rfl
 have hso:other≠s\/fr≠to:=by
  by_cases e:fr=to
  ·refine .inl ?_
   rintro rfl;rw [e,ho] at k2;exact hon (Option.some.inj k2)
  ·exact .inr e
 refine qV hE h fr to n s other hn _ Y5 H5 (gE.after ex4 u5) ⟨by omega,by omega⟩ (by rw [hkk fr of]; exact k1) (by rw [hkk to ot]; exact k3) (hkk n (fun e=>hon e.symm)) ?_ ?_ ?_ hQ
 ·rw [g2 fr of]
  split
  ·rename_i e
   show bS s (eR other (T.node to).ents)=some n
   rw [eY _ _ (hnd k3),if_neg,<- e,k2];rcases hso with g | g
   ·exact fun e=>g e.symm
   ·exact (g e).elim
  ·exact k2
 ·rw [g2 fr of]
  split
  ·exact Nat.lt_of_le_of_lt (gH _ _).length_le hel.2
  ·exact hel.1
 ·rw [g2 to ot,if_pos rfl]
  exact Nat.lt_of_le_of_lt (gH _ _).length_le hel.2
theorem xF (hE:bF E) (h:eB H t nv mv nx mr Y T) (hs:T.small) (fr to n:BitVec 16) (s other:aL) (hc : -9223372036854775808<=T.change/\T.change<9223372036854775806)
    (hn:(T.node n).kind≠0#8) (k1:(T.node fr).kind=2#8) (k2:bS s (T.node fr).ents=some n) (c2:T.dir to=0) (k3:(T.node to).kind=2#8)
    (hold:∀ y,(T.node to).kind=2#8->bS other (T.node to).ents=some y->(T.node y).kind≠0#8/\0<=(T.node y).links/\(T.node y).links<9223372036854775807)
    (hnd:(T.node to).kind=2#8->((T.node to).ents.map Prod.fst).Nodup) (hel:(T.node fr).ents.length<2 ^ 35/\(T.node to).ents.length<2 ^ 35)
    (i8:Int) (old:Option (BitVec 16)) (d:Bool) (Hx:AH) (ex:Ext H Hx) (hd:d=decide ((T.node n).kind=2#8)) (ho:bS other (T.node to).ents=old) (hcase:((i8 = -1/\old=none)\/∃ (j:Nat) (hj:j<(T.node to).ents.length) (o:BitVec 16),i8=j/\old=some o/\(T.node to).ents[j]=(other,o)/\o≠n))
    (hQ:∀ Y' H',gE t nv mv nx mr Y T nv Y' (if T.mayOld n old≠0 then (T,T.mayOld n old) else (Tr.moved (if old.isSome then (T.drop to other (decide ((T.node n).kind=2#8))).1 else T) fr s to other n,0)).1 H H'->Q (vi (if T.mayOld n old≠0 then (T,T.mayOld n old) else (Tr.moved (if old.isSome then (T.drop to other (decide ((T.node n).kind=2#8))).1 else T) fr s to other n,0)).2) H') :
      (
       opt (aA .geq (vi i8) (.int .i64 0)) fun v63 =>
       ifB v63 (
       E.call (E.fid i.f77) [(ptr t 0),(vi (to.toNat:Int))] Hx fun v64 H43 =>
       opt (aF v64) fun v65 =>
       opt (aB v65 2) fun v66 =>
       opt (aC v66 H43) fun v67 =>
       opt (aK 2 v67 (vi i8)) fun v68 =>
       opt (aB v68 1) fun v69 =>
       opt (aC v69 H43) fun v70 =>
       E.call (E.fid i.f77) [(ptr t 0),v70] H43 fun v71 H44 =>
       gd (vb d) true (fun k=>k v71 H44) H44 fun v72 H45 =>
       gd (vb d) true (fun k=>opt (aF v72) fun v=>k v H45) H45 fun v73 H46 =>
       gd (vb d) true (fun k=>opt (aB v73 0) fun v=>k v H46) H46 fun v74 H47 =>
       gd (vb d) true (fun k=>opt (aC v74 H47) fun v=>k v H47) H47 fun v75 H48 =>
       gd (vb d) true (fun k=>opt (aA .neq v75 (.int .i64 2)) fun v=>k v H48) H48 fun v76 H49 =>
       opt (pick (vb d) v76 (.bool false)) fun v77 =>
       ifB v77 (
       Q (.int .i64 20) H49) (
       opt (un .not (vb d)) fun v78 =>
       gd v78 true (fun k=>k v71 H49) H49 fun v79 H50 =>
       gd v78 true (fun k=>opt (aF v79) fun v=>k v H50) H50 fun v80 H51 =>
       gd v78 true (fun k=>opt (aB v80 0) fun v=>k v H51) H51 fun v81 H52 =>
       gd v78 true (fun k=>opt (aC v81 H52) fun v=>k v H52) H52 fun v82 H53 =>
       gd v78 true (fun k=>opt (aA .eql v82 (.int .i64 2)) fun v=>k v H53) H53 fun v83 H54 =>
       opt (pick v78 v83 (.bool false)) fun v84 =>
       ifB v84 (
       Q (.int .i64 21) H54) (
       gd (vb d) true (fun k=>k v71 H54) H54 fun v85 H55 =>
       gd (vb d) true (fun k=>opt (aF v85) fun v=>k v H55) H55 fun v86 H56 =>
       gd (vb d) true (fun k=>opt (aB v86 2) fun v=>k v H56) H56 fun v87 H57 =>
       gd (vb d) true (fun k=>opt (aC v87 H57) fun v=>k v H57) H57 fun v88 H58 =>
       gd (vb d) true (fun k=>opt (lenSlc v88) fun v=>k v H58) H58 fun v89 H59 =>
       gd (vb d) true (fun k=>opt (aA .gtr v89 (.int .i64 0)) fun v=>k v H59) H59 fun v90 H60 =>
       opt (pick (vb d) v90 (.bool false)) fun v91 =>
       ifB v91 (
       Q (.int .i64 39) H60) (
       E.call (E.fid i.f71) [(ptr t 0),(vi (to.toNat:Int)),(str other),(vb d)] H60 fun v92 H61 =>
       F.f76_j1 E Q (ptr t 0) (vi (fr.toNat:Int)) (str s) (vi (to.toNat:Int)) (str other) (vi (n.toNat:Int)) (vb d) H61)))) (
       F.f76_j1 E Q (ptr t 0) (vi (fr.toNat:Int)) (str s) (vi (to.toNat:Int)) (str other) (vi (n.toNat:Int)) (vb d) Hx)):=by
  subst hd;rcases hcase with ⟨rfl,rfl⟩ | ⟨j,hj,o,rfl,rfl,hjo,hon⟩
  · simp [Tr.mayOld] at hQ
    simp only [eD,ge_iff_le,show ¬ (0:Int) <= -1 from by omega,decide_false,aJ,aD,aI]
    exact qV hE h fr to n s other hn T Y Hx (h.same ex) ⟨hc.1,by omega⟩ k1 k3 rfl k2 hel.1 hel.2 hQ
  · have hj0:(0:Int)<=j:=by omega
    obtain ⟨o1,o2,o3⟩:=hold o k3 ho;have olt:=cS o1;simp only [eD,ge_iff_le,hj0,decide_true,aJ,aD,aO];refine S.f77 hE (h.mono ex) to fun b1 q1 y1 H3 e3 n3 hat3 =>?_;obtain ⟨_,_,c3,_⟩:=n3.cell;obtain ⟨b',o',f1,f2⟩:=n3.2.2.ix (i:=j) (by rw [bI]; exact hj)
    have hrow:(fF (T.node to).ents)[j]'(by rw [bI]; exact hj)=[str other,vi (o.toNat:Int)]:=by simp [fF,hjo]
    rw [hrow] at f2;have f3:(H3.get b').cell (o'+1)=some (vi (o.toNat:Int)):=by have:=dO f2 (j:=1) (by omega); simpa using this
    simp only [aY,aH,aE,c3,f1,f3,aJ,aD];refine S.f77 hE (h.mono (ex.trans e3)) o fun b2 q2 y2 H4 e4 n4 hat4 =>?_;obtain ⟨d0,_,d2,_⟩:=n4.cell;have dl:=n4.lenL;have ex4:=ex.trans (e3.trans e4);have hko:=oT (T.node o).kind;have drop:=fun dm=>wI (Q:=Q) hE h hs fr to n s other hc hn k1 k2 c2 k3 hold hnd hel o ho hon (by omega) H4 ex4 dm
    by_cases d1:(T.node n).kind=2#8
    · by_cases d2':(T.node o).kind=2#8
      · by_cases d3:0<(T.node o).ents.length
        · have d3':(0:Int)<(T.node o).ents.length:=by omega
          have hm:T.mayOld n (some o)=39:=by simp [Tr.mayOld,d1,d2',d3]
          simp [hm] at hQ;simp only [eq_true d1,decide_true,Bool.not_true,dN,dJ,fI,aY,aH,aE,Nat.add_zero,d0,cT,cL,gt_iff_lt,ne_eq,hko,eq_true d2',not_true,decide_false,d2,dl,d3',aS,aZ,aJ,aD,aO,aI];exact hQ _ _ (h.same ex4)
        · have d3':¬ (0:Int)<(T.node o).ents.length:=by omega
          have hm:T.mayOld n (some o)=0:=by simp [Tr.mayOld,d1,d2',d3]
          have:=drop hm (by simpa [hm] using hQ)
          rw [show decide ((T.node n).kind=2#8)=true by simp [d1]] at this
          simp only [eq_true d1,decide_true,Bool.not_true,dN,dJ,fI,aY,aH,aE,Nat.add_zero,d0,cT,cL,gt_iff_lt,ne_eq,hko,eq_true d2',not_true,decide_false,d2,dl,d3',aS,aZ,aJ,aD,aO,aI];rw [show decide ((T.node n).kind=2#8)=true by simp [d1]]
          exact this
      · have hm:T.mayOld n (some o)=20:=by simp [Tr.mayOld,d1,d2']
        simp [hm] at hQ;simp only [eq_true d1,decide_true,Bool.not_true,dN,dJ,fI,aY,aH,aE,Nat.add_zero,d0,cT,cL,gt_iff_lt,ne_eq,hko,eq_false d2',not_false_iff,decide_false,aS,aZ,aJ,aD,aO,aI];exact hQ _ _ (h.same ex4)
    · by_cases d2':(T.node o).kind=2#8
      · have hm:T.mayOld n (some o)=21:=by simp [Tr.mayOld,d1,d2']
        simp [hm] at hQ;simp only [eq_false d1,decide_false,Bool.not_false,dN,dJ,fI,aY,aH,aE,Nat.add_zero,d0,bC,hko,eq_true d2',decide_true,aS,aZ,aJ,aD,aO,aI];exact hQ _ _ (h.same ex4)
      · have hm:T.mayOld n (some o)=0:=by simp [Tr.mayOld,d1,d2']
        have:=drop hm (by simpa [hm] using hQ)
        rw [show decide ((T.node n).kind=2#8)=false by simp [d1]] at this
        simp only [eq_false d1,decide_false,Bool.not_false,dN,dJ,fI,aY,aH,aE,Nat.add_zero,d0,bC,hko,eq_false d2',aS,aZ,aJ,aD,aO,aI];rw [show decide ((T.node n).kind=2#8)=false by simp [d1]]
        exact this
theorem qW (hE:bF E) (h:eB H t nv mv nx mr Y T) (hs:T.small) (fr to n:BitVec 16) (s other:aL) (hc : -9223372036854775808<=T.change/\T.change<9223372036854775806)
    (hn:(T.node n).kind≠0#8) (k1:(T.node fr).kind=2#8) (k2:bS s (T.node fr).ents=some n) (c2:T.dir to=0) (k3:(T.node to).kind=2#8)
    (hold:∀ y,(T.node to).kind=2#8->bS other (T.node to).ents=some y->(T.node y).kind≠0#8/\0<=(T.node y).links/\(T.node y).links<9223372036854775807)
    (hnd:(T.node to).kind=2#8->((T.node to).ents.map Prod.fst).Nodup) (hel:(T.node fr).ents.length<2 ^ 35/\(T.node to).ents.length<2 ^ 35)
    (hsl:other.length<2 ^ 63) (hdp:(T.node n).kind=2#8->(T.node to).links≠0->(T.node to).kind=2#8->T.deepF 20 to=T.deep to/\T.withinF n 20 to=T.within n to) {f:Nat} (hf:(T.node n).kind=2#8->T.fitsF f n) (hf20:f<=20)
    (i8:Int) (old:Option (BitVec 16)) (Hx:AH) (ex:Ext H Hx) (ho:bS other (T.node to).ents=old) (hcase:((i8 = -1/\old=none)\/∃ (j:Nat) (hj:j<(T.node to).ents.length) (o:BitVec 16),i8=j/\old=some o/\(T.node to).ents[j]=(other,o)/\o≠n))
    (hQ:∀ Y' H',gE t nv mv nx mr Y T nv Y' (if T.may n to other old≠0 then (T,T.may n to other old) else (Tr.moved (if old.isSome then (T.drop to other (decide ((T.node n).kind=2#8))).1 else T) fr s to other n,0)).1 H H'->Q (vi (if T.may n to other old≠0 then (T,T.may n to other old) else (Tr.moved (if old.isSome then (T.drop to other (decide ((T.node n).kind=2#8))).1 else T) fr s to other n,0)).2) H') :
      (
       E.call (E.fid i.f66) [(str other)] Hx fun v37 H28 =>
       opt (un .not v37) fun v38 =>
       ifB v38 (
       Q (.int .i64 22) H28) (
       E.call (E.fid i.f77) [(ptr t 0),(vi (to.toNat:Int))] H28 fun v39 H29 =>
       opt (aF v39) fun v40 =>
       opt (aB v40 5) fun v41 =>
       opt (aC v41 H29) fun v42 =>
       opt (aA .eql v42 (.int .i64 0)) fun v43 =>
       ifB v43 (
       Q (.int .i64 2) H29) (
       E.call (E.fid i.f77) [(ptr t 0),(vi (n.toNat:Int))] H29 fun v44 H30 =>
       opt (aF v44) fun v45 =>
       opt (aB v45 0) fun v46 =>
       opt (aC v46 H30) fun v47 =>
       opt (aA .eql v47 (.int .i64 2)) fun v48 =>
       gd v48 true (fun k=>k (ptr t 0) H30) H30 fun v49 H31 =>
       gd v48 true (fun k=>k (vi (to.toNat:Int)) H31) H31 fun v50 H32 =>
       gd v48 true (fun k=>k (vi (n.toNat:Int)) H32) H32 fun v51 H33 =>
       gd v48 true (fun k=>E.call (E.fid i.f79) [v49,v50,v51] H33 fun v h=>k v h) H33 fun v52 H34 =>
       opt (pick v48 v52 (.bool false)) fun v53 =>
       ifB v53 (
       Q (.int .i64 22) H34) (
       gd v48 true (fun k=>k (ptr t 0) H34) H34 fun v54 H35 =>
       gd v48 true (fun k=>k (vi (to.toNat:Int)) H35) H35 fun v55 H36 =>
       gd v48 true (fun k=>E.call (E.fid i.f81) [v54,v55] H36 fun v h=>k v h) H36 fun v56 H37 =>
       gd v48 true (fun k=>k (ptr t 0) H37) H37 fun v57 H38 =>
       gd v48 true (fun k=>k (vi (n.toNat:Int)) H38) H38 fun v58 H39 =>
       gd v48 true (fun k=>E.call (E.fid i.f85) [v57,v58] H39 fun v h=>k v h) H39 fun v59 H40 =>
       gd v48 true (fun k=>opt (aA .add v56 v59) fun v=>k v H40) H40 fun v60 H41 =>
       gd v48 true (fun k=>opt (aA .gtr v60 (.int .i64 16)) fun v=>k v H41) H41 fun v61 H42 =>
       opt (pick v48 v61 (.bool false)) fun v62 =>
       ifB v62 (
       Q (.int .i64 28) H42) (
       opt (aA .geq (vi i8) (.int .i64 0)) fun v63 =>
       ifB v63 (
       E.call (E.fid i.f77) [(ptr t 0),(vi (to.toNat:Int))] H42 fun v64 H43 =>
       opt (aF v64) fun v65 =>
       opt (aB v65 2) fun v66 =>
       opt (aC v66 H43) fun v67 =>
       opt (aK 2 v67 (vi i8)) fun v68 =>
       opt (aB v68 1) fun v69 =>
       opt (aC v69 H43) fun v70 =>
       E.call (E.fid i.f77) [(ptr t 0),v70] H43 fun v71 H44 =>
       gd v48 true (fun k=>k v71 H44) H44 fun v72 H45 =>
       gd v48 true (fun k=>opt (aF v72) fun v=>k v H45) H45 fun v73 H46 =>
       gd v48 true (fun k=>opt (aB v73 0) fun v=>k v H46) H46 fun v74 H47 =>
       gd v48 true (fun k=>opt (aC v74 H47) fun v=>k v H47) H47 fun v75 H48 =>
       gd v48 true (fun k=>opt (aA .neq v75 (.int .i64 2)) fun v=>k v H48) H48 fun v76 H49 =>
       opt (pick v48 v76 (.bool false)) fun v77 =>
       ifB v77 (
       Q (.int .i64 20) H49) (
       opt (un .not v48) fun v78 =>
       gd v78 true (fun k=>k v71 H49) H49 fun v79 H50 =>
       gd v78 true (fun k=>opt (aF v79) fun v=>k v H50) H50 fun v80 H51 =>
       gd v78 true (fun k=>opt (aB v80 0) fun v=>k v H51) H51 fun v81 H52 =>
       gd v78 true (fun k=>opt (aC v81 H52) fun v=>k v H52) H52 fun v82 H53 =>
       gd v78 true (fun k=>opt (aA .eql v82 (.int .i64 2)) fun v=>k v H53) H53 fun v83 H54 =>
       opt (pick v78 v83 (.bool false)) fun v84 =>
       ifB v84 (
       Q (.int .i64 21) H54) (
       gd v48 true (fun k=>k v71 H54) H54 fun v85 H55 =>
       gd v48 true (fun k=>opt (aF v85) fun v=>k v H55) H55 fun v86 H56 =>
       gd v48 true (fun k=>opt (aB v86 2) fun v=>k v H56) H56 fun v87 H57 =>
       gd v48 true (fun k=>opt (aC v87 H57) fun v=>k v H57) H57 fun v88 H58 =>
       gd v48 true (fun k=>opt (lenSlc v88) fun v=>k v H58) H58 fun v89 H59 =>
       gd v48 true (fun k=>opt (aA .gtr v89 (.int .i64 0)) fun v=>k v H59) H59 fun v90 H60 =>
       opt (pick v48 v90 (.bool false)) fun v91 =>
       ifB v91 (
       Q (.int .i64 39) H60) (
       E.call (E.fid i.f71) [(ptr t 0),(vi (to.toNat:Int)),(str other),v48] H60 fun v92 H61 =>
       F.f76_j1 E Q (ptr t 0) (vi (fr.toNat:Int)) (str s) (vi (to.toNat:Int)) (str other) (vi (n.toNat:Int)) v48 H61)))) (
       F.f76_j1 E Q (ptr t 0) (vi (fr.toNat:Int)) (str s) (vi (to.toNat:Int)) (str other) (vi (n.toNat:Int)) v48 H42)))))):=by
  have tail:=fun Hx ex=>xF (Q:=Q) hE h hs fr to n s other hc hn k1 k2 c2 k3 hold hnd hel i8 old (decide ((T.node n).kind=2#8)) Hx ex;unfold Tr.may at hQ;refine S.f66 hE other hsl ?_
  by_cases p1:dI other=false
  · simp [p1] at hQ
    simp only [p1,dN,Bool.not_false,aJ,aD,aO];exact hQ _ _ (h.same ex)
  have p1:dI other=true:=by simpa using p1
  simp only [p1,dN,Bool.not_true,aJ,aD,aI];refine S.f77 hE (h.mono ex) to fun b1 q1 y1 H3 e3 n3 _ =>?_;obtain ⟨_,_,_,_,_,c5,_⟩:=n3.cell;have ex3:=ex.trans e3
  by_cases p2:(T.node to).links=0
  · simp [p1,p2] at hQ
    simp only [aY,aH,aE,c5,p2,bC,decide_true,aJ,aD,aO];exact hQ _ _ (h.same ex3)
  simp only [aY,aH,aE,c5,p2,bC,decide_false,aJ,aD,aI];refine S.f77 hE (h.mono ex3) n fun b2 q2 y2 H4 e4 n4 _ =>?_;obtain ⟨d0,_⟩:=n4.cell;have ex4:=ex3.trans e4;have hkn:=oT (T.node n).kind;simp only [p1,p2,Bool.true_eq_false,if_false] at hQ
  by_cases d1:(T.node n).kind=2#8
  · obtain ⟨hdp1,hdp2⟩:=hdp d1 p2 k3
    simp only [aY,aH,aE,Nat.add_zero,d0,bC,hkn,eq_true d1,decide_true,dJ,aJ,aD];refine S.f79 hE (h.mono ex4) to n fun H5 e5 =>?_;have ex5:=ex4.trans e5;rw [hdp2]
    by_cases p3:T.within n to=true
    · simp only [d1,p3,and_self,if_true] at hQ
      simp only [p3,aS,aJ,aD,aO];exact hQ _ _ (h.same ex5)
    have p3:T.within n to=false:=by simpa using p3
    simp only [p3,aS,aJ,aD,aI,dJ];refine S.f81 hE (h.mono ex5) to fun H6 e6 =>?_;have ex6:=ex5.trans e6;rw [hdp1];simp only [dJ,aJ];refine S.f85 hE hs f (h.mono ex6) n (hf d1) hf20 fun H7 e7 =>?_;have ex7:=ex6.trans e7;have hdle:T.deep to<=17:=Tr.deepF_le T 17 to;have htle:T.tall n<=20:=Tr.tallF_le T 20 n
    by_cases p4:16<T.deep to+T.tall n
    · have p4':(16:Int)<(T.deep to:Int)+(T.tall n:Int):=by omega
      simp only [d1,p3,p4,Bool.false_eq_true,and_false,and_self,if_true,if_false] at hQ;simp only [dJ,cU (a:=(T.deep to:Int)) (b:=(T.tall n:Int)) (by omega) (by omega),cL,gt_iff_lt,p4',decide_true,aS,aJ,aD,aO]
      exact hQ _ _ (h.same ex7)
    · have p4':¬ (16:Int)<(T.deep to:Int)+(T.tall n:Int):=by omega
      simp only [d1,p3,p4,Bool.false_eq_true,and_false,if_false] at hQ;simp only [dJ,cU (a:=(T.deep to:Int)) (b:=(T.tall n:Int)) (by omega) (by omega),cL,gt_iff_lt,p4',decide_false,aS,aJ,aD,aI]
      have:=tail H7 ex7 rfl ho hcase (by simpa only [d1] using hQ)
      simp only [eq_true d1,decide_true] at this;exact this
  · simp only [d1,false_and,if_false] at hQ
    simp only [aY,aH,aE,Nat.add_zero,d0,bC,hkn,eq_false d1,decide_false,fI,aZ,aJ,aD,aI];have:=tail H4 ex4 rfl ho hcase (by simpa only [d1] using hQ)
    simp only [eq_false d1,decide_false] at this;exact this
theorem S.f76 (hE:bF E) (h:eB H t nv mv nx mr Y T) (hs:T.small) (fr to:BitVec 16) (s other:aL) (hsl:other.length<2 ^ 63)
  (hc : -9223372036854775808<=T.change/\T.change<9223372036854775806)
  (hn:(T.look fr s).2=0->(T.node (T.look fr s).1).kind≠0#8)
  (hdp:(T.node (T.look fr s).1).kind=2#8->(T.node to).links≠0->(T.node to).kind=2#8->T.deepF 20 to=T.deep to/\T.withinF (T.look fr s).1 20 to=T.within (T.look fr s).1 to)
  {f:Nat} (hf:(T.look fr s).2=0->(T.node (T.look fr s).1).kind=2#8->T.fitsF f (T.look fr s).1) (hf20:f<=20)
  (hold:∀ y,(T.node to).kind=2#8->bS other (T.node to).ents=some y->(T.node y).kind≠0#8/\0<=(T.node y).links/\(T.node y).links<9223372036854775807)
  (hnd:(T.node to).kind=2#8->((T.node to).ents.map Prod.fst).Nodup) (hel:(T.node fr).ents.length<2 ^ 35/\(T.node to).ents.length<2 ^ 35)
  (hQ:∀ Y' H',gE t nv mv nx mr Y T nv Y' (T.move fr s to other).1 H H'->Q (vi (T.move fr s to other).2) H') :
  E.call (E.fid i.f76) [ptr t 0,vi (fr.toNat:Int),str s,vi (to.toNat:Int),str other] H Q:=by
 apply hE.f76;simp only [F.f76];refine S.f74 hE h hs fr s fun H1 e1 =>?_;unfold Tr.move at hQ
 by_cases c1:(T.look fr s).2=0
 rotate_left
 ·simp [c1] at hQ
  simp only [aJ,eA,List.getElem?_cons_zero,List.getElem?_cons_succ,c1,cT,ne_eq,not_false_iff,decide_true,aD,aO];exact hQ _ _ (h.same e1)
 obtain ⟨k1,k2⟩:=Tr.look_ok c1;have hn:=hn c1;have hf:=hf c1;simp only [c1,ne_eq,not_true,if_false] at hQ;simp only [aJ,eA,List.getElem?_cons_zero,List.getElem?_cons_succ,c1,cT,ne_eq,not_true,decide_false,aD,aI];generalize hnn:(T.look fr s).1=n at *;refine S.f82 hE (h.mono e1) to fun H2 e2 =>?_;have x2:=e1.trans e2
 by_cases c2:T.dir to=0
 rotate_left
 ·simp only [c2,ne_eq,not_false_eq_true,if_true] at hQ
  simp only [c2,cT,ne_eq,not_false_iff,decide_true,aJ,aD,aO];exact hQ _ _ (h.same x2)
 have k3:=Tr.dir_zero.1 c2;have tolt:to.toNat<T.N.length:=cS (by rw [k3]; decide)
 have frlt:fr.toNat<T.N.length:=cS (by rw [k1]; decide)
 simp only [c2,ne_eq,not_true,if_false] at hQ;simp only [c2,cT,ne_eq,not_true,decide_false,aJ,aD,aI];refine S.f77 hE (h.mono x2) to fun bt ot yt H3 e3 n3 hat3 =>?_;have x3:=x2.trans e3;obtain ⟨_,_,t2,_⟩:=n3.cell;have tl:=n3.lenL;refine S.f87 hE n3 other (by omega) ?_
 cases c3:bS other (T.node to).ents with
 | none =>
  rw [pB _ _ c3];have key:=fun Hx ex=>qW (Q:=Q) hE h hs fr to n s other hc hn k1 k2 c2 k3 hold hnd hel hsl hdp hf hf20 (-1) none Hx ex;simp only [c3] at hQ;simp only [eD,ge_iff_le,show ¬ (0:Int) <= -1 from by omega,decide_false,fI,aZ,aJ,aD,aI,aV,show ((-1:Int)<0)=True from by simp,decide_true,dJ,cT,ne_eq,uD,aS]
  by_cases c4:fr=to
  ·subst c4
   simp [c3] at hQ;simp only [not_true,decide_false,fI,aZ,aJ,aD,aI];exact key H3 x3 c3 (.inl ⟨rfl,rfl⟩) (by simpa using hQ)
  ·simp only [c4,not_false_iff,decide_true,dJ,aJ]
   refine S.f77 hE (h.mono x3) to fun b4 o4 y4 H4 e4 n4 _ =>?_;obtain ⟨_,_,u2,_⟩:=n4.cell;have ul:=n4.lenL;have x4:=x3.trans e4
   by_cases c5:32<=(T.node to).ents.length
   ·have c5':(32:Int)<=(T.node to).ents.length:=by omega
    simp [c4,c5] at hQ;simp only [c4,not_false_iff,not_false_eq_true,decide_true,dJ,aY,aH,aE,u2,ul,eD,ge_iff_le,c5',decide_true,aS,aJ,aD,aO];exact hQ _ _ (h.same x4)
   ·have c5':¬ (32:Int)<=(T.node to).ents.length:=by omega
    simp [c4,c5] at hQ;simp only [c4,not_false_iff,not_false_eq_true,decide_true,dJ,aY,aH,aE,u2,ul,eD,ge_iff_le,c5',decide_false,aS,aJ,aD,aI];exact key H4 x4 c3 (.inl ⟨rfl,rfl⟩) (by simpa using hQ)
 | some o =>
  obtain ⟨j,hj,j1,j2,_⟩:=jF other _ o c3;rw [j1];have hj0:(0:Int)<=j:=by omega
  have hj1:¬ (j:Int)<0:=by omega
  simp only [eD,ge_iff_le,hj0,decide_true,dJ,aJ,aD];refine S.f77 hE (h.mono x3) to fun b4 o4 y4 H4 e4 n4 _ =>?_;have x4:=x3.trans e4;obtain ⟨_,_,u2,_⟩:=n4.cell;obtain ⟨b',o',f1,f2⟩:=n4.2.2.ix (i:=j) (by rw [bI]; exact hj)
  have hrow:(fF (T.node to).ents)[j]'(by rw [bI]; exact hj)=[str other,vi (o.toNat:Int)]:=by simp [fF,j2]
  rw [hrow] at f2;have f3:(H4.get b').cell (o'+1)=some (vi (o.toNat:Int)):=by have:=dO f2 (j:=1) (by omega); simpa using this
  by_cases c4:o=n
  ·simp [c3,c4] at hQ
   simp only [dJ,aY,aH,aE,u2,f1,f3,bC,uD,eq_true c4,decide_true,aS,aJ,aD,aO];exact hQ _ _ (h.same x4)
  ·simp [c3,c4] at hQ
   simp only [dJ,fI,aY,aH,aE,u2,f1,f3,bC,aV,hj1,uD,eq_false c4,decide_false,aS,aZ,aJ,aD,aI];exact qW (Q:=Q) hE h hs fr to n s other hc hn k1 k2 c2 k3 hold hnd hel hsl hdp hf hf20 j (some o) H4 x4 c3 (.inr ⟨j,hj,o,rfl,rfl,j2,c4⟩) (by simpa using hQ)
end
end Go.AM
end
section
namespace Go.AM
section
variable {E:Sy} {H0 H H' H'' H1:AH} {Q:Value->AH->Prop} {t:Nat} {nv nv' nv'' mv:Value} {nx:Int} {mr:List (List Value)} {Y Y' Y'':List RLy} {T T' T'':Tr}
def oM:List (List Value):=[dA.cells ⟨0,1,bZ.zero,0⟩]
theorem S.f67 (hE:bF E) (limit:Int) (hQ:∀ t nv mv Y H',Ext H H'->eB H' t nv mv 1 oM Y (Tr.new limit)->(∀ b∈(fO t nv mv 1 oM Y (Tr.new limit)).fp,H.next<=b)->Q (ptr t 0) H'):E.call (E.fid i.f67) [vi limit] H Q:=by
 apply hE.f67;have e1:(if (1:Int) > limit then 1 else limit)=max limit 1:=by omega
 have e2:∀ x:Int,(if (256:Int)<x then 256 else x)=min x 256:=fun x=>by omega
 have hb1:aT [(0,1),(1,1),(2,1),(3,1),(4,1),(5,1),(6,1)] #[(.int .i64 0),(.slice none 0 0),(.slice none 0 0),(.int .i64 0),(.string ⟨#[]⟩),(.int .i64 0),(.int .i64 0)] []=some (bW.v bW.zero):=rfl;have hb2:aT [(0,1),(1,1),(2,1),(3,1),(4,1),(5,1),(6,1)] #[(.int .i64 0),(.slice none 0 0),(.slice none 0 0),(.int .i64 0),(.string ⟨#[]⟩),(.int .i64 0),(.int .i64 0)] [(0,(.int .i64 2)),(3,(.int .i64 1)),(5,(.int .i64 1))]=some (bW.v ⟨2,aW,aW,1,[],1,0⟩):=rfl;have hb3:buildS 2 7 #[(.int .i64 0),(.slice none 0 0),(.slice none 0 0),(.int .i64 0),(.string ⟨#[]⟩),(.int .i64 0),(.int .i64 0)] [(0,bW.v bW.zero),(1,bW.v ⟨2,aW,aW,1,[],1,0⟩)]=some (.cells (bW.zero.cells++(⟨2,aW,aW,1,[],1,0⟩:bW).cells) none,dL 2 2):=bW.buildS [bW.zero,⟨2,aW,aW,1,[],1,0⟩];have hb4:aT [(0,1),(1,1),(2,2),(4,1)] #[(.int .i64 0),(.int .i64 0),(.int .i64 0),(.int .i64 0),(.int .i64 0)] [(1,(.int .i64 1))]=some (dA.v ⟨0,1,bZ.zero,0⟩):=rfl;have hb5:buildS 1 5 #[(.int .i64 0),(.int .i64 0),(.int .i64 0),(.int .i64 0),(.int .i64 0)] [(0,dA.v ⟨0,1,bZ.zero,0⟩)]=some (.cells (dA.cells ⟨0,1,bZ.zero,0⟩) none,dL 1 1):=dA.build1 _;generalize hlim:min (max limit 1) 256=lim;have hb6:∀ a b,aT [(0,1),(1,1),(2,1),(3,1),(4,1)] #[(.slice none 0 0),(.int .i64 0),(.slice none 0 0),(.int .i64 0),(.int .i64 0)] [(0,slc a 0 2 2),(1,vi lim),(2,slc b 0 1 1),(3,(.int .i64 1))]=some (bX.v ⟨slc a 0 2 2,lim,slc b 0 1 1,1,0⟩):=fun _ _=>rfl;have hmm:(iK max2 [vi limit,(.int .i64 1)])=some (vi (max limit 1)):=by simp [e1]
 have hmn:(iK min2 [vi (max limit 1),(.int .i64 256)])=some (vi lim):=by simp [e2,hlim]
 have hbx:∀ x:bX,gI (bX.v x)=some (.cells x.cells none,fun b=>ptr b 0):=fun x=>rfl;simp only [F.f67,hb1,hb2,hb3,hb4,hb5,hmm,hmn,AM.cY,dV,hb6,hbx,aJ,aD];have hT:Tr.new limit=⟨[Nd.none,{ Nd.none with kind:=2#8,parent:=1#16,links:=1 }],lim,0⟩:=by unfold Tr.new; rw [hlim]
 rw [hT] at hQ;refine hQ (H.next+2) (slc H.next 0 2 2) (slc (H.next+1) 0 1 1) [⟨aW,aW⟩,⟨aW,aW⟩] _ ((((Ext.refl H).new _).new _).new _) ⟨⟨?_,?_,?_⟩,rfl,by simp⟩ ?_
 ·intro r hr
  simp only [dM,List.zip,List.zipWith,List.map_cons,List.map_nil,List.mem_cons,List.not_mem_nil,or_false] at hr
  have g0:((((H.new (.cells (bW.zero.cells++(⟨2,aW,aW,1,[],1,0⟩:bW).cells) none)).new (.cells (dA.cells ⟨0,1,bZ.zero,0⟩) none)).new (.cells (bX.cells ⟨slc H.next 0 2 2,lim,slc (H.next+1) 0 1 1,1,0⟩) none))).get H.next = .cells (bW.zero.cells++(⟨2,aW,aW,1,[],1,0⟩:bW).cells) none:=by
   rw [AH.get_new_ne _ _ (by simp; omega),AH.get_new_ne _ _ (by simp),AH.get_new_self]
  have g1:((((H.new (.cells (bW.zero.cells++(⟨2,aW,aW,1,[],1,0⟩:bW).cells) none)).new (.cells (dA.cells ⟨0,1,bZ.zero,0⟩) none)).new (.cells (bX.cells ⟨slc H.next 0 2 2,lim,slc (H.next+1) 0 1 1,1,0⟩) none))).get (H.next+1) = .cells (dA.cells ⟨0,1,bZ.zero,0⟩) none:=by
   rw [AH.get_new_ne _ _ (by simp)]
   exact AH.get_new_self _ _
  have g2:((((H.new (.cells (bW.zero.cells++(⟨2,aW,aW,1,[],1,0⟩:bW).cells) none)).new (.cells (dA.cells ⟨0,1,bZ.zero,0⟩) none)).new (.cells (bX.cells ⟨slc H.next 0 2 2,lim,slc (H.next+1) 0 1 1,1,0⟩) none))).get (H.next+2) = .cells (bX.cells ⟨slc H.next 0 2 2,lim,slc (H.next+1) 0 1 1,1,0⟩) none:=AH.get_new_self _ _;rcases hr with rfl | rfl | rfl | rfl | rfl
  ·exact g2
  ·exact bR.made (f:=none) (lL _) (g0.trans rfl) (.inl rfl) rfl (by
    intro r hr;simp only [bY,List.zip,List.zipWith,List.map_cons,List.map_nil,List.mem_cons,List.not_mem_nil,or_false] at hr;rcases hr with rfl | rfl <;> exact ⟨rfl,rfl⟩)
  ·exact bR.made (f:=none) (lL _) (g1.trans rfl) (.inl rfl) rfl (by
    intro r hr;simp only [oM,List.mem_cons,List.not_mem_nil,or_false] at hr;subst hr;exact ⟨rfl,rfl⟩)
  ·intro r hr
   simp only [List.mem_cons,List.not_mem_nil,or_false] at hr;rcases hr with rfl | rfl
   ·exact bR.nil _ _ _
   ·exact bR.nil _ _ _
  ·intro r hr
   simp only [List.mem_cons,List.not_mem_nil,or_false] at hr;rcases hr with rfl | rfl
   ·exact bR.nil _ _ _
   ·exact bR.nil _ _ _
 ·intro b hb
  simp [fO,cV,dM,bN,bT,cH,eF,blk] at hb ⊢;omega
 ·simp [fO,cV,dM,bN,bT,cH,eF,blk]
 ·intro b hb
  simp [fO,cV,dM,bN,bT,cH,eF,blk] at hb;omega
end
end Go.AM
end
section
namespace Go.AM
theorem bR.cut {Z H:AH} {sz:Nat} {v:Value} {rows:List (List Value)} (h:bR Z H sz v rows) {k:Nat} (hk:k<=rows.length) :
  ∃ v',dK sz v none (some (vi k)) none H=some v'/\bR Z H sz v' (rows.take k)/\blk v'=blk v:=by
 have hs:=(h.toRows.slice' (lo:=none) (hi:=some (vi k)) (i:=0) (j:=k) (.inr ⟨rfl,rfl⟩) (.inl rfl) (Nat.zero_le _) hk).1;refine ⟨_,hs,?_⟩;rcases h.2 with ⟨rfl,rfl⟩ | ⟨b,f,c,cs,g1,rfl,g3,g4,g5,g6,g7⟩
 ·have:k=0:=by simpa using hk
  subst this;exact ⟨⟨by simp,.inl ⟨by simp,rfl⟩⟩,rfl⟩
 ·have e:iN sz (slc b 0 rows.length c) 0 k=slc b 0 k c:=by
   simp [iN,Addr.add]
  rw [e];refine ⟨⟨fun r hr=>h.1 r (List.mem_of_mem_take hr),.inr ⟨b,f,c,cs,g1,by rw [List.length_take,Nat.min_eq_left hk],g3,by rw [List.length_take]; omega,g5,?_,g7⟩⟩,rfl⟩
  rw [List.length_take,Nat.min_eq_left hk,<- lD rows (fun r hr=>(h.1 r hr).1),<- g6,List.take_take,Nat.min_eq_left (Nat.mul_le_mul_right _ hk)]
theorem aE0 (l:List (BitVec 8)) (i:Nat) (x:BitVec 8):cF (l.set i x)=(cF l).set i [u8 x]:=by simp [cF,List.map_set]
theorem aBn (a b:List (BitVec 8)):cF (a++b)=cF a++cF b:=by simp [cF]
theorem aCM (a:List (BitVec 8)) (k:Nat):cF (a.take k)=(cF a).take k:=by simp [cF,List.map_take]
section
variable {E:Sy} {H0 H H' H'' H1:AH} {Q:Value->AH->Prop} {t:Nat} {nv nv' nv'' mv:Value} {nx:Int} {mr:List (List Value)} {Y Y' Y'':List RLy} {T T' T'':Tr}
theorem eB.newD (h:eB H t nv mv nx mr Y T) {n:BitVec 16} (hn:n.toNat<T.N.length) {y:RLy} (hy:Y[n.toNat]? = some y) {b o:Nat} (hp:aK 7 nv (vi (n.toNat:Int))=some (ptr b o)) (f:Nd->Nd)
  (hf:∀ x:Nd,(f x).ents=x.ents) {v':Value} (e:Ext H H1) (g:bR zH H1 1 v' (cF (f (T.node n)).data)) (fr:eO H.next v') (hc:(fM (f (T.node n)) { y with data:=v' }).cells=(fM (T.node n) y).cells.set 1 v') :
  ∃ H',aR (ptr b (o+1)) v' H1=some H'/\gE t nv mv nx mr Y T nv (Y.set n.toNat { y with data:=v' }) (T.upd n f) H H' :=
 h.cell hn hy hp f _ (cH.setD (h.node_y hn hy) (hf _) e g fr) (by omega) g.plain hc
theorem aAv {H0 H:AH} {v:Value} {l:List (BitVec 8)} (g:bR zH H 1 v (cF l)) (e:Ext H0 H) (f:eO H0.next v) (hl:l.length<2 ^ 40) :
  ∃ v' H',AM.app 1 1 v (slc H.next 0 1 1) (H.new (.cells [u8 0#8] none))=some (v',H')/\bR zH H' 1 v' (cF (l++[0#8]))/\Ext H0 H'/\eO H0.next v':=by
 obtain ⟨v',H',a1,a2,a3⟩:=g.app1 (Nat.zero_le _) (bytes:=1) [u8 0#8] rfl rfl (by decide) (by decide) (by rw [bV]; omega)
 obtain ⟨q1,q2⟩:=gF a3 e f;refine ⟨v',H',a1,?_,q1,q2⟩;rw [aBn]; exact a2
theorem S.f70 (hE:bF E) (h:eB H t nv mv nx mr Y T) (n:BitVec 16) (size:Int) (hc : -9223372036854775808<=T.change/\T.change<9223372036854775807) (hdl:(T.node n).data.length<2 ^ 39)
  (hQ:∀ Y' H',gE t nv mv nx mr Y T nv Y' (T.cut n size).1 H H'->Q (vi (T.cut n size).2) H'):E.call (E.fid i.f70) [ptr t 0,vi (n.toNat:Int),vi size] H Q:=by
 apply hE.f70;simp only [F.f70];refine S.f77 hE h n fun b o y H1 e1 hn hat =>?_;obtain ⟨c0,c1,_⟩:=hn.cell;have k1:=aIZ (T.node n).kind;have k2:=oT (T.node n).kind;have k0:=aAu (T.node n).kind;unfold Tr.cut at hQ
 by_cases g0:(T.node n).kind=0#8
 ·simp [g0] at hQ
  simp only [aY,aH,aE,Nat.add_zero,c0,bC,k0,eq_true g0,decide_true,aJ,aD,aO];exact hQ _ _ (h.same e1)
 have hlt:=cS g0;obtain ⟨rfl,hy,hp⟩:=hat hlt
 by_cases g2:(T.node n).kind=2#8
 ·simp [g2] at hQ
  simp only [aY,aH,aE,Nat.add_zero,c0,bC,k0,k2,eq_false g0,eq_true g2,decide_true,decide_false,aJ,aD,aO,aI];exact hQ _ _ (h.same e1)
 by_cases g1:(T.node n).kind=1#8
 rotate_left
 ·simp [g0,g2,g1] at hQ
  simp only [aY,aH,aE,Nat.add_zero,c0,bC,cT,ne_eq,k0,k1,k2,eq_false g0,eq_false g2,eq_false g1,not_false_eq_true,decide_true,decide_false,qY,aS,aJ,aD,aO,aI];exact hQ _ _ (h.same e1)
 by_cases g3:size<0
 ·simp [g0,g2,g1,g3] at hQ
  simp only [aY,aH,aE,Nat.add_zero,c0,bC,cT,ne_eq,k0,k1,k2,eq_false g0,eq_false g2,eq_true g1,not_true,aV,g3,decide_true,decide_false,jR,aS,aZ,aJ,aD,aO,aI];exact hQ _ _ (h.same e1)
 by_cases g4:1024<size
 ·simp [g0,g2,g1,g3,g4] at hQ
  simp only [aY,aH,aE,Nat.add_zero,c0,bC,cT,cL,gt_iff_lt,ne_eq,k0,k1,k2,eq_false g0,eq_false g2,eq_true g1,not_true,aV,g3,g4,decide_true,decide_false,jR,aS,aZ,aJ,aD,aO,aI];exact hQ _ _ (h.same e1)
 simp [g0,g2,g1,g3,g4] at hQ;have hb0:buildS 0 1 #[(.int .u8 0)] []=some (.cells [] none,dL 0 0):=tR 1 [u8 0#8] rfl;have e9:Ext H1 (H1.new (.cells [] none)):=(Ext.refl H1).new _;have gr9:bR zH (H1.new (.cells [] none)) 1 (slc H1.next 0 0 0) []:=bR.room (lL _) (AH.get_new_self _ _) rfl
 have c1':((H1.new (.cells [] none)).get b).cell (o+1)=some y.data:=by
  rw [AH.get_new_lt _ _ (AH.lt_of_get (fQ hn.1))];exact c1
 simp only [aY,aH,aE,Nat.add_zero,c0,bC,cT,cL,gt_iff_lt,ne_eq,k0,k1,k2,eq_false g0,eq_false g2,eq_true g1,not_true,aV,g3,g4,decide_false,jR,aS,aZ,hb0,AM.cY,dV,c1',aJ,aD,aI];obtain ⟨v18,H11,a1,a2,a3⟩:=gr9.app (bytes:=1) (Nat.zero_le _) (hn.2.1.mono e9) (kF _) (by decide) (by decide) (by simp [bV]; omega) (by simp [bV]; omega)
 obtain ⟨e11,f11⟩:=gF a3 e9 (fun b hb=>by simp [blk] at hb; omega)
 have a1':app 1 1 (slc H1.next 0 0 0) y.data (H1.new (.cells [] none))=some (v18,H11):=a1;simp only [a1',dU,aJ];obtain ⟨sz,rfl⟩:∃ sz:Nat,size=sz:=⟨size.toNat,by omega⟩
 rw [List.nil_append] at a2;have hb1:buildS 1 1 #[(.int .u8 0)] [(0,(.int .u8 0))]=some (.cells [u8 0#8] none,dL 1 1):=dF 1 [u8 0#8] [u8 0#8] rfl rfl;generalize hD:(T.node n).data=D at *;refine aP.ind (fun j ls H'=>∃ v,∃ k:Nat,ls=[ptr t 0,vi sz,ptr b o,v]/\Ext H1 H'/\eO H1.next v/\bR zH H' 1 v (cF (D++List.replicate k 0#8))/\(k=0\/D.length+k<=sz)/\j=sz - (D.length+k)) ?_ (sz - D.length) ⟨v18,0,rfl,e11,f11,by simpa using a2,.inl rfl,by omega⟩
 rintro j _ H3 X hX ⟨v,k,rfl,e3,f3,g5,hk,rfl⟩;have hlv:=g5.toRows.lenSlc;rw [bV,List.length_append,List.length_replicate] at hlv
 by_cases hlt2:D.length+k<sz
 ·have hlt2':((D.length+k:Nat):Int)<(sz:Int):=by omega
  obtain ⟨v',H4,b1,b2,b3,b4⟩:=aAv g5 e3 f3 (by simp; omega)
  simp only [F.f70_l1,dX,eC,eE,eS,hlv,aV,hlt2',decide_true,hb1,AM.cY,dV,b1,dU,aJ,aD,aO];refine hX (sz - (D.length+(k+1))) (by omega) _ _ ⟨v',k+1,rfl,b3,b4,?_,.inr (by omega),rfl⟩
  rw [List.replicate_succ',<- List.append_assoc];exact b2
 ·have hlt2':¬ ((D.length+k:Nat):Int)<(sz:Int):=by omega
  obtain ⟨v',s1,s2,s3⟩:=g5.cut (k:=sz) (by rw [bV,List.length_append,List.length_replicate]; omega)
  have hcut:cF ((fun x:Nd=>{ x with data:=qE x.data sz }) (T.node n)).data=(cF (D++List.replicate k 0#8)).take sz:=by
   rw [<- aCM]
   show cF (qE (T.node n).data sz)=_
   rw [hD]
   congr 1
   unfold qE;rw [List.take_append]
   congr 1
   rw [List.take_replicate]
   congr 1
   rcases hk with rfl | hk <;> omega
  obtain ⟨H4,s4,u4⟩:=h.newD (v':=v') hlt hy hp (fun x=>{ x with data:=qE x.data sz }) (fun _=>rfl) e3 (by rw [hcut]; exact s2) (fun b hb=>f3 b (by rw [<- s3]; exact hb)) rfl
  have h4:=u4.ref h;have hh4:=h4.head;obtain ⟨H5,s5,u5⟩:=h4.tick;have hcc:(T.upd n (fun x=>{ x with data:=qE x.data sz })).change=T.change:=rfl
  rw [hcc] at s5 hh4;simp only [F.f70_l1,dX,eC,eE,eS,hlv,aV,hlt2',decide_false,s1,aY,aH,s4,aE,hh4,bB,Nat.zero_add,bX.at4,cU (a:=T.change) (b:=1) (by omega) (by omega),s5,aJ,aD,aI]
  exact hQ _ _ (u4.trans u5)
end
end Go.AM
end
section
namespace Go.AM
theorem aA8 (e b:List (BitVec 8)) (i j:Nat) (hj:j<b.length) (hi:i+j<e.length):(dE e i (b.take j)).set (i+j) b[j]=dE e i (b.take (j+1)):=by
 unfold dE;have h1:(e.take i).length=i:=by rw [List.length_take]; omega
 have h2:(b.take j).length=j:=by rw [List.length_take]; omega
 have h3:(b.take (j+1)).length=j+1:=by rw [List.length_take]; omega
 rw [h2,h3,List.set_append_right _ _ (by rw [List.length_append,h1,h2]; omega),List.length_append,h1,h2,Nat.sub_self]
 rw [List.drop_eq_getElem_cons hi,List.set_cons_zero];simp [Nat.add_assoc];rw [List.take_succ_eq_append_getElem hj];simp only [List.append_assoc,List.singleton_append]
theorem xA (e b:List (BitVec 8)) (i:Nat) (h:i+b.length<=e.length):(dE e i b).length=e.length:=by
 simp [dE]; omega
section
variable {E:Sy} {H0 H H' H'' H1:AH} {Q:Value->AH->Prop} {t:Nat} {nv nv' nv'' mv:Value} {nx:Int} {mr:List (List Value)} {Y Y' Y'':List RLy} {T T' T'':Tr}
theorem aCb (h:eB H1 t nv mv nx mr Y T) (n:BitVec 16) (hlt:n.toNat<T.N.length) {y:RLy} {b o:Nat} (hy:Y[n.toNat]? = some y) (hp:aK 7 nv (vi (n.toNat:Int))=some (ptr b o)) (at_:Nat) (xv:Value) (x:List (BitVec 8)) (hx:Rows H1 1 xv (cF x)) (hc : -9223372036854775808<=T.change/\T.change<9223372036854775807)
  (hat:at_<=1024/\at_+x.length<=1024) (e:List (BitVec 8)) (he:at_+x.length<=e.length) (hw:gR (T.node n).data at_ x=dE e at_ x) (v:Value) (H3:AH) (e3:Ext H1 H3) (f3:eO H1.next v) (g3:bR zH H3 1 v (cF e))
  (hQ:∀ Y' H',gE t nv mv nx mr Y T nv Y' ((T.upd n (fun z=>{ z with data:=gR z.data at_ x })).bump) H1 H'->Q (vi 0) H') :
  aP (fun l H X0=>F.f80_l2 E Q (nth l 0) (nth l 1) (nth l 2) (nth l 3) (nth l 4) (nth l 5) H X0) [ptr t 0,vi at_,xv,ptr b o,v,(.int .i64 0)] H3:=by
 refine aP.count x.length (fun j ls H'=>ls=[ptr t 0,vi at_,xv,ptr b o,v,vi j]/\Ext H1 H'/\bR zH H' 1 v (cF (dE e at_ (x.take j)))) ?_ ⟨rfl,e3,by simpa [dE] using g3⟩
 rintro j _ H4 X hj hX ⟨rfl,e4,g4⟩;have hxl:=(hx.mono e4).lenSlc;rw [bV] at hxl
 by_cases hjl:j<x.length
 ·have hjl':(j:Int)<x.length:=by omega
  obtain ⟨b1,o1,p1,p2⟩:=(hx.mono e4).ix (i:=j) (by rw [bV]; exact hjl)
  have hrow:(cF x)[j]'(by rw [bV]; exact hjl)=[u8 x[j]]:=by simp [cF]
  rw [hrow] at p2;have p3:(H4.get b1).cell o1=some (u8 x[j]):=by have:=dO p2 (j:=0) (by omega); simpa using this
  have hls:(dE e at_ (x.take j)).length=e.length:=xA _ _ _ (by rw [List.length_take]; omega)
  have hi:at_+j<(cF (dE e at_ (x.take j))).length:=by rw [bV,hls]; omega
  obtain ⟨b2,o2,H5,q1,q2,q3,q4,q5⟩:=g4.store (i:=at_+j) (k:=0) hi (by omega) (u8 x[j]) rfl
  have hadd:aA .add (vi at_) (vi j)=some (vi ((at_+j:Nat):Int)):=by rw [cU (by omega) (by omega)]; simp
  have hjj:=cE j (by omega)
  have hset:(cF (dE e at_ (x.take j))).set (at_+j) ((cF (dE e at_ (x.take j)))[at_+j].set 0 (u8 x[j]))=cF (dE e at_ (x.take (j+1))):=by
   rw [<- aA8 e x at_ j hjl (by omega),aE0]
   congr 1
   simp [cF]
  rw [hset] at q4;rw [Nat.add_zero] at q3;have q3':aR (ptr b2 o2) (u8 x[j]) H4=some H5:=q3;generalize hj1:j+1=j1 at *;simp only [F.f80_l2,dX,eC,eE,eS,jG,lS,hxl,aV,hjl',decide_true,hadd,p1,aE,p3,q1,q3',hjj,aJ,aD,aO];refine hX hjl _ _ ⟨rfl,q5.ext e4 fun b hb=>f3 b (bQ.1 hb),q4⟩
 ·have hjl':¬ (j:Int)<x.length:=by omega
  have hje:j=x.length:=by omega
  have hD:cF ((fun z:Nd=>{ z with data:=gR z.data at_ x }) (T.node n)).data=cF (dE e at_ (x.take j)):=by
   show cF (gR (T.node n).data at_ x)=_
   rw [hw,hje,List.take_length]
  obtain ⟨H5,s5,u5⟩:=h.newD (v':=v) hlt hy hp (fun z=>{ z with data:=gR z.data at_ x }) (fun _=>rfl) e4 (by rw [hD]; exact g4) f3 rfl
  have h5:=u5.ref h;have hh5:=h5.head;obtain ⟨H6,s6,u6⟩:=h5.tick;have hcc:(T.upd n (fun z=>{ z with data:=gR z.data at_ x })).change=T.change:=rfl
  rw [hcc] at s6 hh5;simp only [F.f80_l2,dX,eC,eE,eS,jG,lS,hxl,aV,hjl',decide_false,aY,aH,s5,aE,hh5,bB,Nat.zero_add,bX.at4,cU (a:=T.change) (b:=1) (by omega) (by omega),s6,aJ,aD,aI]
  exact hQ _ _ (u5.trans u6)
theorem S.f80 (hE:bF E) (h:eB H t nv mv nx mr Y T) (n:BitVec 16) (at_:Int) (xv:Value) (x:List (BitVec 8)) (hx:Rows H 1 xv (cF x)) (hxl:x.length<2 ^ 62) (hc : -9223372036854775808<=T.change/\T.change<9223372036854775807) (hdl:(T.node n).data.length<2 ^ 39)
  (hQ:∀ Y' H',gE t nv mv nx mr Y T nv Y' (T.write n at_ x).1 H H'->Q (vi (T.write n at_ x).2) H'):E.call (E.fid i.f80) [ptr t 0,vi (n.toNat:Int),vi at_,xv] H Q:=by
 apply hE.f80;simp only [F.f80];refine S.f77 hE h n fun b o y H1 e1 hn hat =>?_;obtain ⟨c0,c1,_⟩:=hn.cell;have k1:=aIZ (T.node n).kind;have k2:=oT (T.node n).kind;have k0:=aAu (T.node n).kind;unfold Tr.write at hQ
 by_cases g0:(T.node n).kind=0#8
 ·simp [g0] at hQ
  simp only [aY,aH,aE,Nat.add_zero,c0,bC,k0,eq_true g0,decide_true,aJ,aD,aO];exact hQ _ _ (h.same e1)
 have hlt:=cS g0;obtain ⟨rfl,hy,hp⟩:=hat hlt
 by_cases g2:(T.node n).kind=2#8
 ·simp [g2] at hQ
  simp only [aY,aH,aE,Nat.add_zero,c0,bC,k0,k2,eq_false g0,eq_true g2,decide_true,decide_false,aJ,aD,aO,aI];exact hQ _ _ (h.same e1)
 by_cases g1:(T.node n).kind=1#8
 rotate_left
 ·simp [g0,g2,g1] at hQ
  simp only [aY,aH,aE,Nat.add_zero,c0,bC,cT,ne_eq,k0,k1,k2,eq_false g0,eq_false g2,eq_false g1,not_false_eq_true,decide_true,decide_false,qY,aS,aJ,aD,aO,aI];exact hQ _ _ (h.same e1)
 by_cases g3:at_<0
 ·simp [g0,g2,g1,g3] at hQ
  simp only [aY,aH,aE,Nat.add_zero,c0,bC,cT,ne_eq,k0,k1,k2,eq_false g0,eq_false g2,eq_true g1,not_true,aV,g3,decide_true,decide_false,jR,aS,aZ,aJ,aD,aO,aI];exact hQ _ _ (h.same e1)
 by_cases g4:1024<at_
 ·simp [g0,g2,g1,g3,g4] at hQ
  simp only [aY,aH,aE,Nat.add_zero,c0,bC,cT,cL,gt_iff_lt,ne_eq,k0,k1,k2,eq_false g0,eq_false g2,eq_true g1,not_true,aV,g3,g4,decide_true,decide_false,qY,jR,aS,aZ,aJ,aD,aO,aI];exact hQ _ _ (h.same e1)
 have hxs:=hx.lenSlc;rw [bV] at hxs;have hadd:aA .add (vi at_) (vi x.length)=some (vi (at_+x.length)):=cU (by omega) (by omega)
 by_cases g5:1024<at_+(x.length:Int)
 ·simp [g0,g2,g1,g3,g4,g5] at hQ
  simp only [aY,aH,aE,Nat.add_zero,c0,bC,cT,cL,gt_iff_lt,ne_eq,k0,k1,k2,eq_false g0,eq_false g2,eq_true g1,not_true,aV,g3,g4,hxs,hadd,g5,decide_true,decide_false,jR,aS,aZ,aJ,aD,aO,aI];exact hQ _ _ (h.same e1)
 simp [g0,g2,g1,g3,g4,g5] at hQ;have hb0:buildS 0 1 #[(.int .u8 0)] []=some (.cells [] none,dL 0 0):=tR 1 [u8 0#8] rfl;have e9:Ext H1 (H1.new (.cells [] none)):=(Ext.refl H1).new _;have gr9:bR zH (H1.new (.cells [] none)) 1 (slc H1.next 0 0 0) []:=bR.room (lL _) (AH.get_new_self _ _) rfl
 have c1':((H1.new (.cells [] none)).get b).cell (o+1)=some y.data:=by
  rw [AH.get_new_lt _ _ (AH.lt_of_get (fQ hn.1))];exact c1
 simp only [aY,aH,aE,Nat.add_zero,c0,bC,cT,cL,gt_iff_lt,ne_eq,k0,k1,k2,eq_false g0,eq_false g2,eq_true g1,not_true,aV,g3,g4,hxs,hadd,g5,decide_false,jR,aS,aZ,hb0,AM.cY,dV,c1',aJ,aD,aI];obtain ⟨v18,H11,a1,a2,a3⟩:=gr9.app (bytes:=1) (Nat.zero_le _) (hn.2.1.mono e9) (kF _) (by decide) (by decide) (by simp [bV]; omega) (by simp [bV]; omega)
 obtain ⟨e11,f11⟩:=gF a3 e9 (fun b hb=>by simp [blk] at hb; omega)
 have a1':app 1 1 (slc H1.next 0 0 0) y.data (H1.new (.cells [] none))=some (v18,H11):=a1;simp only [a1',dU,aJ];obtain ⟨sz,rfl⟩:∃ sz:Nat,at_=sz:=⟨at_.toNat,by omega⟩
 rw [List.nil_append] at a2;have hb1:buildS 1 1 #[(.int .u8 0)] [(0,(.int .u8 0))]=some (.cells [u8 0#8] none,dL 1 1):=dF 1 [u8 0#8] [u8 0#8] rfl rfl;have hw:=@aCb E H1 Q t nv mv nx mr Y T h n hlt y b o hy hp sz xv x hx hc (by omega)
 generalize hD:(T.node n).data=D at *;refine aP.ind (fun j ls H'=>∃ v,∃ k:Nat,ls=[ptr t 0,vi sz,xv,ptr b o,v]/\Ext H1 H'/\eO H1.next v/\bR zH H' 1 v (cF (D++List.replicate k 0#8))/\(k=0\/D.length+k<=sz+x.length)/\j=sz+x.length - (D.length+k)) ?_ (sz+x.length - D.length) ⟨v18,0,rfl,e11,f11,by simpa using a2,.inl rfl,by omega⟩
 rintro j _ H3 X hX ⟨v,k,rfl,e3,f3,g6,hk,rfl⟩;have hlv:=g6.toRows.lenSlc;rw [bV,List.length_append,List.length_replicate] at hlv;have hxs3:=(hx.mono e3).lenSlc;rw [bV] at hxs3
 by_cases hlt2:D.length+k<sz+x.length
 ·have hlt2':((D.length+k:Nat):Int)<(sz:Int)+x.length:=by omega
  obtain ⟨v',H4,b1,b2,b3,b4⟩:=aAv g6 e3 f3 (by simp; omega)
  simp only [F.f80_l1,dX,eC,eE,eS,jG,hlv,hxs,hadd,aV,hlt2',decide_true,hb1,AM.cY,dV,b1,dU,aJ,aD,aO];refine hX (sz+x.length - (D.length+(k+1))) (by omega) _ _ ⟨v',k+1,rfl,b3,b4,?_,.inr (by omega),rfl⟩
  rw [List.replicate_succ',<- List.append_assoc];exact b2
 ·have hlt2':¬ ((D.length+k:Nat):Int)<(sz:Int)+x.length:=by omega
  have hk':k=sz+x.length - D.length:=by rcases hk with rfl | hk <;> omega
  have:=hw (D++List.replicate k 0#8) (by simp; omega) (by unfold gR dE; rw [hk']) v H3 e3 f3 g6 hQ
  simp only [F.f80_l1,dX,eC,eE,eS,jG,hlv,hxs,hadd,aV,hlt2',decide_false,aJ,aD,aI];exact this
end
end Go.AM
end
section
namespace Go.AM
structure cN (X:List Res) (H0 H:AH) (p m:Nat) (L:LyL) (T:Tr) (t:Nat) (nv mv:Value) (nx:Int) (mr:List (List Value)) (Y:List RLy) (T2:Tr):Prop where
 ext:Ext H0 H
 ow:Ow (cV (pA p m L T :: fO t nv mv nx mr Y T2 :: X)) H
 own:∀ b∈(cV (pA p m L T :: fO t nv mv nx mr Y T2 :: X)).fp,H0.next<=b
 cov:Cov L T
 len:Y.length=T2.N.length
 fit:T2.N.length<=60000
section
variable {X:List Res} {E:Sy} {H0 H H' H'':AH} {Q:Value->AH->Prop} {p m:Nat} {L L' L'':LyL} {T T' T'' T2 T2':Tr} {t:Nat} {nv nv' mv:Value} {nx:Int} {mr:List (List Value)} {Y Y':List RLy}
theorem cN.ino (h:cN X H0 H p m L T t nv mv nx mr Y T2):Ino H p m L T:=⟨h.ow.part (k:=0) rfl,h.cov⟩
theorem cN.ref (h:cN X H0 H p m L T t nv mv nx mr Y T2):eB H t nv mv nx mr Y T2:=⟨h.ow.part (k:=1) rfl,h.len,h.fit⟩
theorem cN.upd {r:Res} (h:cN X H0 H p m L T t nv mv nx mr Y T2) (u:Upd (cV (pA p m L T :: fO t nv mv nx mr Y T2 :: X)) r H H'):Ext H0 H'/\Ow r H'/\∀ b∈r.fp,H0.next<=b :=
 ⟨u.only.ext h.ext h.own,h.ow.upd u,fun b hb=>(u.fp b hb).1.elim (h.own b) fun k=>Nat.le_trans h.ext.1 k⟩
theorem cN.step1 (h:cN X H0 H p m L T t nv mv nx mr Y T2) (u:gM p m L T L' T' H H'):cN X H0 H' p m L' T' t nv mv nx mr Y T2:=by
 obtain ⟨q1,q2,q3⟩:=h.upd (h.ow.set (k:=0) rfl u.upd);exact ⟨q1,q2,q3,u.cov,h.len,h.fit⟩
theorem cN.step2 (h:cN X H0 H p m L T t nv mv nx mr Y T2) (u:gE t nv mv nx mr Y T2 nv' Y' T2' H H'):cN X H0 H' p m L T t nv' mv nx mr Y' T2':=by
 obtain ⟨q1,q2,q3⟩:=h.upd (h.ow.set (k:=1) rfl u.upd);exact ⟨q1,q2,q3,h.cov,u.len,u.fit⟩
theorem cN.mono (h:cN X H0 H p m L T t nv mv nx mr Y T2) (e:Ext H H'):cN X H0 H' p m L T t nv mv nx mr Y T2:=h.step1 (h.ino.same e)
theorem cN.box (h:cN X H0 H p m L T t nv mv nx mr Y T2) (c:List Value):cN (X++[bN H.next c]) H0 (H.new (.cells c none)) p m L T t nv mv nx mr Y T2:=by
 obtain ⟨q1,q2,q3⟩:=h.upd (h.ow.add (bN H.next c) ((Ext.refl H).new _) (AH.get_new_self _ _) (fun b hb=>by simp [bN] at hb; subst hb; simp) (by simp [bN]))
 exact ⟨q1,q2,q3,h.cov,h.len,h.fit⟩
theorem cN.held {k:Nat} {c:List Value} (h:cN (X++[bN k c]) H0 H p m L T t nv mv nx mr Y T2):H.get k = .cells c none:=h.ow.holds (bN k c) (by simp)
theorem cN.drop {r:Res} (h:cN (X++[r]) H0 H p m L T t nv mv nx mr Y T2):cN X H0 H p m L T t nv mv nx mr Y T2:=by
 have u:=h.ow.erase (X.length+2);have e:(pA p m L T :: fO t nv mv nx mr Y T2 :: (X++[r])).eraseIdx (X.length+2)=pA p m L T :: fO t nv mv nx mr Y T2 :: X:=by simp [List.eraseIdx_append]
 rw [e] at u;obtain ⟨q1,q2,q3⟩:=h.upd u;exact ⟨q1,q2,q3,h.cov,h.len,h.fit⟩
theorem Tr.WF.small (h:T.WF):T.small:=fun n=>by have:=h.size n; omega
theorem cN.cMake (hE:bF E) (h:cN X H0 H p m L T t nv mv nx mr Y T2) (w:T.WF) (n:BitVec 16) (s:aL) (hs:s.length<2 ^ 63) (k:BitVec 8) (text:List UInt8) (ht:text.length<2 ^ 63) (hc : -9223372036854775808<=T.change/\T.change<9223372036854775807)
  (hQ:∀ L' H',cN X H0 H' p m L' (T.make n s k text).1 t nv mv nx mr Y T2->Q (.tuple #[u16 (T.make n s k text).2.1,vi (T.make n s k text).2.2]) H'):E.call (E.fid i.f17) [ptr p 0,u16 n,str s,u8 k,str text] H Q:=by
 have hlen:=w.len16;have hl2:=w.len.1;exact S.f17 hE h.ino n s hs k text ht hc ⟨by omega,by omega⟩ (fun _ r=>w.chain ⟨(Tr.room_ok r).1,(Tr.room_ok r).2.2.1⟩ 17) fun L1 H1 _ u1=>hQ _ _ (h.step1 u1)
theorem cN.rMake (hE:bF E) (h:cN X H0 H p m L T t nv mv nx mr Y T2) (w:T2.WF) (n:BitVec 16) (s:aL) (hs:s.length<2 ^ 63) (k:BitVec 8) (text:List UInt8) (hc : -9223372036854775808<=T2.change/\T2.change<9223372036854775807)
  (hQ:∀ nv' Y' H',cN X H0 H' p m L T t nv' mv nx mr Y' (T2.make n s k text).1->Q (.tuple #[vi ((T2.make n s k text).2.1.toNat:Int),vi (T2.make n s k text).2.2]) H'):E.call (E.fid i.f75) [ptr t 0,vi (n.toNat:Int),str s,vi (k.toNat:Int),str text] H Q:=by
 have hlen:=w.len16;have hl2:=w.len.1;exact S.f75 hE h.ref w.small n s hs k text hc ⟨by omega,by omega⟩ (fun _ r=>w.deep20 ⟨(Tr.room_ok r).1,(Tr.room_ok r).2.2.1⟩) fun nv2 Y2 H2 u2=>hQ _ _ _ (h.step2 u2)
theorem Tr.WF.look_bd (w:T.WF) (n:BitVec 16) (s:aL) (h:(T.look n s).2=0):(T.node (T.look n s).1).kind≠0#8/\0<=(T.node (T.look n s).1).links/\(T.node (T.look n s).1).links<=8224 :=
 ⟨(w.pos (Tr.look_ok h).2).2.2.2.1,(w.links_bd _).1,(w.links_bd _).2⟩
theorem cN.cAdd (hE:bF E) (h:cN X H0 H p m L T t nv mv nx mr Y T2) (w:T.WF) (n:BitVec 16) (s:aL) (hs:s.length<2 ^ 63) (v:BitVec 16) (hc : -9223372036854775808<=T.change/\T.change<9223372036854775807)
  (hQ:∀ L' H',cN X H0 H' p m L' (T.add n s v).1 t nv mv nx mr Y T2->Q (vi (T.add n s v).2) H'):E.call (E.fid i.f11) [ptr p 0,u16 n,str s,u16 v] H Q :=
 S.f11 hE h.ino n s hs v hc (w.links_bd v).1 fun L1 H1 _ u1=>hQ _ _ (h.step1 u1)
theorem cN.rAdd (hE:bF E) (h:cN X H0 H p m L T t nv mv nx mr Y T2) (w:T2.WF) (n:BitVec 16) (s:aL) (hs:s.length<2 ^ 63) (v:BitVec 16) (hc : -9223372036854775808<=T2.change/\T2.change<9223372036854775807)
  (hQ:∀ Y' H',cN X H0 H' p m L T t nv mv nx mr Y' (T2.add n s v).1->Q (vi (T2.add n s v).2) H'):E.call (E.fid i.f68) [ptr t 0,vi (n.toNat:Int),str s,vi (v.toNat:Int)] H Q :=
 S.f68 hE h.ref w.small n s hs v hc (w.links_bd v).1 fun Y2 H2 u2=>hQ _ _ (h.step2 u2)
theorem cN.cDrop (hE:bF E) (h:cN X H0 H p m L T t nv mv nx mr Y T2) (w:T.WF) (n:BitVec 16) (s:aL) (d:Bool) (hc : -9223372036854775808<=T.change/\T.change<9223372036854775807)
  (hQ:∀ L' H',cN X H0 H' p m L' (T.drop n s d).1 t nv mv nx mr Y T2->Q (vi (T.drop n s d).2) H'):E.call (E.fid i.f13) [ptr p 0,u16 n,str s,vb d] H Q :=
 S.f13 hE h.ino n s d hc (fun e=>by have:=w.look_bd n s e; exact ⟨this.1,by omega,by omega⟩) fun L1 H1 _ _ u1=>hQ _ _ (h.step1 u1)
theorem cN.rDrop (hE:bF E) (h:cN X H0 H p m L T t nv mv nx mr Y T2) (w:T2.WF) (n:BitVec 16) (s:aL) (d:Bool) (hc : -9223372036854775808<=T2.change/\T2.change<9223372036854775807)
  (hQ:∀ Y' H',cN X H0 H' p m L T t nv mv nx mr Y' (T2.drop n s d).1->Q (vi (T2.drop n s d).2) H'):E.call (E.fid i.f71) [ptr t 0,vi (n.toNat:Int),str s,vb d] H Q :=
 S.f71 hE h.ref w.small n s d hc (fun e=>by have:=w.look_bd n s e; exact ⟨this.1,by omega,by omega⟩) (by have:=w.size n; omega) fun Y2 H2 u2=>hQ _ _ (h.step2 u2)
theorem cN.cHold (hE:bF E) (h:cN X H0 H p m L T t nv mv nx mr Y T2) (w:T.WF) (n:BitVec 16) (more:Bool) (hb:(T.node n).held<9223372036854775807)
  (hQ:∀ L' H',cN X H0 H' p m L' (T.hold n more).1 t nv mv nx mr Y T2->Q (vi (T.hold n more).2) H'):E.call (E.fid i.f15) [ptr p 0,u16 n,vb more] H Q:=by
 refine S.f15 hE h.ino n more ⟨w.held n,hb⟩ ?_
 intros
 apply hQ;rename_i u1;exact h.step1 u1
theorem cN.rHold (hE:bF E) (h:cN X H0 H p m L T t nv mv nx mr Y T2) (w:T2.WF) (n:BitVec 16) (more:Bool) (hb:(T2.node n).held<9223372036854775807)
  (hQ:∀ Y' H',cN X H0 H' p m L T t nv mv nx mr Y' (T2.hold n more).1->Q (vi (T2.hold n more).2) H'):E.call (E.fid i.f72) [ptr t 0,vi (n.toNat:Int),vb more] H Q :=
 S.f72 hE h.ref n more ⟨w.held n,hb⟩ fun Y2 H2 u2=>hQ _ _ (h.step2 u2)
theorem cN.cMove (hE:bF E) (h:cN X H0 H p m L T t nv mv nx mr Y T2) (w:T.WF) (fr to:BitVec 16) (s other:aL) (hs:other.length<2 ^ 63) (hc : -9223372036854775808<=T.change/\T.change<9223372036854775806)
  (hQ:∀ L' H',cN X H0 H' p m L' (T.move fr s to other).1 t nv mv nx mr Y T2->Q (vi (T.move fr s to other).2) H'):E.call (E.fid i.f18) [ptr p 0,u16 fr,str s,u16 to,str other] H Q:=by
 exact S.f18 hE h.ino fr to s other hs hc (fun e=>(w.look_bd fr s e).1) (fun _ hk h1=>w.chain ⟨hk,h1⟩ 17) (f:=17) (fun e hk=>w.fits17 (w.look_live (Tr.look_ok e).2 hk)) (by omega)
  (fun y hk hy=>⟨(w.pos hy).2.2.2.1,(w.links_bd y).1,by have:=(w.links_bd y).2; omega⟩) fun L1 H1 _ _ u1=>hQ _ _ (h.step1 u1)
theorem cN.rMove (hE:bF E) (h:cN X H0 H p m L T t nv mv nx mr Y T2) (w:T2.WF) (fr to:BitVec 16) (s other:aL) (hs:other.length<2 ^ 63) (hc : -9223372036854775808<=T2.change/\T2.change<9223372036854775806)
  (hQ:∀ Y' H',cN X H0 H' p m L T t nv mv nx mr Y' (T2.move fr s to other).1->Q (vi (T2.move fr s to other).2) H'):E.call (E.fid i.f76) [ptr t 0,vi (fr.toNat:Int),str s,vi (to.toNat:Int),str other] H Q :=
 S.f76 hE h.ref w.small fr to s other hs hc (fun e=>(w.look_bd fr s e).1) (fun _ h1 hk=>⟨w.deep20 ⟨hk,h1⟩,w.within20 ⟨hk,h1⟩ _⟩) (f:=17) (fun e hk=>w.fits17 (w.look_live (Tr.look_ok e).2 hk)) (by omega)
  (fun y hk hy=>⟨(w.pos hy).2.2.2.1,(w.links_bd y).1,by have:=(w.links_bd y).2; omega⟩) (fun _=>(w.rising to).nodup) ⟨by have:=w.size fr; omega,by have:=w.size to; omega⟩ fun Y2 H2 u2=>hQ _ _ (h.step2 u2)
theorem cN.cWrite (hE:bF E) (h:cN X H0 H p m L T t nv mv nx mr Y T2) (w:T.WF) (n:BitVec 16) (at_:Int) (v:Value) (b:List (BitVec 8)) (hv:Rows H 1 v (cF b)) (hb:b.length<2 ^ 63) (hat : -9223372036854775808<=at_/\at_<9223372036854775808) (hc : -9223372036854775808<=T.change/\T.change<9223372036854775807)
  (hQ:∀ L' H',cN X H0 H' p m L' (T.write n at_ b).1 t nv mv nx mr Y T2->Q (vi (T.write n at_ b).2) H'):E.call (E.fid i.f20) [ptr p 0,u16 n,vi at_,v] H Q :=
 S.f20 hE h.ino n at_ v b hv hb hc hat (by have:=w.data n; omega) fun L1 H1 _ u1=>hQ _ _ (h.step1 u1)
theorem cN.rWrite (hE:bF E) (h:cN X H0 H p m L T t nv mv nx mr Y T2) (w:T2.WF) (n:BitVec 16) (at_:Int) (v:Value) (b:List (BitVec 8)) (hv:Rows H 1 v (cF b)) (hb:b.length<2 ^ 62) (hc : -9223372036854775808<=T2.change/\T2.change<9223372036854775807)
  (hQ:∀ Y' H',cN X H0 H' p m L T t nv mv nx mr Y' (T2.write n at_ b).1->Q (vi (T2.write n at_ b).2) H'):E.call (E.fid i.f80) [ptr t 0,vi (n.toNat:Int),vi at_,v] H Q :=
 S.f80 hE h.ref n at_ v b hv hb hc (by have:=w.data n; omega) fun Y2 H2 u2=>hQ _ _ (h.step2 u2)
theorem cN.cCut (hE:bF E) (h:cN X H0 H p m L T t nv mv nx mr Y T2) (w:T.WF) (n:BitVec 16) (size:Int) (hc : -9223372036854775808<=T.change/\T.change<9223372036854775807)
  (hQ:∀ L' H',cN X H0 H' p m L' (T.cut n size).1 t nv mv nx mr Y T2->Q (vi (T.cut n size).2) H'):E.call (E.fid i.f12) [ptr p 0,u16 n,vi size] H Q:=by
 exact S.f12 hE h.ino n size hc fun L1 H1 _ u1=>hQ _ _ (h.step1 u1)
theorem cN.rCut (hE:bF E) (h:cN X H0 H p m L T t nv mv nx mr Y T2) (w:T2.WF) (n:BitVec 16) (size:Int) (hc : -9223372036854775808<=T2.change/\T2.change<9223372036854775807)
  (hQ:∀ Y' H',cN X H0 H' p m L T t nv mv nx mr Y' (T2.cut n size).1->Q (vi (T2.cut n size).2) H'):E.call (E.fid i.f70) [ptr t 0,vi (n.toNat:Int),vi size] H Q :=
 S.f70 hE h.ref n size hc (by have:=w.data n; omega) fun Y2 H2 u2=>hQ _ _ (h.step2 u2)
end
end Go.AM
end
section
namespace Go.AM
theorem Ow.perm {rs rs':List Res} {H:AH} (h:Ow (cV rs) H) (hp:rs.Perm rs'):Ow (cV rs') H :=
 ⟨fun r hr=>h.holds r (hp.mem_iff.2 hr),fun b hb=>h.lt b ((hp.flatMap_right Res.fp).mem_iff.2 hb),(hp.flatMap_right Res.fp).nodup_iff.1 h.nd⟩
def sO (p m:Nat) (L:LyL) (T:Tr) (q:Nat) (v:Value) (M:List bL) (nx:Int) (w:Nat) (X:List Res):List Res:=pA p m L T :: iV q v M nx :: bN w [ptr p 0,ptr q 0] :: X
def WkO (X:List Res) (H0 H:AH) (w:Nat) (T:Tr) (M:List bL) (nx:Int):Prop :=
 ∃ p m L q v,Ext H0 H/\Ow (cV (sO p m L T q v M nx w X)) H/\(∀ b∈(cV (sO p m L T q v M nx w X)).fp,H0.next<=b)/\Cov L T/\aAA M nx
section
variable {E:Sy} {X:List Res} {H H' H0 Z:AH} {Q:Value->AH->Prop} {w:Nat} {T T':Tr} {M M':List bL} {nx nx':Int} {L:List Res}
theorem WkO.ext (h:WkO X H0 H w T M nx):Ext H0 H:=by obtain ⟨_,_,_,_,_,h,_⟩:=h; exact h
theorem WkO.tab (h:WkO X H0 H w T M nx):aAA M nx:=by obtain ⟨_,_,_,_,_,_,_,_,_,h⟩:=h; exact h
theorem nP {r r':Res} (e:Ext H0 H) (o:Ow r H) (own:∀ b∈r.fp,H0.next<=b) (u:Upd r r' H H'):Ext H0 H'/\Ow r' H'/\∀ b∈r'.fp,H0.next<=b :=
 ⟨u.only.ext e own,o.upd u,fun b hb=>(u.fp b hb).1.elim (own b) fun k=>Nat.le_trans e.1 k⟩
theorem WkO.open_ (h:WkO X H0 H w T M nx):∃ p q,H.get w = .cells [ptr p 0,ptr q 0] none /\
  (∃ m L,Ino H p m L T/\∀ L' T' H',gM p m L T L' T' H H'->WkO X H0 H' w T' M nx) /\
  (∃ v,(iV q v M nx).P H/\(iV q v M nx).fp.Nodup/\∀ v' M' nx' H',Upd (iV q v M nx) (iV q v' M' nx') H H'->aAA M' nx'->WkO X H0 H' w T M' nx'):=by
 obtain ⟨p,m,L,q,v,e,o,own,cov,tab⟩:=h;refine ⟨p,q,o.holds (bN w [ptr p 0,ptr q 0]) (by simp [sO]),⟨m,L,⟨o.part (k:=0) rfl,cov⟩,fun L' T' H' u =>?_⟩,⟨v,o.holds (iV q v M nx) (by simp [sO]),(o.part (k:=1) rfl).nd,fun v' M' nx' H' u ok =>?_⟩⟩
 ·obtain ⟨a,b,c⟩:=nP e o own (o.set (k:=0) rfl u.upd)
  exact ⟨p,m,L',q,v,a,b,c,u.cov,tab⟩
 ·obtain ⟨a,b,c⟩:=nP e o own (o.set (k:=1) rfl u)
  exact ⟨p,m,L,q,v',a,b,c,cov,ok⟩
theorem WkO.openX (h:WkO X H0 H w T M nx) {k:Nat} {r:Res} (hk:X[k]? = some r):Ow r H/\∀ r' H',Upd r r' H H'->WkO (X.set k r') H0 H' w T M nx:=by
 obtain ⟨p,m,L,q,v,e,o,own,cov,tab⟩:=h;have hk':(sO p m L T q v M nx w X)[k+3]? = some r:=by simpa [sO] using hk
 refine ⟨o.part hk',fun r' H' u =>?_⟩;obtain ⟨a,b,c⟩:=nP e o own (o.set hk' u);exact ⟨p,m,L,q,v,a,b,c,cov,tab⟩
theorem WkO.mono (h:WkO X H0 H w T M nx) (e:Ext H H'):WkO X H0 H' w T M nx:=by
 obtain ⟨p,m,L,q,v,e0,o,own,cov,tab⟩:=h;exact ⟨p,m,L,q,v,e0.trans e,o.mono e,own,cov,tab⟩
theorem WkO.add (h:WkO X H0 H w T M nx) {r:Res} (n:aCN r H H'):WkO (X++[r]) H0 H' w T M nx:=by
 obtain ⟨p,m,L,q,v,e0,o,own,cov,tab⟩:=h;obtain ⟨a,b,c⟩:=nP e0 o own (o.add r n.1 n.2.1 n.2.2.1 n.2.2.2);exact ⟨p,m,L,q,v,a,b,c,cov,tab⟩
theorem newbox (H:AH) (c:List Value):aCN (bN H.next c) H (H.new (.cells c none)):=⟨(Ext.refl H).new _,AH.get_new_self _ _,fun b hb=>by simp [bN] at hb; subst hb; simp,by simp [bN]⟩
theorem WkO.box (h:WkO X H0 H w T M nx) (c:List Value):WkO (X++[bN H.next c]) H0 (H.new (.cells c none)) w T M nx:=h.add (newbox H c)
theorem WkO.drop {r:Res} (h:WkO (X++[r]) H0 H w T M nx):WkO X H0 H w T M nx:=by
 obtain ⟨p,m,L,q,v,e0,o,own,cov,tab⟩:=h;have u:=o.erase (X.length+3);have e:(sO p m L T q v M nx w (X++[r])).eraseIdx (X.length+3)=sO p m L T q v M nx w X:=by simp [sO,List.eraseIdx_append]
 rw [e] at u;obtain ⟨a,b,c⟩:=nP e0 o own u;exact ⟨p,m,L,q,v,a,b,c,cov,tab⟩
theorem WkO.held {k:Nat} {c:List Value} (h:WkO (X++[bN k c]) H0 H w T M nx):H.get k = .cells c none:=(h.openX (k:=X.length) (r:=bN k c) (by simp)).1.holds
theorem WkO.put {k:Nat} {c:List Value} (h:WkO (X++[bN k c]) H0 H w T M nx) (c':List Value):WkO (X++[bN k c']) H0 (H.put k (.cells c' none)) w T M nx:=by
 have:=(h.openX (k:=X.length) (r:=bN k c) (by simp)).2 _ _ (bN.put h.held c')
 rwa [aCC] at this
theorem WkO.at_ (h:WkO X H0 H w T M nx):oX H w T M:=by
 obtain ⟨p,q,hw,⟨m,L,hi,_⟩,⟨v,ht,_,_⟩⟩:=h.open_;have:=h.tab.len;exact ⟨⟨p,m,L,q,nx,hw,hi,iV.at_ ht (by omega)⟩,h.tab.older⟩
theorem WkO.two {t:Nat} {nv mv:Value} {mr:List (List Value)} {Y:List RLy} {T2:Tr} {rx:Int} (h:WkO (fO t nv mv rx mr Y T2 :: X) H0 H w T M nx) (hl:Y.length=T2.N.length) (hf:T2.N.length<=60000) :
  ∃ p q v m L,cN (iV q v M nx :: bN w [ptr p 0,ptr q 0] :: X) H0 H p m L T t nv mv rx mr Y T2 /\
   ∀ L' T' nv' Y' T2' H',cN (iV q v M nx :: bN w [ptr p 0,ptr q 0] :: X) H0 H' p m L' T' t nv' mv rx mr Y' T2'->WkO (fO t nv' mv rx mr Y' T2' :: X) H0 H' w T' M nx:=by
 obtain ⟨p,m,L,q,v,e0,o,own,cov,tab⟩:=h
 have perm:∀ (a b c d:Res),(a :: b :: c :: d :: X).Perm (a :: d :: b :: c :: X):=fun a b c d=>by
  refine .cons _ ?_;exact (List.Perm.cons _ (.swap _ _ _)).trans (.swap _ _ _)
 refine ⟨p,q,v,m,L,⟨e0,o.perm (perm _ _ _ _),fun b hb=>own b (((perm _ _ _ _).flatMap_right Res.fp).mem_iff.2 hb),cov,hl,hf⟩,fun L' T' nv' Y' T2' H' h2 =>?_⟩;exact ⟨p,m,L',q,v,h2.ext,h2.ow.perm (perm _ _ _ _).symm,fun b hb=>h2.own b (((perm _ _ _ _).flatMap_right Res.fp).mem_iff.1 hb),h2.cov,tab⟩
theorem S.f127 (hE:bF E) (limit:Int) (hQ:∀ w H',WkO [] H H' w (Tr.new limit) gC 1->Q (ptr w 0) H'):E.call (E.fid i.f127) [vi limit] H Q:=by
 apply hE.f127;simp only [F.f127];refine S.f10' hE limit fun p m L H1 h1 =>?_;refine S.f38 hE fun q v H2 n2 =>?_;have hb:aT [(0,1),(1,1)] #[(.pointer none),(.pointer none)] [(0,ptr p 0),(1,ptr q 0)]=some (.agg #[ptr p 0,ptr q 0]):=rfl;simp only [hb,jU,AM.cY,iY,bA];refine hQ H2.next _ ⟨p,m,L,q,v,?_⟩
 have o1:Ow (cV [pA p m L (Tr.new limit)]) H1:=by
  refine ⟨fun r hr=>by rw [List.mem_singleton] at hr; rw [hr]; exact h1.ino.ow.holds,?_,?_⟩
  ·intro b hb; exact h1.ino.ow.lt b (by simpa [cV] using hb)
  ·simpa [cV] using h1.ino.ow.nd
 have own1:∀ b∈(cV [pA p m L (Tr.new limit)]).fp,H.next<=b:=fun b hb=>h1.own b (by simpa [cV] using hb)
 obtain ⟨a2,b2,c2⟩:=nP h1.ext o1 own1 (o1.add _ n2.1 n2.2.1 n2.2.2.1 n2.2.2.2);have n3:=newbox H2 [ptr p 0,ptr q 0];obtain ⟨a3,b3,c3⟩:=nP a2 b2 c2 (b2.add _ n3.1 n3.2.1 n3.2.2.1 n3.2.2.2);exact ⟨a3,b3,c3,h1.ino.cov,aJj⟩
end
end Go.AM
end
section
namespace Go.AM
def Tr.Each (P:Nd->Prop) (T:Tr):Prop:=∀ n,P (T.node n)
structure aIR (P:Nd->Prop):Prop where
 none:P Nd.none
 addE:∀ s k x,P x->P (Nd.addE s k x)
 delE:∀ s x,P x->P (Nd.delE s x)
 addL:∀ k x,P x->P (Nd.addL k x)
 addH:∀ k x,P x->P (Nd.addH k x)
 par:∀ (q:BitVec 16) (x:Nd),P x->P { x with parent:=q }
 made:∀ inn k text,¬ (k=0#8\/3#8<k\/(k=3#8/\(text.length<1\/120<text.length)))->P (Nd.made inn k text)
 data:∀ (x:Nd) (d:List (BitVec 8)),x.kind=1#8->P x->P { x with data:=d }
section
variable {T:Tr} {P:Nd->Prop} (K:aIR P)
theorem Tr.Each.upd (h:T.Each P) {n:BitVec 16} {f:Nd->Nd} (hf:∀ x:Nd,P x->P (f x)):(T.upd n f).Each P:=by
 intro k;rcases T.upd_or n k f with e | e
 ·rw [e]; exact h k
 ·rw [e]; exact hf _ (h k)
theorem Tr.Each.updAt (h:T.Each P) {n:BitVec 16} {f:Nd->Nd} (hf:P (f (T.node n))):(T.upd n f).Each P:=by
 intro k;unfold Tr.upd Tr.node;simp only [List.getD_eq_getElem?_getD,List.getElem?_modify];have hk:=h k;unfold Tr.node at hk hf;simp only [List.getD_eq_getElem?_getD] at hk hf
 by_cases e:n.toNat=k.toNat
 ·rw [e] at hf
  cases hh:T.N[k.toNat]? with
  | none=>rw [hh] at hk; exact hk
  | some x=>rw [hh] at hf; simpa [e] using hf
 ·simp only [e,if_false]
  cases hh:T.N[k.toNat]? with
  | none=>rw [hh] at hk; exact hk
  | some x=>rw [hh] at hk; exact hk
theorem Tr.Each.bump (h:T.Each P):T.bump.Each P:=h
include K
theorem Tr.Each.tidy (h:T.Each P) (n:BitVec 16):(T.tidy n).Each P:=by
 unfold Tr.tidy
 split
 ·exact h.upd fun _ _=>K.none
 ·exact h
theorem Tr.Each.put (h:T.Each P) (a:Nat) (x:Nd) (hx:P x):(T.put a x).Each P:=by
 intro k;unfold Tr.put Tr.node;simp only [List.getD_eq_getElem?_getD];have hk:=h k;unfold Tr.node at hk;simp only [List.getD_eq_getElem?_getD] at hk
 split
 ·rw [List.getElem?_set]
  split
  ·exact hx
  ·exact hk
 ·rw [List.getElem?_append]
  split
  ·exact hk
  ·cases hz:([x][k.toNat - T.N.length]? : Option Nd) with
   | none=>exact K.none
   | some z =>
    have:=List.mem_of_getElem? hz;simp at this;subst this;exact hx
theorem Tr.Each.make (h:T.Each P) (inn:BitVec 16) (s:aL) (kd:BitVec 8) (text:List UInt8):(T.make inn s kd text).1.Each P:=by
 unfold Tr.make
 split
 ·exact h
 split
 ·exact h
 rename_i hc
 split
 ·exact h
 exact ((h.put K T.free (Nd.made inn kd text) (K.made inn kd text hc)).upd (f:=Nd.addE s (BitVec.ofNat 16 T.free)) fun x hx=>K.addE _ _ _ hx).bump
theorem Tr.Each.add (h:T.Each P) (inn:BitVec 16) (s:aL) (v:BitVec 16):(T.add inn s v).1.Each P:=by
 unfold Tr.add
 repeat' split
 all_goals try exact h
 exact ((h.upd (f:=Nd.addE s v) fun x hx=>K.addE _ _ _ hx).upd (f:=Nd.addL 1) fun x hx=>K.addL _ _ hx).bump
theorem Tr.Each.drop (h:T.Each P) (inn:BitVec 16) (s:aL) (d:Bool):(T.drop inn s d).1.Each P:=by
 unfold Tr.drop
 repeat' split
 all_goals try exact h
 exact Tr.Each.tidy K ((h.upd (f:=Nd.delE s) fun x hx=>K.delE _ _ hx).upd (f:=Nd.addL (-1)) fun x hx=>K.addL _ _ hx).bump _
theorem Tr.Each.hold (h:T.Each P) (n:BitVec 16) (more:Bool):(T.hold n more).1.Each P:=by
 unfold Tr.hold
 repeat' split
 all_goals try exact h
 ·exact h.upd fun x hx=>K.addH _ _ hx
 ·exact Tr.Each.tidy K (h.upd fun x hx=>K.addH _ _ hx) _
theorem Tr.Each.move (h:T.Each P) (fr:BitVec 16) (s:aL) (to:BitVec 16) (other:aL):(T.move fr s to other).1.Each P:=by
 have key:∀ (U:Tr) (n:BitVec 16),U.Each P->(Tr.moved U fr s to other n).Each P:=by
  intro U n hU;have h2:((U.upd fr (Nd.delE s)).upd to (Nd.addE other n)).Each P:=(hU.upd (f:=Nd.delE s) fun x hx=>K.delE _ _ hx).upd (f:=Nd.addE other n) fun x hx=>K.addE _ _ _ hx;unfold Tr.moved;simp only
  split
  ·exact (h2.upd (f:=fun x=>{ x with parent:=to }) fun x hx=>K.par _ _ hx).bump
  ·exact h2.bump
 unfold Tr.move
 split
 ·exact h
 split
 ·exact h
 split
 ·exact h
 split
 ·exact h
 split
 ·exact h
 refine key _ _ ?_
 split
 ·exact h.drop K _ _ _
 ·exact h
theorem Tr.Each.write (h:T.Each P) (n:BitVec 16) (at_:Int) (b:List (BitVec 8)):(T.write n at_ b).1.Each P:=by
 unfold Tr.write
 split
 ·exact h
 split
 ·exact h
 split
 ·exact h
 rename_i hc
 split
 ·exact h
 refine Tr.Each.bump (Tr.Each.updAt h ?_);exact K.data _ _ (by simp only [not_or,Decidable.not_not] at hc; exact hc.1) (h n)
theorem Tr.Each.cut (h:T.Each P) (n:BitVec 16) (size:Int):(T.cut n size).1.Each P:=by
 unfold Tr.cut
 split
 ·exact h
 split
 ·exact h
 split
 ·exact h
 rename_i hc
 split
 ·exact h
 refine Tr.Each.bump (Tr.Each.updAt h ?_);exact K.data _ _ (by simp only [not_or,Decidable.not_not] at hc; exact hc.1) (h n)
omit K in
theorem Tr.Each.new (limit:Int) (h0:P Nd.none) (h1:P { Nd.none with kind:=2#8,parent:=1#16,links:=1 }):(Tr.new limit).Each P:=by
 intro n;unfold Tr.new Tr.node;simp only [List.getD_eq_getElem?_getD]
 by_cases e0:n.toNat=0
 ·rw [e0]; exact h0
 ·by_cases e1:n.toNat=1
  ·rw [e1]; exact h1
  ·rw [List.getElem?_eq_none (by simp; omega)]; exact h0
end
structure Nd.KD (x:Nd):Prop where
 kind:x.kind=0#8\/x.kind=1#8\/x.kind=2#8\/x.kind=3#8
 text:x.kind=3#8->x.text≠[]/\x.text.length<=120
 notext:x.kind≠3#8->x.text=[]
 nodata:x.kind≠1#8->x.data=[]
theorem gP:aIR Nd.KD where
 none:=⟨.inl rfl,by simp [Nd.none],by simp [Nd.none],by simp [Nd.none]⟩
 addE:=fun _ _ _ h=>⟨h.kind,h.text,h.notext,h.nodata⟩
 delE:=fun _ _ h=>⟨h.kind,h.text,h.notext,h.nodata⟩
 addL:=fun _ _ h=>⟨h.kind,h.text,h.notext,h.nodata⟩
 addH:=fun _ _ h=>⟨h.kind,h.text,h.notext,h.nodata⟩
 par:=fun _ _ h=>⟨h.kind,h.text,h.notext,h.nodata⟩
 made:=fun inn k text h=>by
  simp only [not_or,not_and] at h;obtain ⟨h1,h2,h3⟩:=h
  have hk:k=1#8\/k=2#8\/k=3#8:=by
   have h2:¬ (3<k.toNat):=h2;have h1:k.toNat≠0:=fun e=>h1 (BitVec.eq_of_toNat_eq e);have:k.toNat=1\/k.toNat=2\/k.toNat=3:=by omega
   rcases this with e | e | e
   ·exact .inl (BitVec.eq_of_toNat_eq e)
   ·exact .inr (.inl (BitVec.eq_of_toNat_eq e))
   ·exact .inr (.inr (BitVec.eq_of_toNat_eq e))
  refine ⟨.inr hk,fun e =>?_,fun e =>?_,fun _=>rfl⟩
  ·have e:k=3#8:=e
   obtain ⟨a,b⟩:=h3 e;have ht:(Nd.made inn k text).text=text:=by simp [Nd.made,e]
   rw [ht];refine ⟨fun e0=>a (by rw [e0]; decide),by omega⟩
  ·have e:k≠3#8:=e
   simp [Nd.made,e]
 data:=fun x d hk h=>⟨h.kind,h.text,h.notext,fun e=>(e hk).elim⟩
abbrev Tr.KD (T:Tr):Prop:=T.Each Nd.KD
theorem Tr.KD.new (limit:Int):(Tr.new limit).KD:=Tr.Each.new limit gP.none ⟨.inr (.inr (.inl rfl)),by simp,by simp [Nd.none],by simp [Nd.none]⟩
end Go.AM
end
section
namespace Go.AM
section
variable {E:Sy} {X:List Res} {H H' H0 Z:AH} {Q:Value->AH->Prop} {w p m:Nat} {T T':Tr} {M M':List bL} {nx nx':Int} {L:LyL}
abbrev Tr.CO (T:Tr):Prop := -9223372036854775808<=T.change/\T.change<9223372036854775806
theorem Ino.cMake (hE:bF E) (h:Ino H p m L T) (wf:T.WF) (n:BitVec 16) (s:aL) (hs:s.length<2 ^ 63) (k:BitVec 8) (text:List UInt8) (ht:text.length<2 ^ 63) (hc:T.CO)
  (hQ:∀ L' H',gM p m L T L' (T.make n s k text).1 H H'->Q (.tuple #[u16 (T.make n s k text).2.1,vi (T.make n s k text).2.2]) H'):E.call (E.fid i.f17) [ptr p 0,u16 n,str s,u8 k,str text] H Q:=by
 have hlen:=wf.len16;have hl2:=wf.len.1;exact S.f17 hE h n s hs k text ht ⟨hc.1,by have:=hc.2; omega⟩ ⟨by omega,by omega⟩ (fun _ r=>wf.chain ⟨(Tr.room_ok r).1,(Tr.room_ok r).2.2.1⟩ 17) fun L1 H1 _ u1=>hQ _ _ u1
theorem Tr.KD.lt (h:T.KD):T.LT:=fun n hk=>(h n).text hk
theorem aEl:aEo T gC:=by
 intro m hm h;simp [gC] at hm;subst hm;exact (h rfl).elim
end
end Go.AM
end
section
namespace Go.AM
structure iZ where
 h:BitVec 16
 paths:List (BitVec 16×BitVec 16)
 ports:List (BitVec 16×BitVec 16)
abbrev aEW (n:BitVec 16) (l:List (BitVec 16×BitVec 16)):BitVec 16:=(l.lookup n).getD 0#16
def aBY (dir:Bool) (r:BitVec 16):BitVec 16:=if dir then r&&&2047#16 else r&&&1031#16
def aFa (n r:BitVec 16) (l:List (BitVec 16×BitVec 16)):List (BitVec 16×BitVec 16):=jH n (aEW n l|||r) l
def aA6 (T:Tr) (M:List bL) (cwd:aG) (l:List (BitVec 16×BitVec 16)) (b:List UInt8×BitVec 16):List (BitVec 16×BitVec 16)×Int :=
 if (kI T M cwd b.1 true).2≠0 then (l,(kI T M cwd b.1 true).2)
 else if aBY (decide ((T.node (kI T M cwd b.1 true).1.i).kind=2#8)) b.2≠b.2 then (l,22)
 else (aFa (kI T M cwd b.1 true).1.i b.2 l,0)
def iH (T:Tr) (M:List bL) (cwd:aG):List (BitVec 16×BitVec 16)->List (List UInt8×BitVec 16)->List (BitVec 16×BitVec 16)×Int
 | l,[]=>(l,0)
 | l,b :: bs=>if (aA6 T M cwd l b).2≠0 then aA6 T M cwd l b else iH T M cwd (aA6 T M cwd l b).1 bs
def lA (ps:List (BitVec 16×BitVec 16)):List (BitVec 16×BitVec 16):=ps.foldl (fun l x=>aFa x.1 x.2 l) []
def zD.set (T:Tr) (M:List bL) (cwd:aG) (x:zD):iZ×Int:=(⟨x.handled,(iH T M cwd [] x.paths).1,lA x.ports⟩,(iH T M cwd [] x.paths).2)
def iZ.at_ (d:iZ) (n:BitVec 16):BitVec 16:=aEW n d.paths
def iZ.granted (d:iZ) (n:BitVec 16) (above:List aG):BitVec 16:=above.foldl (fun r p=>r|||d.at_ p.i) (d.at_ n)
def iZ.denied (d:iZ) (want n:BitVec 16) (above:List aG):BitVec 16:=(want&&&d.h) &&& ~~~ d.granted n above
def iJ (H:AH) (s:Nat) (d:iZ):Prop:=∃ r1 r2,H.get s = .cells [u16 d.h,.map (some r1),.map (some r2)] none/\eM u16 u16 H r1 d.paths/\eM u16 u16 H r2 d.ports
section
variable {E:Sy} {X:List Res} {H H' H0 Z:AH} {Q:Value->AH->Prop} {t w:Nat} {T T':Tr} {M M':List bL} {nx nx':Int} {L:List Res} {s:Nat} {d:iZ}
theorem iJ.mono (h:iJ H s d) (e:Ext H H'):iJ H' s d:=by
 obtain ⟨r1,r2,h1,h2,h3⟩:=h;exact ⟨r1,r2,e.cells h1,h2.keep (e.get h2.lt),h3.keep (e.get h3.lt)⟩
theorem wW {r:Nat} {l:List (BitVec 16×BitVec 16)} (h:eM u16 u16 H r l) (n:BitVec 16):look 0 (.int .u16 0) false (.map (some r)) (u16 n) H=some (u16 (aEW n l)):=by
 have:=h.look (kd:=0) (fun a b=>gV a b) n (.int .u16 0) false;rw [this];unfold aEW;cases l.lookup n <;> rfl
theorem S.f91 (hE:bF E) (r:BitVec 16) (dir:Bool) (hQ:Q (u16 (aBY dir r)) H):E.call (E.fid i.f91) [u16 r,vb dir] H Q:=by
 apply hE.f91;cases dir <;> simpa [F.f91,aBY] using hQ
theorem S.f96 (hE:bF E) (h:iJ H s d) (hQ:Q (u16 d.h) H):E.call (E.fid i.f96) [ptr s 0] H Q:=by
 apply hE.f96;obtain ⟨r1,r2,h1,h2,h3⟩:=h;simp only [F.f96,kQ,h1,bA];exact hQ
theorem S.f93 (hE:bF E) (h:iJ H s d) (n:BitVec 16) (hQ:Q (u16 (d.at_ n)) H):E.call (E.fid i.f93) [ptr s 0,u16 n] H Q:=by
 apply hE.f93;obtain ⟨r1,r2,h1,h2,h3⟩:=h;simp only [F.f93,kQ,h1,wW h2,bA];exact hQ
theorem S.f95 (hE:bF E) (h:iJ H s d) (n:BitVec 16) (v:Value) (l:List aG) (hv:Rows H 2 v (gU l)) (hl:l.length<2 ^ 63) (hQ:∀ H',Ext H H'->Q (u16 (d.granted n l)) H'):E.call (E.fid i.f95) [ptr s 0,u16 n,v] H Q:=by
 apply hE.f95;simp only [F.f95];refine S.f93 hE h n ?_;have hls:=hv.lenSlc;rw [kD] at hls;simp only [hls,bA];unfold iZ.granted at hQ;refine aP.count l.length (fun j ls H'=>ls=[ptr s 0,u16 ((l.take j).foldl (fun r p=>r|||d.at_ p.i) (d.at_ n)),v,vi l.length,vi j]/\Ext H H') ?_ ⟨rfl,Ext.refl _⟩;rintro j _ H1 X hj hX ⟨rfl,e1⟩;rcases Nat.lt_or_ge j l.length with hjl | hjl
 ·have hX:=hX hjl
  have hjl':(j:Int)<l.length:=by omega
  have hjj:=cG (i:=j) (by omega)
  obtain ⟨b,o,f1,f2⟩:=(hv.mono e1).ix (i:=j) (by rw [kD]; exact hjl)
  have hrow:(gU l)[j]'(by rw [kD]; exact hjl)=(l[j]).cells:=by simp [gU]
  rw [hrow] at f2;rw [List.take_succ_eq_append_getElem hjl,List.foldl_append,List.foldl_cons,List.foldl_nil] at hX;generalize l[j]=p at *;have hlo:aU 2 (ptr b o) H1=some p.v:=by rw [bP,f2]; rfl
  have hz2:([(.int .i64 0),(.int .u16 0)]:List Value)=aG.zero.cells:=rfl
  have hst:storeN 2 (ptr H1.next 0) p.v (H1.new (.cells aG.zero.cells none))=some (H1.new (.cells p.cells none)):=by
   rw [cJ,AH.get_new_self];have:AM.splice aG.zero.cells 0 p.cells=p.cells:=rfl;simp only [List.size_toArray,List.toList_toArray,show p.cells.length=2 from rfl,show aG.zero.cells.length=2 from rfl,show p.cells.all plain1=true from rfl,Nat.zero_add,Nat.le_refl,and_self,if_true,this,AH.new_put]
  have x2:Ext H1 (H1.new (.cells p.cells none)):=(Ext.refl _).new _;have c1:p.cells[1]? = some (u16 p.i):=rfl;simp only [F.f95_l1,aV,hjl',decide_true,f1,hlo,cW,hz2,hst,AH.get_new_self,c1,bA];refine S.f93 hE (h.mono (e1.trans x2)) p.i ?_;simp only [tW,hjj,bA];exact hX _ _ ⟨rfl,e1.trans x2⟩
 ·have hjl':¬ (j:Int)<l.length:=by omega
  rw [List.take_of_length_le hjl];simp only [F.f95_l1,aV,hjl',decide_false,bA];exact hQ _ e1
theorem S.f94 (hE:bF E) (h:iJ H s d) (want n:BitVec 16) (v:Value) (l:List aG) (hv:Rows H 2 v (gU l)) (hl:l.length<2 ^ 63) (hQ:∀ H',Ext H H'->Q (u16 (d.denied want n l)) H'):E.call (E.fid i.f94) [ptr s 0,u16 want,u16 n,v] H Q:=by
 apply hE.f94;simp only [F.f94];refine S.f96 hE h ?_;simp only [aIq,bA];refine S.f95 hE h n v l hv hl fun H1 e1 =>?_;simp only [aDz,bA];exact hQ _ e1
end
end Go.AM
end
section
namespace Go.AM
def AH.since (H:AH) (n:Nat):AH:=⟨if n<H.next then H.next else 0,fun b=>if b<n then .dead else H.get b⟩
theorem AH.get_since (H:AH) (n b:Nat):(H.since n).get b=if n<=b then H.get b else .dead:=by
 unfold AH.since;simp only [AH.get]
 by_cases h:n<=b
 ·have h1:¬ b<n:=by omega
  rw [if_pos h];simp only [h1,if_false]
  by_cases hb:b<H.next
  ·have hn:n<H.next:=by omega
   simp [hb,hn]
  ·simp [hb]
 ·have h1:b<n:=by omega
  rw [if_neg h];simp [h1]
theorem AH.since_get {H:AH} {n b:Nat} (h:n<=b):(H.since n).get b=H.get b:=by rw [AH.get_since,if_pos h]
end Go.AM
end
section
namespace Go.AM
section
variable {E:Sy} {X:List Res} {H H' H0 Z:AH} {Q:Value->AH->Prop} {t w:Nat} {T T':Tr} {M M':List bL} {nx nx':Int} {L:List Res} {s:Nat} {d:iZ}
theorem aDk (T:Tr) (M:List bL) (c:aG) (path:List UInt8) (follow:Bool):(kI T M c path follow).2=0->(T.node (kI T M c path follow).1.i).kind≠0#8:=by
 unfold kI
 split
 ·rename_i h; intro e; exact (h e).elim
 ·simp only
  split
  ·rename_i h; intro e; exact (h e).elim
  ·split
   ·intro e; simp at e
   ·rename_i h
    split
    ·intro e; simp at e
    ·intro _; exact h
theorem nB {H:AH} {z c:List Value} (hz:z.length=2) (hc:c.length=2) (hp:c.all plain1=true):storeN 2 (ptr H.next 0) (.agg c.toArray) (H.new (.cells z none))=some (H.new (.cells c none)):=by
 rw [cJ,AH.get_new_self];have:AM.splice z 0 c=c:=by simp [splice,hz,hc]
 simp only [List.size_toArray,List.toList_toArray,hc,hz,hp,Nat.zero_add,Nat.le_refl,and_self,if_true,this,AH.new_put]
theorem aGT {l:List (BitVec 16×BitVec 16)} (ps:List (BitVec 16×BitVec 16)) {v:Value} (hv:Rows H 2 v (ps.map fun p=>[u16 p.1,u16 p.2])) (hn:ps.length<2 ^ 63) {r1 r2:Nat} {b0 b1:List Value} {x0 x1 h:Nat} {hd:BitVec 16} {pl:List (BitVec 16×BitVec 16)} {H1:AH} (hl:l=[])
  (g:Has H H H1 [bN x0 b0,bN x1 b1,dH u16 u16 r1 pl,dH u16 u16 r2 l,bN h [u16 hd,.map (some r1),.map (some r2)]])
  (hQ:∀ H',Ext H H'->iJ (H'.since H.next) h ⟨hd,pl,lA ps⟩->iJ H' h ⟨hd,pl,lA ps⟩->Q (.tuple #[ptr h 0,vi 0]) H') :
  aP (fun l H X0=>F.f92_l2 E Q (nth l 0) (nth l 1) (nth l 2) (nth l 3) H X0) [ptr h 0,v,vi ps.length,(.int .i64 0)] H1:=by
 subst hl;refine aP.count ps.length (fun j ls H'=>ls=[ptr h 0,v,vi ps.length,vi j]/\Has H H H' [bN x0 b0,bN x1 b1,dH u16 u16 r1 pl,dH u16 u16 r2 (lA (ps.take j)),bN h [u16 hd,.map (some r1),.map (some r2)]]) ?_ ⟨rfl,g⟩;rintro j _ H2 X hj hX ⟨rfl,g2⟩;rcases Nat.lt_or_ge j ps.length with hjl | hjl
 ·have hX:=hX hjl
  have hjl':(j:Int)<ps.length:=by omega
  have hjj:=cG (i:=j) (by omega)
  obtain ⟨b,o,f1,f2⟩:=(hv.mono g2.ext).ix (i:=j) (by simpa using hjl)
  rw [List.getElem_map] at f2
  have hst:lA (ps.take (j+1))=aFa ps[j].1 ps[j].2 (lA (ps.take j)):=by
   unfold lA;rw [List.take_succ_eq_append_getElem hjl,List.foldl_append]; rfl
  rw [hst] at hX;generalize ps[j]=p at *;generalize lA (ps.take j)=l at *;have hlo:aU 2 (ptr b o) H2=some (.agg [u16 p.1,u16 p.2].toArray):=by rw [bP,f2]; rfl
  have hz2:storeN 2 (ptr H2.next 0) (.agg [u16 p.1,u16 p.2].toArray) (H2.new (.cells [(.int .u16 0),(.int .u16 0)] none))=some (H2.new (.cells [u16 p.1,u16 p.2] none)):=nB rfl rfl rfl;have g3:=g2.newbox [u16 p.1,u16 p.2];have hb3:=g3.box (k:=4) (b:=h) rfl;have hp3:=g3.box (k:=5) (b:=H2.next) rfl;have hm3:=g3.mapAt (k:=3) rfl;obtain ⟨H4,m1,m2⟩:=g3.mapset (n:=3) (kd:=0) rfl (fun a b=>gV a b) p.1 (aEW p.1 l|||p.2);have m2:=m2.drop 5;simp only [F.f92_l2,aV,hjl',decide_true,f1,hlo,cW,hz2,hb3,hp3,wW hm3,tW,m1,hjj,bA];exact hX _ _ ⟨rfl,m2⟩
 ·have hjl':¬ (j:Int)<ps.length:=by omega
  rw [List.take_of_length_le hjl] at g2;simp only [F.f92_l2,aV,hjl',decide_false,bA];have own:∀ {k:Nat} {r:Res} (_:[bN x0 b0,bN x1 b1,dH u16 u16 r1 pl,dH u16 u16 r2 (lA ps),bN h [u16 hd,.map (some r1),.map (some r2)]][k]? = some r),∀ b∈r.fp,H.next<=b:=fun hk b hb=>((g2.all _ (List.mem_of_getElem? hk)).2 b hb).1;have o2:H.next<=r1:=own (k:=2) rfl r1 (by simp [dH])
  have o3:H.next<=r2:=own (k:=3) rfl r2 (by simp [dH])
  have o4:H.next<=h:=own (k:=4) rfl h (by simp [bN])
  exact hQ _ g2.ext ⟨r1,r2,by rw [AH.since_get o4]; exact g2.box (k:=4) rfl,(g2.mapAt (k:=2) rfl).keep (AH.since_get o2),(g2.mapAt (k:=3) rfl).keep (AH.since_get o3)⟩ ⟨r1,r2,g2.box (k:=4) rfl,g2.mapAt (k:=2) rfl,g2.mapAt (k:=3) rfl⟩
theorem S.f92 (hE:bF E) (h:oX H t T M) (wf:T.WF) (lt:T.LT) (x:zD) (cs:List Value) (hx:mS H x cs) (hf:x.paths.length<2 ^ 63/\x.ports.length<2 ^ 63) (hpl:∀ b∈x.paths,b.1.length<2 ^ 63) (c:aG)
  (hbad:(x.set T M c).2≠0->∀ H',Ext H H'->Q (.tuple #[.pointer none,vi (x.set T M c).2]) H')
  (hok:(x.set T M c).2=0->∀ s H',Ext H H'->iJ (H'.since H.next) s (x.set T M c).1->iJ H' s (x.set T M c).1->Q (.tuple #[ptr s 0,vi 0]) H'):E.call (E.fid i.f92) [.agg cs.toArray,ptr t 0,c.v] H Q:=by
 apply hE.f92;obtain ⟨v,pv,qv,rfl,_,hp,hq⟩:=hx;have g0:Has H H H []:=Has.start (Ext.refl H);have g1:=g0.newbox [str x.name,u32 x.pol.default,v,u16 x.handled,pv,qv];have g2:=g1.newbox c.cells;have g3:=g2.newmap u16 u16;have g4:=g3.newmap u16 u16;have hbv:∀ r1 r2,aT [(0,1),(1,1),(2,1)] #[(.int .u16 0),(.map none),(.map none)] [(0,u16 x.handled),(1,.map (some r1)),(2,.map (some r2))]=some (.agg #[u16 x.handled,.map (some r1),.map (some r2)]):=fun r1 r2=>rfl;simp only [F.f92,jU,AM.cY,iY,List.toList_toArray,kQ,bA];have hb2:=g2.box (k:=0) (b:=H.next) rfl;have d3:([str x.name,u32 x.pol.default,v,u16 x.handled,pv,qv]:List Value)[3]? = some (u16 x.handled):=rfl;generalize hH2:(H.new (.cells [str x.name,u32 x.pol.default,v,u16 x.handled,pv,qv] none)).new (.cells c.cells none)=H2 at *;have n2:H2.next=H.next+2:=by subst hH2; simp
 simp only [hb2,aDL,hbv,AM.cY,iY,bA];have hlt1:=g2.ext.1;have g5:=g4.newbox [u16 x.handled,.map (some H2.next),.map (some (H2.new (.map [] 0 true)).next)];have hb5:=g5.box (k:=0) (b:=H.next) rfl;have d4:([str x.name,u32 x.pol.default,v,u16 x.handled,pv,qv]:List Value)[4]? = some pv:=rfl;have hlp:=hp.lenSlc;rw [List.length_map] at hlp;generalize hs:((H2.new (.map [] 0 true)).new (.map [] 0 true)).next=s at *;have hsn:H.next<=s:=by subst hs; simp; omega
 simp only [AH.next_new_z] at hb5 g5 hs ⊢;generalize hH5:((H2.new (.map [] 0 true)).new (.map [] 0 true)).new (.cells [u16 x.handled,.map (some H2.next),.map (some (H2.next+1))] none)=H5 at *;simp only [hb5,d4,hlp,bA];have g5:Has H H H5 [bN H.next [str x.name,u32 x.pol.default,v,u16 x.handled,pv,qv],bN (H.next+1) c.cells,dH u16 u16 H2.next [],dH u16 u16 (H2.next+1) [],bN s [u16 x.handled,.map (some H2.next),.map (some (H2.next+1))]]:=g5;clear hH5 hs hH2 g4 g3 g2 g1;generalize H2.next=r1 at *;unfold zD.set at hbad hok;simp only at hbad hok;refine aP.count x.paths.length (fun j ls H'=>∃ l,ls=[ptr t 0,ptr H.next 0,ptr (H.next+1) 0,ptr s 0,pv,vi x.paths.length,vi j]/\Has H H H' [bN H.next [str x.name,u32 x.pol.default,v,u16 x.handled,pv,qv],bN (H.next+1) c.cells,dH u16 u16 r1 l,dH u16 u16 (r1+1) [],bN s [u16 x.handled,.map (some r1),.map (some (r1+1))]]/\iH T M c [] x.paths=iH T M c l (x.paths.drop j)) ?_ ⟨[],rfl,g5,rfl⟩;rintro j _ H6 X hj hX ⟨l,rfl,g6,hof⟩;rcases Nat.lt_or_ge j x.paths.length with hjl | hjl
 ·have hX:=hX hjl
  have hjl':(j:Int)<x.paths.length:=by omega
  have hjj:=cG (i:=j) (by omega)
  obtain ⟨b,o,f1,f2⟩:=(hp.mono g6.ext).ix (i:=j) (by simpa using hjl)
  rw [List.getElem_map] at f2;rw [List.drop_eq_getElem_cons hjl] at hof;have hpj:=hpl x.paths[j] (List.getElem_mem hjl);generalize x.paths[j]=p at *;have hlo:aU 2 (ptr b o) H6=some (.agg [str p.1,u16 p.2].toArray):=by rw [bP,f2]; rfl
  have hst:storeN 2 (ptr H6.next 0) (.agg [str p.1,u16 p.2].toArray) (H6.new (.cells [(.string ⟨#[]⟩),(.int .u16 0)] none))=some (H6.new (.cells [str p.1,u16 p.2] none)):=nB rfl rfl rfl;have g7:=g6.newbox [str p.1,u16 p.2];have hb7:=g7.box (k:=5) (b:=H6.next) rfl;have hlc:aU 2 (ptr (H.next+1) 0) (H6.new (.cells [str p.1,u16 p.2] none))=some c.v:=by rw [bP,g7.box (k:=1) (b:=H.next+1) rfl]; rfl
  simp only [F.f92_l1,aV,hjl',decide_true,f1,hlo,cW,hst,hlc,hb7,bA];refine S.f130 hE (h.mono g7.ext) wf lt c p.1 hpj true fun H8 e8 =>?_;have g8:=g7.grow e8;have hstep:aA6 T M c l p=if (kI T M c p.1 true).2≠0 then (l,(kI T M c p.1 true).2) else if aBY (decide ((T.node (kI T M c p.1 true).1.i).kind=2#8)) p.2≠p.2 then (l,22) else (aFa (kI T M c p.1 true).1.i p.2 l,0):=rfl;have hfk:(kI T M c p.1 true).2=0->(T.node (kI T M c p.1 true).1.i).kind≠0#8:=aDk T M c p.1 true;generalize kI T M c p.1 true=r at *;have hst8:storeN 2 (ptr H8.next 0) r.1.v (H8.new (.cells [(.int .i64 0),(.int .u16 0)] none))=some (H8.new (.cells r.1.cells none)):=nB rfl rfl rfl;have g9:=g8.newbox r.1.cells;simp only [cW,hst8,cT,bA]
  by_cases he:r.2=0
  rotate_left
  ·rw [if_pos (by simpa using he)] at hstep
   have hof2:iH T M c [] x.paths=(l,r.2):=by rw [hof,iH,hstep,if_pos (by simpa using he)]
   rw [hof2] at hbad;simp only [ne_eq,he,not_false_eq_true,decide_true,bA];exact hbad he _ g9.ext
  rw [if_neg (by simpa using he)] at hstep
  obtain ⟨⟨q,m,L',q',nx,q1,q2,q3⟩,_⟩:=h.mono g9.ext;have hb9:=g9.box (k:=6) (b:=H8.next) rfl;have hb9':=g9.box (k:=5) (b:=H6.next) rfl;have hb9s:=g9.box (k:=4) (b:=s) rfl;have hm9:=g9.mapAt (k:=2) rfl;have e1:r.1.cells[1]? = some (u16 r.1.i):=rfl;have n2':(.int .u8 2:Value)=u8 2#8:=rfl;simp only [ne_eq,he,not_true,decide_false,q1,hb9,e1,bA];refine S.f14 hE q2 r.1.i ?_;rcases q2.get r.1.i with ⟨k0,_⟩ | ⟨kk,yy,k0,k1,k2,k3,k4⟩
  ·exact (hfk he k0).elim
  simp only [bM q2.cov.nd k1,k3,inC,n2',sB,hb9',bA];refine S.f91 hE p.2 _ ?_;refine ⟨rfl,?_⟩;simp only [aDG,bA]
  by_cases hfit:aBY (decide ((T.node r.1.i).kind=2#8)) p.2=p.2
  ·rw [if_neg (by simpa using hfit)] at hstep
   have hof2:iH T M c [] x.paths=iH T M c (aFa r.1.i p.2 l) (x.paths.drop (j+1)):=by rw [hof,iH,hstep,if_neg (by simp)]
   obtain ⟨H10,m1,m2⟩:=g9.mapset (n:=2) (kd:=0) rfl (fun a b=>gV a b) r.1.i (aEW r.1.i l|||p.2);have m2:=(m2.drop 6).drop 5;simp only [ne_eq,hfit,not_true,decide_false,hb9s,hb9,hb9',e1,wW hm9,tW,m1,hjj,bA];exact hX _ _ ⟨aFa r.1.i p.2 l,rfl,m2,hof2⟩
  ·rw [if_pos (by simpa using hfit)] at hstep
   have hof2:iH T M c [] x.paths=(l,22):=by rw [hof,iH,hstep,if_pos (by simp)]
   rw [hof2] at hbad;simp only [ne_eq,hfit,not_false_eq_true,decide_true,bA];exact hbad (by simp) _ g9.ext
 ·have hjl':¬ (j:Int)<x.paths.length:=by omega
  rw [List.drop_of_length_le hjl] at hof;have hof:iH T M c [] x.paths=(l,0):=hof;rw [hof] at hok;have d5:([str x.name,u32 x.pol.default,v,u16 x.handled,pv,qv]:List Value)[5]? = some qv:=rfl;have hlq:=hq.lenSlc;rw [List.length_map] at hlq;simp only [F.f92_l1,aV,hjl',decide_false,g6.box (k:=0) (b:=H.next) rfl,d5,hlq,bA];exact aGT x.ports hq hf.2 rfl g6 fun H' e hz hs=>hok rfl s H' e hz hs
end
end Go.AM
end
section
namespace Go.AM
section
variable {E:Sy} {X:List Res} {H H' H0 Z:AH} {Q:Value->AH->Prop} {t w:Nat} {T T':Tr} {M M':List bL} {nx nx':Int} {L:List Res} {s:Nat} {d:iZ}
def nS:zD:=⟨[],⟨0#32,[]⟩,4#16,[([47,97],4#16)],[]⟩
theorem S.f59 (hE:bF E) (hQ:∀ H',Ext H H'->Q (vb true) H'):E.call (E.fid i.f59) [] H Q:=by
 apply hE.f59;simp only [F.f59];refine S.f127 hE 9 fun w H1 h1 =>?_;obtain ⟨p,q,hw,⟨m,L,hi,ki⟩,_⟩:=h1.open_;have s97:(.string ⟨#[97]⟩:Value)=str [97]:=rfl;have s0:(.string ⟨#[]⟩:Value)=str []:=rfl;have n1:(.int .u16 1:Value)=u16 1#16:=rfl;have n4:(.int .u16 4:Value)=u16 4#16:=rfl;have n7:(.int .u16 7:Value)=u16 7#16:=rfl;have n0:(.int .u16 0:Value)=u16 0#16:=rfl;have k2:(.int .u8 2:Value)=u8 2#8:=rfl;simp only [kQ,hw,s97,s0,n1,k2,bA];have f1:((Tr.new 9).make 1#16 [97] 2#8 []).2=(2#16,0):=by decide +kernel
 refine Ino.cMake hE hi (Tr.new_wf 9) 1#16 [97] (by decide) 2#8 [] (by decide) (by decide) fun L2 H2 u2 =>?_
 have h2:=ki _ _ _ u2;have w2:=(Tr.new_wf 9).make 1#16 [97] 2#8 [];have d2:=(Tr.KD.new 9).make gP 1#16 [97] 2#8 [];rw [f1];generalize hT2:((Tr.new 9).make 1#16 [97] 2#8 []).1=T2 at *;have sp:(.string ⟨#[47,97]⟩:Value)=str [47,97]:=rfl;have b1:aT [(0,1),(1,1)] #[str [],u16 0#16] [(0,str [47,97]),(1,u16 4#16)]=some (.agg #[str [47,97],u16 4#16]):=rfl;have b2:=dF 2 [str [],u16 0#16] [str [47,97],u16 4#16] rfl rfl;have b2:buildS 1 2 #[str [],u16 0#16] [(0,.agg #[str [47,97],u16 4#16])]=some (.cells [str [47,97],u16 4#16] none,dL 1 1):=b2;have z32:(.int .u32 0:Value)=u32 0#32:=rfl;have b3:∀ v,aT [(0,1),(1,1),(2,1),(3,1),(4,1),(5,1)] #[str [],u32 0#32,(.slice none 0 0),u16 0#16,(.slice none 0 0),(.slice none 0 0)] [(3,u16 4#16),(4,slc v 0 1 1)]=some (.agg #[str [],u32 0#32,aW,u16 4#16,slc v 0 1 1,aW]):=fun v=>rfl;simp only [sp,s0,n4,n0,b1,b2,z32,b3,bA];have x3:Ext H2 (H2.new (.cells [str [47,97],u16 4#16] none)):=(Ext.refl _).new _;have r3:Rows (H2.new (.cells [str [47,97],u16 4#16] none)) 2 (slc H2.next 0 1 1) ([([47,97],4#16)].map fun p:List UInt8×BitVec 16=>[str p.1,u16 p.2]):=Rows.made (f:=none) (by rw [AH.get_new_self]; rfl) (.inl rfl) rfl (by simp)
 have h3:=h2.mono x3;generalize H2.new (.cells [str [47,97],u16 4#16] none)=H3 at *;refine S.f46 hE fun H4 e4 =>?_;have h4:=h3.mono e4;have hp:mS H4 nS [str [],u32 0#32,aW,u16 4#16,slc H2.next 0 1 1,aW]:=⟨aW,_,aW,rfl,⟨[],Rows.nil _ _ none,rfl,fun i h=>by simp [nS] at h⟩,r3.mono e4,Rows.nil _ _ none⟩
 have f2:(nS.set T2 gC ⟨0,1#16⟩).2=0:=by subst hT2; decide +kernel
 have f3:(nS.set T2 gC ⟨0,1#16⟩).1.at_ 2#16=4#16:=by subst hT2; decide +kernel
 have f4:(nS.set T2 gC ⟨0,1#16⟩).1.denied 4#16 7#16 [⟨0,1#16⟩]=4#16:=by subst hT2; decide +kernel
 have f5:(nS.set T2 gC ⟨0,1#16⟩).1.denied 4#16 7#16 [⟨0,2#16⟩]=0#16:=by subst hT2; decide +kernel
 refine S.f92 hE h4.at_ w2 (Tr.KD.lt d2) nS _ hp ⟨by decide,by decide⟩ (by simp [nS]) ⟨0,1#16⟩ (fun h=>(h f2).elim) fun _ s H5 e5 _ hs5 =>?_
 generalize (nS.set T2 gC ⟨0,1#16⟩).1=d at *;have h5:=h4.mono e5;simp only [bC,decide_true,bA];refine S.f93 hE hs5 2#16 ?_;simp only [f3,n4,mB,decide_true,bA];refine S.f46 hE fun H6 e6 =>?_;have hz2:([(.int .i64 0),u16 0#16]:List Value)=aG.zero.cells:=rfl;have bp:∀ c:aG,buildS 1 2 #[(.int .i64 0),u16 0#16] [(0,c.v)]=some (.cells c.cells none,dL 1 1):=fun c=>dF 2 [vi 0,u16 0#16] c.cells rfl rfl;have rp:∀ (H:AH) (c:aG),Rows (H.new (.cells c.cells none)) 2 (slc H.next 0 1 1) (gU [c]):=fun H c=>Rows.made (f:=none) (by rw [AH.get_new_self]; simp [gU]) (.inl rfl) rfl (by simp [gU,aG.cells])
 have x7:Ext H6 (H6.new (.cells (aG.cells ⟨0,1#16⟩) none)):=(Ext.refl _).new _;simp only [bp,n0,n4,n7,bA];refine S.f94 hE (hs5.mono (e6.trans x7)) 4#16 7#16 _ _ (rp H6 ⟨0,1#16⟩) (by decide) fun H8 e8 =>?_
 have bv:aT [(0,1),(1,1)] #[(.int .i64 0),u16 0#16] [(1,u16 2#16)]=some (aG.v ⟨0,2#16⟩):=rfl;have x9:Ext H8 (H8.new (.cells (aG.cells ⟨0,2#16⟩) none)):=(Ext.refl _).new _;simp only [f4,mB,decide_true,bv,bp,n0,n4,n7,bA];refine S.f94 hE (hs5.mono (e6.trans (x7.trans (e8.trans x9)))) 4#16 7#16 _ _ (rp H8 ⟨0,2#16⟩) (by decide) fun H10 e10 =>?_
 simp only [f5,n0,mB,decide_true,bA];exact hQ _ ((h5.mono (e6.trans (x7.trans (e8.trans (x9.trans e10))))).ext)
end
end Go.AM
end
section
namespace Go.AM
open Go.Sort (SWO PermIn SortedIn)
def aGl (a b:BitVec 16):Bool:=decide (a.toNat<=b.toNat)
def pS (l:List (BitVec 16)):List (BitVec 16):=l.mergeSort aGl
theorem pI (l:List (BitVec 16)):(pS l).Perm l:=List.mergeSort_perm _ _
theorem aFh (l:List (BitVec 16)):(pS l).Pairwise fun a b=>a.toNat<=b.toNat:=by
 have:=List.pairwise_mergeSort (le:=aGl) (by intro a b c; simp [aGl]; omega) (by intro a b; simp [aGl]; omega) l
 exact this.imp fun {a b} h=>by simpa [aGl] using h
theorem aCj {l:List (BitVec 16)} (h:l.Nodup):(pS l).Pairwise fun a b=>bU a b=true:=by
 have h1:=aFh l;have h2:(pS l).Nodup:=(pI l).nodup_iff.2 h;refine (h1.and h2).imp fun {a b} h =>?_;have:a.toNat≠b.toNat:=fun e=>h.2 (BitVec.eq_of_toNat_eq e);simp only [bU,decide_eq_true_eq];omega
theorem aA3 {l:List (BitVec 16)} (h:l.Nodup):l.length<=65536:=by
 have:=nF l ((List.range 65536).map (BitVec.ofNat 16)) h fun x _=>List.mem_map.2 ⟨x.toNat,List.mem_range.2 x.isLt,by simp⟩
 simpa using this
def iZ.inodes (d:iZ):List (BitVec 16):=pS (d.paths.map Prod.fst)
section
variable {E:Sy} {H H':AH} {Q:Value->AH->Prop} {s s':Nat} {d d':iZ}
theorem S.f97 (hE:bF E) (h:iJ H s d) (hQ:∀ v H',Ext H H'->Rows H' 1 v (iR d.inodes)->eO H.next v->Q v H'):E.call (E.fid i.f97) [ptr s 0] H Q:=by
 apply hE.f97;obtain ⟨r1,r2,h1,hm,_⟩:=h;obtain ⟨o,o1,o2⟩:=fJ.start hm;have x1:Ext H (H.new o):=(Ext.refl H).new o;have hnd:(d.paths.map Prod.fst).Nodup:=by obtain ⟨_,_,_,_,_,_,h5⟩:=hm; exact h5
 have hp:(d.paths.map Prod.fst).Perm d.inodes:=(pI _).symm;have hnl:d.paths.length<=65536:=by simpa using aA3 hnd
 simp only [F.f97,kQ,h1,o1,wU,bA];unfold iZ.inodes at hQ hp;generalize hl2:d.paths=l2 at *;refine aP.ind (fun j l H'=>Ext H H'/\∃ done v,l=[v,ptr H.next 0]/\fJ u16 u16 H' H.next r1 l2 done/\bR zH H' 1 v (iR (done.map Prod.fst))/\eO (H.next+1) v/\(done=[]->v=aW)/\j+done.length=l2.length) ?_ l2.length ⟨x1,[],aW,rfl,o2,bR.nil _ _ _,fun b hb=>by simp [blk] at hb,fun _=>rfl,by simp⟩
 rintro j _ H' X hX ⟨e1,done,v,rfl,it,g,fv,hnil,hj⟩;simp only [F.f97_l1,dX,eC];refine fJ.next it (fun e ob he hnd it' hen =>?_) fun hpd =>?_
 ·have hput:Ext H (H'.put H.next ob):=e1.put (Nat.le_refl _) ob
  have hd1:done.length+1<=l2.length:=by
   have:=nF (done++[e]) l2 it'.nodup.1 it'.nodup.2
   simpa using this
  have g':bR zH (H'.put H.next ob) 1 v (iR (done.map Prod.fst)):=g.keep fun b hb _=>AH.get_put_ne _ _ (by have:=fv b hb; omega)
  have hb1:buildS 1 1 #[(.int .u16 0)] [(0,u16 e.1)]=some (.cells [u16 e.1] none,dL 1 1):=dF 1 [u16 0#16] [u16 e.1] rfl rfl;obtain ⟨v',H2,a1,a2,a3⟩:=g'.app1 (Nat.zero_le _) (bytes:=2) [u16 e.1] rfl rfl (by decide) (by decide) (by rw [cM,List.length_map]; omega)
  have hlt1:=it'.map.lt;have hlt2:=it'.lt
  have hrb:H2.get r1=(H'.put H.next ob).get r1:=a3.1.get hlt1 fun hb=>by
   have:=fv r1 (bQ.1 hb);have:=hm.lt;omega
  have hib:H2.get H.next=(H'.put H.next ob).get H.next:=a3.1.get hlt2 fun hb=>by
   have:=fv H.next (bQ.1 hb);omega
  simp only [eA,List.getElem?_cons_zero,List.getElem?_cons_succ,hen,hb1,cY,dV,a1,dU,aJ,aD,aO];refine hX (j - 1) (by omega) _ _ ⟨?_,done++[e],v',rfl,it'.keep hrb hib,?_,?_,fun h=>by simp at h,?_⟩
  ·refine a3.1.ext hput fun b hb =>?_
   have:=fv b (bQ.1 hb);omega
  ·have:iR ((done++[e]).map Prod.fst)=iR (done.map Prod.fst)++[[u16 e.1]]:=by simp [iR]
   rw [this]; exact a2
  ·intro b hb
   have hp1:(H'.put H.next ob).next=H'.next:=rfl;rcases a3.2 b hb with h1 | h1
   ·exact fv b h1
   ·have:=it.lt
    omega
  ·simp; omega
 ·have hperm:(done.map Prod.fst).Perm (pS (l2.map Prod.fst)):=(hpd.map _).trans hp
  have hlen2:done.length=l2.length:=hpd.length_eq;simp only [eA,List.getElem?_cons_zero,aJ,aD,aI]
  by_cases hne:done.map Prod.fst=[]
  ·have hd0:done=[]:=by simpa using hne
   have he:pS (l2.map Prod.fst)=[]:=by
    have:=hperm.length_eq;rw [hd0] at this;exact List.eq_nil_of_length_eq_zero (by simpa using this.symm)
   rw [hnil hd0];refine S.slices_Sort_inode_Number_nil hE none ?_;refine hQ aW H' e1 ?_ fun b hb=>by simp [blk] at hb
   rw [he];exact Rows.nil _ _ none
  ·obtain ⟨b,f,c,tail,rfl,ha,hb⟩:=bR.arr (fun x=>rfl) g hne
   refine S.f100 hE xZ ha (by simp) (by simp; omega) fun d' H2 hp2 hs2 st =>?_
   have hu:=aCm xZ aEa (n:=(done.map Prod.fst).length) (by simp) hp2 hs2 (L:=pS (l2.map Prod.fst)) hperm (aCj hnd)
   refine hQ _ H2 ?_ ?_ fun x hx=>by have:=fv x hx; omega
   ·exact st.only.ext e1 fun x hx=>by
     simp at hx; subst hx;have:=fv x (by simp [blk])
     omega
   ·rw [<- hu]
    refine (hb d'.toList H2 ?_ st.get).toRows;have:=hp2.1
    simpa using this
end
end Go.AM
end
section
namespace Go.AM
section
variable {X:List Res} {E:Sy} {H0 H H' H'':AH} {Q:Value->AH->Prop} {p m:Nat} {L L' L'':LyL} {T T' T'' T2 T2':Tr} {t:Nat} {nv nv' mv:Value} {nx:Int} {mr:List (List Value)} {Y Y':List RLy}
theorem aCB (j:Nat):BitVec.ofInt 16 (j:Int)=BitVec.ofNat 16 j:=by
 apply BitVec.eq_of_toNat_eq;simp
theorem aJe (a:Nat):bH .u16 (vi a)=some (u16 (BitVec.ofNat 16 a)):=by rw [lV,aCB]
theorem aKG (a:BitVec 16):bH .u16 (vi (a.toNat:Int))=some (u16 a):=by rw [aJe]; simp
end
end Go.AM
end
section
namespace Go.AM
structure gL where
 kind:BitVec 8
 in_:BitVec 8
 to:BitVec 8
 name:BitVec 8
 other:BitVec 8
 any:List UInt8
 n:Int
 bytes:Value
 bl:List (BitVec 8)
 flag:Bool
 raw:Bool
def gL.cells (x:gL):List Value:=[u8 x.kind,u8 x.in_,u8 x.to,u8 x.name,u8 x.other,str x.any,vi x.n,x.bytes,vb x.flag,vb x.raw]
abbrev aIM:Sh := .struct [.int .u8,.int .u8,.int .u8,.int .u8,.int .u8,.str,.int .i64,.slice 1 (.int .u8),.bool,.bool]
structure gL.ok (H:AH) (x:gL):Prop where
 any:x.any.length<=9223372036854775807
 n : -9223372036854775808<=x.n/\x.n<9223372036854775808
 bytes:Rows H 1 x.bytes (cF x.bl)
 bl:x.bl.length<=9223372036854775807
theorem gL.ok.mono {H H':AH} {x:gL} (h:x.ok H) (e:Ext H H'):x.ok H':=⟨h.any,h.n,h.bytes.mono e,h.bl⟩
theorem SV.act {H:AH} {cs:List Value} (h:SV H aIM cs):∃ x:gL,cs=x.cells/\x.ok H:=by
 obtain ⟨c0,e0,rfl,h0,c1,e1,rfl,h1,c2,e2,rfl,h2,c3,e3,rfl,h3,c4,e4,rfl,h4,c5,e5,rfl,h5,c6,e6,rfl,h6,c7,e7,rfl,h7,c8,e8,rfl,h8,c9,e9,rfl,h9,rfl⟩:=h;obtain ⟨x0,rfl⟩:=h0.u8;obtain ⟨x1,rfl⟩:=h1.u8;obtain ⟨x2,rfl⟩:=h2.u8;obtain ⟨x3,rfl⟩:=h3.u8;obtain ⟨x4,rfl⟩:=h4.u8;obtain ⟨x5,rfl,g5⟩:=h5;obtain ⟨x6,rfl,g6⟩:=h6.i64;obtain ⟨v7,x7,rfl,g7,l7⟩:=SV.vals (fun r hr=>SV.u8 hr) h7;obtain ⟨x8,rfl⟩:=h8;obtain ⟨x9,rfl⟩:=h9;refine ⟨⟨x0,x1,x2,x3,x4,x5,x6,v7,x7,x8,x9⟩,rfl,g5,g6,?_,by simpa using l7⟩
 show Rows H 1 v7 (cF x7)
 have:cF x7=(x7.map AM.u8).map fun v=>[v]:=by simp [cF]
 rw [this]; exact g7
section
variable {X:List Res} {E:Sy} {H0 H H' H'':AH} {Q:Value->AH->Prop} {p m:Nat} {L L' L'':LyL} {T T' T'' T2 T2':Tr} {t:Nat} {nv nv' mv:Value} {nx:Int} {mr:List (List Value)} {Y Y':List RLy}
def jJ:List aL:=[[97],[98],[99],[100,46,101],[102],[103],[],[46,46],[97,47,98]]
theorem S.f54 (hE:bF E) (hQ:∀ v H',Ext H H'->Rows H' 1 v (eK jJ)->Q v H'):E.call (E.fid i.f54) [] H Q:=by
 apply hE.f54
 have hb:buildS 9 1 #[(.string ⟨#[]⟩)] [(0,(.string ⟨#[97]⟩)),(1,(.string ⟨#[98]⟩)),(2,(.string ⟨#[99]⟩)),(3,(.string ⟨#[100,46,101]⟩)),(4,(.string ⟨#[102]⟩)),(5,(.string ⟨#[103]⟩)),(6,(.string ⟨#[]⟩)),(7,(.string ⟨#[46,46]⟩)),(8,(.string ⟨#[97,47,98]⟩))]=some (.cells (jJ.map str) none,dL 9 9):=by
  have:=eT 9 1 [str []] [(0,str [97]),(1,str [98]),(2,str [99]),(3,str [100,46,101]),(4,str [102]),(5,str [103]),(6,str []),(7,str [46,46]),(8,str [97,47,98])] (jJ.map str) rfl rfl rfl rfl (by
   intro v hv;obtain ⟨s,_,rfl⟩:=List.mem_map.1 hv
   rfl)
  simpa [jJ] using this
 simp only [F.f54,hb,AM.cY,dV,aJ];refine hQ _ _ ((Ext.refl H).new _) (Rows.made (f:=none) (by rw [AH.get_new_self]; rfl) (.inl rfl) rfl ?_)
 intro r hr;obtain ⟨s,_,rfl⟩:=List.mem_map.1 hr
 rfl
theorem aIj:([(.int .u8 0),(.int .u8 0),(.int .u8 0),(.int .u8 0),(.int .u8 0),(.string ⟨#[]⟩),(.int .i64 0),(.slice none 0 0),(.bool false),(.bool false)]:List Value)=(gL.mk 0#8 0#8 0#8 0#8 0#8 [] 0 aW [] false false).cells:=rfl
theorem gL.all_plain (x:gL) (h:plain1 x.bytes=true):x.cells.all plain1=true:=by
 simp only [gL.cells,List.all_cons,List.all_nil,h]; rfl
theorem aEE {x:gL} (hp:plain1 x.bytes=true) (z:gL):storeN 10 (ptr H.next 0) (.agg x.cells.toArray) (H.new (.cells z.cells none))=some (H.new (.cells x.cells none)):=by
 rw [cJ,AH.get_new_self];have hs:AM.splice z.cells 0 x.cells=x.cells:=rfl;have h1:x.cells.length=10:=rfl;have h2:z.cells.length=10:=rfl;simp only [List.size_toArray,List.toList_toArray,h1,h2,gL.all_plain x hp,Nat.zero_add,Nat.le_refl,and_self,if_true,hs,AH.new_put]
theorem nQ {v:Value} {rows:List (List Value)} {sz:Nat} (h:Rows H sz v rows):plain1 v=true:=by
 rcases h.at_ with ⟨_,c,rfl⟩ | ⟨b,o,c,rfl,_⟩
 ·cases c <;> rfl
 ·rfl
end
end Go.AM
end
section
namespace Go.AM
section
variable {X:List Res} {E:Sy} {H0 H H' H'':AH} {Q:Value->AH->Prop} {p m:Nat} {L L' L'':LyL} {T T' T'' T2 T2':Tr} {t:Nat} {nv nv' mv:Value} {nx:Int} {mr:List (List Value)} {Y Y':List RLy}
structure aIA (X:List Res) (H0 H':AH) (p m t:Nat) (mv:Value) (nx:Int) (mr:List (List Value)) (T:Tr) (B:Int) (L':LyL) (nv':Value) (Y':List RLy) (T':Tr):Prop where
 two:cN X H0 H' p m L' T' t nv' mv nx mr Y' T'
 wf:T'.WF
 cb:T.CB T'
 hb:T'.HB (B+1)
inductive Tr.Did (up:Bool) (T:Tr):Tr->Prop
 | make (a:BitVec 16) (s:aL) (k:BitVec 8) (text:List UInt8):T.Did up (T.make a s k text).1
 | add (a:BitVec 16) (s:aL) (b:BitVec 16):T.Did up (T.add a s b).1
 | drop (a:BitVec 16) (s:aL) (d:Bool):T.Did up (T.drop a s d).1
 | move (a:BitVec 16) (s:aL) (b:BitVec 16) (o:aL):T.Did up (T.move a s b o).1
 | hold (a:BitVec 16):T.Did up (T.hold a up).1
 | write (a:BitVec 16) (n:Int) (l:List (BitVec 8)):T.Did up (T.write a n l).1
 | cut (a:BitVec 16) (n:Int):T.Did up (T.cut a n).1
 | refl:T.Did up T
theorem aLf (o:BitVec 8) (k:BitVec 8) (hk:k<5#8):∃ kd:BitVec 8,([[u8 1#8],[u8 2#8],[u8 2#8],[u8 3#8],[u8 o]]:List (List Value))[k.toNat]? = some [u8 kd]:=by
 have h:k.toNat<5:=hk;have:k.toNat=0\/k.toNat=1\/k.toNat=2\/k.toNat=3\/k.toNat=4:=by omega
 rcases this with e | e | e | e | e <;> rw [e]
 ·exact ⟨_,rfl⟩
 ·exact ⟨_,rfl⟩
 ·exact ⟨_,rfl⟩
 ·exact ⟨_,rfl⟩
 ·exact ⟨_,rfl⟩
theorem aKs (hE:bF E) {bx:Nat} {x:gL} (h:cN (X++[bN bx x.cells]) H0 H p m L T t nv mv nx mr Y T) (w:T.WF) {B:Int} (hb:T.HB B) (hB:0<=B/\B<1000000) (hc:0<=T.change/\T.change<1000000) (hx:x.ok H0) (hl:x.any.length<=200/\x.bl.length<=200) {up:Bool} (hup:x.kind % 15#8=11#8->x.flag=up)
  (a b:BitVec 16) (s o:aL) (hs:s.length<2 ^ 63) (ho:o.length<2 ^ 63) (hQ:∀ L' nv' Y' T' H',aIA X H0 H' p m t mv nx mr T B L' nv' Y' T'->T.Did up T'->Q (vb true) H') :
  F.f53_j1 E Q (ptr p 0) (ptr t 0) (ptr bx 0) (vi (a.toNat:Int)) (vi (b.toNat:Int)) (str s) (str o) H:=by
 have hbx:=h.held;have c0:x.cells[0]? = some (u8 x.kind):=rfl;have c4:x.cells[4]? = some (u8 x.other):=rfl;have c5:x.cells[5]? = some (str x.any):=rfl;have c6:x.cells[6]? = some (vi x.n):=rfl;have c7:x.cells[7]? = some x.bytes:=rfl;have c8:x.cells[8]? = some (vb x.flag):=rfl;have hrem:aA .rem (u8 x.kind) (.int .u8 15)=some (u8 (x.kind % 15#8)):=nM x.kind 15#8 (by decide)
 have hlt:(x.kind % 15#8).toNat<15:=by rw [BitVec.toNat_umod]; exact Nat.mod_lt _ (by decide)
 have n5:(.int .u8 5:Value)=u8 5#8:=rfl;have n8:(.int .u8 8:Value)=u8 8#8:=rfl;have n11:(.int .u8 11:Value)=u8 11#8:=rfl;have n12:(.int .u8 12:Value)=u8 12#8:=rfl;have n13:(.int .u8 13:Value)=u8 13#8:=rfl;simp only [F.f53_j1,aKG,aH,aE,Nat.zero_add,hbx,bB,c0,hrem,aJ,aD];generalize x.kind % 15#8=k at *;have lss:∀ c:BitVec 8,aA .lss (u8 k) (u8 c)=some (vb (decide (k<c))):=fun c=>by rw [aGA]; rfl
 by_cases k5:k<5#8
 ·have q1:aA .lss (u8 k) (.int .u8 5)=some (vb true):=by rw [n5,lss]; simp [k5]
  have k5n:k.toNat<5:=k5;obtain ⟨kd,hkd⟩:=aLf x.other k k5
  have hbS:buildS 5 1 #[(.int .u8 0)] [(0,(.int .u8 1)),(1,(.int .u8 2)),(2,(.int .u8 2)),(3,(.int .u8 3)),(4,u8 x.other)]=some (.cells [u8 1#8,u8 2#8,u8 2#8,u8 3#8,u8 x.other] none,dL 5 5):=by
   have:=eT 5 1 [u8 0#8] [(0,u8 1#8),(1,u8 2#8),(2,u8 2#8),(3,u8 3#8),(4,u8 x.other)] [u8 1#8,u8 2#8,u8 2#8,u8 3#8,u8 x.other] rfl rfl rfl rfl (by intro v hv; simp at hv; rcases hv with rfl | rfl | rfl | rfl <;> rfl)
   simpa using this
  have hx1:Ext H (H.new (.cells [u8 1#8,u8 2#8,u8 2#8,u8 3#8,u8 x.other] none)):=(Ext.refl H).new _;have hr:Rows (H.new (.cells [u8 1#8,u8 2#8,u8 2#8,u8 3#8,u8 x.other] none)) 1 (slc H.next 0 5 5) [[u8 1#8],[u8 2#8],[u8 2#8],[u8 3#8],[u8 x.other]]:=Rows.made (f:=none) (by rw [AH.get_new_self]; rfl) (.inl rfl) rfl (by intro r hr; simp at hr; rcases hr with rfl | rfl | rfl | rfl <;> rfl)
  obtain ⟨b1,o1,p1,p2⟩:=hr.ix (i:=k.toNat) k5n;rw [List.getElem?_eq_getElem (by simpa using k5n)] at hkd
  rw [Option.some.inj hkd] at p2;have p3:((H.new (.cells [u8 1#8,u8 2#8,u8 2#8,u8 3#8,u8 x.other] none)).get b1).cell o1=some (u8 kd):=by have:=dO p2 (j:=0) (by omega); simpa using this
  have h1:=h.mono hx1;simp only [q1,aH,aE,Nat.zero_add,hbx,bB,c4,hbS,AM.cY,dV,aFP,p1,p3,h1.held,c5,aJ,aD,aO];refine cN.cMake hE h1 w a s hs kd x.any (by omega) ⟨by omega,by omega⟩ fun L2 H2 h2 =>?_
  simp only [eA,List.getElem?_cons_zero,List.getElem?_cons_succ,lH,aH,aE,Nat.zero_add,h2.held,bB,c5,aJ,aD];refine cN.rMake hE h2 w a s hs kd x.any ⟨by omega,by omega⟩ fun nv3 Y3 H3 h3 =>?_
  simp only [eA,List.getElem?_cons_zero,List.getElem?_cons_succ,rP,bC,decide_true,dJ,aS,aJ,aD];exact hQ _ _ _ _ _ ⟨h3.drop,w.make a s kd x.any,.make a s kd x.any,(hb.make hB.1 a s kd x.any).mono (by omega)⟩ (.make a s kd x.any)
 by_cases e5:k=5#8
 ·have q1:aA .lss (u8 k) (.int .u8 5)=some (vb false):=by rw [n5,lss]; simp [k5]
  have q2:aA .eql (u8 k) (.int .u8 5)=some (vb true):=by rw [n5]; simp [e5]
  simp only [q1,q2,aJ,aD,aI,aO];refine cN.cAdd hE h w a s hs b ⟨by omega,by omega⟩ fun L1 H1 h1 =>?_
  refine cN.rAdd hE h1 w a s hs b ⟨by omega,by omega⟩ fun Y2 H2 h2 =>?_
  simp only [bC,decide_true,aJ,aD];exact hQ _ _ _ _ _ ⟨h2.drop,w.add a s b,.add a s b,(hb.add a s b).mono (by omega)⟩ (.add a s b)
 by_cases k8:k<8#8
 ·have q1:aA .lss (u8 k) (.int .u8 5)=some (vb false):=by rw [n5,lss]; simp [k5]
  have q2:aA .eql (u8 k) (.int .u8 5)=some (vb false):=by rw [n5]; simp [e5]
  have q3:aA .lss (u8 k) (.int .u8 8)=some (vb true):=by rw [n8,lss]; simp [k8]
  simp only [q1,q2,q3,aH,aE,Nat.zero_add,hbx,bB,c8,aJ,aD,aI,aO];refine cN.cDrop hE h w a s x.flag ⟨by omega,by omega⟩ fun L1 H1 h1 =>?_
  refine ⟨by rw [aE,aE,h1.held,hbx],?_⟩
  refine cN.rDrop hE h1 w a s x.flag ⟨by omega,by omega⟩ fun Y2 H2 h2 =>?_
  simp only [bC,decide_true,aJ,aD];exact hQ _ _ _ _ _ ⟨h2.drop,w.drop a s x.flag,.drop a s x.flag,(hb.drop hB.1 a s x.flag).mono (by omega)⟩ (.drop a s x.flag)
 by_cases k11:k<11#8
 ·have q1:aA .lss (u8 k) (.int .u8 5)=some (vb false):=by rw [n5,lss]; simp [k5]
  have q2:aA .eql (u8 k) (.int .u8 5)=some (vb false):=by rw [n5]; simp [e5]
  have q3:aA .lss (u8 k) (.int .u8 8)=some (vb false):=by rw [n8,lss]; simp [k8]
  have q4:aA .lss (u8 k) (.int .u8 11)=some (vb true):=by rw [n11,lss]; simp [k11]
  simp only [q1,q2,q3,q4,aJ,aD,aI,aO];refine cN.cMove hE h w a b s o ho ⟨by omega,by omega⟩ fun L1 H1 h1 =>?_
  refine cN.rMove hE h1 w a b s o ho ⟨by omega,by omega⟩ fun Y2 H2 h2 =>?_
  simp only [bC,decide_true,aJ,aD];exact hQ _ _ _ _ _ ⟨h2.drop,w.move a s b o,.move a s b o,(hb.move hB.1 a s b o).mono (by omega)⟩ (.move a s b o)
 have q1:aA .lss (u8 k) (.int .u8 5)=some (vb false):=by rw [n5,lss]; simp [k5]
 have q2:aA .eql (u8 k) (.int .u8 5)=some (vb false):=by rw [n5]; simp [e5]
 have q3:aA .lss (u8 k) (.int .u8 8)=some (vb false):=by rw [n8,lss]; simp [k8]
 have q4:aA .lss (u8 k) (.int .u8 11)=some (vb false):=by rw [n11,lss]; simp [k11]
 by_cases e11:k=11#8
 ·have q5:aA .eql (u8 k) (.int .u8 11)=some (vb true):=by rw [n11]; simp [e11]
  simp only [q1,q2,q3,q4,q5,aH,aE,Nat.zero_add,hbx,bB,c8,aJ,aD,aI,aO];refine cN.cHold hE h w a x.flag (by have:=hb a; omega) fun L1 H1 h1 =>?_
  refine ⟨by rw [aE,aE,h1.held,hbx],?_⟩
  refine cN.rHold hE h1 w a x.flag (by have:=hb a; omega) fun Y2 H2 h2 =>?_
  simp only [bC,decide_true,aJ,aD];exact hQ _ _ _ _ _ ⟨h2.drop,w.hold a x.flag,.hold a x.flag,hb.hold hB.1 a x.flag⟩ (hup e11 ▸ .hold a)
 have q5:aA .eql (u8 k) (.int .u8 11)=some (vb false):=by rw [n11]; simp [e11]
 by_cases e12:k=12#8
 ·have q6:aA .eql (u8 k) (.int .u8 12)=some (vb true):=by rw [n12]; simp [e12]
  simp only [q1,q2,q3,q4,q5,q6,aH,aE,Nat.zero_add,hbx,bB,c6,c7,aJ,aD,aI,aO];refine cN.cWrite hE h w a x.n x.bytes x.bl (hx.bytes.mono h.ext) (by omega) hx.n ⟨by omega,by omega⟩ fun L1 H1 h1 =>?_
  refine ⟨by rw [aE,aE,h1.held,hbx],by rw [aE,aE,h1.held,hbx],?_⟩
  refine cN.rWrite hE h1 w a x.n x.bytes x.bl (hx.bytes.mono h1.ext) (by omega) ⟨by omega,by omega⟩ fun Y2 H2 h2 =>?_
  simp only [bC,decide_true,aJ,aD];exact hQ _ _ _ _ _ ⟨h2.drop,w.write a x.n x.bl,.write a x.n x.bl,(hb.write a x.n x.bl).mono (by omega)⟩ (.write a x.n x.bl)
 have q6:aA .eql (u8 k) (.int .u8 12)=some (vb false):=by rw [n12]; simp [e12]
 by_cases e13:k=13#8
 ·have q7:aA .eql (u8 k) (.int .u8 13)=some (vb true):=by rw [n13]; simp [e13]
  simp only [q1,q2,q3,q4,q5,q6,q7,aH,aE,Nat.zero_add,hbx,bB,c6,aJ,aD,aI,aO];refine cN.cCut hE h w a x.n ⟨by omega,by omega⟩ fun L1 H1 h1 =>?_
  refine ⟨by rw [aE,aE,h1.held,hbx],?_⟩
  refine cN.rCut hE h1 w a x.n ⟨by omega,by omega⟩ fun Y2 H2 h2 =>?_
  simp only [bC,decide_true,aJ,aD];exact hQ _ _ _ _ _ ⟨h2.drop,w.cut a x.n,.cut a x.n,(hb.cut a x.n).mono (by omega)⟩ (.cut a x.n)
 have q7:aA .eql (u8 k) (.int .u8 13)=some (vb false):=by rw [n13]; simp [e13]
 simp only [q1,q2,q3,q4,q5,q6,q7,aJ,aD,aI];refine S.f16 hE h.ino a s ?_;simp only [eA,List.getElem?_cons_zero,List.getElem?_cons_succ,aJ,aD];refine S.f74 hE h.ref w.small a s fun H2 e2 =>?_;simp only [eA,List.getElem?_cons_zero,List.getElem?_cons_succ,rP,bC,decide_true,dJ,aS,aJ,aD];exact hQ _ _ _ _ _ ⟨(h.mono e2).drop,w,.refl,hb.mono (by omega)⟩ .refl
theorem aB4 {v:Value} (h:Rows H 1 v (eK jJ)) (k:Nat):∃ b o s,aK 1 v (vi ((k % 9:Nat):Int))=some (ptr b o)/\(∀ H',Ext H H'->(H'.get b).cell o=some (str s))/\s.length<2 ^ 63:=by
 have hk:k % 9<9:=Nat.mod_lt _ (by omega)
 have hlen:(eK jJ).length=9:=rfl;obtain ⟨b,o,p1,p2⟩:=h.ix (i:=k % 9) (by rw [hlen]; exact hk)
 have hmem:(eK jJ)[k % 9]'(by rw [hlen]; exact hk)∈eK jJ:=List.getElem_mem _
 obtain ⟨s,hs,he⟩:=List.mem_map.1 hmem;rw [<- he] at p2;refine ⟨b,o,s,p1,fun H' e =>?_,?_⟩
 ·rw [e.get (AH.lt_of_get (fQ p2))]
  have:=dO p2 (j:=0) (by omega)
  simpa using this
 ·have:∀ s∈jJ,s.length<2 ^ 63:=by decide
  exact this s hs
theorem S.f53 (hE:bF E) {x:gL} (h:cN X H0 H p m L T t nv mv nx mr Y T) (w:T.WF) {B:Int} (hb:T.HB B) (hB:0<=B/\B<1000000) (hc:0<=T.change/\T.change<1000000) (hx:x.ok H0) (hl:x.any.length<=200/\x.bl.length<=200) (hraw:x.raw=false) {up:Bool} (hup:x.kind % 15#8=11#8->x.flag=up)
  (hQ:∀ L' nv' Y' T' H',aIA X H0 H' p m t mv nx mr T B L' nv' Y' T'->T.Did up T'->Q (vb true) H'):E.call (E.fid i.f53) [ptr p 0,ptr t 0,.agg x.cells.toArray] H Q:=by
 apply hE.f53
 have hbo:gI (.agg x.cells.toArray)=some (.cells x.cells none,fun b=>ptr b 0):=by
  have:x.cells.all plain1=true:=x.all_plain (nQ hx.bytes)
  first
   | rfl
   | simp [gI,this]
 have h1:=h.box x.cells;have hb1:=h1.held;have c1:x.cells[1]? = some (u8 x.in_):=rfl;have c2:x.cells[2]? = some (u8 x.to):=rfl;have c3:x.cells[3]? = some (u8 x.name):=rfl;have c4:x.cells[4]? = some (u8 x.other):=rfl;have c9:x.cells[9]? = some (vb x.raw):=rfl;have r1:aA .rem (u8 x.in_) (.int .u8 8)=some (u8 (x.in_ % 8#8)):=nM _ 8#8 (by decide)
 have r2:aA .rem (u8 x.to) (.int .u8 8)=some (u8 (x.to % 8#8)):=nM _ 8#8 (by decide)
 have n1:(((x.in_ % 8#8).setWidth 16:BitVec 16).toNat)=(x.in_ % 8#8).toNat:=by simp; omega
 have n2:(((x.to % 8#8).setWidth 16:BitVec 16).toNat)=(x.to % 8#8).toNat:=by simp; omega
 simp only [F.f53,hbo,AM.cY,aH,aE,Nat.zero_add,hb1,bB,c1,c2,c3,c4,r1,r2,lH,aJ,aD];generalize hH1:H.new (.cells x.cells none)=H1 at *;have ld:∀ {H'} (k:Nat),Ext H1 H'->aC (ptr H.next k) H'=aC (ptr H.next k) H1:=fun k e=>by rw [aE,aE,(h1.mono e).held,hb1]
 refine S.f54 hE fun v2 H2 e2 s2 =>?_;refine ⟨ld 4 e2,ld 3 e2,?_⟩;refine S.f54 hE fun v3 H3 e3 s3 =>?_;have e13:=e2.trans e3;refine ⟨ld 4 e13,ld 3 e13,?_⟩;have l3:AM.lenSlc v3=some (vi (9:Nat)):=s3.lenSlc;obtain ⟨b4,o4,sn,p4,q4,w4⟩:=aB4 s2 x.name.toNat;simp only [l3,fT x.name.toNat 9 (by omega),p4,aE,q4 H3 e3,aJ,aD]
 refine S.f54 hE fun v5 H5 e5 s5 =>?_;have e15:=e13.trans e5;refine ⟨by rw [aE,aE,q4 H5 (e3.trans e5),q4 H3 e3],ld 4 e15,ld 3 e15,?_⟩
 refine S.f54 hE fun v6 H6 e6 s6 =>?_;have e16:=e15.trans e6;refine ⟨by rw [aE,aE,q4 H6 (e3.trans (e5.trans e6)),q4 H3 e3],ld 4 e16,ld 3 e16,?_⟩
 have l6:AM.lenSlc v6=some (vi (9:Nat)):=s6.lenSlc;obtain ⟨b7,o7,so,p7,q7,w7⟩:=aB4 s5 x.other.toNat;have h6:=h1.mono e16;have hj:=aKs (Q:=Q) hE h6 w hb hB hc hx hl hup ((x.in_ % 8#8).setWidth 16) ((x.to % 8#8).setWidth 16) sn so w4 w7 hQ;rw [n1,n2] at hj;simp only [l6,fT x.other.toNat 9 (by omega),p7,aE,q7 H6 e6,aH,Nat.zero_add,h6.held,bB,c9,hraw,aJ,aD,aI]
 exact hj
end
end Go.AM
end
section
namespace Go.AM
def Tr.Stay (T T':Tr):Prop:=∀ n,(T.node n).kind≠0#8->1<=(T.node n).held->(T'.node n).kind=(T.node n).kind/\(T.node n).held<=(T'.node n).held
section
variable {T T' T'':Tr}
theorem Tr.node_upd_ne {n k:BitVec 16} (h:k≠n) (f:Nd->Nd):(T.upd n f).node k=T.node k:=by
 have e:¬ n.toNat=k.toNat:=fun e=>h (BitVec.eq_of_toNat_eq e.symm);unfold Tr.upd Tr.node;simp only [List.getD_eq_getElem?_getD,List.getElem?_modify,e,if_false];cases T.N[k.toNat]? <;> rfl
theorem Tr.Stay.refl:T.Stay T:=fun _ _ _=>⟨rfl,Int.le_refl _⟩
theorem Tr.Stay.trans (h:T.Stay T') (h':T'.Stay T''):T.Stay T'':=fun n hk hh=>by
 obtain ⟨a,b⟩:=h n hk hh;obtain ⟨c,d⟩:=h' n (by rw [a]; exact hk) (by omega)
 exact ⟨c.trans a,by omega⟩
theorem Tr.Stay.upd (n:BitVec 16) (f:Nd->Nd) (hf:∀ x:Nd,(f x).kind=x.kind/\x.held<=(f x).held):T.Stay (T.upd n f):=fun k _ _=>by
 rcases T.upd_or n k f with e | e
 ·rw [e]; exact ⟨rfl,Int.le_refl _⟩
 ·rw [e]; exact hf _
theorem Tr.Stay.bump (h:T.Stay T'):T.Stay T'.bump:=h
theorem Tr.Stay.tidy (n:BitVec 16):T.Stay (T.tidy n):=fun k hk hh=>by
 unfold Tr.tidy
 split
 ·rename_i hc
  have e:k≠n:=by rintro rfl; omega
  rw [Tr.node_upd_ne e];exact ⟨rfl,Int.le_refl _⟩
 ·exact ⟨rfl,Int.le_refl _⟩
theorem Tr.Stay.make (w:T.WF) (inn:BitVec 16) (s:aL) (kd:BitVec 8) (text:List UInt8):T.Stay (T.make inn s kd text).1:=by
 rcases w.make_node inn s kd text with e | ⟨_,_,A,_,hA,hi,hn⟩
 ·rw [e]; exact .refl
 ·intro n hk hh
  rw [hn]
  split
  ·rename_i e; subst e; exact ⟨rfl,Int.le_refl _⟩
  ·split
   ·rename_i e; subst e; exact (hk hA).elim
   ·exact ⟨rfl,Int.le_refl _⟩
theorem Tr.Stay.add (inn:BitVec 16) (s:aL) (v:BitVec 16):T.Stay (T.add inn s v).1:=by
 unfold Tr.add
 repeat' split
 all_goals try exact .refl
 exact (Tr.Stay.upd inn (Nd.addE s v) fun _=>⟨rfl,Int.le_refl _⟩).trans (Tr.Stay.upd v (Nd.addL 1) fun _=>⟨rfl,Int.le_refl _⟩)
theorem Tr.Stay.drop (inn:BitVec 16) (s:aL) (d:Bool):T.Stay (T.drop inn s d).1:=by
 unfold Tr.drop
 repeat' split
 all_goals try exact .refl
 exact ((Tr.Stay.upd inn (Nd.delE s) fun _=>⟨rfl,Int.le_refl _⟩).trans (Tr.Stay.upd _ (Nd.addL (-1)) fun _=>⟨rfl,Int.le_refl _⟩)).bump.trans (Tr.Stay.tidy _)
theorem Tr.Stay.hold (n:BitVec 16):T.Stay (T.hold n true).1:=by
 unfold Tr.hold
 repeat' split
 all_goals try exact .refl
 ·exact Tr.Stay.upd n (Nd.addH 1) fun x=>⟨rfl,by show x.held<=x.held+1; omega⟩
 ·rename_i h _; exact (h rfl).elim
theorem Tr.Stay.move (fr:BitVec 16) (s:aL) (to:BitVec 16) (other:aL):T.Stay (T.move fr s to other).1:=by
 have key:∀ (U:Tr) (n:BitVec 16),U.Stay (Tr.moved U fr s to other n):=by
  intro U n;have h2:U.Stay ((U.upd fr (Nd.delE s)).upd to (Nd.addE other n)):=(Tr.Stay.upd fr (Nd.delE s) fun _=>⟨rfl,Int.le_refl _⟩).trans (Tr.Stay.upd to (Nd.addE other n) fun _=>⟨rfl,Int.le_refl _⟩);unfold Tr.moved;simp only
  split
  ·exact (h2.trans (Tr.Stay.upd n (fun x=>{ x with parent:=to }) fun _=>⟨rfl,Int.le_refl _⟩)).bump
  ·exact h2.bump
 unfold Tr.move
 split
 ·exact .refl
 split
 ·exact .refl
 split
 ·exact .refl
 split
 ·exact .refl
 split
 ·exact .refl
 refine Tr.Stay.trans ?_ (key _ _)
 split
 ·exact .drop _ _ _
 ·exact .refl
theorem Tr.Stay.write (n:BitVec 16) (at_:Int) (b:List (BitVec 8)):T.Stay (T.write n at_ b).1:=by
 unfold Tr.write
 repeat' split
 all_goals try exact .refl
 exact (Tr.Stay.upd n (fun x=>{ x with data:=gR x.data at_.toNat b }) fun _=>⟨rfl,Int.le_refl _⟩).bump
theorem Tr.Stay.cut (n:BitVec 16) (size:Int):T.Stay (T.cut n size).1:=by
 unfold Tr.cut
 repeat' split
 all_goals try exact .refl
 exact (Tr.Stay.upd n (fun x=>{ x with data:=qE x.data size.toNat }) fun _=>⟨rfl,Int.le_refl _⟩).bump
theorem Tr.Did.stay (h:T.Did true T') (w:T.WF):T.Stay T':=by
 cases h
 ·exact .make w _ _ _ _
 ·exact .add _ _ _
 ·exact .drop _ _ _
 ·exact .move _ _ _ _
 ·exact .hold _
 ·exact .write _ _ _
 ·exact .cut _ _
 ·exact .refl
theorem Tr.Did.kd {up:Bool} (h:T.Did up T') (k:T.KD):T'.KD:=by
 cases h
 ·exact k.make gP _ _ _ _
 ·exact k.add gP _ _ _
 ·exact k.drop gP _ _ _
 ·exact k.move gP _ _ _ _
 ·exact k.hold gP _ _
 ·exact k.write gP _ _ _
 ·exact k.cut gP _ _
 ·exact k
end
end Go.AM
end
section
namespace Go.AM
def Tr.dead (T:Tr) (n:BitVec 16):Prop:=(T.node n).kind=2#8/\(T.node n).links=0
structure Tr.Order (T:Tr):Prop where
 rank:∃ (r:BitVec 16->Nat) (B:Nat),(∀ n,r n<B)/\∀ n,T.dead n->T.dead (T.node n).parent->r n<r (T.node n).parent
 par:∀ n,(T.node n).kind≠2#8->(T.node n).parent=0#16
def Tr.DAt (T T':Tr) (n:BitVec 16):Prop:=(T'.dead n->(T'.node n).parent=(T.node n).parent/\(T.dead n\/¬ T'.dead (T'.node n).parent))/\((T'.node n).kind≠2#8->(T'.node n).parent=0#16\/((T.node n).kind≠2#8/\(T'.node n).parent=(T.node n).parent))
def Tr.DStep (T T':Tr):Prop:=∀ n,T.DAt T' n
section
variable {T T' T'':Tr}
open Classical in
theorem Tr.Order.step (h:T.Order) (d:T.DStep T'):T'.Order:=by
 obtain ⟨r,B,hr,ho⟩:=h.rank;refine ⟨⟨fun n=>if T.dead n then r n else B,B+1,fun n =>?_,fun n hn hp =>?_⟩,fun n hk =>?_⟩
 ·have:=hr n
  simp only
  split <;> omega
 ·obtain ⟨e,h1⟩:=(d n).1 hn
  rcases h1 with h1 | h1
  ·simp only [if_pos h1]
   split
   ·rename_i h2
    rw [e] at h2 ⊢;exact ho n h1 h2
   ·exact hr n
  ·exact (h1 hp).elim
 ·rcases (d n).2 hk with e | ⟨a,b⟩
  ·exact e
  ·rw [b]; exact h.par n a
theorem Tr.DAt.same {n:BitVec 16} (h1:(T'.node n).kind=(T.node n).kind) (h2:(T'.node n).parent=(T.node n).parent) (h3:(T'.node n).links=(T.node n).links):T.DAt T' n :=
 ⟨fun h=>⟨h2,.inl ⟨by rw [<- h1]; exact h.1,by rw [<- h3]; exact h.2⟩⟩,fun h => .inr ⟨by rw [<- h1]; exact h,h2⟩⟩
theorem Tr.DAt.none {n:BitVec 16} (h:T'.node n=Nd.none):T.DAt T' n :=
 ⟨fun hd=>by have:=hd.1; rw [h] at this; simp [Nd.none] at this,fun _ => .inl (by rw [h]; rfl)⟩
theorem Tr.DAt.file {n:BitVec 16} (h:(T'.node n).kind≠2#8) (h1:(T.node n).kind≠2#8) (h2:(T'.node n).parent=(T.node n).parent):T.DAt T' n :=
 ⟨fun hd=>(h hd.1).elim,fun _ => .inr ⟨h1,h2⟩⟩
theorem Tr.DAt.live {n:BitVec 16} (h:(T'.node n).kind=2#8) (h1:(T'.node n).links≠0):T.DAt T' n :=
 ⟨fun hd=>(h1 hd.2).elim,fun hk=>(hk h).elim⟩
theorem Tr.DStep.refl:T.DStep T:=fun _ => .same rfl rfl rfl
theorem Tr.DStep.upd (n:BitVec 16) (f:Nd->Nd) (hf:∀ x:Nd,(f x).kind=x.kind/\(f x).parent=x.parent/\(f x).links=x.links):T.DStep (T.upd n f):=fun k=>by
 rcases T.upd_or n k f with e | e
 ·exact .same (by rw [e]) (by rw [e]) (by rw [e])
 ·obtain ⟨a,b,c⟩:=hf (T.node k)
  exact .same (by rw [e,a]) (by rw [e,b]) (by rw [e,c])
theorem Tr.DStep.make (w:T.WF) (inn:BitVec 16) (s:aL) (kd:BitVec 8) (text:List UInt8):T.DStep (T.make inn s kd text).1:=by
 rcases w.make_node inn s kd text with e | ⟨_,_,A,_,hA,hi,hn⟩
 ·rw [e]; exact .refl
 ·intro n
  have hn:=hn n;generalize (T.make inn s kd text).1=T' at *
  by_cases e:n=inn
  ·subst e
   rw [if_pos rfl] at hn;exact .same (by rw [hn]; rfl) (by rw [hn]; rfl) (by rw [hn]; rfl)
  rw [if_neg e] at hn
  by_cases e2:n=A
  ·subst e2
   rw [if_pos rfl] at hn
   by_cases hk:kd=2#8
   ·exact .live (by rw [hn]; exact hk) (by rw [hn]; exact Int.one_ne_zero)
   ·exact ⟨fun hd=>by have:=hd.1; rw [hn] at this; exact (hk this).elim,fun _ => .inl (by rw [hn]; exact if_neg hk)⟩
  ·rw [if_neg e2] at hn
   exact .same (by rw [hn]) (by rw [hn]) (by rw [hn])
theorem Tr.DStep.add (inn:BitVec 16) (s:aL) (v:BitVec 16):T.DStep (T.add inn s v).1:=by
 unfold Tr.add
 split
 ·exact .refl
 split
 ·exact .refl
 split
 ·exact .refl
 split
 ·exact .refl
 split
 ·exact .refl
 rename_i h2 _ _ _;intro k
 have hV:((T.upd inn (Nd.addE s v)).node k).kind=(T.node k).kind/\((T.upd inn (Nd.addE s v)).node k).parent=(T.node k).parent/\((T.upd inn (Nd.addE s v)).node k).links=(T.node k).links:=by
  rcases T.upd_or inn k (Nd.addE s v) with e | e <;> rw [e] <;> exact ⟨rfl,rfl,rfl⟩
 obtain ⟨a,b,c⟩:=hV
 by_cases e:k=v
 ·subst e
  have:(((T.upd inn (Nd.addE s k)).upd k (Nd.addL 1)).node k).kind=(T.node k).kind/\(((T.upd inn (Nd.addE s k)).upd k (Nd.addL 1)).node k).parent=(T.node k).parent:=by
   rcases (T.upd inn (Nd.addE s k)).upd_or k k (Nd.addL 1) with e | e <;> rw [e] <;> exact ⟨a,b⟩
  exact .file (by show ¬ _=_; rw [Tr.bump_node,this.1]; exact h2) h2 this.2
 ·have hn:(((T.upd inn (Nd.addE s v)).upd v (Nd.addL 1)).bump.node k)=(T.upd inn (Nd.addE s v)).node k:=Tr.node_upd_ne e _
  exact .same (by rw [hn,a]) (by rw [hn,b]) (by rw [hn,c])
theorem Tr.DStep.hold (n:BitVec 16) (up:Bool):T.DStep (T.hold n up).1:=by
 unfold Tr.hold
 split
 ·exact .refl
 split
 ·exact .upd n _ fun _=>⟨rfl,rfl,rfl⟩
 split
 ·exact .refl
 intro k
 have hV:((T.upd n (Nd.addH (-1))).node k).kind=(T.node k).kind/\((T.upd n (Nd.addH (-1))).node k).parent=(T.node k).parent/\((T.upd n (Nd.addH (-1))).node k).links=(T.node k).links:=by
  rcases T.upd_or n k (Nd.addH (-1)) with e | e <;> rw [e] <;> exact ⟨rfl,rfl,rfl⟩
 obtain ⟨a,b,c⟩:=hV;unfold Tr.tidy
 split
 ·rcases (T.upd n (Nd.addH (-1))).upd_or n k (fun _=>Nd.none) with e | e
  ·exact .same (by rw [e,a]) (by rw [e,b]) (by rw [e,c])
  ·exact .none e
 ·exact .same a b c
theorem Tr.DStep.drop (w:T.WF) (inn:BitVec 16) (s:aL) (d:Bool):T.DStep (T.drop inn s d).1:=by
 unfold Tr.drop
 split
 ·exact .refl
 split
 ·exact .refl
 split
 ·exact .refl
 split
 ·exact .refl
 rename_i c1 _ _ _;have c1:(T.look inn s).2=0:=by simpa using c1
 obtain ⟨k1,k2⟩:=Tr.look_ok c1;generalize (T.look inn s).1=y at *;obtain ⟨e1,e2,e3,o0,o1,e6⟩:=w.pos k2;have hyi:inn≠y:=by rintro rfl; exact w.no_self (iG k2)
 intro k
 have hV:∀ k,((T.upd inn (Nd.delE s)).node k).kind=(T.node k).kind/\((T.upd inn (Nd.delE s)).node k).parent=(T.node k).parent/\((T.upd inn (Nd.delE s)).node k).links=(T.node k).links:=fun k=>by
  rcases T.upd_or inn k (Nd.delE s) with e | e <;> rw [e] <;> exact ⟨rfl,rfl,rfl⟩
 have hW:∀ k,k≠y->((((T.upd inn (Nd.delE s)).upd y (Nd.addL (-1))).bump).tidy y).node k=(T.upd inn (Nd.delE s)).node k:=fun k e=>by
  unfold Tr.tidy
  split
  ·rw [Tr.node_upd_ne e,Tr.bump_node,Tr.node_upd_ne e]
  ·rw [Tr.bump_node,Tr.node_upd_ne e]
 by_cases e:k=y
 ·subst e
  have hin:¬ ((((T.upd inn (Nd.delE s)).upd k (Nd.addL (-1))).bump).tidy k).dead inn:=fun hd=>by
   have h2:=hd.2;rw [hW inn hyi,(hV inn).2.2] at h2;exact e2 h2
  have hk:(((T.upd inn (Nd.delE s)).upd k (Nd.addL (-1))).node k).kind=(T.node k).kind/\(((T.upd inn (Nd.delE s)).upd k (Nd.addL (-1))).node k).parent=(T.node k).parent:=by
   rcases (T.upd inn (Nd.delE s)).upd_or k k (Nd.addL (-1)) with e | e <;> rw [e] <;> exact ⟨(hV k).1,(hV k).2.1⟩
  unfold Tr.tidy at hin ⊢
  split at hin
  ·rename_i hc
   rw [if_pos hc]
   have hz:((((T.upd inn (Nd.delE s)).upd k (Nd.addL (-1))).bump).upd k (fun _=>Nd.none)).node k=Nd.none:=by
    rw [Tr.node_upd (by rw [Tr.bump_node,hk.1]; exact o0),if_pos rfl]
   exact .none hz
  ·rename_i hc
   rw [if_neg hc]
   by_cases h2:(T.node k).kind=2#8
   ·refine ⟨fun _=>⟨hk.2,.inr ?_⟩,fun h=>(h (hk.1.trans h2)).elim⟩
    have:(((T.upd inn (Nd.delE s)).upd k (Nd.addL (-1))).bump.node k).parent=inn:=hk.2.trans (e6 h2);rw [this];exact hin
   ·exact .file (fun h=>h2 (hk.1.symm.trans h)) h2 hk.2
 ·obtain ⟨a,b,c⟩:=hV k
  have hn:=hW k e;exact .same (by rw [hn,a]) (by rw [hn,b]) (by rw [hn,c])
theorem Tr.node_upd_lt {n:BitVec 16} (h:n.toNat<T.N.length) (f:Nd->Nd):(T.upd n f).node n=f (T.node n):=by
 unfold Tr.upd Tr.node;simp [List.getD_eq_getElem?_getD,List.getElem?_modify,h]
theorem Tr.len_upd (n:BitVec 16) (f:Nd->Nd):(T.upd n f).N.length=T.N.length:=by simp [Tr.upd]
theorem Tr.len_tidy (n:BitVec 16):(T.tidy n).N.length=T.N.length:=by
 unfold Tr.tidy
 split
 ·exact Tr.len_upd _ _
 ·rfl
theorem Tr.len_drop (inn:BitVec 16) (s:aL) (d:Bool):(T.drop inn s d).1.N.length=T.N.length:=by
 unfold Tr.drop
 repeat' split
 all_goals try rfl
 rw [Tr.len_tidy]
 show ((T.upd _ _).upd _ _).N.length=_
 rw [Tr.len_upd,Tr.len_upd]
theorem Tr.DStep.moved {U:Tr} {fr to n:BitVec 16} {s other:aL} (hl:to.toNat<U.N.length) (w:(Tr.moved U fr s to other n).WF):U.DStep (Tr.moved U fr s to other n):=by
 have hV:∀ m,(((U.upd fr (Nd.delE s)).upd to (Nd.addE other n)).node m).kind=(U.node m).kind/\(((U.upd fr (Nd.delE s)).upd to (Nd.addE other n)).node m).parent=(U.node m).parent/\(((U.upd fr (Nd.delE s)).upd to (Nd.addE other n)).node m).links=(U.node m).links:=fun m=>by
  have h1:((U.upd fr (Nd.delE s)).node m).kind=(U.node m).kind/\((U.upd fr (Nd.delE s)).node m).parent=(U.node m).parent/\((U.upd fr (Nd.delE s)).node m).links=(U.node m).links:=by
   rcases U.upd_or fr m (Nd.delE s) with e | e <;> rw [e] <;> exact ⟨rfl,rfl,rfl⟩
  rcases (U.upd fr (Nd.delE s)).upd_or to m (Nd.addE other n) with e | e <;> rw [e] <;> exact h1
 have hm:(other,n)∈(((U.upd fr (Nd.delE s)).upd to (Nd.addE other n)).node to).ents:=by
  rw [Tr.node_upd_lt (by rw [Tr.len_upd]; exact hl)]
  exact kG.2 (.inl rfl)
 unfold Tr.moved at w ⊢;simp only at w ⊢
 split at w
 ·rename_i hk
  rw [if_pos hk];intro m
  by_cases e:m=n
  ·subst e
   have hk':((((U.upd fr (Nd.delE s)).upd to (Nd.addE other m)).upd m (fun x=>{ x with parent:=to })).bump.node m).kind=2#8:=by
    rw [Tr.bump_node];rcases ((U.upd fr (Nd.delE s)).upd to (Nd.addE other m)).upd_or m m (fun x=>{ x with parent:=to }) with e | e <;> rw [e] <;> exact (hV m).1.trans hk
   have hm':(other,m)∈((((U.upd fr (Nd.delE s)).upd to (Nd.addE other m)).upd m (fun x=>{ x with parent:=to })).bump.node to).ents:=by
    rw [Tr.bump_node];rcases ((U.upd fr (Nd.delE s)).upd to (Nd.addE other m)).upd_or m to (fun x=>{ x with parent:=to }) with e | e <;> rw [e] <;> exact hm
   have:=w.live_of hm' hk';exact .live this.1 this.2
  ·obtain ⟨a,b,c⟩:=hV m
   have hn:((((U.upd fr (Nd.delE s)).upd to (Nd.addE other n)).upd n (fun x=>{ x with parent:=to })).bump.node m)=((U.upd fr (Nd.delE s)).upd to (Nd.addE other n)).node m:=Tr.node_upd_ne e _
   exact .same (by rw [hn,a]) (by rw [hn,b]) (by rw [hn,c])
 ·rename_i hk
  rw [if_neg hk];intro m;obtain ⟨a,b,c⟩:=hV m;exact .same a b c
theorem Tr.Order.move (h:T.Order) (w:T.WF) (fr:BitVec 16) (s:aL) (to:BitVec 16) (other:aL):(T.move fr s to other).1.Order:=by
 have w':=w.move fr s to other;unfold Tr.move at w' ⊢
 split
 ·exact h
 rename_i c1
 split
 ·exact h
 rename_i c2
 split
 ·exact h
 rename_i c3
 split
 ·exact h
 rename_i c4
 split
 ·exact h
 rename_i c5;simp only [if_neg c1,if_neg c2,if_neg c3,if_neg c4,if_neg c5] at w'
 have hto:to.toNat<T.N.length:=by
  have c2:T.dir to=0:=by simpa using c2
  exact Tr.node_lt (by rw [Tr.dir_zero.1 c2]; decide)
 refine Tr.Order.step (T:=if (bS other (T.node to).ents).isSome then (T.drop to other (decide ((T.node (T.look fr s).1).kind=2#8))).1 else T) ?_ (Tr.DStep.moved ?_ w')
 ·split
  ·exact h.step (.drop w _ _ _)
  ·exact h
 ·split
  ·rw [Tr.len_drop]; exact hto
  ·exact hto
theorem Tr.Did.order {up:Bool} (h:T.Did up T') (w:T.WF) (o:T.Order):T'.Order:=by
 cases h
 ·exact o.step (.make w _ _ _ _)
 ·exact o.step (.add _ _ _)
 ·exact o.step (.drop w _ _ _)
 ·exact o.move w _ _ _ _
 ·exact o.step (.hold _ _)
 ·unfold Tr.write
  repeat' split
  all_goals try exact o
  exact o.step (.upd _ _ fun _=>⟨rfl,rfl,rfl⟩)
 ·unfold Tr.cut
  repeat' split
  all_goals try exact o
  exact o.step (.upd _ _ fun _=>⟨rfl,rfl,rfl⟩)
 ·exact o
theorem Tr.Order.new (limit:Int):(Tr.new limit).Order:=by
 have hp:∀ n,((Tr.new limit).node n).kind≠2#8->((Tr.new limit).node n).parent=0#16:=by
  intro n hk;unfold Tr.new Tr.node at hk ⊢;simp only [List.getD_eq_getElem?_getD] at hk ⊢
  by_cases e0:n.toNat=0
  ·rw [e0]; rfl
  ·by_cases e1:n.toNat=1
   ·rw [e1] at hk; exact (hk rfl).elim
   ·rw [List.getElem?_eq_none (by simp; omega)]; rfl
 refine ⟨⟨fun _=>0,1,fun _=>Nat.zero_lt_one,fun n hd _ =>?_⟩,hp⟩;obtain ⟨a,b⟩:=hd;unfold Tr.new Tr.node at a b;simp only [List.getD_eq_getElem?_getD] at a b
 by_cases e0:n.toNat=0
 ·rw [e0] at a; exact absurd a (by decide)
 ·by_cases e1:n.toNat=1
  ·rw [e1] at b; exact absurd b (by decide)
  ·rw [List.getElem?_eq_none (by simp; omega)] at a; exact absurd a (by decide)
end
end Go.AM
end
section
namespace Go.AM
variable {E:Sy} {H:AH} {Q:Value->AH->Prop}
def uY (H:AH) (p:Nat) (t:bX) (M:List dA):Prop:=H.get p = .cells t.cells none/\M.length<2 ^ 62/\Rows H 5 t.m (M.map dA.cells)
theorem uY.mono {H H':AH} {p:Nat} {t:bX} {M:List dA} (h:uY H p t M) (e:Ext H H'):uY H' p t M:=⟨e.cells h.1,h.2.1,h.2.2.mono e⟩
theorem uY.len {H:AH} {p:Nat} {t:bX} {M:List dA} (h:uY H p t M):lenSlc t.m=some (vi M.length):=by
 have:=h.2.2.lenSlc
 simpa using this
theorem S.f83 (hE:bF E) (p:Nat) (t:bX) (M:List dA) (hT:uY H p t M) (id:Int) (hQ:Q (vi (kR (fun m:dA=>decide (m.id=id)) M)) H):E.call (E.fid i.f83) [ptr p 0,vi id] H Q:=by
 apply hE.f83;have hl:=hT.len;have h0:=hT.2.1;simp [F.f83];refine aP.count M.length (fun j s H'=>s=[ptr p 0,vi id,vi j]/\H'=H/\∀ i (hi:i<M.length),i<j->¬ M[i].id=id) ?_ ⟨rfl,rfl,fun i _ h=>by omega⟩
 rintro j _ _ X hj hX ⟨rfl,rfl,hn⟩;simp only [F.f83_l1,dX,aF8];simp [hT.1,hl];refine iA (fun h =>?_) (fun h =>?_)
 ·have hjl:j<M.length:=by omega
  obtain ⟨b,o,f1,f2,f3,_⟩:=dA.elem hT.2.2 hjl;simp [hT.1,f1,f3];refine iA (fun h =>?_) (fun h =>?_)
  ·have:kR (fun m:dA=>decide (m.id=id)) M=(j:Int):=by
    have:M.findIdx? (fun m:dA=>decide (m.id=id))=some j:=List.findIdx?_eq_some_iff_getElem.2 ⟨hjl,by simpa using h,fun i hi=>by simpa using hn i (by omega) hi⟩
    simp [kR,this]
   rw [<- this];exact hQ
  ·rw [cG (by omega),aD]
   refine hX hjl _ _ ⟨rfl,rfl,fun i hi hij =>?_⟩
   by_cases e:i=j
   ·subst e; exact h
   ·exact hn i hi (by omega)
 ·have:j=M.length:=by omega
  subst this
  have:kR (fun m:dA=>decide (m.id=id)) M = -1:=by
   have:M.findIdx? (fun m:dA=>decide (m.id=id))=none:=by
    rw [List.findIdx?_eq_none_iff];intro x hx;obtain ⟨i,hi,rfl⟩:=List.getElem_of_mem hx
    simpa using hn i hi hi
   simp [kR,this]
  rw [<- this];exact hQ
def fC (p:bZ) (m:dA):Bool:=decide (m.id≠0)&&decide (m.at_=p)
def iP {α:Type} (P:α->Bool) (l:List α):Int:=match (List.range l.length).reverse.find? (fun i=>(l[i]?).any P) with | some i=>(i:Int) | none => -1
theorem pE {α:Type} (P:α->Bool) (l:List α) (x:α):iP P (l++[x])=if P x then (l.length:Int) else iP P l:=by
 unfold iP;rw [List.length_append,List.length_singleton,List.range_succ,List.reverse_append,List.reverse_singleton,List.singleton_append,List.find?_cons];have h0:((l++[x])[l.length]?).any P=P x:=by simp
 rw [h0];cases P x with
 | true=>simp
 | false =>
  simp only [Bool.false_eq_true,if_false]
  have:∀ (L:List Nat),(∀ i∈L,i<l.length)->L.find? (fun i=>((l++[x])[i]?).any P)=L.find? (fun i=>(l[i]?).any P):=by
   intro L hL
   induction L with
   | nil=>rfl
   | cons a L ih =>
    have ha:=hL a (by simp)
    rw [List.find?_cons,List.find?_cons,List.getElem?_append_left ha,ih fun i hi=>hL i (by simp [hi])]
  rw [this _ (fun i hi=>by simpa using hi)]
theorem tU {α:Type} (P:α->Bool) (l:List α):(iP P l = -1/\∀ x∈l,P x=false)\/∃ (i:Nat) (hi:i<l.length),iP P l=i/\P l[i]=true:=by
 unfold iP;cases h:(List.range l.length).reverse.find? (fun i=>(l[i]?).any P) with
 | none =>
  refine .inl ⟨rfl,fun x hx =>?_⟩;obtain ⟨i,hi,rfl⟩:=List.getElem_of_mem hx;have:=List.find?_eq_none.1 h i (by simpa using hi)
  simpa [hi] using this
 | some i =>
  have h1:=List.find?_some h;have h2:=List.mem_of_find?_eq_some h;have hi:i<l.length:=by simpa using h2
  exact .inr ⟨i,hi,rfl,by simpa [hi] using h1⟩
def mE (M:List dA):Nat->bZ->bZ
 | 0,p=>p
 | n+1,p=>if h:0<=iP (fC p) M/\(iP (fC p) M).toNat<M.length then mE M n ⟨(M[(iP (fC p) M).toNat]'h.2).id,(M[(iP (fC p) M).toNat]'h.2).root⟩ else p
theorem S.f78 (hE:bF E) (p:Nat) (t:bX) (M:List dA) (hT:uY H p t M) (q:bZ) (hQ:∀ H',Ext H H'->Q (mE M 20 q).v H'):E.call (E.fid i.f78) [ptr p 0,q.v] H Q:=by
 apply hE.f78;have hl:=hT.len;have h0:=hT.2.1;simp [F.f78];generalize hH2:(H.new _).new _=H2;have x2:Ext H H2:=by subst hH2; exact ((Ext.refl H).new _).new _
 have k1:H2.get H.next = .cells q.cells none:=by subst hH2; simp [AH.get_new]
 have k2:H2.get (H.next+1) = .cells [vi 0,vi 0] none:=by subst hH2; simp [AH.get_new]
 clear hH2;refine aP.count 20 (fun k s H'=>∃ r,s=[ptr p 0,ptr H.next 0,ptr (H.next+1) 0,vi k]/\Ext H H'/\mE M (20 - k) r=mE M 20 q/\H'.get H.next = .cells r.cells none/\H'.get (H.next+1) = .cells [vi 0,vi 0] none) ?_ ⟨q,rfl,x2,rfl,k1,k2⟩;rintro k _ H' X hk hX ⟨r,rfl,e1,hs,m1,m2⟩;have hT1:=hT.mono e1;have l1:=AH.lt_cells m1;have l2:=AH.lt_cells m2
 have leave:mE M 20 q=r->Q (mE M 20 q).v (H'.put (H.next+1) (.cells r.cells none)):=by
  intro h;exact hQ _ (e1.put (b:=H.next+1) (by omega) _)
 simp only [F.f78_l1,dX,aF8];simp
 by_cases hk20:(k:Int)<20
 ·simp [hk20]
  refine aP.count M.length (fun j s H''=>s=[ptr p 0,ptr H.next 0,ptr (H.next+1) 0,vi k,vi (iP (fC r) (M.take j)),vi j]/\H''=H') ?_ ⟨rfl,rfl⟩;rintro j _ _ X1 hj hX1 ⟨rfl,rfl⟩;simp only [F.f78_l2,dX,aF8];simp [hT1.1,hl];refine iA (fun h =>?_) (fun h =>?_)
  ·have hjl:j<M.length:=by omega
   obtain ⟨b,o,f1,f2,f3,f4,f5,f6,f7,f8⟩:=dA.elem hT1.2.2 hjl;have htk:M.take (j+1)=M.take j++[M[j]]:=by rw [List.take_succ,List.getElem?_eq_getElem hjl]; rfl
   have hln:(M.take j).length=j:=by rw [List.length_take]; omega
   by_cases hid:M[j].id=0
   ·simp [hT1.1,f1,f3,hid]
    rw [cG (by omega),aD]
    refine hX1 hjl _ _ ⟨?_,rfl⟩;rw [htk,pE];simp [fC,hid]
   ·by_cases hat:M[j].at_=r
    ·simp [hT1.1,f1,f3,hid,m1,f8,hat]
     rw [cG (by omega),aD]
     refine hX1 hjl _ _ ⟨?_,rfl⟩;rw [htk,pE,hln];simp [fC,hid,hat]
    ·simp [hT1.1,f1,f3,hid,m1,f8,hat]
     rw [cG (by omega),aD]
     refine hX1 hjl _ _ ⟨?_,rfl⟩;rw [htk,pE];simp [fC,hid,hat]
  ·have:j=M.length:=by omega
   subst this;rw [List.take_length]
   have hstep:mE M (20 - k) r=if h:0<=iP (fC r) M/\(iP (fC r) M).toNat<M.length then mE M (20 - (k+1)) ⟨(M[(iP (fC r) M).toNat]'h.2).id,(M[(iP (fC r) M).toNat]'h.2).root⟩ else r:=by
    rw [show 20 - k=(20 - (k+1))+1 by omega]
    rfl
   rcases tU (fC r) M with ⟨h1,_⟩ | ⟨i,hi,h1,_⟩
   ·rw [h1] at hstep
    simp at hstep;simp [h1,m1,m2];have:=leave (by rw [<- hs,hstep])
    rw [<- hs,hstep] at this
    simpa [l2] using this
   ·rw [h1] at hstep
    simp [hi] at hstep;have hneg:¬ ((i:Int)<0):=by omega
    obtain ⟨b,o,f1,f2,f3,f4,f5,f6,f7,f8⟩:=dA.elem hT1.2.2 hi;simp [hT1.1,h1,hneg,f1,f3,f4,m1];rw [cG (by omega),aD]
    refine hX (by omega) _ _ ⟨⟨M[i].id,M[i].root⟩,rfl,e1.put (b:=H.next) (by omega) _,by rw [<- hs,hstep,show 20 - (k+1)=19 - k by omega],?_,?_⟩
    ·simp [l1]
    ·rw [AH.get_put_ne _ _ (by omega)]; exact m2
 ·have:k=20:=by omega
  subst this;simp at hs;simp [m1,m2];have:=leave (by rw [<- hs]; rfl)
  rw [<- hs] at this
  simpa [l2,mE] using this
end Go.AM
end
section
namespace Go.AM
variable {E:Sy} {H:AH} {Q:Value->AH->Prop}
def eN (p:Nat) (t:bX) (N:List bW) (M:List dA):Res:=⟨p :: (eF t.n++eF t.m),fun H=>H.get p = .cells t.cells none/\bR zH H 7 t.n (N.map bW.cells)/\bR zH H 5 t.m (M.map dA.cells),
 fun h e=>⟨by rw [e _ (by simp)]; exact h.1,h.2.1.keep fun b hb _=>e b (by simp [bQ.2 hb]),h.2.2.keep fun b hb _=>e b (by simp [bQ.2 hb])⟩⟩
section
variable {p:Nat} {t:bX} {N:List bW} {M M':List dA} {H1:AH} {v':Value}
theorem eN.at_ (h:(eN p t N M).P H) (hn:M.length<2 ^ 62):uY H p t M:=⟨h.1,hn,h.2.2.toRows⟩
theorem eN.nodup (hnd:(eN p t N M).fp.Nodup):p ∉ eF t.n/\p ∉ eF t.m/\∀ b∈eF t.n,b ∉ eF t.m:=by
 simp only [eN,List.nodup_cons,List.mem_append,List.nodup_append,not_or] at hnd;obtain ⟨⟨h1,h2⟩,h3,h4,h5⟩:=hnd;exact ⟨h1,h2,fun b hb hm=>h5 b hb b hm rfl⟩
theorem eN.fp_lt (hr:(eN p t N M).P H):∀ b∈(eN p t N M).fp,b<H.next:=by
 intro b hb;simp only [eN,List.mem_cons,List.mem_append] at hb;rcases hb with rfl | hb | hb
 ·exact AH.lt_cells hr.1
 ·exact hr.2.1.blk_lt (bQ.1 hb)
 ·exact hr.2.2.blk_lt (bQ.1 hb)
theorem eN.updM (h:(eN p t N M).P H) (hnd:(eN p t N M).fp.Nodup) (o:dC (p :: eF t.m) H H1) (g:bR zH H1 5 v' (M'.map dA.cells)) (hb:∀ b,blk v'=some b->blk t.m=some b\/H.next<=b) (nx:Int) :
  Upd (eN p t N M) (eN p { t with m:=v',next:=nx } N M') H (H1.put p (.cells ({ t with m:=v',next:=nx }:bX).cells none)):=by
 obtain ⟨n1,n2,n3⟩:=eN.nodup hnd;have hlt:p<H.next:=AH.lt_cells h.1
 have hpb:p ∉ eF v':=fun k=>by
  rcases hb p (bQ.1 k) with k | k
  ·exact n2 (bQ.2 k)
  ·omega
 have hN:∀ b,blk t.n=some b->b<H.next:=fun b hb=>h.2.1.blk_lt hb
 have hNn:∀ b,blk t.n=some b->b ∉ eF v':=fun b hbn k=>by
  rcases hb b (bQ.1 k) with k | k
  ·exact n3 b (bQ.2 hbn) (bQ.2 k)
  ·have:=hN b hbn; omega
 refine ⟨(o.put (.inl (by simp)) _).mono fun b hb => .inl ?_,⟨AH.get_put_self _ _ (Nat.lt_of_lt_of_le hlt o.1),?_,?_⟩,fun b hb' =>?_,?_⟩
 ·simp only [List.mem_cons,eN,List.mem_append] at hb ⊢
  exact hb.imp id .inr
 ·refine h.2.1.keep fun b hb _ =>?_
  have hbp:b≠p:=by rintro rfl; exact n1 (bQ.2 hb)
  rw [AH.get_put_ne _ _ hbp];exact o.get (hN b hb) (by simp only [List.mem_cons,not_or]; exact ⟨hbp,n3 b (bQ.2 hb)⟩)
 ·exact g.keep fun b hb _=>AH.get_put_ne _ _ (by rintro rfl; exact hpb (bQ.2 hb))
 ·simp only [eN,List.mem_cons,List.mem_append] at hb' ⊢
  rcases hb' with rfl | hb' | hb'
  ·exact ⟨.inl (by simp),Nat.lt_of_lt_of_le hlt o.1⟩
  ·exact ⟨.inl (by simp [hb']),Nat.lt_of_lt_of_le (hN b (bQ.1 hb')) o.1⟩
  ·exact ⟨(hb b (bQ.1 hb')).imp (fun k=>by simp [bQ.2 k]) id,g.blk_lt (bQ.1 hb')⟩
 ·simp only [eN,List.nodup_cons,List.mem_append,not_or,List.nodup_append]
  exact ⟨⟨n1,hpb⟩,lX _,lX _,fun a ha b hb' e=>hNn a (bQ.1 ha) (e▸hb')⟩
end
end Go.AM
end
section
namespace Go.AM
variable {E:Sy} {H:AH} {Q:Value->AH->Prop}
structure aJl where
 M:List dA
 nx:Int
 n:Int
 e:Int
def mN (M:List dA) (nx root:Int) (q:bZ):aJl :=
 if kR (fun m:dA=>decide (m.id=q.mount)) M<0 then ⟨M,nx,0,22⟩ else if mE M 20 q≠q then ⟨M,nx,0,16⟩ else if 16<=M.length then ⟨M,nx,0,28⟩ else ⟨M++[⟨nx,root,q,0⟩],nx+1,nx,0⟩
theorem S.f69 (hE:bF E) (p:Nat) (t:bX) (N:List bW) (M:List dA) (hr:(eN p t N M).P H) (hnd:(eN p t N M).fp.Nodup) (hn:M.length<2 ^ 20) (hx:0<=t.next/\t.next<2 ^ 61) (root:Int) (q:bZ)
  (hQ:∀ t' H',t'.next=(mN M t.next root q).nx/\t'.n=t.n/\t'.limit=t.limit/\t'.change=t.change->Upd (eN p t N M) (eN p t' N (mN M t.next root q).M) H H'->Q (.tuple #[vi (mN M t.next root q).n,vi (mN M t.next root q).e]) H'):E.call (E.fid i.f69) [ptr p 0,vi root,q.v] H Q:=by
 apply hE.f69;have hT:=eN.at_ hr (by omega)
 have same:∀ H',Ext H H'->Upd (eN p t N M) (eN p t N M) H H':=fun H' e=>(Upd.refl hr (eN.fp_lt hr) hnd).ext e;have x1:Ext H (H.new (.cells q.cells none)):=(Ext.refl H).new _;have k1:(H.new (.cells q.cells none)).get H.next = .cells q.cells none:=AH.get_new_self _ _;obtain ⟨n1,n2,n3⟩:=eN.nodup hnd;have hlp:=AH.lt_cells hr.1;simp [F.f69];refine S.f83 hE p t M (hT.mono x1) q.mount ?_;unfold mN at hQ
 by_cases hf:kR (fun m:dA=>decide (m.id=q.mount)) M<0
 ·simp only [hf,if_true] at hQ
  simp [hf];exact hQ t _ ⟨rfl,rfl,rfl,rfl⟩ (same _ x1)
 ·simp only [hf,if_false] at hQ
  simp [hf];refine S.f78 hE p t M (hT.mono x1) q fun H3 e3 =>?_;have x3:=x1.trans e3;have k3:=e3.cells k1;simp [k3]
  by_cases hs:mE M 20 q=q
  ·simp only [hs,ne_eq,not_true,if_false] at hQ
   have hT3:=hT.mono x3;simp [hs,hT3.1,hT3.len]
   by_cases h16:16<=M.length
   ·simp only [h16,if_true] at hQ
    have h16':(16:Int)<=M.length:=by omega
    simp [h16'];exact hQ t _ ⟨rfl,rfl,rfl,rfl⟩ (same _ x3)
   ·simp only [h16,if_false] at hQ
    have h16':¬ (16:Int)<=M.length:=by omega
    have l3:=AH.lt_cells hT3.1;simp [h16',hT3.1];rw [cU (by omega) (by omega),aD]
    simp [hT3.1,l3];have hpk:H.next≠p:=by omega
    have k4:(H3.put p (.cells ({ t with next:=t.next+1 }:bX).cells none)).get H.next = .cells q.cells none:=by rw [AH.get_put_ne _ _ hpk]; exact k3
    have hg3:=hr.2.2.ext x3;have hg4:bR zH (H3.put p (.cells ({ t with next:=t.next+1 }:bX).cells none)) 5 t.m (M.map dA.cells):=hg3.keep fun b hb _=>AH.get_put_ne _ _ (by rintro rfl; exact n2 (bQ.2 hb))
    obtain ⟨v',H6,a1,a2,a3,a4⟩:=hg4.app1 (Nat.zero_le _) (bytes:=40) (dA.cells ⟨t.next,root,q,0⟩) rfl rfl (by omega) (by omega) (by simp; omega)
    have hpv6:H6.get p = .cells ({ t with next:=t.next+1 }:bX).cells none:=a3.cells (AH.get_put_self _ _ l3) n2
    have l6:=AH.lt_cells hpv6;simp only [AH.next_put] at a1;simp [k4];rw [a1];simp [a2.plain,hpv6];refine hQ { t with m:=v',next:=t.next+1 } _ ⟨rfl,rfl,rfl,rfl⟩ ?_
    have hO:dC (p :: eF t.m) H H6:=by
     refine ((x3.only (F:=p :: eF t.m)).put (.inl (by simp)) _).trans a3 fun b hb => .inl (by simp [hb])
    exact eN.updM hr hnd hO (by simpa using a2) (fun b hb=>(a4 b hb).imp id fun h=>by have:=x3.1; simp at h; omega) _
  ·simp only [hs,ne_eq,not_false_eq_true,if_true] at hQ
   simp [hs];exact hQ t _ ⟨rfl,rfl,rfl,rfl⟩ (same _ x3)
end Go.AM
end
section
namespace Go.AM
variable {E:Sy} {H0 Z H:AH} {L:List Res} {Q:Value->AH->Prop}
def aG.toI (p:aG):bZ:=⟨p.m,p.i.toNat⟩
def bL.toI (m:bL):dA:=⟨m.id,m.root.toNat,m.at_.toI,m.held⟩
theorem aDS (p q:aG):p.toI=q.toI↔p=q:=by
 simp only [aG.toI,bZ.ext_iff,aG.ext_iff];constructor
 ·rintro ⟨h1,h2⟩; exact ⟨h1,BitVec.eq_of_toNat_eq (by omega)⟩
 ·rintro ⟨h1,h2⟩; rw [h2]; exact ⟨h1,rfl⟩
theorem S.f55 (hE:bF E) (q:aG) (hQ:∀ H',Ext H H'->Q q.toI.v H'):E.call (E.fid i.f55) [q.v] H Q:=by
 apply hE.f55;simp [F.f55,AH.get_new,aG.cells];exact hQ _ (((Ext.refl H).new _).new _)
theorem aJy (T:List bL) (k:Int):kR (fun m:dA=>decide (m.id=k)) (T.map bL.toI)=uX T k:=by
 unfold uX kR;rw [List.findIdx?_map]; rfl
theorem aCL (p:aG) (m:bL):fC p.toI m.toI=cZ p m:=by
 simp only [fC,cZ,bL.toI,aDS]
 congr
structure pH (T:List bL) (nx k:Int):Prop where
 older:lQ T
 uniq:∀ a∈T,∀ b∈T,a.id≠0->b.id≠0->a.at_=b.at_->a.id=b.id
 nodup:(T.map bL.id).Nodup
 len:T.length<=16
 ids:∀ m∈T,0<=m.id/\m.id<nx
 nx0:1<=nx
 nx1:nx<=1+k
 held:∀ m∈T,0<=m.held/\m.held<=k
theorem pH.ok {T:List bL} {nx k:Int} (h:pH T nx k) (hk:k<=1000):aAA T nx :=
 ⟨h.older,h.len,by have:=h.nx0; omega,by have:=h.nx1; omega,fun m hm=>by have:=h.held m hm; omega⟩
theorem pH.mono {T:List bL} {nx k k':Int} (h:pH T nx k) (hk:k<=k'):pH T nx k' :=
 { h with nx1:=by have:=h.nx1; omega,held:=fun m hm=>by have:=h.held m hm; omega }
theorem aKx:pH gC 1 0:=⟨by unfold lQ; simp [gC],by simp [gC],by simp [gC],by simp [gC],by simp [gC],by omega,by omega,by simp [gC]⟩
theorem pH.inj {T:List bL} {nx k:Int} (h:pH T nx k) {i j:Nat} (hi:i<T.length) (hj:j<T.length) (e:T[i].id=T[j].id):i=j:=by
 have h1:i<(T.map bL.id).length:=by simpa using hi
 have h2:j<(T.map bL.id).length:=by simpa using hj
 have key:=List.pairwise_iff_getElem.1 h.nodup;rcases Nat.lt_trichotomy i j with g | g | g
 ·exact absurd (by simpa using e) (key i j h1 h2 g)
 ·exact g
 ·exact absurd (by simpa using e.symm) (key j i h2 h1 g)
theorem aFC {T:List bL} {nx k:Int} (h:pH T nx k) (p:aG):iP (fC p.toI) (T.map bL.toI)=kR (cZ p) T:=by
 have hs:∀ i (hi:i<T.length),fC p.toI ((T.map bL.toI)[i]'(by simpa using hi))=cZ p T[i]:=fun i hi=>by rw [List.getElem_map,aCL]
 rcases tU (fC p.toI) (T.map bL.toI) with ⟨h1,h2⟩ | ⟨i,hi,h1,h2⟩ <;> rcases lN (cZ p) T with ⟨g1,g2⟩ | ⟨j,hj,g1,_,g3,_⟩
 ·rw [h1,g2]
 ·have:=h2 _ (List.getElem_mem (by simpa using hj))
  rw [hs j hj,g3] at this;simp at this
 ·have hi':i<T.length:=by simpa using hi
  rw [hs i hi'] at h2;have:=List.find?_eq_none.1 g1 _ (List.getElem_mem hi');exact absurd h2 this
 ·have hi':i<T.length:=by simpa using hi
  rw [hs i hi'] at h2;simp only [cZ,Bool.and_eq_true,decide_eq_true_eq] at h2 g3;have:=h.inj hi' hj (h.uniq _ (List.getElem_mem hi') _ (List.getElem_mem hj) h2.1 g3.1 (h2.2.trans g3.2.symm));subst this;rw [h1,g1]
theorem aAe {T:List bL} {nx k:Int} (h:pH T nx k):∀ (n:Nat) (p:aG),mE (T.map bL.toI) n p.toI=(kJ T n p).toI
 | 0,p=>rfl
 | n+1,p=>by
  simp only [mE,kJ,aFC h];rcases lN (cZ p) T with ⟨g1,g2⟩ | ⟨j,hj,g1,g2,g3,_⟩
  ·simp [g2,g1]
  ·simp only [g1,g2,List.length_map]
   rw [dif_pos ⟨by omega,by simpa using hj⟩]
   have:=aAe h n ⟨T[j].id,T[j].root⟩;simp only [List.getElem_map];exact this
theorem aI4 {T:List bL} {nx k:Int} (h:pH T nx k) (p:aG):mE (T.map bL.toI) 20 p.toI=(seen T p).toI:=by
 rw [aAe h];have h1:=h.len;have h2:=aCu T p;have:=sK h.older p (20 - T.length) T.length h2;rw [show T.length+(20 - T.length)=20 by omega] at this
 rw [this]; rfl
theorem aCq {T:List bL} (h:lQ T):∀ (n:Nat) (p:aG),p.m<=(kJ T n p).m
 | 0,p=>by simp [kJ]
 | n+1,p=>by
  rw [kJ];cases hf:T.find? (cZ p) with
  | none=>simp
  | some m =>
   have h1:=List.find?_some hf;have h2:=List.mem_of_find?_eq_some hf;simp only [cZ,Bool.and_eq_true,decide_eq_true_eq] at h1;have h3:=h m h2 h1.1;have h4:=aCq h n ⟨m.id,m.root⟩;rw [h1.2] at h3;simp only at h4 ⊢;omega
theorem aHh {T:List bL} (h:lQ T) {p:aG} (e:seen T p=p):T.find? (cZ p)=none:=by
 cases hf:T.find? (cZ p) with
 | none=>rfl
 | some m =>
  have h1:=List.find?_some hf;have h2:=List.mem_of_find?_eq_some hf;simp only [cZ,Bool.and_eq_true,decide_eq_true_eq] at h1;have h3:=h m h2 h1.1;have h4:=aCq h T.length ⟨m.id,m.root⟩;have h5:=aAf h hf;rw [e] at h5;unfold seen at h5;rw [<- h5] at h4;rw [h1.2] at h3;simp only at h4;omega
theorem aFB {T:List bL} {nx k:Int} (h:pH T nx k) (r:BitVec 16) (p:aG):(mN (T.map bL.toI) nx r.toNat p.toI).M=(eQ T nx r p).T.map bL.toI/\(mN (T.map bL.toI) nx r.toNat p.toI).nx=(eQ T nx r p).nx /\
  (mN (T.map bL.toI) nx r.toNat p.toI).n=(eQ T nx r p).n/\(mN (T.map bL.toI) nx r.toNat p.toI).e=(eQ T nx r p).e:=by
 unfold mN eQ;have h0:p.toI.mount=p.m:=rfl;rw [h0,aJy,aI4 h,List.length_map];simp only [ne_eq,aDS]
 split
 ·simp
 ·split
  ·simp
  ·split
   ·simp
   ·simp [bL.toI]
theorem pH.bind {T:List bL} {nx k:Int} (h:pH T nx k) (r:BitVec 16) (p:aG):pH (eQ T nx r p).T (eQ T nx r p).nx (k+1):=by
 have hk:pH T nx (k+1):=h.mono (by omega)
 unfold eQ
 split
 ·exact hk
 ·rename_i hf
  split
  ·exact hk
  ·rename_i hs
   split
   ·exact hk
   ·rename_i hl
    have hs:seen T p=p:=Classical.not_not.1 hs;have hno:=aHh h.older hs
    have hpm:p.m<nx:=by
     rcases lN (fun m:bL=>decide (m.id=p.m)) T with ⟨h1,h2⟩ | ⟨j,hj,h1,h2,h3,_⟩
     ·have h2:uX T p.m = -1:=h2
      omega
     ·have:=(h.ids _ (List.getElem_mem hj)).2
      simp only [decide_eq_true_eq] at h3;omega
    have hnx:=h.nx0;refine ⟨fun m hm h0 =>?_,fun a ha b hb a0 b0 e =>?_,?_,by simp; omega,fun m hm =>?_,by simp only; omega,by have:=h.nx1; simp only; omega,fun m hm =>?_⟩
    ·rcases List.mem_append.1 hm with hm | hm
     ·exact h.older m hm h0
     ·simp only [List.mem_singleton] at hm; subst hm; exact hpm
    ·rcases List.mem_append.1 ha with ha | ha <;> rcases List.mem_append.1 hb with hb | hb
     ·exact h.uniq a ha b hb a0 b0 e
     ·simp only [List.mem_singleton] at hb; subst hb
      exact absurd (by simp only [cZ,Bool.and_eq_true,decide_eq_true_eq]; exact ⟨a0,e⟩) (List.find?_eq_none.1 hno a ha)
     ·simp only [List.mem_singleton] at ha; subst ha
      exact absurd (by simp only [cZ,Bool.and_eq_true,decide_eq_true_eq]; exact ⟨b0,e.symm⟩) (List.find?_eq_none.1 hno b hb)
     ·simp only [List.mem_singleton] at ha hb; subst ha hb; rfl
    ·rw [List.map_append,List.nodup_append]
     refine ⟨h.nodup,by simp,fun a ha b hb =>?_⟩
     obtain ⟨m,hm,rfl⟩:=List.mem_map.1 ha;simp at hb; subst hb;have:=(h.ids m hm).2;omega
    ·rcases List.mem_append.1 hm with hm | hm
     ·have:=h.ids m hm; simp only; omega
     ·simp only [List.mem_singleton] at hm; subst hm; simp only; omega
    ·rcases List.mem_append.1 hm with hm | hm
     ·have:=h.held m hm; omega
     ·simp only [List.mem_singleton] at hm; subst hm; simp only; have:=h.nx1; omega
end Go.AM
end
section
namespace Go.AM
theorem Upd.congr {r r' s s':Res} {H H':AH} (h:Upd r r' H H') (f:r.fp=s.fp) (f':r'.fp=s'.fp) (p':∀ H,r'.P H->s'.P H):Upd s s' H H':=by
 obtain ⟨a,b,c,d⟩:=h;exact ⟨f▸a,p' _ b,by rw [<- f,<- f']; exact c,f'▸d⟩
def pU (T:Tr) (Y:List RLy):List bW:=(T.N.zip Y).map fun p=>fM p.1 p.2
theorem vH (T:Tr) (Y:List RLy):(pU T Y).map bW.cells=bY T Y:=by simp [pU,bY]
def wZ (M:List bL):List (List Value):=(M.map bL.toI).map dA.cells
section
variable {E:Sy} {H H':AH} {Q:Value->AH->Prop} {t:Nat} {nv mv mv':Value} {nx nx':Int} {Y:List RLy} {T:Tr} {M M':List dA}
def aB5 (Y:List RLy) (T:Tr):List Res:=(T.N.zip Y).map fun p=>cH p.1 p.2
theorem vZ:(fO t nv mv nx (M.map dA.cells) Y T).fp=(cV (eN t ⟨nv,T.limit,mv,nx,T.change⟩ (pU T Y) M :: aB5 Y T)).fp:=by
 simp [fO,dM,cV,eN,aB5,bN,bT]
theorem wM (H:AH):(fO t nv mv nx (M.map dA.cells) Y T).P H↔(cV (eN t ⟨nv,T.limit,mv,nx,T.change⟩ (pU T Y) M :: aB5 Y T)).P H:=by
 simp only [fO,dM,cV,aB5,List.mem_cons,forall_eq_or_imp];constructor
 ·rintro ⟨a,b,c,d⟩
  exact ⟨⟨a,by rw [vH]; exact b,c⟩,d⟩
 ·rintro ⟨⟨a,b,c⟩,d⟩
  exact ⟨a,by rw [vH] at b; exact b,c,d⟩
theorem aCk (h:Ow (fO t nv mv nx (M.map dA.cells) Y T) H):Ow (cV (eN t ⟨nv,T.limit,mv,nx,T.change⟩ (pU T Y) M :: aB5 Y T)) H :=
 ⟨(wM H).1 h.holds,by rw [<- vZ]; exact h.lt,by rw [<- vZ]; exact h.nd⟩
theorem aFx (h:Ow (fO t nv mv nx (M.map dA.cells) Y T) H) (u:Upd (eN t ⟨nv,T.limit,mv,nx,T.change⟩ (pU T Y) M) (eN t ⟨nv,T.limit,mv',nx',T.change⟩ (pU T Y) M') H H') :
  Upd (fO t nv mv nx (M.map dA.cells) Y T) (fO t nv mv' nx' (M'.map dA.cells) Y T) H H' :=
 ((aCk h).set (k:=0) rfl u).congr vZ.symm vZ.symm fun H h=>(wM H).2 h
theorem S.pinfoldref16_Tree_BindT (hE:bF E) (h:Ow (fO t nv mv nx (M.map dA.cells) Y T) H) (hn:M.length<2 ^ 20) (hx:0<=nx/\nx<2 ^ 61) (root:Int) (q:bZ)
  (hQ:∀ mv' H',Upd (fO t nv mv nx (M.map dA.cells) Y T) (fO t nv mv' (mN M nx root q).nx ((mN M nx root q).M.map dA.cells) Y T) H H'->Q (.tuple #[vi (mN M nx root q).n,vi (mN M nx root q).e]) H') :
  E.call (E.fid i.f69) [ptr t 0,vi root,q.v] H Q:=by
 have o:=(aCk h).part (k:=0) rfl;refine S.f69 hE t ⟨nv,T.limit,mv,nx,T.change⟩ (pU T Y) M o.holds o.nd hn hx root q fun t' H' ht u =>?_;obtain ⟨a,b,c,d⟩:=ht;obtain ⟨n',l',m',x',c'⟩:=t';simp only at a b c d;subst a b c d;exact hQ m' H' (aFx h u)
end
end Go.AM
end
section
namespace Go.AM
theorem Tr.Did.limit {up:Bool} {T T':Tr} (h:T.Did up T'):T'.limit=T.limit:=by
 have htd:∀ (U:Tr) (n:BitVec 16),(U.tidy n).limit=U.limit:=fun U n=>by unfold Tr.tidy; split <;> rfl
 have hdr:∀ (U:Tr) (n:BitVec 16) (s:aL) (d:Bool),(U.drop n s d).1.limit=U.limit:=fun U n s d=>by
  unfold Tr.drop
  repeat' split
  all_goals try rfl
  rw [htd]; rfl
 have hmv:∀ (U:Tr) (fr to n:BitVec 16) (s o:aL),(Tr.moved U fr s to o n).limit=U.limit:=fun U fr to n s o=>by
  unfold Tr.moved;simp only
  split <;> rfl
 cases h
 ·unfold Tr.make
  repeat' split
  all_goals rfl
 ·unfold Tr.add
  repeat' split
  all_goals rfl
 ·exact hdr _ _ _ _
 ·unfold Tr.move
  split
  ·rfl
  split
  ·rfl
  split
  ·rfl
  split
  ·rfl
  split
  ·rfl
  rw [hmv]
  split
  ·exact hdr _ _ _ _
  ·rfl
 ·unfold Tr.hold
  repeat' split
  all_goals try rfl
  exact htd _ _
 ·unfold Tr.write
  repeat' split
  all_goals rfl
 ·unfold Tr.cut
  repeat' split
  all_goals rfl
 ·rfl
def aKC:bL:=⟨0,⟨0,0#16⟩,1#16,0⟩
structure GI (k:Int) (T:Tr) (M:List bL) (nx l:Int):Prop where
 k0:0<=k
 k1:k<=900
 wf:T.WF
 kd:T.KD
 ord:T.Order
 lim:T.limit<=l
 hb:T.HB (2*k)
 c0:0<=T.change
 c1:T.change<=2*k
 pin:pH M nx k
 top:oA M 0=some aKC
 mnt:∀ m∈M,(T.node m.root).kind=2#8/\(m.id=0->m=aKC)/\(m.id≠0->1<=(T.node m.root).held/\(T.node m.at_.i).kind=2#8/\1<=(T.node m.at_.i).held/\0<=m.at_.m/\m.at_.m<=2)
section
variable {T T':Tr} {M:List bL} {nx k l:Int}
theorem GI.atOk (g:GI k T M nx l):aEo T M:=fun m hm h0=>by rw [((g.mnt m hm).2.2 h0).2.1]; decide
theorem GI.mono (g:GI k T M nx l) {k':Int} (h:k<=k') (h1:k'<=900):GI k' T M nx l :=
 { g with k0:=by have:=g.k0; omega,k1:=h1,hb:=g.hb.mono (by omega),c1:=by have:=g.c1; omega,pin:=g.pin.mono h }
theorem GI.co (g:GI k T M nx l):T.CO:=⟨by have:=g.c0; omega,by have:=g.c1; have:=g.k1; omega⟩
theorem GI.stay (g:GI k T M nx l) (s:T.Stay T') (wf:T'.WF) (kd:T'.KD) (ord:T'.Order) (lim:T'.limit<=l) {k':Int} (hk:k<=k') (h1:k'<=900) (hb:T'.HB (2*k')) (c0:0<=T'.change) (c1:T'.change<=2*k'):GI k' T' M nx l where
 k0:=by have:=g.k0; omega
 k1:=h1
 wf:=wf
 kd:=kd
 ord:=ord
 lim:=lim
 hb:=hb
 c0:=c0
 c1:=c1
 pin:=g.pin.mono hk
 top:=g.top
 mnt:=fun m hm=>by
  obtain ⟨a,b,c⟩:=g.mnt m hm;refine ⟨?_,b,fun h0 =>?_⟩
  ·by_cases h0:m.id=0
   ·rw [b h0]; exact wf.root.1
   ·obtain ⟨c1,_⟩:=c h0
    rw [(s m.root (by rw [a]; decide) c1).1]; exact a
  ·obtain ⟨c1,c2,c3,c4⟩:=c h0
   have h1:=s m.root (by rw [a]; decide) c1
   have h2:=s m.at_.i (by rw [c2]; decide) c3
   exact ⟨by omega,by rw [h2.1]; exact c2,by omega,c4⟩
theorem GI.did (g:GI k T M nx l) (d:T.Did true T') (wf:T'.WF) (cb:T.CB T') (hb:T'.HB (2*k+1)) (h1:k+1<=900):GI (k+1) T' M nx l:=by
 have hc0:=g.c0;have hc1:=g.c1;exact g.stay (d.stay g.wf) wf (d.kd g.kd) (d.order g.wf g.ord) (by rw [d.limit]; exact g.lim) (by omega) h1 (hb.mono (by omega)) (by have:=cb.1; omega) (by have:=cb.2; omega)
theorem aBx {l:List bL} {x:bL} {id:Int} {m:bL} (h:oA l id=some m):oA (l++[x]) id=some m:=by
 unfold oA at h ⊢;rw [List.find?_append,h]; rfl
theorem GI.new (limit l:Int) (hl:1<=l/\limit<=l):GI 0 (Tr.new limit) gC 1 l where
 k0:=Int.le_refl _
 k1:=by decide
 wf:=Tr.new_wf limit
 kd:=Tr.KD.new limit
 ord:=Tr.Order.new limit
 lim:=by show min (max limit 1) 256<=l; omega
 hb:=Tr.HB.new limit
 c0:=Int.le_refl _
 c1:=Int.le_refl _
 pin:=aKx
 top:=rfl
 mnt:=fun m hm=>by
  simp [gC] at hm;subst hm;exact ⟨(Tr.new_wf limit).root.1,fun _=>rfl,fun h=>(h rfl).elim⟩
theorem GI.bind (g:GI k T M nx l) (h1:k+1<=900) (root:BitVec 16) (p:aG) (hp:0<=p.m/\p.m<=2) (hr:(T.node root).kind=2#8) (ha:(T.node p.i).kind=2#8) (ok:(eQ M nx root p).e=0) :
  GI (k+1) ((T.hold root true).1.hold p.i true).1 (eQ M nx root p).T (eQ M nx root p).nx l:=by
 have s1:T.Stay (T.hold root true).1 := .hold root;have s2:(T.hold root true).1.Stay ((T.hold root true).1.hold p.i true).1 := .hold p.i;have w1:=g.wf.hold root true;have w2:=w1.hold p.i true;have hk0:=g.k0;have hc0:=g.c0;have hc1:=g.c1;have b1:=g.hb.hold (by omega) root true
 have b2:=b1.hold (by omega) p.i true
 have e1:(T.hold root true).1=T.upd root (Nd.addH 1):=by
  unfold Tr.hold;rw [if_neg (by rw [hr]; decide),if_pos rfl]
 have n1:∀ m,(T.hold root true).1.node m=if m=root then Nd.addH 1 (T.node root) else T.node m:=fun m=>by
  rw [e1,Tr.node_upd (by rw [hr]; decide)]
 have ha1:((T.hold root true).1.node p.i).kind=2#8:=by
  rw [n1]; split
  ·exact hr
  ·exact ha
 have e2:((T.hold root true).1.hold p.i true).1=(T.hold root true).1.upd p.i (Nd.addH 1):=by
  show (Tr.hold _ _ _).1=_
  rw [Tr.hold,if_neg (by rw [ha1]; decide),if_pos rfl]
 have n2:∀ m,((T.hold root true).1.hold p.i true).1.node m=if m=p.i then Nd.addH 1 ((T.hold root true).1.node p.i) else (T.hold root true).1.node m:=fun m=>by
  rw [e2,Tr.node_upd (by rw [ha1]; decide)]
 have q1:=g.wf.held root;have q2:=g.wf.held p.i
 have hr2:(((T.hold root true).1.hold p.i true).1.node root).kind=2#8/\1<=(((T.hold root true).1.hold p.i true).1.node root).held:=by
  rw [n2]
  split
  ·rename_i e
   refine ⟨ha1,?_⟩
   show 1<=((T.hold root true).1.node p.i).held+1
   have:=w1.held p.i;omega
  ·rw [n1,if_pos rfl]
   refine ⟨hr,?_⟩
   show 1<=(T.node root).held+1
   omega
 have ha2:(((T.hold root true).1.hold p.i true).1.node p.i).kind=2#8/\1<=(((T.hold root true).1.hold p.i true).1.node p.i).held:=by
  rw [n2,if_pos rfl];refine ⟨ha1,?_⟩
  show 1<=((T.hold root true).1.node p.i).held+1
  have:=w1.held p.i;omega
 have c1:(T.hold root true).1.change=T.change:=by rw [e1]; rfl
 have c2:((T.hold root true).1.hold p.i true).1.change=T.change:=by rw [e2]; exact c1
 have l1:(T.hold root true).1.limit=T.limit:=by rw [e1]; rfl
 have l2:((T.hold root true).1.hold p.i true).1.limit=T.limit:=by rw [e2]; exact l1
 have kd:=(g.kd.hold gP root true).hold gP p.i true;have o2:=(g.ord.step (.hold root true)).step (.hold p.i true);have pin:=g.pin.bind root p;have base:=g.stay (s1.trans s2) w2 kd o2 (by rw [l2]; exact g.lim) (k':=k+1) (by omega) h1 (b2.mono (by omega)) (by rw [c2]; exact hc0) (by rw [c2]; omega)
 have hT:(eQ M nx root p).T=M++[⟨nx,p,root,0⟩]:=by
  unfold eQ at ok ⊢
  split at ok
  ·simp at ok
  ·rename_i h
   rw [if_neg h]
   split at ok
   ·simp at ok
   ·rename_i h
    rw [if_neg h]
    split at ok
    ·simp at ok
    ·rename_i h
     rw [if_neg h]
 refine { base with pin:=pin,top :=?_,mnt:=fun m hm =>?_ }
 ·rw [hT]; exact aBx g.top
 ·rw [hT] at hm
  rcases List.mem_append.1 hm with hm | hm
  ·exact base.mnt m hm
  ·simp only [List.mem_singleton] at hm
   subst hm;have:=g.pin.nx0;exact ⟨hr2.1,fun h=>by simp only at h; omega,fun _=>⟨hr2.2,ha2.1,ha2.2,hp⟩⟩
end
end Go.AM
end
section
namespace Go.AM
set_option maxRecDepth 20000
structure eL where
 kind:BitVec 8
 act:gL
 root:BitVec 8
 seen:BitVec 8
 link:BitVec 8
def eL.cells (x:eL):List Value:=u8 x.kind :: (x.act.cells++[u8 x.root,u8 x.seen,u8 x.link])
abbrev aCS:Sh := .struct [.int .u8,aIM,.int .u8,.int .u8,.int .u8]
theorem SV.gact {H:AH} {cs:List Value} (h:SV H aCS cs):∃ x:eL,cs=x.cells/\x.act.ok H:=by
 obtain ⟨c0,e0,rfl,h0,c1,e1,rfl,h1,c2,e2,rfl,h2,c3,e3,rfl,h3,c4,e4,rfl,h4,rfl⟩:=h;obtain ⟨x0,rfl⟩:=h0.u8;obtain ⟨x1,rfl,ok⟩:=SV.act h1;obtain ⟨x2,rfl⟩:=h2.u8;obtain ⟨x3,rfl⟩:=h3.u8;obtain ⟨x4,rfl⟩:=h4.u8;exact ⟨⟨x0,x1,x2,x3,x4⟩,by simp [eL.cells],ok⟩
theorem mD.gacts {H:AH} {v:Value} (h:mD H (.slice 14 aCS) v):∃ l:List eL,Rows H 14 v (l.map eL.cells)/\l.length<=9223372036854775807/\∀ x∈l,x.act.ok H:=mD.rowsOf (fun _ h=>SV.gact h) h
theorem nG:([(.int .u8 0),(.int .u8 0),(.int .u8 0),(.int .u8 0),(.int .u8 0),(.int .u8 0),(.string ⟨#[]⟩),(.int .i64 0),(.slice none 0 0),(.bool false),(.bool false),(.int .u8 0),(.int .u8 0),(.int .u8 0)]:List Value)=(eL.mk 0#8 (gL.mk 0#8 0#8 0#8 0#8 0#8 [] 0 aW [] false false) 0#8 0#8 0#8).cells:=rfl
theorem eL.len (x:eL):x.cells.length=14:=rfl
theorem eL.all_plain (x:eL) (h:plain1 x.act.bytes=true):x.cells.all plain1=true:=by
 have:=x.act.all_plain h;simp only [eL.cells,List.all_cons,List.all_append,this,List.all_nil,Bool.and_true,Bool.true_and]; rfl
theorem yQ {H:AH} {x:eL} (hp:plain1 x.act.bytes=true) (z:eL):storeN 14 (ptr H.next 0) (.agg x.cells.toArray) (H.new (.cells z.cells none))=some (H.new (.cells x.cells none)):=by
 rw [cJ,AH.get_new_self];have hs:AM.splice z.cells 0 x.cells=x.cells:=rfl;simp only [List.size_toArray,List.toList_toArray,eL.len,eL.all_plain x hp,Nat.zero_add,Nat.le_refl,and_self,if_true,hs,AH.new_put]
section
variable {X:List Res} {E:Sy} {H0 H H' H'':AH} {Q:Value->AH->Prop} {w t:Nat} {T T':Tr} {M M':List bL} {nx nx' k l:Int}
def mT (l:List eL):Bool:=l.all fun x=>decide (x.act.any.length<=200)&&decide (x.act.bl.length<=200)
theorem S.f56 (hE:bF E) (v:Value) (l:List eL) (hv:Rows H 14 v (l.map eL.cells)) (hll:l.length<=9223372036854775807) (hok:∀ x∈l,x.act.ok H)
  (hQ:∀ H',Ext H H'->Q (vb (mT l)) H'):E.call (E.fid i.f56) [v] H Q:=by
 apply hE.f56;have hl:=hv.lenSlc;rw [List.length_map] at hl;simp only [F.f56,hl,aJ,aD];refine aP.count l.length (fun j ls H'=>ls=[v,vi l.length,vi j]/\Ext H H'/\mT (l.take j)=true) ?_ ⟨rfl,Ext.refl H,rfl⟩;rintro j _ H1 X hj hX ⟨rfl,e1,hn⟩
 by_cases hjl:j<l.length
 ·have hjl':(j:Int)<l.length:=by omega
  have hX:=hX hjl;have hjj:=cG (i:=j) (by omega)
  obtain ⟨b,o,p1,p2⟩:=(hv.mono e1).ix (i:=j) (by simpa using hjl)
  rw [List.getElem_map] at p2;have hmem:=List.getElem_mem hjl;have hx:=(hok l[j] hmem).mono e1;have htk:l.take (j+1)=l.take j++[l[j]]:=by rw [List.take_succ,List.getElem?_eq_getElem hjl]; rfl
  have hno:¬ (l[j].act.any.length<=200/\l[j].act.bl.length<=200)->mT l=false:=by
   intro h;unfold mT;rw [List.all_eq_false];refine ⟨l[j],hmem,?_⟩
   simpa using h
  have hyes:l[j].act.any.length<=200->l[j].act.bl.length<=200->mT (l.take (j+1))=true:=by
   intro h1 h2;unfold mT at hn ⊢;rw [htk,List.all_append,hn];simp [h1,h2]
  generalize l[j]=x at *;generalize hj1:j+1=j1 at *;have hlo:aU 14 (ptr b o) H1=some (.agg x.cells.toArray):=by rw [bP,p2]; rfl
  have hst:=yQ (H:=H1) (nQ hx.bytes) (eL.mk 0#8 (gL.mk 0#8 0#8 0#8 0#8 0#8 [] 0 aW [] false false) 0#8 0#8 0#8);have hx2:Ext H1 (H1.new (.cells x.cells none)):=(Ext.refl H1).new _;have hb2:=AH.get_new_self H1 (.cells x.cells none);have c6:x.cells[6]? = some (str x.act.any):=rfl;have c8:x.cells[8]? = some x.act.bytes:=rfl;have hbl:=hx.bytes.lenSlc;rw [bV] at hbl
  by_cases a1:200<x.act.any.length
  ·have a1':(200:Int)<x.act.any.length:=by omega
   have hQ:=hQ _ (e1.trans hx2);rw [hno (by omega)] at hQ
   simp only [F.f56_l1,aV,hjl',decide_true,p1,hlo,cW,nG,hst,hb2,c6,fK,cL,gt_iff_lt,a1',bA];exact hQ
  have a1':¬ (200:Int)<x.act.any.length:=by omega
  by_cases a2:200<x.act.bl.length
  ·have a2':(200:Int)<x.act.bl.length:=by omega
   have hQ:=hQ _ (e1.trans hx2);rw [hno (by omega)] at hQ
   simp only [F.f56_l1,aV,hjl',decide_true,p1,hlo,cW,nG,hst,hb2,c6,c8,fK,cL,gt_iff_lt,a1',a2',decide_false,hbl,bA];exact hQ
  have a2':¬ (200:Int)<x.act.bl.length:=by omega
  simp only [F.f56_l1,aV,hjl',decide_true,p1,hlo,cW,nG,hst,hb2,c6,c8,fK,cL,gt_iff_lt,a1',a2',decide_false,hbl,hjj,bA];exact hX _ _ ⟨rfl,e1.trans hx2,hyes (by omega) (by omega)⟩
 ·have hjl':¬ (j:Int)<l.length:=by omega
  have:j=l.length:=by omega
  subst this;rw [List.take_length] at hn;have hQ:=hQ _ e1;rw [hn] at hQ;simp only [F.f56_l1,aV,hjl',decide_false,bA];exact hQ
def jY:List aL:=[[97],[47,97],[46,46,47,98],[98,47,99],[47],[46],[46,46],[47,98,47,46,46,47,97],[102],[97,47],[110,111,116,104,105,110,103],[47,97,47,98,47,99]]
theorem S.f58 (hE:bF E) (hQ:∀ v H',Ext H H'->Rows H' 1 v (eK jY)->Q v H'):E.call (E.fid i.f58) [] H Q:=by
 apply hE.f58
 have hb:=eT 12 1 [str []] [(0,str [97]),(1,str [47,97]),(2,str [46,46,47,98]),(3,str [98,47,99]),(4,str [47]),(5,str [46]),(6,str [46,46]),(7,str [47,98,47,46,46,47,97]),(8,str [102]),(9,str [97,47]),(10,str [110,111,116,104,105,110,103]),(11,str [47,97,47,98,47,99])] (jY.map str) rfl rfl rfl rfl (by
   intro v hv;obtain ⟨s,_,rfl⟩:=List.mem_map.1 hv
   rfl)
 have hb:buildS 12 1 #[(.string ⟨#[]⟩)] [(0,(.string ⟨#[97]⟩)),(1,(.string ⟨#[47,97]⟩)),(2,(.string ⟨#[46,46,47,98]⟩)),(3,(.string ⟨#[98,47,99]⟩)),(4,(.string ⟨#[47]⟩)),(5,(.string ⟨#[46]⟩)),(6,(.string ⟨#[46,46]⟩)),(7,(.string ⟨#[47,98,47,46,46,47,97]⟩)),(8,(.string ⟨#[102]⟩)),(9,(.string ⟨#[97,47]⟩)),(10,(.string ⟨#[110,111,116,104,105,110,103]⟩)),(11,(.string ⟨#[47,97,47,98,47,99]⟩))]=some (.cells (jY.map str) none,dL 12 12):=by
  simpa [jY] using hb
 simp only [F.f58,hb,AM.cY,dV,aJ];refine hQ _ _ ((Ext.refl H).new _) (Rows.made (f:=none) (by rw [AH.get_new_self]; rfl) (.inl rfl) rfl ?_)
 intro r hr;obtain ⟨s,_,rfl⟩:=List.mem_map.1 hr
 rfl
def GwO (X:List Res) (H0 H:AH) (w t:Nat) (T:Tr) (M:List bL) (nx:Int):Prop:=∃ nv mv Y,WkO (fO t nv mv nx (wZ M) Y T :: X) H0 H w T M nx/\Y.length=T.N.length/\T.N.length<=60000
theorem GwO.ext (h:GwO X H0 H w t T M nx):Ext H0 H:=by obtain ⟨_,_,_,h,_⟩:=h; exact h.ext
theorem GwO.mono (h:GwO X H0 H w t T M nx) (e:Ext H H'):GwO X H0 H' w t T M nx:=by obtain ⟨nv,mv,Y,h,a,b⟩:=h; exact ⟨nv,mv,Y,h.mono e,a,b⟩
theorem GwO.at_ (h:GwO X H0 H w t T M nx):oX H w T M:=by obtain ⟨nv,mv,Y,h,a,b⟩:=h; exact h.at_
theorem GwO.box (h:GwO X H0 H w t T M nx) (c:List Value):GwO (X++[bN H.next c]) H0 (H.new (.cells c none)) w t T M nx:=by obtain ⟨nv,mv,Y,h,a,b⟩:=h; exact ⟨nv,mv,Y,h.box c,a,b⟩
theorem GwO.drop {r:Res} (h:GwO (X++[r]) H0 H w t T M nx):GwO X H0 H w t T M nx:=by obtain ⟨nv,mv,Y,h,a,b⟩:=h; exact ⟨nv,mv,Y,WkO.drop (X:=fO t nv mv nx (wZ M) Y T :: X) h,a,b⟩
theorem GwO.held {b:Nat} {c:List Value} (h:GwO (X++[bN b c]) H0 H w t T M nx):H.get b = .cells c none:=by obtain ⟨nv,mv,Y,h,_⟩:=h; exact WkO.held (X:=fO t nv mv nx (wZ M) Y T :: X) h
theorem GwO.put {b:Nat} {c:List Value} (h:GwO (X++[bN b c]) H0 H w t T M nx) (c':List Value):GwO (X++[bN b c']) H0 (H.put b (.cells c' none)) w t T M nx:=by obtain ⟨nv,mv,Y,h,a,b⟩:=h; exact ⟨nv,mv,Y,WkO.put (X:=fO t nv mv nx (wZ M) Y T :: X) h c',a,b⟩
theorem aDR (hE:bF E) {c:Nat} {x:gL} (h:GwO (X++[bN c x.cells]) H0 H w t T M nx) (g:GI k T M nx l) (hk:k+1<=900) (hx:x.ok H0) (hl:x.any.length<=200/\x.bl.length<=200) (hraw:x.raw=false) (hup:x.kind % 15#8=11#8->x.flag=true)
  {av nv:Value} {j:Nat} (hj:j<2 ^ 62) {X0:List Value->AH->Prop} (next:∀ T' H',GwO X H0 H' w t T' M nx->GI (k+1) T' M nx l->X0 [ptr w 0,ptr t 0,av,nv,vi ((j+1:Nat):Int)] H') :
  F.f57_j2 E Q X0 (ptr w 0) (ptr t 0) (ptr c 0) av nv (vi j) H:=by
 have hb:=h.held;have hlo:aU 10 (ptr c 0) H=some (.agg x.cells.toArray):=by rw [bP,hb,kX _ _ 10 rfl]; rfl
 obtain ⟨rv,mv,Y,h,hyl,hyf⟩:=h;obtain ⟨p,q,hw,_⟩:=h.open_;obtain ⟨p',q',v,m,L,h2,back⟩:=h.two hyl hyf;have hw2:=h2.ow.holds (bN w [ptr p' 0,ptr q' 0]) (by simp)
 have hw2:H.get w = .cells [ptr p' 0,ptr q' 0] none:=hw2;have hjj:=cG (i:=j) (by omega)
 have hk0:=g.k0;have hc0:=g.c0;have hc1:=g.c1;generalize hj1:j+1=j1 at *;simp only [F.f57_j2,hw2,hlo,bA];refine S.f53 hE h2 g.wf g.hb ⟨by omega,by omega⟩ ⟨by omega,by omega⟩ hx hl hraw hup fun L' nv' Y' T' H' ha hd =>?_
 simp only [hjj,bA];have ho:=back _ _ _ _ _ _ ha.two;have hg:GwO (X++[bN c x.cells]) H0 H' w t T' M nx:=⟨nv',mv,Y',ho,ha.two.len,ha.two.fit⟩;exact next T' H' hg.drop (g.did hd ha.wf ha.cb ha.hb hk)
end
end Go.AM
end
section
namespace Go.AM
set_option maxRecDepth 20000
section
variable {X:List Res} {E:Sy} {H0 H H' H'':AH} {Q:Value->AH->Prop} {w t:Nat} {T T':Tr} {M M':List bL} {nx nx' k l:Int}
theorem aE1 {root:BitVec 16} {p:aG} (h:(eQ M nx root p).e≠0):(eQ M nx root p).T=M/\(eQ M nx root p).nx=nx:=by
 unfold eQ at h ⊢
 split
 ·exact ⟨rfl,rfl⟩
 ·rename_i h1
  rw [if_neg h1] at h
  split
  ·exact ⟨rfl,rfl⟩
  ·rename_i h2
   rw [if_neg h2] at h
   split
   ·exact ⟨rfl,rfl⟩
   ·rename_i h3
    rw [if_neg h3] at h;exact (h rfl).elim
theorem aDD (hE:bF E) {a c:Nat} {z:eL} {x:gL} (h:GwO ((X++[bN a z.cells])++[bN c x.cells]) H0 H w t T M nx) (g:GI k T M nx l) (hk:k+1<=900) (hx:x.ok H0) (hl:x.any.length<=200/\x.bl.length<=200) (hraw:x.raw=false) (hup:x.kind % 15#8=11#8->x.flag=true)
  {av nv:Value} {j:Nat} (hj:j<2 ^ 62) {X0:List Value->AH->Prop} (next:∀ T' H',GwO X H0 H' w t T' M nx->GI (k+1) T' M nx l->X0 [ptr w 0,ptr t 0,av,nv,vi ((j+1:Nat):Int)] H') :
  F.f57_j1 E Q X0 (ptr w 0) (ptr t 0) (ptr a 0) (ptr c 0) av nv (vi j) H:=by
 have hb:=h.held;have ha:=h.drop.held;have c0:x.cells[0]? = some (u8 x.kind):=rfl;have z13:z.cells[13]? = some (u8 z.link):=rfl;have r1:aA .rem (u8 x.kind) (.int .u8 15)=some (u8 (x.kind % 15#8)):=nM _ 15#8 (by decide)
 have e1:aA .eql (u8 (x.kind % 15#8)) (.int .u8 3)=some (vb (decide (x.kind % 15#8=3#8))):=sB _ 3#8;simp only [F.f57_j1,hb,c0,r1,e1,bA]
 by_cases h3:x.kind % 15#8=3#8
 ·simp only [h3,decide_true,ha,z13,lH,bA]
  refine S.f58 hE fun v1 H1 x1 s1 =>?_;refine ⟨by rw [aE,aE,x1.cells ha,ha],?_⟩
  refine S.f58 hE fun v2 H2 x2 s2 =>?_;refine ⟨by rw [aE,aE,x2.cells (x1.cells ha),ha],?_⟩
  have l2:AM.lenSlc v2=some (vi ((12:Nat):Int)):=s2.lenSlc;have hlen:(eK jY).length=12:=rfl;have hlt:z.link.toNat % 12<(eK jY).length:=by rw [hlen]; exact Nat.mod_lt _ (by omega)
  obtain ⟨b,o,p1,p2⟩:=(s1.mono x2).ix hlt;obtain ⟨s,hs,he⟩:=List.mem_map.1 (List.getElem_mem hlt);rw [<- he] at p2
  have p3:(H2.get b).cell o=some (str s):=by
   have:=dO p2 (j:=0) (by omega)
   simpa using this
  have hsl:s.length<=120:=by
   have:∀ s∈jY,s.length<=120:=by decide
   exact this s hs
  have h2:=(h.mono x1).mono x2
  have hst:aR (ptr c 5) (str s) H2=some (H2.put c (.cells ({ x with any:=s }:gL).cells none)):=by
   rw [aM,if_pos (show plain1 (str s)=true from rfl),h2.held];have q1:x.cells.length=10:=rfl;have q2:x.cells.set 5 (str s)=({ x with any:=s }:gL).cells:=rfl
   simp only [q1,q2,show (5<10)=True from by simp,if_true]
  simp only [l2,fT z.link.toNat 12 (by omega),p1,p3,hst,bA]
  exact aDR hE (h2.put ({ x with any:=s }:gL).cells) g hk ⟨by show s.length<=_; omega,hx.n,hx.bytes,hx.bl⟩ ⟨by show s.length<=200; omega,hl.2⟩ hraw hup hj fun T' H' h' g'=>next T' H' h'.drop g'
 ·simp only [h3,decide_false,bA]
  exact aDR hE h g hk hx hl hraw hup hj fun T' H' h' g'=>next T' H' h'.drop g'
theorem aIr (hE:bF E) {a b:BitVec 16} {c:Nat} (h:GwO (X++[bN c [vi a.toNat,vi b.toNat]]) H0 H w t T M nx) (wf:T.WF) {B:Int} (hb:T.HB B) (hB:0<=B/\B<1000000)
  {av nv:Value} {j:Nat} (hj:j<2 ^ 62) {X0:List Value->AH->Prop} (next:∀ H',GwO X H0 H' w t ((T.hold a true).1.hold b true).1 M nx->X0 [ptr w 0,ptr t 0,av,nv,vi ((j+1:Nat):Int)] H') :
  aP (fun l H X1=>F.f57_l2 E Q X0 (nth l 0) (nth l 1) (nth l 2) (nth l 3) (nth l 4) (nth l 5) (nth l 6) (nth l 7) H X1) [ptr w 0,ptr t 0,av,nv,vi j,slc c 0 2 2,vi 2,(.int .i64 0)] H:=by
 have hjj:=cG (i:=j) (by omega)
 generalize hj1:j+1=j1 at *
 have one:∀ {T:Tr} {H:AH} {B:Int} (n:BitVec 16) (Q1:Value->AH->Prop),GwO (X++[bN c [vi a.toNat,vi b.toNat]]) H0 H w t T M nx->T.WF->T.HB B->B<1100000->(∀ H',GwO (X++[bN c [vi a.toNat,vi b.toNat]]) H0 H' w t (T.hold n true).1 M nx->Q1 (.tuple #[]) H') ->
   ∃ p q,H.get w = .cells [ptr p 0,ptr q 0] none/\E.call (E.fid i.f15) [ptr p 0,u16 n,vb true] H fun _ H1=>E.call (E.fid i.f72) [ptr t 0,vi (n.toNat:Int),vb true] H1 fun _ H2=>Q1 (.tuple #[]) H2:=by
  intro T H B n Q1 h wf hb hB hQ1;obtain ⟨rv,mv,Y,h,hyl,hyf⟩:=h;obtain ⟨p',q',v,m,L,h2,back⟩:=h.two hyl hyf;have hw2:=h2.ow.holds (bN w [ptr p' 0,ptr q' 0]) (by simp)
  have hn:=hb n;refine ⟨p',q',hw2,?_⟩;refine cN.cHold hE h2 wf n true (by omega) fun L1 H1 h3 =>?_
  refine cN.rHold hE h3 wf n true (by omega) fun Y2 H2 h4 =>?_
  exact hQ1 _ ⟨rv,mv,Y2,back _ _ _ _ _ _ h4,h4.len,h4.fit⟩
 have conv:∀ x:BitVec 16,bH .u16 (vi (x.toNat:Int))=some (u16 x):=fun x=>by
  rw [lV]
  congr 2
  rw [BitVec.ofInt_natCast,BitVec.ofNat_toNat,BitVec.setWidth_eq]
 have i0:(.int .i64 0:Value)=vi ((0:Nat):Int):=rfl;rw [i0];refine aP.count 2 (fun i ls H'=>ls=[ptr w 0,ptr t 0,av,nv,vi j,slc c 0 2 2,vi 2,vi i]/\((i=0/\GwO (X++[bN c [vi a.toNat,vi b.toNat]]) H0 H' w t T M nx)\/(i=1/\GwO (X++[bN c [vi a.toNat,vi b.toNat]]) H0 H' w t (T.hold a true).1 M nx)\/(i=2/\GwO (X++[bN c [vi a.toNat,vi b.toNat]]) H0 H' w t ((T.hold a true).1.hold b true).1 M nx))) ?_ ⟨rfl,.inl ⟨rfl,h⟩⟩;rintro i _ H1 X1 hi hX ⟨rfl,(⟨rfl,h1⟩ | ⟨rfl,h1⟩ | ⟨rfl,h1⟩)⟩
 ·have hX:=hX (by omega)
  have p1:aK 1 (slc c 0 2 2) (vi ((0:Nat):Int))=some (ptr c 0):=rfl;have p2:=h1.held;obtain ⟨p,q,hw,hc⟩:=one a (fun v H=>X1 [ptr w 0,ptr t 0,av,nv,vi j,slc c 0 2 2,vi 2,vi ((1:Nat):Int)] H) h1 wf hb (by omega) fun H' h'=>hX _ _ ⟨rfl,.inr (.inl ⟨rfl,h'⟩)⟩
  have hlt:(((0:Nat):Int)<2)=True:=by simp
  have inc:aA .add (vi ((0:Nat):Int)) (vi 1)=some (vi ((1:Nat):Int)):=cG (i:=0) (by omega)
  simp only [F.f57_l2,aV,hlt,decide_true,p1,p2,hw,conv,inc,bA]
  exact hc
 ·have hX:=hX (by omega)
  have p1:aK 1 (slc c 0 2 2) (vi ((1:Nat):Int))=some (ptr c 1):=rfl;have p2:=h1.held;obtain ⟨p,q,hw,hc⟩:=one b (fun v H=>X1 [ptr w 0,ptr t 0,av,nv,vi j,slc c 0 2 2,vi 2,vi ((2:Nat):Int)] H) h1 (wf.hold a true) (hb.hold hB.1 a true) (by omega) fun H' h'=>hX _ _ ⟨rfl,.inr (.inr ⟨rfl,h'⟩)⟩
  have hlt:(((1:Nat):Int)<2)=True:=by simp
  have inc:aA .add (vi ((1:Nat):Int)) (vi 1)=some (vi ((2:Nat):Int)):=cG (i:=1) (by omega)
  simp only [F.f57_l2,aV,hlt,decide_true,p1,p2,hw,conv,inc,bA]
  exact hc
 ·have hlt:(((2:Nat):Int)<2)=False:=by simp
  simp only [F.f57_l2,aV,hlt,decide_false,hjj,bA];exact next _ h1.drop
end
end Go.AM
end
section
namespace Go.AM
set_option maxRecDepth 20000
section
variable {X:List Res} {E:Sy} {H0 H H' H'':AH} {Q:Value->AH->Prop} {w t:Nat} {T T':Tr} {M M':List bL} {nx nx' k l:Int}
theorem aAw {p:aG} (h:qH T M p=true):(T.node p.i).kind=2#8:=by
 unfold qH at h;simp only [Bool.and_eq_true,decide_eq_true_eq] at h;exact h.2
theorem aE6 (hE:bF E) {b:Nat} {p:aG} (h:GwO (X++[bN b p.cells]) H0 H w t T M nx) (g:GI k T M nx l) (hk:k+1<=900) (root:BitVec 16) (hp:0<=p.m/\p.m<=2) (hr:(T.node root).kind=2#8) (ha:(T.node p.i).kind=2#8)
  {av nv:Value} {j:Nat} (hj:j<2 ^ 62) {X0:List Value->AH->Prop} (next:∀ T' M' nx' H',GwO X H0 H' w t T' M' nx'->GI (k+1) T' M' nx' l->X0 [ptr w 0,ptr t 0,av,nv,vi ((j+1:Nat):Int)] H') :
  opt (aF (ptr w 0)) fun v42=>opt (aB v42 1) fun v43=>opt (aC v43 H) fun v44=>opt (bH .u16 (vi (root.toNat:Int))) fun v45=>opt (aU 2 (ptr b 0) H) fun v46 =>
  E.call (E.fid i.f39) [v44,v45,v46] H fun v47 H13 =>
  opt (ext v47 0) fun v48=>opt (ext v47 1) fun v49=>opt (aA .eql v49 (.int .i64 0)) fun v50 =>
  ifB v50 (
  opt (aU 2 (ptr b 0) H13) fun v51 =>
  E.call (E.fid i.f55) [v51] H13 fun v52 H14 =>
  E.call (E.fid i.f69) [(ptr t 0),(vi (root.toNat:Int)),v52] H14 fun v53 H15 =>
  opt (aB (ptr b 0) 1) fun v54=>opt (aC v54 H15) fun v55=>opt (bH .i64 v55) fun v56 =>
  mk (buildS 2 1 #[(.int .i64 0)] [(0,(vi (root.toNat:Int))),(1,v56)]) H15 fun v57 H16 =>
  opt (lenSlc v57) fun v58 =>
  aP (fun l H X1=>F.f57_l2 E Q X0 (nth l 0) (nth l 1) (nth l 2) (nth l 3) (nth l 4) (nth l 5) (nth l 6) (nth l 7) H X1) [(ptr w 0),(ptr t 0),av,nv,(vi j),v57,v58,(.int .i64 0)] H16) (
  opt (aA .add (vi j) (.int .i64 1)) fun v59 =>
  X0 [(ptr w 0),(ptr t 0),av,nv,v59] H13):=by
 have hb:=h.held;have hlo:∀ {H':AH},H'.get b = .cells p.cells none->aU 2 (ptr b 0) H'=some p.v:=fun hh=>by rw [bP,hh]; rfl
 have conv:bH .u16 (vi (root.toNat:Int))=some (u16 root):=by
  rw [lV]
  congr 2
  rw [BitVec.ofInt_natCast,BitVec.ofNat_toNat,BitVec.setWidth_eq]
 have hjj:=cG (i:=j) (by omega)
 have hk0:=g.k0;generalize hj1:j+1=j1 at *;obtain ⟨rv,mv,Y,h,hyl,hyf⟩:=h;obtain ⟨pp,q,hw,_,⟨v,ht,hnd,back⟩⟩:=h.open_;simp only [hw,conv,hlo hb,bA]
 have ok':=(g.pin.bind root p).ok (by omega)
 refine S.f39 hE q v M nx ht hnd h.tab root p fun v' H1 u1 =>?_;have h1:=back _ _ _ _ u1 ok';obtain ⟨g1,g2,g3,g4⟩:=aFB g.pin root p;have hb1:=WkO.held (X:=fO t rv mv nx (wZ M) Y T :: X) h1
 by_cases he:(eQ M nx root p).e=0
 ·have gb:=g.bind hk root p hp hr ha he
  simp only [he,bC,decide_true,hlo hb1,bA];refine S.f55 hE p fun H2 e2 =>?_;have h2:=h1.mono e2;obtain ⟨o2,back2⟩:=WkO.openX (k:=0) h2 (r:=fO t rv mv nx (wZ M) Y T) rfl;have hnx:=g.pin.nx0;have hnx1:=g.pin.nx1;have hlen:=g.pin.len;refine S.pinfoldref16_Tree_BindT hE (M:=M.map bL.toI) o2 (by rw [List.length_map]; omega) (by omega) _ _ fun mv' H3 u3 =>?_
  rw [g1,g2] at u3;have h3:=back2 _ _ u3;have h3:WkO ((fO t rv mv' (eQ M nx root p).nx (wZ (eQ M nx root p).T) Y T :: X)++[bN b p.cells]) H0 H3 w T (eQ M nx root p).T (eQ M nx root p).nx:=h3;have hb3:=h3.held;have c1:p.cells[1]? = some (u16 p.i):=rfl
  have hbs:buildS 2 1 #[(.int .i64 0)] [(0,vi (root.toNat:Int)),(1,vi (p.i.toNat:Int))]=some (.cells [vi (root.toNat:Int),vi (p.i.toNat:Int)] none,dL 2 2):=eT 2 1 [vi 0] [(0,vi (root.toNat:Int)),(1,vi (p.i.toNat:Int))] [vi (root.toNat:Int),vi (p.i.toNat:Int)] rfl rfl rfl rfl (by
   intro v hv;simp only [List.mem_cons,List.not_mem_nil,or_false] at hv;rcases hv with rfl | rfl <;> rfl)
  have l2:AM.lenSlc (slc H3.next 0 2 2)=some (vi 2):=rfl;simp only [hb3,c1,rP,hbs,l2,bA];have h4:GwO (X++[bN H3.next [vi (root.toNat:Int),vi (p.i.toNat:Int)]]) H0 (H3.new (.cells [vi (root.toNat:Int),vi (p.i.toNat:Int)] none)) w t T (eQ M nx root p).T (eQ M nx root p).nx:=⟨rv,mv',Y,WkO.box (X:=fO t rv mv' (eQ M nx root p).nx (wZ (eQ M nx root p).T) Y T :: X) (WkO.drop (X:=fO t rv mv' (eQ M nx root p).nx (wZ (eQ M nx root p).T) Y T :: X) h3) _,hyl,hyf⟩;refine aIr hE h4 g.wf g.hb ⟨by omega,by have:=g.k1; omega⟩ hj fun H5 h5 =>?_
  rw [hj1];exact next _ _ _ _ h5 gb
 ·obtain ⟨t1,t2⟩:=aE1 he
  rw [t1,t2] at h1;simp only [he,bC,decide_false,hjj,bA];exact next T M nx _ ⟨rv,mv,Y,WkO.drop (X:=fO t rv mv nx (wZ M) Y T :: X) h1,hyl,hyf⟩ (g.mono (by omega) hk)
end
end Go.AM
end
section
namespace Go.AM
set_option maxRecDepth 20000
section
variable {X:List Res} {E:Sy} {H0 H H' H'':AH} {Q:Value->AH->Prop} {w t:Nat} {T T':Tr} {M M':List bL} {nx nx' k l:Int}
theorem aF0 (hE:bF E) {a:Nat} {z:eL} (h:GwO (X++[bN a z.cells]) H0 H w t T M nx) (g:GI k T M nx l) (hk:k+1<=900) (hx:z.act.ok H0) (hl:z.act.any.length<=200/\z.act.bl.length<=200)
  {av nv:Value} {j:Nat} (hj:j<2 ^ 62) {X0:List Value->AH->Prop} (next:∀ T' H',GwO X H0 H' w t T' M nx->GI (k+1) T' M nx l->X0 [ptr w 0,ptr t 0,av,nv,vi ((j+1:Nat):Int)] H') :
  opt (aB (ptr a 0) 1) fun v10=>opt (aU 10 v10 H) fun v11 =>
  cX [(.int .u8 0),(.int .u8 0),(.int .u8 0),(.int .u8 0),(.int .u8 0),(.string ⟨#[]⟩),(.int .i64 0),(.slice none 0 0),(.bool false),(.bool false)] H fun v12 H3 =>
  opt (storeN 10 v12 v11 H3) fun H4=>opt (aB v12 9) fun v13=>opt (aR v13 (.bool false) H4) fun H5 =>
  opt (aB v12 0) fun v14=>opt (aC v14 H5) fun v15=>opt (aA .rem v15 (.int .u8 15)) fun v16=>opt (aA .eql v16 (.int .u8 11)) fun v17 =>
  ifB v17 (
  opt (aB v12 8) fun v18=>opt (aR v18 (.bool true) H5) fun H6 =>
  F.f57_j1 E Q X0 (ptr w 0) (ptr t 0) (ptr a 0) v12 av nv (vi j) H6) (
  F.f57_j1 E Q X0 (ptr w 0) (ptr t 0) (ptr a 0) v12 av nv (vi j) H5):=by
 have ha:=h.held
 have hlo:aU 10 (ptr a 1) H=some (.agg z.act.cells.toArray):=by
  have hr:cR.row (.cells z.cells none) 1 10=some z.act.cells:=by
   have h0:=kX z.cells none 14 rfl;exact nD h0 (j:=1) (m:=10) (by omega)
  rw [bP,ha,hr]; rfl
 have hst:=aEE (H:=H) (nQ hx.bytes) (gL.mk 0#8 0#8 0#8 0#8 0#8 [] 0 aW [] false false)
 have hs1:aR (ptr H.next 9) (.bool false) (H.new (.cells z.act.cells none))=some (H.new (.cells ({ z.act with raw:=false }:gL).cells none)):=by
  rw [aM,if_pos (show plain1 (.bool false)=true from rfl),AH.get_new_self];have h1:z.act.cells.length=10:=rfl;have h2:z.act.cells.set 9 (.bool false)=({ z.act with raw:=false }:gL).cells:=rfl
  simp only [h1,h2,show (9<10)=True from by simp,if_true,AH.new_put]
 have h5:=h.box ({ z.act with raw:=false }:gL).cells
 have hb5:=h5.held;have c0:({ z.act with raw:=false }:gL).cells[0]? = some (u8 z.act.kind):=rfl
 have r1:aA .rem (u8 z.act.kind) (.int .u8 15)=some (u8 (z.act.kind % 15#8)):=nM _ 15#8 (by decide)
 have e1:aA .eql (u8 (z.act.kind % 15#8)) (.int .u8 11)=some (vb (decide (z.act.kind % 15#8=11#8))):=sB _ 11#8;simp only [hlo,cW,aIj,hst,hs1,hb5,c0,r1,e1,bA]
 by_cases h11:z.act.kind % 15#8=11#8
 ·have hs2:aR (ptr H.next 8) (.bool true) (H.new (.cells ({ z.act with raw:=false }:gL).cells none))=some ((H.new (.cells ({ z.act with raw:=false }:gL).cells none)).put H.next (.cells ({ z.act with raw:=false,flag:=true }:gL).cells none)):=by
   rw [aM,if_pos (show plain1 (.bool true)=true from rfl),AH.get_new_self];have h1:({ z.act with raw:=false }:gL).cells.length=10:=rfl
   have h2:({ z.act with raw:=false }:gL).cells.set 8 (.bool true)=({ z.act with raw:=false,flag:=true }:gL).cells:=rfl
   simp only [h1,h2,show (8<10)=True from by simp,if_true]
  have h6:=h5.put ({ z.act with raw:=false,flag:=true }:gL).cells
  simp only [h11,decide_true,hs2,bA];exact aDD hE (x:={ z.act with raw:=false,flag:=true }) h6 g hk ⟨hx.any,hx.n,hx.bytes,hx.bl⟩ hl rfl (fun _=>rfl) hj next
 ·simp only [h11,decide_false,bA]
  exact aDD hE (x:={ z.act with raw:=false }) h5 g hk ⟨hx.any,hx.n,hx.bytes,hx.bl⟩ hl rfl (fun h=>(h11 h).elim) hj next
def eL.rootN (z:eL):BitVec 16:=BitVec.ofNat 16 (1+z.root.toNat % 8)
def eL.atP (z:eL):aG:=⟨((z.link % 3#8).toNat:Int),(1#8+z.seen % 8#8).setWidth 16⟩
theorem S.f57 (hE:bF E) (h:GwO X H0 H w t T M nx) (g:GI k T M nx l) (hk:k+60<=900) (av:Value) (acts:List eL) (hv:Rows H0 14 av (acts.map eL.cells)) (hll:acts.length<=9223372036854775807) (hok:∀ x∈acts,x.act.ok H0) (hlt:mT acts=true)
  (hQ:∀ T' M' nx' H',GwO X H0 H' w t T' M' nx'->GI (k+60) T' M' nx' l->Q (.tuple #[]) H'):E.call (E.fid i.f57) [ptr w 0,ptr t 0,av] H Q:=by
 apply hE.f57;have hl:=hv.mono h.ext;have hl:=hl.lenSlc;rw [List.length_map] at hl;simp only [F.f57,hl,bA];have i0:(.int .i64 0:Value)=vi ((0:Nat):Int):=rfl;rw [i0];refine aP.count acts.length (fun j ls H'=>j<=60/\∃ T' M' nx',ls=[ptr w 0,ptr t 0,av,vi acts.length,vi j]/\GwO X H0 H' w t T' M' nx'/\GI (k+j) T' M' nx' l) ?_ ⟨by omega,T,M,nx,rfl,h,by simpa using g⟩
 rintro j _ H1 X1 hj hX ⟨hj60,T,M,nx,rfl,h,g⟩
 by_cases hjl:j<acts.length
 rotate_left
 ·have hjl':¬ (j:Int)<acts.length:=by omega
  simp only [F.f57_l1,aV,hjl',decide_false,bA];exact hQ _ _ _ _ h (g.mono (by omega) hk)
 have hjl':(j:Int)<acts.length:=by omega
 have hX:=hX hjl;obtain ⟨b,o,p1,p2⟩:=(hv.mono h.ext).ix (i:=j) (by simpa using hjl)
 rw [List.getElem_map] at p2;have hx:=hok acts[j] (List.getElem_mem hjl)
 have hxl:acts[j].act.any.length<=200/\acts[j].act.bl.length<=200:=by
  unfold mT at hlt;have:=List.all_eq_true.1 hlt _ (List.getElem_mem hjl)
  simpa using this
 generalize acts[j]=z at *;have hlo:aU 14 (ptr b o) H1=some (.agg z.cells.toArray):=by rw [bP,p2]; rfl
 have hst:=yQ (H:=H1) (nQ hx.bytes) (eL.mk 0#8 (gL.mk 0#8 0#8 0#8 0#8 0#8 [] 0 aW [] false false) 0#8 0#8 0#8);have h2:=h.box z.cells;have hb2:=h2.held
 by_cases h60:j<60
 rotate_left
 ·have h60':(60:Int)<=j:=by omega
  simp only [F.f57_l1,aV,eD,hjl',h60',ge_iff_le,decide_true,p1,hlo,cW,nG,hst,bA];exact hQ _ _ _ _ h2.drop (g.mono (by omega) hk)
 have h60':¬ (60:Int)<=j:=by omega
 have next:∀ T' M' nx' H',GwO X H0 H' w t T' M' nx'->GI (k+j+1) T' M' nx' l->X1 [ptr w 0,ptr t 0,av,vi acts.length,vi ((j+1:Nat):Int)] H':=fun T' M' nx' H' h' g' =>
  hX _ _ ⟨by omega,T',M',nx',rfl,h',g'.mono (by omega) (by omega)⟩
 have c0:z.cells[0]? = some (u8 z.kind):=rfl;have r1:aA .rem (u8 z.kind) (.int .u8 12)=some (u8 (z.kind % 12#8)):=nM _ 12#8 (by decide)
 have e1:aA .lss (u8 (z.kind % 12#8)) (.int .u8 10)=some (vb (decide (z.kind % 12#8<10#8))):=aGA _ 10#8
 by_cases h10:z.kind % 12#8<10#8
 ·have ha:=aF0 (Q:=Q) hE h2 g (by omega) hx hxl (av:=av) (nv:=vi acts.length) (j:=j) (by omega) (X0:=X1) fun T' H' h' g'=>next T' M nx H' h' g'
  simp only [F.f57_l1,aV,eD,hjl',h60',ge_iff_le,decide_true,decide_false,p1,hlo,cW,nG,hst,hb2,c0,r1,e1,h10,bA] at ha ⊢;exact ha
 generalize H1.new (.cells z.cells none)=H2 at *;have c11:z.cells[11]? = some (u8 z.root):=rfl;have c12:z.cells[12]? = some (u8 z.seen):=rfl;have c13:z.cells[13]? = some (u8 z.link):=rfl
 have hr8:(z.rootN.toNat:Int)=((1+z.root.toNat % 8:Nat):Int):=by
  unfold eL.rootN;rw [BitVec.toNat_ofNat,Nat.mod_eq_of_lt (by omega)]
 have a1:aA .add (.int .i64 1) (vi ((z.root.toNat % 8:Nat):Int))=some (vi (z.rootN.toNat:Int)):=by
  rw [hr8];have:=cU (a:=1) (b:=((z.root.toNat % 8:Nat):Int)) (by omega) (by omega)
  rw [show ((1+z.root.toNat % 8:Nat):Int)=1+((z.root.toNat % 8:Nat):Int) by omega]
  exact this
 have r8:aA .rem (vi (z.root.toNat:Int)) (.int .i64 8)=some (vi ((z.root.toNat % 8:Nat):Int)):=fT z.root.toNat 8 (by omega)
 have r3:aA .rem (u8 z.link) (.int .u8 3)=some (u8 (z.link % 3#8)):=nM _ 3#8 (by decide)
 have r8':aA .rem (u8 z.seen) (.int .u8 8)=some (u8 (z.seen % 8#8)):=nM _ 8#8 (by decide)
 have a2:aA .add (.int .u8 1) (u8 (z.seen % 8#8))=some (u8 (1#8+z.seen % 8#8)):=aJs 1#8 _;have hbv:aT [(0,1),(1,1)] aG.zero.cells.toArray [(0,vi ((z.link % 3#8).toNat:Int)),(1,u16 ((1#8+z.seen % 8#8).setWidth 16))]=some z.atP.v:=rfl;have hz2:([(.int .i64 0),(.int .u16 0)]:List Value)=aG.zero.cells:=rfl;have hbv2:∀ n:BitVec 16,aT [(0,1),(1,1)] aG.zero.cells.toArray [(1,u16 n)]=some (aG.v ⟨0,n⟩):=fun n=>rfl
 have conv:bH .u16 (vi (z.rootN.toNat:Int))=some (u16 z.rootN):=by
  rw [lV]
  congr 2
  rw [BitVec.ofInt_natCast,BitVec.ofNat_toNat,BitVec.setWidth_eq]
 have hst2:storeN 2 (ptr H2.next 0) z.atP.v (H2.new (.cells aG.zero.cells none))=some (H2.new (.cells z.atP.cells none)):=nB rfl rfl rfl;have h3:=h2.drop.box z.atP.cells
 have hpm:0<=z.atP.m/\z.atP.m<=2:=by
  have:(z.link % 3#8).toNat=z.link.toNat % 3:=by simp
  unfold eL.atP;simp only;omega
 generalize z.rootN=root at *;generalize hp:z.atP=p at *;have hjj:=cG (i:=j) (by omega)
 simp only [F.f57_l1,aV,eD,hjl',h60',ge_iff_le,decide_true,decide_false,p1,hlo,cW,nG,hst,hb2,c0,r1,e1,h10,c11,c12,c13,lH,r8,a1,r3,r8',a2,aAh,hz2,hbv,hst2,conv,bA]
 simp only [hz2,hst2,conv,hbv2,bA]
 have hlo3:∀ {H':AH},H'.get H2.next = .cells p.cells none->aU 2 (ptr H2.next 0) H'=some p.v:=fun hh=>by rw [bP,hh]; rfl
 generalize H2.new (.cells p.cells none)=H3 at *;generalize H2.next=b3 at *;refine S.f129 hE h3.at_ ⟨0,root⟩ fun H4 e4 =>?_;have h4:=h3.mono e4;cases hd:qH T M ⟨0,root⟩ with
 | false =>
  simp only [hjj,bA];exact next T M nx _ h4.drop (g.mono (by omega) (by omega))
 | true =>
  simp only [hlo3 h4.held,bA];refine S.f129 hE h4.at_ p fun H5 e5 =>?_;have h5:=h4.mono e5;cases hd2:qH T M p with
  | false =>
   simp only [hjj,bA];exact next T M nx _ h5.drop (g.mono (by omega) (by omega))
  | true =>
   have hf:=aE6 (Q:=Q) hE h5 g (by omega) root hpm (aAw hd) (aAw hd2) (av:=av) (nv:=vi acts.length) (j:=j) (by omega) (X0:=X1) fun T' M' nx' H' h' g'=>next T' M' nx' H' h' g'
   simp only [bA] at hf ⊢;exact hf
theorem aGd (hE:bF E) (l:Int) {Q:Value->Value->AH->Prop} (hQ:∀ w t H',GwO [] H H' w t (Tr.new l) gC 1->Q (ptr w 0) (ptr t 0) H') :
  E.call (E.fid i.f127) [vi l] H fun v1 H1=>E.call (E.fid i.f67) [vi l] H1 fun v2 H2=>Q v1 v2 H2:=by
 refine S.f127 hE l fun w H1 h1 =>?_;refine S.f67 hE l fun t nv mv Y H2 e2 h2 f2 =>?_;refine hQ w t H2 ⟨nv,mv,Y,?_,h2.len,h2.fit⟩;obtain ⟨p,m,L,q,v,e,o,own,cov,tab⟩:=h1;have o2:=o.ext e2;have hm:wZ gC=oM:=rfl;rw [hm]
 have perm:(fO t nv mv 1 oM Y (Tr.new l) :: sO p m L (Tr.new l) q v gC 1 w []).Perm (sO p m L (Tr.new l) q v gC 1 w (fO t nv mv 1 oM Y (Tr.new l) :: [])):=by
  show List.Perm (_ :: ([_,_,_]++[])) ([_,_,_]++_ :: [])
  exact List.perm_middle.symm
 have ho:Ow (cV (fO t nv mv 1 oM Y (Tr.new l) :: sO p m L (Tr.new l) q v gC 1 w [])) H2:=by
  refine ⟨fun r hr =>?_,fun b hb =>?_,?_⟩
  ·rcases List.mem_cons.1 hr with rfl | hr
   ·exact h2.ow.holds
   ·exact o2.holds r hr
  ·have hb:b∈(fO t nv mv 1 oM Y (Tr.new l)).fp++(sO p m L (Tr.new l) q v gC 1 w []).flatMap Res.fp:=hb
   rcases List.mem_append.1 hb with hb | hb
   ·exact h2.ow.lt b hb
   ·exact (o2.fp b hb).2
  ·show ((fO t nv mv 1 oM Y (Tr.new l)).fp++(sO p m L (Tr.new l) q v gC 1 w []).flatMap Res.fp).Nodup
   rw [List.nodup_append];refine ⟨h2.ow.nd,o2.nd,fun a ha b hb =>?_⟩;have h3:=f2 a ha;have h4:=o.lt b hb;omega
 refine ⟨p,m,L,q,v,e.trans e2,ho.perm perm,fun b hb =>?_,cov,tab⟩;have hb:=((perm.flatMap_right Res.fp).mem_iff).2 hb;rw [List.flatMap_cons,List.mem_append] at hb;rcases hb with hb | hb
 ·exact Nat.le_trans e.1 (f2 b hb)
 ·exact own b hb
end
end Go.AM
end
section
namespace Go.AM
set_option maxRecDepth 20000
def mk5:List (BitVec 16×aL×BitVec 8):=[(1#16,[97],2#8),(2#16,[98],2#8),(1#16,[102],1#8),(2#16,[103],1#8),(1#16,[99],2#8)]
def mkR (x:BitVec 16×aL×BitVec 8):List Value:=[vi (x.1.toNat:Int),str x.2.1,u8 x.2.2]
def lE (j:Nat):Tr:=(mk5.take j).foldl (fun T x=>(T.make x.1 x.2.1 x.2.2 []).1) (Tr.new 80)
theorem aBm {j:Nat} (h:j<mk5.length):lE (j+1)=((lE j).make mk5[j].1 mk5[j].2.1 mk5[j].2.2 []).1:=by
 unfold lE;rw [List.take_succ,List.getElem?_eq_getElem h,List.foldl_append]; rfl
section
variable {X:List Res} {E:Sy} {H0 H H' H'':AH} {Q:Value->AH->Prop} {w t:Nat} {T T':Tr} {M M':List bL} {nx nx' k l:Int}
theorem aC9 (hE:bF E) (av:Value) (hQ:∀ w t H',GwO [] H H' w t (lE 5) gC 1->GI 5 (lE 5) gC 1 80->E.call (E.fid i.f57) [ptr w 0,ptr t 0,av] H' fun _ H5=>Q (.tuple #[ptr w 0,ptr t 0]) H5):E.call (E.fid i.f60) [av] H Q:=by
 apply hE.f60;simp only [F.f60];have hbv:∀ (a:Int) (s:aL) (c:BitVec 8),aT [(0,1),(1,1),(2,1)] #[(.int .i64 0),(.string ⟨#[]⟩),(.int .u8 0)] [(0,vi a),(1,str s),(2,u8 c)]=some (.agg #[vi a,str s,u8 c]):=fun a s c=>rfl;have b1:aT [(0,1),(1,1),(2,1)] #[(.int .i64 0),(.string ⟨#[]⟩),(.int .u8 0)] [(0,(.int .i64 1)),(1,(.string ⟨#[97]⟩)),(2,(.int .u8 2))]=some (.agg (mkR (1#16,[97],2#8)).toArray):=rfl;have b2:aT [(0,1),(1,1),(2,1)] #[(.int .i64 0),(.string ⟨#[]⟩),(.int .u8 0)] [(0,(.int .i64 2)),(1,(.string ⟨#[98]⟩)),(2,(.int .u8 2))]=some (.agg (mkR (2#16,[98],2#8)).toArray):=rfl;have b3:aT [(0,1),(1,1),(2,1)] #[(.int .i64 0),(.string ⟨#[]⟩),(.int .u8 0)] [(0,(.int .i64 1)),(1,(.string ⟨#[102]⟩)),(2,(.int .u8 1))]=some (.agg (mkR (1#16,[102],1#8)).toArray):=rfl;have b4:aT [(0,1),(1,1),(2,1)] #[(.int .i64 0),(.string ⟨#[]⟩),(.int .u8 0)] [(0,(.int .i64 2)),(1,(.string ⟨#[103]⟩)),(2,(.int .u8 1))]=some (.agg (mkR (2#16,[103],1#8)).toArray):=rfl;have b5:aT [(0,1),(1,1),(2,1)] #[(.int .i64 0),(.string ⟨#[]⟩),(.int .u8 0)] [(0,(.int .i64 1)),(1,(.string ⟨#[99]⟩)),(2,(.int .u8 2))]=some (.agg (mkR (1#16,[99],2#8)).toArray):=rfl
 have hbs:=eT 5 3 [vi 0,str [],u8 0#8] [(0,.agg (mkR (1#16,[97],2#8)).toArray),(1,.agg (mkR (2#16,[98],2#8)).toArray),(2,.agg (mkR (1#16,[102],1#8)).toArray),(3,.agg (mkR (2#16,[103],1#8)).toArray),(4,.agg (mkR (1#16,[99],2#8)).toArray)] (mk5.map fun x => .agg (mkR x).toArray) rfl rfl rfl rfl (by
  intro v hv;obtain ⟨s,_,rfl⟩:=List.mem_map.1 hv
  rfl)
 have hbs:buildS 5 3 #[(.int .i64 0),(.string ⟨#[]⟩),(.int .u8 0)] [(0,.agg (mkR (1#16,[97],2#8)).toArray),(1,.agg (mkR (2#16,[98],2#8)).toArray),(2,.agg (mkR (1#16,[102],1#8)).toArray),(3,.agg (mkR (2#16,[103],1#8)).toArray),(4,.agg (mkR (1#16,[99],2#8)).toArray)]=some (.cells (mk5.map mkR).flatten none,dL 5 5):=by
  rw [show (mk5.map mkR).flatten=(mk5.map fun x=>Value.agg (mkR x).toArray).flatMap cP from rfl];exact hbs
 refine aGd (Q:=fun v1 v2 H2=>_) hE 80 fun w t H1 h1 =>?_;simp only [b1,b2,b3,b4,b5,hbs,bA];have h2:=h1.box (mk5.map mkR).flatten;have hv2:Rows (H1.new (.cells (mk5.map mkR).flatten none)) 3 (slc H1.next 0 5 5) (mk5.map mkR):=Rows.made (f:=none) (by rw [AH.get_new_self]) (.inl rfl) rfl (by decide)
 have hls:AM.lenSlc (slc H1.next 0 5 5)=some (vi ((5:Nat):Int)):=rfl;have i0:(.int .i64 0:Value)=vi ((0:Nat):Int):=rfl;simp only [hls,i0,bA];generalize hbb:H1.next=bb at *;generalize H1.new (.cells (mk5.map mkR).flatten none)=H2 at *;have h2:GwO [bN bb (mk5.map mkR).flatten] H H2 w t (lE 0) gC 1:=h2;refine aP.count 5 (fun j ls H'=>ls=[av,ptr w 0,ptr t 0,slc bb 0 5 5,vi ((5:Nat):Int),vi j]/\GwO [bN bb (mk5.map mkR).flatten] H H' w t (lE j) gC 1/\GI j (lE j) gC 1 80) ?_ ⟨rfl,h2,GI.new 80 80 ⟨by omega,by omega⟩⟩
 rintro j _ H3 X hj hX ⟨rfl,h3,g⟩;have hb3:=GwO.held (X:=[]) h3;have hv3:Rows H3 3 (slc bb 0 5 5) (mk5.map mkR):=Rows.made (f:=none) (by rw [hb3]) (.inl rfl) rfl (by decide)
 rcases Nat.lt_or_ge j 5 with hj5 | hj5
 rotate_left
 ·have:j=5:=by omega
  subst this;have hlt:¬ (((5:Nat):Int)<((5:Nat):Int)):=by omega
  simp only [F.f60_l1,aV,hlt,decide_false,bA];exact hQ w t H3 (GwO.drop (X:=[]) h3) g
 have hX:=hX hj5;have hjm:j<mk5.length:=hj5;obtain ⟨b,o,p1,p2⟩:=hv3.ix (i:=j) (by simpa using hjm)
 rw [List.getElem_map] at p2;rw [aBm hjm] at hX
 have hsl:(mk5[j]).2.1.length<2 ^ 63:=by
  have:∀ x∈mk5,x.2.1.length<2 ^ 63:=by decide
  exact this _ (List.getElem_mem hjm)
 generalize mk5[j]=x at *;have hjj:=cG (i:=j) (by omega)
 have hjl':((j:Nat):Int)<((5:Nat):Int):=by omega
 have hlo:aU 3 (ptr b o) H3=some (.agg (mkR x).toArray):=by rw [bP,p2]; rfl
 have hst:storeN 3 (ptr H3.next 0) (.agg (mkR x).toArray) (H3.new (.cells [(.int .i64 0),str [],(.int .u8 0)] none))=some (H3.new (.cells (mkR x) none)):=by
  rw [cJ,AH.get_new_self];have hs:AM.splice [(.int .i64 0),str [],(.int .u8 0)] 0 (mkR x)=mkR x:=rfl;have hp:(mkR x).all plain1=true:=rfl;have hl:(mkR x).length=3:=rfl;simp only [List.size_toArray,List.toList_toArray,hl,hp,List.length_cons,List.length_nil,Nat.zero_add,Nat.reduceAdd,Nat.le_refl,and_self,if_true,hs,AH.new_put]
 have h4:=h3.box (mkR x);have hb4:=h4.held;obtain ⟨rv,mv,Y,h4,hyl,hyf⟩:=h4;obtain ⟨p',q',v,m,L,h5,back⟩:=h4.two hyl hyf;have hw5:(H3.new (.cells (mkR x) none)).get w = .cells [ptr p' 0,ptr q' 0] none:=h5.ow.holds (bN w [ptr p' 0,ptr q' 0]) (by simp)
 have c0:(mkR x)[0]? = some (vi (x.1.toNat:Int)):=rfl;have c1:(mkR x)[1]? = some (str x.2.1):=rfl;have c2:(mkR x)[2]? = some (u8 x.2.2):=rfl;have s0:(.string ⟨#[]⟩:Value)=str []:=rfl
 have conv:bH .u16 (vi (x.1.toNat:Int))=some (u16 x.1):=by
  rw [lV]
  congr 2
  rw [BitVec.ofInt_natCast,BitVec.ofNat_toNat,BitVec.setWidth_eq]
 have hc:=g.co;have hk0:=g.k0;generalize hj1:j+1=j1 at *;simp only [F.f60_l1,aV,hjl',decide_true,p1,hlo,cW,hst,hw5,hb4,c0,c1,c2,conv,s0,bA]
 refine cN.cMake hE h5 g.wf x.1 x.2.1 hsl x.2.2 [] (by decide) ⟨hc.1,by have:=hc.2; omega⟩ fun L1 H5 h6 =>?_
 have hb6:H5.get H3.next = .cells (mkR x) none:=h6.ow.holds (bN H3.next (mkR x)) (by simp)
 simp only [hb6,c0,c1,c2,lH,bA];refine cN.rMake hE h6 g.wf x.1 x.2.1 hsl x.2.2 [] ⟨hc.1,by have:=hc.2; omega⟩ fun nv2 Y2 H6 h7 =>?_
 have h8:GwO ([bN bb (mk5.map mkR).flatten]++[bN H3.next (mkR x)]) H H6 w t ((lE j).make x.1 x.2.1 x.2.2 []).1 gC 1:=⟨nv2,mv,Y2,back _ _ _ _ _ _ h7,h7.len,h7.fit⟩;simp only [hjj,bA];refine hX _ _ ⟨rfl,h8.drop,?_⟩;have:=g.did (.make x.1 x.2.1 x.2.2 []) (g.wf.make x.1 x.2.1 x.2.2 []) (.make x.1 x.2.1 x.2.2 []) ((g.hb.make (by omega) x.1 x.2.1 x.2.2 []).mono (by omega)) (by omega)
 rw [<- hj1];exact this
theorem S.f60 (hE:bF E) (av:Value) (acts:List eL) (hv:Rows H 14 av (acts.map eL.cells)) (hll:acts.length<=9223372036854775807) (hok:∀ x∈acts,x.act.ok H) (hlt:mT acts=true)
  (hQ:∀ w t T' M' nx' H',GwO [] H H' w t T' M' nx'->GI 65 T' M' nx' 80->Q (.tuple #[ptr w 0,ptr t 0]) H'):E.call (E.fid i.f60) [av] H Q :=
 aC9 hE av fun w t H' h g=>S.f57 hE h g (by omega) av acts hv hll hok hlt fun T' M' nx' H' h' g'=>hQ w t T' M' nx' H' h' g'
end
end Go.AM
end
section
namespace Go.AM
set_option maxRecDepth 20000
abbrev kY:=List (Nat×iZ)
def vX (l:kY):List (List Value):=l.map fun x=>[ptr x.1 0]
theorem gS (l:kY):(vX l).length=l.length:=by simp [vX]
theorem aDA (l:kY):∀ r∈vX l,r.all plain1=true:=by
 intro r hr;obtain ⟨x,_,rfl⟩:=List.mem_map.1 hr
 rfl
structure mP (H:AH) (v:Value) (l:kY):Prop where
 rows:Rows H 1 v (vX l)
 sets:∀ x∈l,iJ H x.1 x.2
def lM (H:AH) (dv:Value) (l:kY):Prop:=(dv = .pointer none/\l=[])\/∃ b v,dv=ptr b 0/\H.get b = .cells [v] none/\mP H v l
section
variable {X:List Res} {E:Sy} {H0 H H' H'':AH} {Q:Value->AH->Prop} {w t s:Nat} {T T':Tr} {M M':List bL} {nx nx' k:Int} {d:iZ} {v dv:Value} {l:kY}
theorem mP.mono (h:mP H v l) (e:Ext H H'):mP H' v l:=⟨h.rows.mono e,fun x hx=>(h.sets x hx).mono e⟩
theorem lM.mono (h:lM H dv l) (e:Ext H H'):lM H' dv l:=by
 rcases h with h | ⟨b,v,h1,h2,h3⟩
 ·exact .inl h
 ·exact .inr ⟨b,v,h1,e.cells h2,h3.mono e⟩
theorem mP.len (h:mP H v l):AM.lenSlc v=some (vi l.length):=by
 have:=h.rows.lenSlc
 rwa [gS] at this
theorem mP.elem (h:mP H v l) {i:Nat} (hi:i<l.length):∃ b o,aK 1 v (vi i)=some (ptr b o)/\(H.get b).cell o=some (ptr (l[i]).1 0)/\iJ H (l[i]).1 (l[i]).2:=by
 obtain ⟨b,o,f1,f2⟩:=h.rows.ix (i:=i) (by rw [gS]; exact hi)
 have hrow:(vX l)[i]'(by rw [gS]; exact hi)=[ptr (l[i]).1 0]:=by simp [vX]
 rw [hrow] at f2;exact ⟨b,o,f1,by have:=dO f2 (j:=0) (by omega); simpa using this,h.sets _ (List.getElem_mem hi)⟩
theorem aJn:cB dD .eql (.pointer none) (.pointer none)=some (vb true):=rfl
theorem aKO:cB dD .neq (.pointer none) (.pointer none)=some (vb false):=rfl
theorem S.f6 (hE:bF E) (h:lM H dv l) (hQ:Q (vi l.length) H):E.call (E.fid i.f6) [dv] H Q:=by
 apply hE.f6;rcases h with ⟨rfl,rfl⟩ | ⟨b,v,rfl,h2,h3⟩
 ·simp only [F.f6,aJn,bA]
  exact hQ
 ·simp only [F.f6,kQ,h2,h3.len,bA]
  exact hQ
theorem S.f5 (hE:bF E) (h:lM H dv l) (hl:l.length<=1000) (hQ:∀ v H',Ext H H'->bR zH H' 1 v (vX l)->eO H.next v->(∀ x∈l,iJ H' x.1 x.2)->Q v H'):E.call (E.fid i.f5) [dv] H Q:=by
 apply hE.f5;rcases h with ⟨rfl,rfl⟩ | ⟨b,v,rfl,h2,h3⟩
 ·simp only [F.f5,aJn,bA]
  exact hQ _ _ (Ext.refl _) (bR.nil _ _ _) (by intro b hb; simp [blk] at hb) (by simp)
 ·have hb0:buildS 0 1 #[(.pointer none)] []=some (.cells [] none,dL 0 0):=tR 1 [.pointer none] rfl
  have e1:Ext H (H.new (.cells [] none)):=(Ext.refl H).new _;have g1:bR zH (H.new (.cells [] none)) 1 (slc H.next 0 0 0) []:=bR.room (lL _) (AH.get_new_self _ _) rfl;have h4:=h3.mono e1;obtain ⟨v',H',a1,a2,a3⟩:=g1.app (bytes:=8) (Nat.zero_le _) h4.rows (aDA l) (by decide) (by decide) (by rw [gS]; simp; omega) (by rw [gS]; simp; omega)
  obtain ⟨e2,f2⟩:=gF a3 e1 (fun b hb=>by simp [blk] at hb; omega)
  have hap:app 1 8 (slc H.next 0 0 0) v (H.new (.cells [] none))=some (v',H'):=a1;simp only [F.f5,kQ,hb0,e1.cells h2,hap,bA];exact hQ _ _ e2 (by simpa using a2) f2 fun x hx=>(h3.sets x hx).mono e2
theorem S.f7 (hE:bF E) (h:lM H dv l) (hs:iJ H s d) (hl:l.length<=1000) (hbad:16<=l.length->Q (.tuple #[.pointer none,vi 27]) H)
  (hok:l.length<16->∀ b H',Ext H H'->H.next<=b->lM H' (ptr b 0) (l++[(s,d)])->Q (.tuple #[ptr b 0,vi 0]) H'):E.call (E.fid i.f7) [dv,ptr s 0] H Q:=by
 apply hE.f7;simp only [F.f7,kQ,bA];refine S.f6 hE h ?_
 by_cases h16:16<=l.length
 ·have h16':(16:Int)<=l.length:=by omega
  simp only [eD,ge_iff_le,h16',decide_true,bA];exact hbad h16
 ·have h16':¬ (16:Int)<=l.length:=by omega
  simp only [eD,ge_iff_le,h16',decide_false,bA];refine S.f5 hE h hl fun v H2 e2 g2 f2 s2 =>?_;have hbS:buildS 1 1 #[(.pointer none)] [(0,ptr s 0)]=some (.cells [ptr s 0] none,dL 1 1):=dF 1 [.pointer none] [ptr s 0] rfl rfl;obtain ⟨v',H3,a1,a2,a3⟩:=g2.app1 (bytes:=8) (Nat.zero_le _) [ptr s 0] rfl rfl (by decide) (by decide) (by rw [gS]; omega)
  obtain ⟨e3,f3⟩:=gF a3 e2 f2
  have hbv:aT [(0,1)] #[(.slice none 0 0)] [(0,v')]=some (.agg #[v']):=by
   have:=a2.plain;rcases a2.2 with ⟨hz,_⟩ | ⟨b,f,c,cs,_,rfl,_⟩
   ·simp at hz
   ·rfl
  have x4:Ext H3 (H3.new (.cells [v'] none)):=(Ext.refl _).new _;simp only [hbS,a1,hbv,bA];refine hok (by omega) _ _ (e3.trans x4) e3.1 (.inr ⟨H3.next,v',rfl,AH.get_new_self _ _,⟨?_,?_⟩⟩)
  ·have:=a2.toRows.mono x4
   simpa [vX] using this
  ·intro x hx
   rcases List.mem_append.1 hx with hx | hx
   ·rcases h with ⟨_,rfl⟩ | ⟨b,v0,_,_,h3⟩
    ·simp at hx
    ·exact ((h3.sets x hx).mono e3).mono x4
   ·simp only [List.mem_singleton] at hx
    subst hx;exact (hs.mono e3).mono x4
def fE (l:kY) (want n:BitVec 16) (above:List aG):BitVec 16:=l.foldl (fun r x=>r|||x.2.denied want n above) 0#16
theorem xS (l:kY) (want n:BitVec 16) (above:List aG) {j:Nat} (h:j<l.length):fE (l.take (j+1)) want n above=fE (l.take j) want n above|||(l[j]).2.denied want n above:=by
 unfold fE;rw [List.take_succ,List.getElem?_eq_getElem h,List.foldl_append]; rfl
theorem aAo (T:Tr) (M:List bL):∀ (f:Nat) (p:aG),(jS T M f p).length<=f
 | 0,p=>by simp [jS]
 | f+1,p=>by
  rw [jS];cases oS T M p with
  | none=>simp
  | some q=>have:=aAo T M f q; simp only [List.length_cons]; omega
theorem aDa (T:Tr) (M:List bL) (p:aG):(pO T M p).length<=289:=by
 unfold pO
 split
 ·exact aAo T M 289 p
 ·simp
theorem S.f2 (hE:bF E) (h:lM H dv l) (ht:oX H t T M) (ao:aEo T M) (hl:l.length<2 ^ 62) (want n:BitVec 16) (c:aG) (hQ:∀ H',Ext H H'->Q (u16 (fE l want n (pO T M c))) H'):E.call (E.fid i.f2) [dv,ptr t 0,u16 want,u16 n,c.v] H Q:=by
 apply hE.f2;have x1:Ext H (H.new (.cells c.cells none)):=(Ext.refl H).new _;have hb:=AH.get_new_self H (.cells c.cells none);simp only [F.f2,bA];have h1:=h.mono x1;have ht1:=ht.mono x1;generalize H.new (.cells c.cells none)=H1 at *;refine S.f6 hE h1 ?_
 by_cases h0:l.length=0
 ·have:l=[]:=List.length_eq_zero_iff.1 h0
  subst this;simp only [bC,List.length_nil,Int.ofNat_zero,Int.natCast_zero,decide_true,bA];exact hQ _ x1
 ·have h0':¬ (l.length:Int)=0:=by omega
  have hlo:aU 2 (ptr H.next 0) H1=some c.v:=by rw [bP,hb]; rfl
  simp only [bC,h0',decide_false,hlo,bA];refine S.f128 hE ht1 ao c fun v H2 e2 r2 =>?_;rcases h1.mono e2 with ⟨_,rfl⟩ | ⟨b,sv,rfl,h2,h3⟩
  ·simp at h0
  simp only [h2,h3.len,bA];have i0:(.int .i64 0:Value)=vi ((0:Nat):Int):=rfl;have n0:(.int .u16 0:Value)=u16 (fE (l.take 0) want n (pO T M c)):=rfl;rw [i0,n0];refine aP.count l.length (fun j ls H'=>ls=[u16 want,u16 n,v,u16 (fE (l.take j) want n (pO T M c)),sv,vi l.length,vi j]/\Ext H2 H') ?_ ⟨rfl,Ext.refl _⟩;rintro j _ H3 X hj hX ⟨rfl,e3⟩;rcases Nat.lt_or_ge j l.length with hjl | hjl
  ·have hX:=hX hjl
   have hjl':(j:Int)<l.length:=by omega
   have hjj:=cG (i:=j) (by omega)
   obtain ⟨b',o',p1,p2,p3⟩:=(h3.mono e3).elem hjl;rw [xS l want n _ hjl] at hX;simp only [F.f2_l1,aV,hjl',decide_true,p1,p2,bA];refine S.f94 hE p3 want n v _ (r2.mono e3) (by have:=aDa T M c; omega) fun H4 e4 =>?_
   simp only [tW,hjj,bA];exact hX _ _ ⟨rfl,e3.trans e4⟩
  ·have hjl':¬ (j:Int)<l.length:=by omega
   have:j=l.length:=by omega
   subst this;rw [List.take_length];simp only [F.f2_l1,aV,hjl',decide_false,bA];exact hQ _ (x1.trans (e2.trans e3))
end
end Go.AM
end
section
namespace Go.AM
set_option maxRecDepth 20000
section
variable {X:List Res} {E:Sy} {H0 H H' H'':AH} {Q:Value->AH->Prop} {w t s:Nat} {T T':Tr} {M M':List bL} {nx nx' k:Int} {d:iZ} {v dv:Value} {l:kY}
theorem iJ.grew (h:iJ H s d) (g:bR zH H 1 v (vX l)) (hne:l=[]->v=aW) {v':Value} (gr:aAi H H' v v'):iJ H' s d:=by
 obtain ⟨r1,r2,h1,h2,h3⟩:=h
 have hb:∀ b,blk v=some b->∃ cs f,H.get b = .cells cs f/\∃ n,cs[0]? = some (ptr n 0):=by
  intro b hb;rcases g.2 with ⟨_,rfl⟩ | ⟨b',f,c,cs,_,rfl,q1,q2,q3,q4,_⟩
  ·simp [blk] at hb
  ·simp [blk] at hb
   subst hb;refine ⟨cs,f,q1,?_⟩;cases l with
   | nil=>have:=hne rfl; simp at this
   | cons x l =>
    refine ⟨x.1,?_⟩;have:=congrArg (fun z=>z[0]?) q4
    simpa [vX,List.getElem?_take] using this
 have hm:∀ {r:Nat} {m:List (BitVec 16×BitVec 16)},eM u16 u16 H r m->H'.get r=H.get r:=fun {r m} hm=>by
  refine gr.1.get hm.lt fun hbl =>?_;obtain ⟨cs,f,q,_⟩:=hb r (bQ.1 hbl);obtain ⟨es,cl,hh,_⟩:=hm;rw [q] at hh;simp at hh
 have hs:H'.get s=H.get s:=by
  refine gr.1.get (AH.lt_cells h1) fun hbl =>?_;obtain ⟨cs,f,q,n,q2⟩:=hb s (bQ.1 hbl);rw [h1] at q;simp only [cR.cells.injEq] at q;obtain ⟨q3,_⟩:=q;rw [<- q3] at q2;simp [fB,ptr] at q2
 exact ⟨r1,r2,by rw [hs,h1],h2.keep (hm h2),h3.keep (hm h3)⟩
theorem S.f64 (hE:bF E) (ht:oX H t T M) (wf:T.WF) (lt:T.LT) (v:Value) (rows:List (List Value)) (hv:Rows H 8 v rows) (hn:rows.length<2 ^ 63) (hsm:∀ r∈rows,∃ x:dZ,gO H x r)
  (hQ:∀ v l H',Ext H H'->l.length<=8->mP H' v l->Q v H'):E.call (E.fid i.f64) [ptr t 0,v] H Q:=by
 apply hE.f64;simp only [F.f64,hv.lenSlc,bA];have i0:(.int .i64 0:Value)=vi ((0:Nat):Int):=rfl;rw [i0]
 refine aP.count rows.length (fun j ls H'=>∃ u l,ls=[ptr t 0,u,v,vi rows.length,vi j]/\Ext H H'/\eO H.next u/\bR zH H' 1 u (vX l)/\(l=[]->u=aW)/\(∀ x∈l,iJ H' x.1 x.2)/\l.length<=j/\l.length<=8) ?_
  ⟨aW,[],rfl,Ext.refl _,by intro b hb; simp [blk] at hb,bR.nil _ _ _,fun _=>rfl,by simp,by simp,by simp⟩
 rintro j _ H1 X hj hX ⟨u,l,rfl,e1,f1,g1,hne,hs,hlj,hl8⟩;rcases Nat.lt_or_ge j rows.length with hjl | hjl
 rotate_left
 ·have hjl':¬ (j:Int)<rows.length:=by omega
  simp only [F.f64_l1,aV,hjl',decide_false,bA];exact hQ u l H1 e1 hl8 ⟨g1.toRows,hs⟩
 have hX:=hX hjl;have hjl':(j:Int)<rows.length:=by omega
 have hjj:=cG (i:=j) (by omega)
 obtain ⟨b,o,p1,p2⟩:=(hv.mono e1).ix hjl;obtain ⟨x,hx⟩:=hsm _ (List.getElem_mem hjl);generalize rows[j]=cs at *
 have hlen:cs.length=8:=by
  obtain ⟨v,pv,rv,qv,rfl,_⟩:=hx
  rfl
 have hpl:cs.all plain1=true:=by
  obtain ⟨v,pv,rv,qv,rfl,h1,h2,h3,h4,_⟩:=hx;have q1:plain1 v=true:=by obtain ⟨rows,h,_⟩:=h1; exact h.plain
  simp only [List.all_cons,List.all_nil,q1,h2.plain,h3.plain,h4.plain]; rfl
 have hx1:=hx.sub e1.sub;have hlo:aU 8 (ptr b o) H1=some (.agg cs.toArray):=by rw [bP,p2]; rfl
 have hst:storeN 8 (ptr H1.next 0) (.agg cs.toArray) (H1.new (.cells [(.int .u8 0),(.int .u8 0),(.int .u8 0),(.slice none 0 0),(.int .u16 0),(.slice none 0 0),(.slice none 0 0),(.slice none 0 0)] none))=some (H1.new (.cells cs none)):=by
  rw [cJ,AH.get_new_self];have hsp:AM.splice [(.int .u8 0),(.int .u8 0),(.int .u8 0),(.slice none 0 0),(.int .u16 0),(.slice none 0 0),(.slice none 0 0),(.slice none 0 0)] 0 cs=cs:=by simp [splice,hlen]
  simp only [List.size_toArray,List.toList_toArray,hlen,hpl,List.length_cons,List.length_nil,Nat.zero_add,Nat.reduceAdd,Nat.le_refl,and_self,if_true,hsp,AH.new_put]
 have x2:Ext H1 (H1.new (.cells cs none)):=(Ext.refl _).new _;have hlo2:aU 8 (ptr H1.next 0) (H1.new (.cells cs none))=some (.agg cs.toArray):=by rw [bP,AH.get_new_self,kX _ _ 8 hlen]; rfl
 simp only [F.f64_l1,aV,hjl',decide_true,p1,hlo,cW,hst,hlo2,bA];refine S.f50 hE x cs (hx1.sub x2.sub) fun H3 cp e3 hp =>?_;refine S.f46 hE fun H4 e4 =>?_;have e14:=x2.trans (e3.trans e4);have hlp:=vM x x.paths.length;have hlq:=vT x x.ports.length
 have hpl:∀ b∈x.pol.paths,b.1.length<2 ^ 63:=by
  intro b hb;have h1:=(oH x x.paths.length).2 b.1 (List.mem_map_of_mem hb);have:∀ y∈pQ,y.length<2 ^ 63:=by decide
  exact this _ h1
 have skip:∀ H',Ext H1 H'->X [ptr t 0,u,v,vi rows.length,vi ((j+1:Nat):Int)] H':=fun H' e=>hX _ _ ⟨u,l,rfl,e1.trans e,f1,g1.ext e,hne,fun x hx=>(hs x hx).mono e,by omega,hl8⟩
 refine S.f92 hE (ht.mono (e1.trans e14)) wf lt x.pol cp (hp.mono e4) ⟨by show (x.pathsTo x.paths.length).length<_; omega,by show (x.portsTo x.ports.length).length<_; omega⟩ hpl ⟨0,1#16⟩ (fun hbad H5 e5 =>?_) fun hgood s H5 e5 _ hset =>?_
 ·by_cases h8:(j:Int)<8
  ·simp only [aV,h8,decide_true,bC,hbad,decide_false,hjj,bA]
   exact skip _ (e14.trans e5)
  ·simp only [aV,h8,decide_false,hjj,bA]
   exact skip _ (e14.trans e5)
 ·by_cases h8:(j:Int)<8
  ·have e15:=e14.trans e5
   have g5:=g1.ext e15;have hbS:buildS 1 1 #[(.pointer none)] [(0,ptr s 0)]=some (.cells [ptr s 0] none,dL 1 1):=dF 1 [.pointer none] [ptr s 0] rfl rfl;obtain ⟨u',H6,a1,a2,a3⟩:=g5.app1 (bytes:=8) (Nat.zero_le _) [ptr s 0] rfl rfl (by decide) (by decide) (by rw [gS]; omega)
   obtain ⟨e6,f6⟩:=gF a3 (e1.trans e15) f1;simp only [aV,h8,decide_true,bC,hbS,a1,hjj,bA];refine hX _ _ ⟨u',l++[(s,(x.pol.set T M ⟨0,1#16⟩).1)],rfl,e6,f6,by simpa [vX] using a2,by simp,fun y hy =>?_,by simp; omega,by simp; omega⟩
   rcases List.mem_append.1 hy with hy | hy
   ·exact ((hs y hy).mono e15).grew g5 hne a3
   ·simp only [List.mem_singleton] at hy
    subst hy;exact hset.grew g5 hne a3
  ·simp only [aV,h8,decide_false,hjj,bA]
   exact skip _ (e14.trans e5)
theorem S.f63 (hE:bF E) (h:mP H v l) (hl:l.length<=16) (hQ:∀ dv H',Ext H H'->lM H' dv l->Q dv H'):E.call (E.fid i.f63) [v] H Q:=by
 apply hE.f63;simp only [F.f63,h.len,bA];have i0:(.int .i64 0:Value)=vi ((0:Nat):Int):=rfl;rw [i0];refine aP.count l.length (fun j ls H'=>∃ dv,ls=[dv,v,vi l.length,vi j]/\Ext H H'/\lM H' dv (l.take j)) ?_ ⟨.pointer none,rfl,Ext.refl _,.inl ⟨rfl,by simp⟩⟩
 rintro j _ H1 X hj hX ⟨dv,rfl,e1,hd⟩;rcases Nat.lt_or_ge j l.length with hjl | hjl
 ·have hX:=hX hjl
  have hjl':(j:Int)<l.length:=by omega
  have hjj:=cG (i:=j) (by omega)
  obtain ⟨b,o,p1,p2,p3⟩:=(h.mono e1).elem hjl;have htk:l.take (j+1)=l.take j++[l[j]]:=by rw [List.take_succ,List.getElem?_eq_getElem hjl]; rfl
  rw [htk] at hX;have hlt:(l.take j).length=j:=by rw [List.length_take]; omega
  generalize l[j]=y at *;simp only [F.f63_l1,aV,hjl',decide_true,p1,p2,bA];refine S.f7 hE hd p3 (by omega) (fun hb=>by omega) fun _ b' H2 e2 _ hd2 =>?_
  simp only [hjj,bA];exact hX _ _ ⟨_,rfl,e1.trans e2,hd2⟩
 ·have hjl':¬ (j:Int)<l.length:=by omega
  rw [List.take_of_length_le hjl] at hd;simp only [F.f63_l1,aV,hjl',decide_false,bA];exact hQ dv _ e1 hd
theorem sQ (h n:BitVec 16) (ps:List (BitVec 16×BitVec 16)) (l:List aG):(iZ.mk h [] ps).granted n l=0#16:=by
 unfold iZ.granted;have h0:(iZ.mk h [] ps).at_ n=0#16:=rfl;rw [h0]
 induction l with
 | nil=>rfl
 | cons p l ih =>
  rw [List.foldl_cons];have:(0#16|||(iZ.mk h [] ps).at_ p.i)=0#16:=by show (0#16|||0#16)=0#16; decide
  rw [this];exact ih
theorem kY.two {l:kY} {a b:iZ} (h:l.map Prod.snd=[a,b]) (want n:BitVec 16) (above:List aG):fE l want n above=a.denied want n above|||b.denied want n above:=by
 match l,h with
 | [x,y],h =>
  simp only [List.map_cons,List.map_nil,List.cons.injEq,and_true] at h;obtain ⟨rfl,rfl⟩:=h;simp [fE]
def yY (r:BitVec 16):dZ:=⟨0#8,0#8,0#8,[],r,[],[],[]⟩
theorem S.f61 (hE:bF E) (hQ:∀ H',Ext H H'->Q (vb true) H'):E.call (E.fid i.f61) [] H Q:=by
 apply hE.f61;simp only [F.f61];refine S.f59 hE fun H1 e1 =>?_;simp only [bA];refine S.f127 hE 9 fun w H2 h2 =>?_
 have hbs:buildS 2 1 #[(.int .u16 0)] [(0,(.int .u16 4)),(1,(.int .u16 2))]=some (.cells [u16 4#16,u16 2#16] none,dL 2 2):=eT 2 1 [u16 0#16] [(0,u16 4#16),(1,u16 2#16)] [u16 4#16,u16 2#16] rfl rfl rfl rfl (by
  intro v hv;simp only [List.mem_cons,List.not_mem_nil,or_false] at hv;rcases hv with rfl | rfl <;> rfl)
 have l2:AM.lenSlc (slc H2.next 0 2 2)=some (vi ((2:Nat):Int)):=rfl;have i0:(.int .i64 0:Value)=vi ((0:Nat):Int):=rfl;simp only [hbs,l2,i0,bA];have x3:Ext H2 (H2.new (.cells [u16 4#16,u16 2#16] none)):=(Ext.refl _).new _;have hb3:=AH.get_new_self H2 (.cells [u16 4#16,u16 2#16] none);have h3:=h2.mono x3;generalize H2.new (.cells [u16 4#16,u16 2#16] none)=H3 at *;generalize H2.next=b at *
 let rs:List (BitVec 16):=[4#16,2#16]
 refine aP.count 2 (fun j ls H'=>∃ dv l,ls=[ptr w 0,dv,slc b 0 2 2,vi ((2:Nat):Int),vi j]/\Ext H3 H'/\lM H' dv l/\l.map Prod.snd=(rs.take j).map (fun r=>⟨r,[],[]⟩)) ?_ ⟨.pointer none,[],rfl,Ext.refl _,.inl ⟨rfl,rfl⟩,rfl⟩;rintro j _ H4 X hj hX ⟨dv,l,rfl,e4,hd,hm⟩;have h4:=h3.mono e4;rcases Nat.lt_or_ge j 2 with hj2 | hj2
 ·have hX:=hX hj2
  have hjl':((j:Nat):Int)<((2:Nat):Int):=by omega
  have hjj:=cG (i:=j) (by omega)
  have hll:l.length=j:=by
   have:=congrArg List.length hm;simp [rs] at this;omega
  obtain ⟨r,hr,p2⟩:∃ r:BitVec 16,rs[j]? = some r/\(aK 1 (slc b 0 2 2) (vi j)=some (ptr b j)/\(H4.get b).cell j=some (u16 r)):=by
   rw [e4.cells hb3]
   match j,hj2 with
   | 0,_=>exact ⟨4#16,rfl,rfl,rfl⟩
   | 1,_=>exact ⟨2#16,rfl,rfl,rfl⟩
  have htk:rs.take (j+1)=rs.take j++[r]:=by rw [List.take_succ,hr]; rfl
  have hr2:(r&&&51199#16)=r:=by
   have:r∈rs:=List.mem_of_getElem? hr;simp only [rs,List.mem_cons,List.not_mem_nil,or_false] at this;rcases this with rfl | rfl <;> rfl
  have hbv:aT [(0,1),(1,1),(2,1),(3,1),(4,1),(5,1),(6,1),(7,1)] #[(.int .u8 0),(.int .u8 0),(.int .u8 0),(.slice none 0 0),(.int .u16 0),(.slice none 0 0),(.slice none 0 0),(.slice none 0 0)] [(4,u16 r)]=some (.agg [u8 0#8,u8 0#8,u8 0#8,aW,u16 r,aW,aW,aW].toArray):=rfl;have hsm:gO H4 (yY r) [u8 0#8,u8 0#8,u8 0#8,aW,u16 r,aW,aW,aW]:=⟨aW,aW,aW,aW,rfl,⟨[],Rows.nil _ _ none,rfl,fun i h=>by simp [yY] at h⟩,Rows.nil _ _ none,Rows.nil _ _ none,Rows.nil _ _ none,by simp [yY],by simp [yY],by simp [yY],by simp [yY]⟩
  simp only [F.f61_l1,aV,hjl',decide_true,p2.1,p2.2,hbv,bA];refine S.f50 hE (yY r) _ hsm fun H5 cp e5 hp =>?_;refine S.f46 hE fun H6 e6 =>?_;have h6:=(h4.mono e5).mono e6
  have hset:(zD.set (Tr.new 9) gC ⟨0,1#16⟩ (yY r).pol)=(⟨r,[],[]⟩,0):=by
   show (iZ.mk (r&&&51199#16) [] [],(0:Int))=_
   rw [hr2]
  refine S.f92 hE h6.at_ (Tr.new_wf 9) (Tr.KD.lt (Tr.KD.new 9)) (yY r).pol cp (hp.mono e6) ⟨by show (0:Nat)<_; omega,by show (0:Nat)<_; omega⟩ (fun b hb=>by simp [yY,dZ.pol,dZ.pathsTo] at hb) ⟨0,1#16⟩ (fun hbad=>by rw [hset] at hbad; exact (hbad rfl).elim) fun _ s H7 e7 _ hs =>?_
  rw [hset] at hs;simp only [bA];refine S.f7 hE (hd.mono (e5.trans (e6.trans e7))) hs (by omega) (fun hb=>by omega) fun _ b' H8 e8 _ hd8 =>?_
  simp only [hjj,bA];refine hX _ _ ⟨_,l++[(s,⟨r,[],[]⟩)],rfl,e4.trans (e5.trans (e6.trans (e7.trans e8))),hd8,?_⟩;rw [htk];simp [hm]
 ·have:j=2:=by omega
  subst this;have hlt:¬ (((2:Nat):Int)<((2:Nat):Int)):=by omega
  have hm:l.map Prod.snd=[⟨4#16,[],[]⟩,⟨2#16,[],[]⟩]:=hm
  have hll:(l.length:Int)=2:=by
   have:=congrArg List.length hm;simp at this;omega
  simp only [F.f61_l1,aV,hlt,decide_false,bA];refine S.f6 hE hd ?_;simp only [hll,bC,decide_true,bA];refine S.f46 hE fun H5 e5 =>?_;have n7:(.int .u16 7:Value)=u16 7#16:=rfl;have n1:(.int .u16 1:Value)=u16 1#16:=rfl;have n6:(.int .u16 6:Value)=u16 6#16:=rfl;simp only [n7,n1,bA];refine S.f2 hE (hd.mono e5) (h4.mono e5).at_ aEl (by omega) 7#16 1#16 ⟨0,1#16⟩ fun H6 e6 =>?_
  have hden:fE l 7#16 1#16 (pO (Tr.new 9) gC ⟨0,1#16⟩)=6#16:=by
   rw [kY.two hm];unfold iZ.denied;rw [sQ,sQ]; rfl
  simp only [hden,n6,mB,decide_true,bA];exact hQ _ (e1.trans (h4.ext.trans (e5.trans e6)))
end
end Go.AM
end
section
namespace Go.AM
set_option maxRecDepth 20000
section
variable {E:Sy} {H H' H0:AH} {Q:Value->AH->Prop} {b n c:Nat} {f:Option Nat} {cs:List Value}
theorem aB1 (hg:H.get b = .cells cs f) (hf:fits 1 (.cells cs f)=true) {i:Nat} (hi:i<n) (hn:n<=c):dK 1 (slc b 0 n c) (some (vi i)) none none H=some (slc b i (n - i) (c - i)):=by
 simp only [dK,hg,hf,bnd,Option.isSome_none,Bool.false_and,Bool.not_true,Bool.or_false,Bool.or_true,Bool.false_eq_true,if_false,Option.bind_some];rw [if_pos (by omega),Option.bind_some,if_pos (by omega),if_neg (by omega)]
 have:(⟨b,0,none⟩:Addr).add ((i:Int).toNat*1)=⟨b,i,none⟩:=by
  simp only [Addr.add,Int.toNat_natCast,Nat.zero_add]
  split <;> simp_all
 rw [this];simp only [Int.toNat_natCast]
theorem aJu (hg:H.get b = .cells cs f) (hf:fits 1 (.cells cs f)=true) {k:Nat} (hk:k<=n) (hk0:0<k) (hn:n<=c):dK 1 (slc b 0 n c) none (some (vi k)) none H=some (slc b 0 k c):=by
 simp only [dK,hg,hf,bnd,Option.isSome_none,Bool.false_and,Bool.not_true,Bool.or_false,Bool.or_true,Bool.false_eq_true,if_false,Option.bind_some];rw [if_pos (by omega),Option.bind_some,if_pos (show (k:Int).toNat<=c by simp; omega),if_neg (show ¬ c=0 by omega)]
 have:(⟨b,0,none⟩:Addr).add (0*1)=⟨b,0,none⟩:=by
  simp only [Addr.add,Nat.zero_mul]
  split <;> simp_all
 rw [this];simp only [Int.toNat_natCast,Nat.sub_zero]
abbrev pF (l:List (BitVec 16)):Prop:=l.Pairwise fun a b=>bU a b=true
theorem aIe (hg:H.get b = .cells cs f) {o n c:Nat} (hl:o+n<=cs.length):oP [(.int .u16 0)] (slc b o n c) H=some (H.put b (.cells (splice cs o (List.replicate n (u16 0#16))) f))\/(n=0/\oP [(.int .u16 0)] (slc b o n c) H=some H):=by
 cases n with
 | zero=>exact .inr ⟨rfl,rfl⟩
 | succ n =>
  left
  have hrep:oJ ((n+1)*1) #[u16 0#16]=List.replicate (n+1) (u16 0#16):=by
   rw [aA1 (n+1) 1 #[u16 0#16] rfl];simp
  simp only [oP,hg];rw [if_neg (by decide)]
  have hz:([(.int .u16 0)]:List Value).toArray = #[u16 0#16]:=rfl;simp only [List.length_cons,List.length_nil,Nat.zero_add,hz,hrep,List.length_replicate];rw [if_pos (by omega)]
theorem aCJ (hE:bF E) {d:List (BitVec 16)} {tail:List Value} (hg:H.get b = .cells (d.map u16++tail) f) (hf:f=none\/f=some 1) (hs:d.Pairwise fun a b=>a.toNat<=b.toNat) (hn:d.length=n) (hc:n<=c) (hsz:n<2 ^ 31) (hcs:tail.length=c - n) {k0:Nat} (h1:1<=k0) (h2:k0<n) (hr:pF (d.take k0)) (he:d[k0]? = d[k0 - 1]?)
  {X0:List Value->AH->Prop}
  (hQ:∀ k e H',dC [b] H H'->k<=n->Rows H' 1 (slc b 0 k c) (iR e)->pF e->(∀ x,x∈e↔x∈d)->Q (slc b 0 k c) H') :
  aP (fun l H X1=>F.f98_l2 E Q X0 (nth l 0) (nth l 1) (nth l 2) (nth l 3) H X1) [slc b 0 n c,vi k0,slc b k0 (n - k0) (c - k0),(.int .i64 1)] H:=by
 have i1:(.int .i64 1:Value)=vi ((1+0:Nat):Int):=rfl;have hlt:b<H.next:=AH.lt_cells hg;rw [i1]
 refine aP.count (n - k0 - 1) (fun j ls H'=>∃ (k:Nat) (e:List (BitVec 16)),ls=[slc b 0 n c,vi (k:Int),slc b k0 (n - k0) (c - k0),vi ((1+j:Nat):Int)]/\dC [b] H H'/\H'.get b = .cells (e.map u16++tail) f/\e.length=n/\1<=k/\k<=k0+j/\pF (e.take k)/\(∀ x,x∈e.take k↔x∈d.take (k0+1+j))/\e.drop (k0+j)=d.drop (k0+j)/\e[k - 1]? = d[k0+j]?) ?_
  ⟨k0,d,rfl,dC.refl _ _,hg,hn,h1,by omega,hr,?_,rfl,by rw [Nat.add_zero,he]⟩
 rotate_left
 ·intro x
  rw [Nat.add_zero,List.take_succ,he,List.getElem?_eq_getElem (by omega)]
  simp only [Option.toList_some,List.mem_append,List.mem_singleton];constructor
  ·exact .inl
  ·rintro (h | rfl)
   ·exact h
   ·exact List.mem_take_iff_getElem.2 ⟨k0 - 1,by omega,rfl⟩
 rintro j _ H1 X1 hj hX ⟨k,e,rfl,o1,g1,hen,hk1,hk2,hrk,hm,hd,hl⟩
 have gs:∀ i,i<n->aC (ptr b i) H1=some (u16 (e[i]?.getD 0#16)):=fun i hi=>by
  rw [aE,g1,oB,List.getElem?_append_left (by simp; omega),List.getElem?_map,List.getElem?_eq_getElem (by omega)]
  rfl
 have hlen:AM.lenSlc (slc b k0 (n - k0) (c - k0))=some (vi ((n - k0:Nat):Int)):=rfl;rcases Nat.lt_or_ge j (n - k0 - 1) with hjl | hjl
 ·have hX:=hX hjl
  have hjl':(((1+j:Nat):Int)<((n - k0:Nat):Int)):=by omega
  have s1:aA .sub (vi ((1+j:Nat):Int)) (.int .i64 1)=some (vi (j:Int)):=by
   show aA .sub (vi ((1+j:Nat):Int)) (vi 1)=_
   rw [fW (by omega) (by omega)]; congr 2; omega
  have a1:aA .add (vi ((1+j:Nat):Int)) (.int .i64 1)=some (vi ((1+(j+1):Nat):Int)):=by
   show aA .add (vi ((1+j:Nat):Int)) (vi 1)=_
   rw [cU (by omega) (by omega)]; congr 2
  have x1:aK 1 (slc b k0 (n - k0) (c - k0)) (vi ((1+j:Nat):Int))=some (ptr b (k0+1+j)):=by rw [lF _ _ _ _ _ _ (by omega)]; congr 2; omega
  have x2:aK 1 (slc b k0 (n - k0) (c - k0)) (vi (j:Int))=some (ptr b (k0+j)):=by rw [lF _ _ _ _ _ _ (by omega)]; congr 2; omega
  have q1:e[k0+1+j]? = d[k0+1+j]? :=by
   have:=congrArg (fun l=>l[1]?) hd;simp only [List.getElem?_drop] at this;rw [show k0+1+j=k0+j+1 by omega]; exact this
  have q2:e[k0+j]? = d[k0+j]? :=by
   have:=congrArg (fun l=>l[0]?) hd;simp only [List.getElem?_drop,Nat.add_zero] at this;exact this
  have l1:=gs (k0+1+j) (by omega)
  have l2:=gs (k0+j) (by omega)
  have hle:=List.pairwise_iff_getElem.1 hs (k0+j) (k0+1+j) (by omega) (by omega) (by omega)
  rw [q1,List.getElem?_eq_getElem (by omega)] at l1
  rw [q2,List.getElem?_eq_getElem (by omega)] at l2
  rw [List.getElem?_eq_getElem (show k0+j<d.length by omega)] at hl
  have htk:d.take (k0+1+(j+1))=d.take (k0+1+j)++[d[k0+1+j]]:=List.take_succ_eq_append_getElem (show k0+1+j<d.length by omega)
  have hin:d[k0+j]∈d.take (k0+1+j):=List.mem_take_iff_getElem.2 ⟨k0+j,by omega,rfl⟩
  have hnx:d[k0+(j+1)]? = some d[k0+1+j]:=by
   have e:k0+(j+1)=k0+1+j:=by omega
   rw [e]; exact List.getElem?_eq_getElem (by omega)
  have hdr:∀ e':List (BitVec 16),e'.drop (k0+j)=d.drop (k0+j)->e'.drop (k0+(j+1))=d.drop (k0+(j+1)):=fun e' h=>by
   have:=congrArg (List.drop 1) h
   simpa [List.drop_drop,Nat.add_assoc] using this
  generalize d[k0+1+j]=y at *;generalize d[k0+j]=x at *;simp only [Option.getD_some] at l1 l2;simp only [F.f98_l2,hlen,aV,hjl',decide_true,x1,l1,s1,x2,l2,aDG,bA]
  by_cases hxy:y=x
  ·subst hxy
   simp only [ne_eq,not_true,decide_false,a1,bA];refine hX _ _ ⟨k,e,rfl,o1,g1,hen,hk1,by omega,hrk,fun z =>?_,hdr e hd,by rw [hl,hnx]⟩
   rw [hm,htk,List.mem_append,List.mem_singleton];exact ⟨.inl,fun h=>h.elim id fun h=>h▸hin⟩
  ·have x3:aK 1 (slc b 0 n c) (vi (k:Int))=some (ptr b k):=cK (by omega)
   have hkn:k<n:=by omega
   have hst:aR (ptr b k) (u16 y) H1=some (H1.put b (.cells ((e.set k y).map u16++tail) f)):=by
    rw [aM,if_pos (show plain1 (u16 y)=true from rfl),g1];have:k<(e.map u16++tail).length:=by simp; omega
    simp only [this,if_true];rw [List.set_append_left _ _ (by simp; omega),List.map_set]
   have hkk:=cG (i:=k) (by omega)
   have htk2:(e.set k y).take (k+1)=e.take k++[y]:=by
    rw [List.take_succ_eq_append_getElem (by simp; omega),List.take_set_of_le (Nat.le_refl _)]
    simp
   have hlt2:x.toNat<y.toNat:=by
    rcases Nat.lt_or_ge x.toNat y.toNat with h | h
    ·exact h
    ·exact (hxy (BitVec.eq_of_toNat_eq (by omega))).elim
   have hmax:∀ z∈e.take k,z.toNat<=x.toNat:=by
    intro z hz;obtain ⟨i,hi,rfl⟩:=List.getElem_of_mem hz;have hi':i<k:=by simp at hi; omega
    have hx:e[k - 1]'(by omega)=x:=by
     have:=hl;rw [List.getElem?_eq_getElem (by omega)] at this
     exact Option.some.inj this
    rw [List.getElem_take]
    by_cases hik:i=k - 1
    ·subst hik; rw [hx]; exact Nat.le_refl _
    ·have:=List.pairwise_iff_getElem.1 hrk i (k - 1) (by simp; omega) (by simp; omega) (by omega)
     simp only [List.getElem_take,bU,decide_eq_true_eq] at this;rw [hx] at this;omega
   simp only [ne_eq,hxy,not_false_eq_true,decide_true,x1,l1,x3,hst,hkk,a1,bA];refine hX _ _ ⟨k+1,e.set k y,rfl,o1.put (.inl (by simp)) _,AH.get_put_self _ _ (Nat.lt_of_lt_of_le hlt o1.1),by simp [hen],by omega,by omega,?_,fun z =>?_,?_,?_⟩
   ·rw [htk2]
    refine List.pairwise_append.2 ⟨hrk,by simp,fun z hz w hw =>?_⟩
    simp only [List.mem_singleton] at hw;subst hw;have:=hmax z hz;simp only [bU,decide_eq_true_eq];omega
   ·rw [htk2,htk,List.mem_append,List.mem_append,hm]
   ·rw [List.drop_set_of_lt (by omega)]; exact hdr e hd
   ·rw [hnx,Nat.add_sub_cancel,List.getElem?_set_self (by omega)]
 ·have hj':j=n - k0 - 1:=by omega
  have hjl':¬ (((1+j:Nat):Int)<((n - k0:Nat):Int)):=by omega
  have hfit:fits 1 (.cells (e.map u16++tail) f)=true:=by rcases hf with rfl | rfl <;> rfl
  have hkn:k<n:=by omega
  have s1:=aB1 (n:=n) (c:=c) g1 hfit hkn hc;have hdt:d.take (k0+1+j)=d:=List.take_of_length_le (by omega)
  rw [hdt] at hm;have hcl:(e.map u16++tail).length=c:=by simp; omega
  have fin:∀ cs' H2,dC [b] H H2->H2.get b = .cells cs' f->cs'.take k=(e.take k).map u16->cs'.length=c->opt (dK 1 (slc b 0 n c) none (some (vi (k:Int))) none H2) fun v16=>Q v16 H2:=by
   intro cs' H2 o2 g2 ht hl2;have hfit2:fits 1 (.cells cs' f)=true:=by rcases hf with rfl | rfl <;> rfl
   rw [aJu g2 hfit2 (by omega) hk1 hc,aD]
   refine hQ k (e.take k) H2 o2 (by omega) ?_ hrk hm
   have hek:(iR (e.take k)).length=k:=by rw [cM,List.length_take]; omega
   refine ⟨fun r hr=>by obtain ⟨x,_,rfl⟩:=List.mem_map.1 hr; rfl,.inr ⟨b,0,c,by rw [hek],by omega,by rw [g2]; exact hfit2,?_⟩⟩
   rw [g2,jB,if_pos (by rw [hek]; omega)]
   rw [hek,List.drop_zero,Nat.mul_one,ht]
   congr 1
   unfold iR
   induction e.take k with
   | nil=>rfl
   | cons a l ih=>simp [ih]
  simp only [F.f98_l2,hlen,aV,hjl',decide_false,s1,bA];rcases aIe (n:=n - k) (c:=c - k) (o:=k) g1 (by omega) with h | ⟨h0,h⟩
  ·rw [h,aD]
   refine fin _ _ (o1.put (.inl (by simp)) _) (AH.get_put_self _ _ (Nat.lt_of_lt_of_le hlt o1.1)) ?_ ?_
   ·have hk:k<=(e.map u16++tail).length:=by rw [hcl]; omega
    unfold splice;rw [List.append_assoc,List.take_left' (by rw [List.length_take]; omega),List.take_append_of_le_length (by simp; omega),List.map_take]
   ·rw [gK (by simp; omega)]; exact hcl
  ·omega
theorem S.f98 (hE:bF E) {d:List (BitVec 16)} {tail:List Value} (hg:H.get b = .cells (d.map u16++tail) f) (hf:f=none\/f=some 1) (hs:d.Pairwise fun a b=>a.toNat<=b.toNat) (hn:d.length=n) (hc:n<=c) (hsz:n<2 ^ 31) (hcs:tail.length=c - n)
  (hQ:∀ k e H',dC [b] H H'->Rows H' 1 (slc b 0 k c) (iR e)->pF e->(∀ x,x∈e↔x∈d)->Q (slc b 0 k c) H'):E.call (E.fid i.f98) [slc b 0 n c] H Q:=by
 apply hE.f98;have hlen:AM.lenSlc (slc b 0 n c)=some (vi (n:Int)):=rfl;have hfit:fits 1 (H.get b)=true:=by rw [hg]; rcases hf with rfl | rfl <;> rfl
 have rows:Rows H 1 (slc b 0 n c) (iR d):=by
  refine ⟨fun r hr=>by obtain ⟨x,_,rfl⟩:=List.mem_map.1 hr; rfl,.inr ⟨b,0,c,by rw [cM,hn],by rw [cM]; omega,hfit,?_⟩⟩
  rw [hg,jB,if_pos (by rw [cM,List.length_append,List.length_map]; omega)]
  rw [cM,List.drop_zero,Nat.mul_one,List.take_left' (by simp)]
  congr 1
  unfold iR;clear hs hn hg hQ hfit
  induction d with
  | nil=>rfl
  | cons a l ih=>simp [ih]
 simp only [F.f98,hlen,aV,bA]
 by_cases h2:(n:Int)<2
 ·simp only [h2,decide_true,bA]
  refine hQ n d H (dC.refl _ _) rows ?_ fun _=>Iff.rfl;cases d with
  | nil=>simp
  | cons a l =>
   cases l with
   | nil=>simp
   | cons b l=>simp at hn; omega
 simp only [h2,decide_false,bA];have i1:(.int .i64 1:Value)=vi ((1+0:Nat):Int):=rfl;rw [i1];refine aP.count (n - 1) (fun j ls H'=>ls=[slc b 0 n c,vi ((1+j:Nat):Int)]/\H'=H/\pF (d.take (1+j))) ?_ ⟨rfl,rfl,?_⟩
 rotate_left
 ·cases d with
  | nil=>simp
  | cons a l=>simp
 rintro j _ H1 X1 hj hX ⟨rfl,rfl,hr⟩
 have gs:∀ i (hi:i<n),aC (ptr b i) H1=some (u16 (d[i]'(by omega))):=fun i hi=>by
  rw [aE,hg,oB,List.getElem?_append_left (by simp; omega),List.getElem?_map,List.getElem?_eq_getElem (by omega)]
  rfl
 rcases Nat.lt_or_ge j (n - 1) with hjl | hjl
 ·have hX:=hX hjl
  have hjl':(((1+j:Nat):Int)<(n:Int)):=by omega
  have s1:aA .sub (vi ((1+j:Nat):Int)) (.int .i64 1)=some (vi (j:Int)):=by
   show aA .sub (vi ((1+j:Nat):Int)) (vi 1)=_
   rw [fW (by omega) (by omega)]; congr 2; omega
  have a1:aA .add (vi ((1+j:Nat):Int)) (.int .i64 1)=some (vi ((1+(j+1):Nat):Int)):=by
   show aA .add (vi ((1+j:Nat):Int)) (vi 1)=_
   rw [cU (by omega) (by omega)]; congr 2
  have x1:aK 1 (slc b 0 n c) (vi ((1+j:Nat):Int))=some (ptr b (1+j)):=cK (by omega)
  have x2:aK 1 (slc b 0 n c) (vi (j:Int))=some (ptr b j):=cK (by omega)
  have l1:=gs (1+j) (by omega)
  have l2:=gs j (by omega)
  have hle:=List.pairwise_iff_getElem.1 hs j (1+j) (by omega) (by omega) (by omega)
  have htk:d.take (1+(j+1))=d.take (1+j)++[d[1+j]]:=List.take_succ_eq_append_getElem (show 1+j<d.length by omega)
  have hmx:∀ z∈d.take (1+j),z.toNat<=d[j].toNat:=by
   intro z hz;obtain ⟨i,hi,rfl⟩:=List.getElem_of_mem hz;have hi':i<1+j:=by simp at hi; omega
   rw [List.getElem_take]
   by_cases hij:i=j
   ·subst hij; exact Nat.le_refl _
   ·exact List.pairwise_iff_getElem.1 hs i j (by omega) (by omega) (by omega)
  have heq:d[1+j]=d[j]->d[1+j]? = d[1+j - 1]? :=fun h=>by
   have e:1+j - 1=j:=by omega
   rw [List.getElem?_eq_getElem (show 1+j<d.length by omega),e,List.getElem?_eq_getElem (show j<d.length by omega),h]
  generalize d[1+j]=y at *;generalize d[j]=x at *;simp only [F.f98_l1,hlen,aV,hjl',decide_true,x1,l1,s1,x2,l2,mB,bA]
  by_cases hxy:y=x
  ·have hfit':fits 1 (.cells (d.map u16++tail) f)=true:=by rw [<- hg]; exact hfit
   simp only [hxy,decide_true,aB1 hg hfit' (show 1+j<n by omega) hc,bA]
   exact aCJ hE hg hf hs hn hc hsz hcs (k0:=1+j) (by omega) (by omega) hr (heq hxy) fun k e H' o _ r1 r2 r3=>hQ k e H' o r1 r2 r3
  ·simp only [hxy,decide_false,a1,bA]
   refine hX _ _ ⟨rfl,rfl,?_⟩;rw [htk];refine List.pairwise_append.2 ⟨hr,by simp,fun z hz w hw =>?_⟩
   simp only [List.mem_singleton] at hw;subst hw;have:=hmx z hz;have:w≠x:=hxy;have:w.toNat≠x.toNat:=fun h=>this (BitVec.eq_of_toNat_eq h);simp only [bU,decide_eq_true_eq];omega
 ·have hj':j=n - 1:=by omega
  have hjl':¬ (((1+j:Nat):Int)<(n:Int)):=by omega
  rw [List.take_of_length_le (by omega)] at hr
  simp only [F.f98_l1,hlen,aV,hjl',decide_false,bA];exact hQ n d H1 (dC.refl _ _) rows hr fun _=>Iff.rfl
end
end Go.AM
end
section
namespace Go.AM
set_option maxRecDepth 20000
def qS (l:kY):BitVec 16:=l.foldl (fun r x=>r|||x.2.h) 0#16
def kE (l:kY):List (BitVec 16):=l.flatMap fun x=>x.2.inodes
theorem aAb (l:kY) {j:Nat} (h:j<l.length):qS (l.take (j+1))=qS (l.take j)|||(l[j]).2.h:=by
 unfold qS;rw [List.take_succ_eq_append_getElem h,List.foldl_append]; rfl
theorem wB (l:kY) {j:Nat} (h:j<l.length):kE (l.take (j+1))=kE (l.take j)++(l[j]).2.inodes:=by
 unfold kE;rw [List.take_succ_eq_append_getElem h,List.flatMap_append]; simp
section
variable {E:Sy} {H H' H0:AH} {Q:Value->AH->Prop} {dv v:Value} {l:kY} {s:Nat} {d:iZ}
theorem iJ.inodes_len (h:iJ H s d):d.inodes.length<=65536:=by
 obtain ⟨_,_,_,h2,_⟩:=h;have:=aA3 (l:=d.paths.map Prod.fst) (by obtain ⟨_,_,_,_,_,_,h5⟩:=h2; exact h5)
 have:=(pI (d.paths.map Prod.fst)).length_eq;unfold iZ.inodes;omega
theorem S.f3 (hE:bF E) (h:lM H dv l) (hl:l.length<2 ^ 62) (hQ:Q (u16 (qS l)) H):E.call (E.fid i.f3) [dv] H Q:=by
 apply hE.f3;have n0:(.int .u16 0:Value)=u16 (qS []):=rfl;rcases h with ⟨rfl,rfl⟩ | ⟨b,v,rfl,hb,h⟩
 ·simp only [F.f3,aKO,n0,bA]
  exact hQ
 ·have i0:(.int .i64 0:Value)=vi ((0:Nat):Int):=rfl
  simp only [F.f3,aBr,hb,h.len,n0,i0,bA];refine aP.count l.length (fun j ls H'=>ls=[u16 (qS (l.take j)),v,vi l.length,vi j]/\H'=H) ?_ ⟨rfl,rfl⟩;rintro j _ H1 X hj hX ⟨rfl,rfl⟩;rcases Nat.lt_or_ge j l.length with hjl | hjl
  ·have hX:=hX hjl
   have hjl':(j:Int)<l.length:=by omega
   have hjj:=cG (i:=j) (by omega)
   obtain ⟨b',o',p1,p2,p3⟩:=h.elem hjl;rw [aAb l hjl] at hX;simp only [F.f3_l1,aV,hjl',decide_true,p1,p2,bA];refine S.f96 hE p3 ?_;simp only [tW,hjj,bA];exact hX _ _ ⟨rfl,rfl⟩
  ·have hjl':¬ (j:Int)<l.length:=by omega
   rw [List.take_of_length_le hjl];simp only [F.f3_l1,aV,hjl',decide_false,bA];exact hQ
theorem S.slices_Compact_inode_Number_nil (hE:bF E) (hQ:Q aW H):E.call (E.fid i.f98) [aW] H Q:=by
 apply hE.f98;have hl:AM.lenSlc aW=some (vi 0):=rfl;have h2:(0:Int)<2:=by decide
 simp only [F.f98,hl,aV,h2,decide_true,bA];exact hQ
theorem S.f4 (hE:bF E) (h:lM H dv l) (hl:l.length<=1000) (hQ:∀ v e H',Ext H H'->Rows H' 1 v (iR e)->pF e->(∀ x,x∈e↔x∈kE l)->Q v H'):E.call (E.fid i.f4) [dv] H Q:=by
 apply hE.f4;rcases h with ⟨rfl,rfl⟩ | ⟨b,v,rfl,hb,h⟩
 ·simp only [F.f4,aJn,bA]
  exact hQ aW [] H (Ext.refl _) (Rows.nil _ _ none) (by simp) (by simp [kE])
 have i0:(.int .i64 0:Value)=vi ((0:Nat):Int):=rfl;have zn:(.slice none 0 0:Value)=aW:=rfl;have g0:Has H H H [bT 1 aW []]:=(Has.start (Ext.refl H)).nils 1;simp only [F.f4,kQ,hb,h.len,i0,zn,bA];refine aP.count l.length (fun j ls H'=>∃ u,ls=[u,v,vi l.length,vi j]/\Has H H H' [bT 1 u (iR (kE (l.take j)))]/\(kE (l.take j)).length<=65536*j) ?_ ⟨aW,rfl,g0,by simp [kE]⟩
 rintro j _ H1 X hj hX ⟨u,rfl,g1,hlen⟩;have h1:=h.mono g1.ext;rcases Nat.lt_or_ge j l.length with hjl | hjl
 ·have hX:=hX hjl
  have hjl':(j:Int)<l.length:=by omega
  have hjj:=cG (i:=j) (by omega)
  obtain ⟨b',o',p1,p2,p3⟩:=h1.elem hjl;have hil:=p3.inodes_len;rw [wB l hjl] at hX;generalize l[j]=y at *;simp only [F.f4_l1,aV,hjl',decide_true,p1,p2,bA];refine S.f97 hE p3 fun w H2 e2 r2 _ =>?_;have g2:=g1.grow e2;obtain ⟨u',H3,a1,a2,g3⟩:=g2.app (k:=0) (bytes:=2) rfl r2 (fun r hr=>by obtain ⟨x,_,rfl⟩:=List.mem_map.1 hr; rfl) (by decide) (by decide) (by rw [cM,cM]; omega) (by rw [cM,cM]; omega)
  have hs:iR (kE (l.take j))++iR y.2.inodes=iR (kE (l.take j)++y.2.inodes):=by simp [iR]
  rw [hs] at g3;simp only [a1,hjj,bA];exact hX _ _ ⟨u',rfl,g3,by rw [List.length_append]; omega⟩
 ·have hjl':¬ (j:Int)<l.length:=by omega
  rw [List.take_of_length_le hjl] at g1 hlen;have hlen:(kE l).length<2 ^ 30:=by omega
  simp only [F.f4_l1,aV,hjl',decide_false,bA];have g:=g1.slice (k:=0) rfl;generalize kE l=a at *;rcases g.2 with ⟨hz,rfl⟩ | ⟨b,f,c,cs,q1,rfl,q3,q4,q5,q6,q7⟩
  ·have ha:a=[]:=by simpa [iR] using hz
   subst ha;refine S.slices_Sort_inode_Number_nil hE none ?_;refine S.slices_Compact_inode_Number_nil hE ?_;exact hQ aW [] H1 g1.ext (Rows.nil _ _ none) (by simp) (by simp)
  ·have fl:∀ l:List (BitVec 16),(iR l).flatten=l.map u16:=by
    intro l
    induction l with
    | nil=>rfl
    | cons a l ih=>simp only [iR,List.map_cons,List.flatten_cons] at ih ⊢; rw [ih]; rfl
   rw [fl,Nat.mul_one,cM] at q6;rw [cM] at q4 ⊢;rw [Nat.mul_one] at q5
   have hcs:H1.get b=gG u16 a.toArray (cs.drop a.length) f:=by
    rw [q3];unfold gG;rw [List.toList_toArray,<- q6,List.take_append_drop]
   have own:H.next<=b:=((g1.all (bT 1 (slc b 0 (iR a).length c) (iR a)) (by simp)).2 b (by simp [bT,eF,blk])).1
   refine S.f100 hE xZ hcs (by simp) (by omega) fun d' H2 hp2 hs2 st =>?_
   have hsz:d'.size=a.length:=by have:=hp2.1; simpa using this
   have hperm:d'.toList.Perm a:=by
    have hpp:=hp2.2.2;have e1:(d'.extract 0 a.length).toList=d'.toList:=by rw [<- hsz]; simp
    have e2:(a.toArray.extract 0 a.length).toList=a:=by simp
    rw [e1,e2] at hpp;exact hpp
   have hsort:d'.toList.Pairwise fun x y=>x.toNat<=y.toNat:=by
    rw [List.pairwise_iff_getElem];intro i j hi hj hij;have hj':j<d'.size:=by simpa using hj
    have hi':i<d'.size:=by simpa using hi
    have:=hs2 i j (Nat.zero_le _) hij (by omega)
    simp only [bU,hi',hj',getElem!_pos,decide_eq_false_iff_not] at this
    simpa using this
   refine S.f98 hE (d:=d'.toList) (tail:=cs.drop a.length) (f:=f) st.get q7 hsort (by simpa using hsz) q4 (by omega) (by rw [List.length_drop,q5]) fun k e H3 o3 r3 r4 r5 =>?_
   refine hQ _ e H3 ?_ r3 r4 fun x=>by rw [r5]; exact hperm.mem_iff
   exact o3.ext (st.only.ext g1.ext fun x hx=>by simp at hx; subst hx; exact own) fun x hx=>by simp at hx; subst hx; exact own
end
end Go.AM
end
section
namespace Go.AM
set_option maxRecDepth 20000
section
variable {X:List Res} {E:Sy} {H0 H H' H'':AH} {Q:Value->AH->Prop} {w t s:Nat} {T T':Tr} {M M':List bL} {nx nx' k:Int} {d:iZ} {v dv:Value} {l:kY}
theorem mD.smalls {H:AH} {v:Value} (h:mD H (.slice 8 vY) v):∃ rows,Rows H 8 v rows/\rows.length<2 ^ 63/\∀ r∈rows,∃ x:dZ,gO H x r:=by
 obtain ⟨w,rows,e,h1,h2,h3⟩:=(show SV H (.slice 8 vY) [v] from h);obtain rfl:v=w:=by simpa using e
 exact ⟨rows,h1,by omega,fun r hr=>SV.small (h3 r hr)⟩
end
end Go.AM
end
section
namespace Go.AM
set_option maxRecDepth 20000
theorem zC (l:kY) (want n:BitVec 16) (A:List aG) (i:Nat):(fE l want n A).getLsbD i=l.any fun x=>(x.2.denied want n A).getLsbD i:=by
 unfold fE
 have:∀ (l:kY) (r:BitVec 16),(l.foldl (fun r x=>r|||x.2.denied want n A) r).getLsbD i=(r.getLsbD i||l.any fun x=>(x.2.denied want n A).getLsbD i):=by
  intro l
  induction l with
  | nil=>intro r; simp
  | cons x l ih=>intro r; rw [List.foldl_cons,ih]; simp [Bool.or_assoc]
 rw [this];simp
end Go.AM
end
