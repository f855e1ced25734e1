/- CONTRACTS ON THE PRINTED FUNCTIONS. -/
import Derived.Test.YtfobgbnjicmnaaaGreatDoorKa406C1
set_option linter.all false
section
namespace Go.AM
set_option maxRecDepth 20000
section
variable {E:Sy} {H H' H0 Z:AH} {Q:Value->AH->Prop} {A B R R':List Res} {K:KI} {fc xc:List Value} {own:List (BitVec 16×(Int×Int))} {done:Int}
theorem nL {r:Res} {j:Nat} (h:R[j]? = some r):j<R.length:=(List.getElem?_eq_some_iff.1 h).1
theorem aAP {j:Nat} (hj:j<R.length) (r z:Res):(R++[z]).set j r=R.set j r++[z]:=by rw [List.set_append_left _ _ hj]
theorem S.f65 (hE:aU E) (g:Has H0 Z H (K.L fc xc own done++R)) (hx:xc[4]? = some (ptr K.f 0)) {dv:Value} {sl:uQ} (hxd:xc[7]? = some dv) (hd:lZ Z dv sl) (hsl:sl.length<2 ^ 62) {a ja:Nat} {n:BitVec 32} {A B:BitVec 64} (ha:R[ja]? = some (aF a (dL K n A B)))
  (q:Nat) (hi:q<16) {o jo:Nat} {lis:Bool} (hv:fc[q]? = some (ptr o 0)) (ho:R[jo]? = some (aF o (bQ (-1) lis))) (p:BitVec 16) (hp0:p≠0#16)
  (hno:(sl.all fun x=>x.2.port 16384#16 p)=false->∀ H',Has H0 Z H' (K.L fc xc own done++R)->Q (.agg (gZ (-1) 13).toArray) H')
  (huse:(sl.all fun x=>x.2.port 16384#16 p)=true->(iD own p).1 > 0->∀ H',Has H0 Z H' (K.L fc xc own done++R)->Q (.agg (gZ (-1) 98).toArray) H')
  (hok:(sl.all fun x=>x.2.port 16384#16 p)=true->¬ (iD own p).1 > 0->∀ H',Has H0 Z H' (K.L fc xc (dQ p (1,0) own) done++R.set jo (aF o (bQ p.toNat lis)))->Q (.agg (gZ p.toNat 0).toArray) H') :
  E.call (E.fid i.f65) [ptr a 0,u64 (BitVec.ofNat 64 q),u64 (p.setWidth 64)] H Q:=by
 apply hE.f65;have g1:=(g.newbox z4).assoc;simp only [F.f65,aP,aD];generalize H.new (.cells z4 none)=H1 at *;refine S.f73 hE g1 hx (aY ha) q hi hv (aY ho) ?_;have hp:(p.setWidth 64).toNat=p.toNat:=by simp; omega
 have hgt:¬ (65535#64:BitVec 64).toNat<(p.setWidth 64).toNat:=by rw [hp]; show ¬ 65535<p.toNat; have:=p.isLt; omega
 have k6:(.int .u64 65535:Value)=u64 65535#64:=rfl;have g4:aA .neq (vi 0) (.int .i64 0)=some (vb false):=rfl;have hba:=g1.box (b:=a) (dK (K.L fc xc own done) (aY ha));have hbo:=g1.box (b:=o) (dK (K.L fc xc own done) (aY ho));have hbx:=g1.box (k:=4) (b:=K.x) rfl;have a1:(dL K n A B)[1]? = some (ptr K.x 0):=rfl;have o5:(bQ (-1) lis)[5]? = some (vi (-1)):=rfl;have c5:aA .geq (vi (-1)) (.int .i64 0)=some (vb false):=rfl
 have hcv:aR .u16 (u64 (p.setWidth 64))=some (u16 p):=by
  rw [zI]; congr 2;apply BitVec.eq_of_toNat_eq; simp
 have kc:(.int .u16 16384:Value)=u16 16384#16:=rfl;simp only [cZ,List.getElem?_cons_zero,List.getElem?_cons_succ,g4,k6,aFI,hgt,decide_false,hbo,o5,c5,hba,a1,hbx,hxd,hcv,kc,aD];refine S.f20 hE (hd.sub g1.sub) hsl 16384#16 p ?_;cases hm:(sl.all fun x=>x.2.port 16384#16 p) with
 | false =>
  simp only [aD];refine S.f2 hE 13 fun H2 e2 =>?_;exact jJ (g1.grow e2) rfl rfl rfl (hno hm)
 | true =>
  have hbk:=g1.box (k:=8) (b:=K.k) rfl;have a0:(dL K n A B)[0]? = some (ptr K.k 0):=rfl;have k2:(kC K.w K.tk K.pt K.nt K.ps K.fs done)[2]? = some (ptr K.pt 0):=rfl;simp only [hba,a0,hbk,k2,hcv,aD];refine S.f130 hE g1 p hp0 (fun hu =>?_) fun hu H2 g2 =>?_
  ·have g98:aA .neq (vi 98) (.int .i64 0)=some (vb true):=rfl
   simp only [cZ,List.getElem?_cons_zero,List.getElem?_cons_succ,g98,aD];refine S.f2 hE 98 fun H2 e2 =>?_;exact jJ (g1.grow e2) rfl rfl rfl (huse hm hu)
  ·have hbo2:=g2.box (b:=o) (dK (K.L fc xc (dQ p (1,0) own) done) (aY ho))
   have hs:=gL (H:=H2) (j:=5) (v:=vi (p.toNat:Int)) hbo2 (show 5<7 by decide) rfl
   have hset:(bQ (-1) lis).set 5 (vi (p.toNat:Int))=bQ p.toNat lis:=rfl;rw [hset] at hs;have g3:=g2.put (b:=o) (dK (K.L fc xc (dQ p (1,0) own) done) (aY ho)) (bQ p.toNat lis);rw [aAN,aAP (nL ho)] at g3;have hro:(R.set jo (aF o (bQ p.toNat lis)))[jo]? = some (aF o (bQ p.toNat lis)):=by rw [List.getElem?_set_self (nL ho)]
   have hbo3:=g3.box (b:=o) (dK (K.L fc xc (dQ p (1,0) own) done) (aY hro));have d5:(bQ p.toNat lis)[5]? = some (vi (p.toNat:Int)):=rfl;simp only [cZ,List.getElem?_cons_zero,List.getElem?_cons_succ,g4,aEW,hs,hbo3,d5,aD];refine S.f1 hE _ fun H4 e4 =>?_;exact jJ (g3.grow e4) rfl rfl rfl (hok hm hu)
theorem S.f77 (hE:aU E) (g:Has H0 Z H (K.L fc xc own done++R)) (hx:xc[4]? = some (ptr K.f 0)) {a ja:Nat} {n:BitVec 32} {A B:BitVec 64} (ha:R[ja]? = some (aF a (dL K n A B)))
  (q:Nat) (hi:q<16) {o jo:Nat} (hj:ja≠jo) {port:Int} (hv:fc[q]? = some (ptr o 0)) (ho:R[jo]? = some (aF o (bQ port false)))
  (hno:port = -1->∀ H',Has H0 Z H' (K.L fc xc own done++R)->Q (.agg (gZ (-1) 22).toArray) H')
  (hok:∀ p:BitVec 16,port=p.toNat->iD own p=(1,0)/\∀ H',Has H0 Z H' (K.L fc xc (dQ p (1,1) own) done++R.set jo (aF o (bQ p.toNat true)))->Q (.agg (gZ 0 0).toArray) H') (hpt:port = -1\/∃ p:BitVec 16,port=p.toNat) :
  E.call (E.fid i.f77) [ptr a 0,u64 (BitVec.ofNat 64 q)] H Q:=by
 apply hE.f77;have g1:=(g.newbox z4).assoc;simp only [F.f77,aP,aD];generalize H.new (.cells z4 none)=H1 at *;refine S.f73 hE g1 hx (aY ha) q hi hv (aY ho) ?_;have g4:aA .neq (vi 0) (.int .i64 0)=some (vb false):=rfl;have hbo:=g1.box (b:=o) (dK (K.L fc xc own done) (aY ho));have o5:(bQ port false)[5]? = some (vi port):=rfl;have o6:(bQ port false)[6]? = some (vb false):=rfl;have i0:(.int .i64 0:Value)=vi 0:=rfl;rcases hpt with rfl | ⟨p,rfl⟩
 ·have c5:aA .lss (vi (-1)) (.int .i64 0)=some (vb true):=rfl
  simp only [cZ,List.getElem?_cons_zero,List.getElem?_cons_succ,g4,hbo,o5,c5,aD];refine S.f2 hE 22 fun H2 e2 =>?_;exact jJ (g1.grow e2) rfl rfl rfl (hno rfl)
 ·obtain ⟨hown,hok⟩:=hok p rfl
  have c5:¬ (p.toNat:Int)<0:=by omega
  have hs:=gL (H:=H1) (j:=6) (v:=vb true) hbo (show 6<7 by decide) rfl
  have hset:(bQ p.toNat false).set 6 (vb true)=bQ p.toNat true:=rfl;rw [hset] at hs;have g3:=g1.put (b:=o) (dK (K.L fc xc own done) (aY ho)) (bQ p.toNat true);rw [aAN,aAP (nL ho)] at g3;have hro:(R.set jo (aF o (bQ p.toNat true)))[jo]? = some (aF o (bQ p.toNat true)):=by rw [List.getElem?_set_self (nL ho)]
  have hbo3:=g3.box (b:=o) (dK (K.L fc xc own done) (aY hro));have d5:(bQ p.toNat true)[5]? = some (vi (p.toNat:Int)):=rfl;have hra:(R.set jo (aF o (bQ p.toNat true)))[ja]? = some (aF a (dL K n A B)):=by rw [List.getElem?_set_ne (Ne.symm hj)]; exact ha
  have hba3:=g3.box (b:=a) (dK (K.L fc xc own done) (aY hra));have hbk3:=g3.box (k:=8) (b:=K.k) rfl;have a0:(dL K n A B)[0]? = some (ptr K.k 0):=rfl;have k2:(kC K.w K.tk K.pt K.nt K.ps K.fs done)[2]? = some (ptr K.pt 0):=rfl
  have hcv:aR .u16 (vi (p.toNat:Int))=some (u16 p):=by
   rw [xY]; congr 2;rw [BitVec.ofInt_natCast,BitVec.ofNat_toNat,BitVec.setWidth_eq]
  simp only [cZ,List.getElem?_cons_zero,List.getElem?_cons_succ,g4,hbo,o5,o6,i0,aV,c5,decide_false,hs,hba3,a0,hbk3,k2,hbo3,d5,hcv,aD];refine S.f133 hE g3 p hown fun H4 g5 =>?_;refine S.f96 hE 0 fun H5 e5 =>?_;exact jJ (g5.grow e5) rfl rfl rfl hok
theorem S.f82 (hE:aU E) {nn:Bool} {dv:Value} (g:Has H0 Z H (K.L fc (dY K.f nn dv) own done++R)) {a ja:Nat} {n:BitVec 32} {A B:BitVec 64} (ha:R[ja]? = some (aF a (dL K n A B)))
  (hQ:∀ H',Has H0 Z H' (K.L fc (dY K.f true dv) own done++R)->Q (.agg (gZ 0 0).toArray) H'):E.call (E.fid i.f82) [ptr a 0,u64 1#64] H Q:=by
 apply hE.f82;have g1:=(g.newbox z4).assoc;have hne:aA .neq (u64 1#64) (.int .u64 1)=some (vb false):=rfl;have hba:=g1.box (b:=a) (dK (K.L fc (dY K.f nn dv) own done) (aY ha));have hbx:=g1.box (k:=4) (b:=K.x) rfl;have a1:(dL K n A B)[1]? = some (ptr K.x 0):=rfl;have hs:=gL (j:=5) (v:=vb true) hbx (show 5<8 by decide) rfl
 have hset:(dY K.f nn dv).set 5 (vb true)=dY K.f true dv:=rfl;rw [hset] at hs;have g2:=g1.put (k:=4) (b:=K.x) rfl (dY K.f true dv);simp only [F.f82,aP,hne,hba,a1,hs,aD];refine S.f1 hE 0 fun H2 e2 =>?_;have g2:Has H0 Z _ (K.L fc (dY K.f true dv) own done++(R++[aF H.next z4])):=g2;exact jJ (g2.grow e2) rfl rfl rfl hQ
end
end Go.AM
end
section
namespace Go.AM
set_option maxRecDepth 20000
section
variable {E:Sy} {H H' H0 Z:AH} {Q:Value->AH->Prop} {A B R R':List Res} {K:KI} {fc xc:List Value} {own:List (BitVec 16×(Int×Int))} {done:Int}
theorem yI {l:List Value} {j:Nat} (hj:j<16) {v:Value} (h:l[j]? = some v):yZ 16 1 (.agg l.toArray) (vi j)=some v:=by
 show (if (0:Int)<=j/\(j:Int)<(16:Nat) then mF _ ((j:Int).toNat*1) else none)=_
 rw [if_pos ⟨by omega,by omega⟩,Int.toNat_natCast,Nat.mul_one]
 show l.toArray[j]? = some v
 simpa using h
theorem S.f22 (hE:aU E) (g:Has H0 Z H (K.L fc xc own done++R)) (hl:fc.length=16) (q:Nat) (hq:q<16) (hpre:∀ j,j<q->∃ b,fc[j]? = some (ptr b 0)) (hnil:fc[q]? = some (.pointer none)) (oc:List Value)
  (hQ:∀ o H',Has H0 Z H' (K.L (fc.set q (ptr o 0)) xc own done++(R++[aF o oc]))->Q (.tuple #[vi q,vi 0]) H'):E.call (E.fid i.f22) [ptr K.f 0,.agg oc.toArray] H Q:=by
 apply hE.f22;have g1:=(g.newbox oc).assoc;have hbf:=g1.box (k:=3) (b:=K.f) rfl;have hld:aE 16 (ptr K.f 0) (H.new (.cells oc none))=some (.agg fc.toArray):=by rw [aL,hbf,fC _ _ 16 hl]; rfl
 simp only [F.f22,aZ,AM.aW,aS,List.toList_toArray,iI,hld,aD];generalize hH1:H.new (.cells oc none)=H1 at *;refine aM.count q (fun j ls H'=>ls=[ptr K.f 0,ptr H.next 0,.agg fc.toArray,vi j]/\H'=H1) ?_ ⟨rfl,rfl⟩;rintro j _ _ X hj hX ⟨rfl,rfl⟩;have hj16:(j:Int)<16:=by omega
 rcases Nat.lt_or_ge j q with hjl | hjl
 ·have hX:=hX hjl
  have hjj:=cU (i:=j) (by omega)
  obtain ⟨b,hb⟩:=hpre j hjl;simp only [F.f22_l1,fW,fV,gI,gJ,aV,hj16,decide_true,yI (by omega:j<16) hb,eY,hjj,aD]
  exact hX _ _ ⟨rfl,rfl⟩
 ·have hje:j=q:=by omega
  subst hje;have hnn:bW dB .eql (.pointer none) (.pointer none)=some (vb true):=rfl;have hix:cJ 16 1 (ptr K.f 0) (vi (j:Int))=some (ptr K.f j):=by rw [aGv 16 1 K.f 0 j hq]; simp
  have hs:=gL (j:=j) (v:=ptr H.next 0) hbf (by omega) rfl
  have g2:=g1.put (k:=3) (b:=K.f) rfl (fc.set j (ptr H.next 0));simp only [F.f22_l1,fW,fV,gI,gJ,aV,hj16,decide_true,yI hq hnil,hnn,hix,hs,aD];exact hQ _ _ g2
theorem S.kernel_act_hold_socket (hE:aU E) (a port:Value) (lis more:Value) (hQ:∀ H',Ext H H'->Q (.tuple #[]) H'):E.call (E.fid i.f74) [a,.agg [u8 3#8,vi 0,u16 0#16,vi 0,u16 0#16,port,lis].toArray,more] H Q:=by
 apply hE.f74;have hb:=AH.get_new_self H (.cells [u8 3#8,vi 0,u16 0#16,vi 0,u16 0#16,port,lis] none);have e3:aA .eql (u8 3#8) (.int .u8 3)=some (vb true):=rfl;simp only [F.f74,aZ,AM.aW,aS,List.toList_toArray,hb,e3,aD];exact hQ _ ((Ext.refl _).new _)
theorem S.f63 (hE:aU E) (g:Has H0 Z H (K.L fc xc own done++R)) (hx:xc[4]? = some (ptr K.f 0)) (hl:fc.length=16) (q:Nat) (hq:q<16) (hpre:∀ j,j<q->∃ b,fc[j]? = some (ptr b 0)) (hnil:fc[q]? = some (.pointer none)) {a ja:Nat} {n:BitVec 32} {A B:BitVec 64} (ha:R[ja]? = some (aF a (dL K n A B)))
  (hQ:∀ o H',Has H0 Z H' (K.L (fc.set q (ptr o 0)) xc own done++(R++[aF o (bQ (-1) false)]))->Q (.agg (gZ q 0).toArray) H') :
  E.call (E.fid i.f63) [ptr a 0,.agg (bQ (-1) false).toArray] H Q:=by
 apply hE.f63;have g1:=(g.newbox (bQ (-1) false)).assoc;have g2:=(g1.newbox z4).assoc;have hn1:(H.new (.cells (bQ (-1) false) none)).next=H.next+1:=rfl;rw [hn1] at g2;have r1:((R++[aF H.next (bQ (-1) false)])++[aF (H.next+1) z4])[R.length]? = some (aF H.next (bQ (-1) false)):=by simp
 have hb1:=g2.box (b:=H.next) (dK (K.L fc xc own done) r1);have hba:=g2.box (b:=a) (dK (K.L fc xc own done) (aY (aY ha)));have hbx:=g2.box (k:=4) (b:=K.x) rfl;have a1:(dL K n A B)[1]? = some (ptr K.x 0):=rfl;have hld:aE 7 (ptr H.next 0) ((H.new (.cells (bQ (-1) false) none)).new (.cells z4 none))=some (.agg (bQ (-1) false).toArray):=by rw [aL,hb1]; rfl
 simp only [F.f63,aZ,AM.aW,aS,List.toList_toArray,aP,hba,a1,hbx,hx,hld,aD];rw [hn1];generalize (H.new (.cells (bQ (-1) false) none)).new (.cells z4 none)=H2 at *;generalize hc:H.next=c at *;refine S.f22 hE g2 hl q hq hpre hnil _ fun o H3 g3 =>?_;have g4:aA .neq (vi 0) (.int .i64 0)=some (vb false):=rfl;have r3:(((R++[aF c (bQ (-1) false)])++[aF (c+1) z4])++[aF o (bQ (-1) false)])[R.length]? = some (aF c (bQ (-1) false)):=by simp
 have hb3:=g3.box (b:=c) (dK _ r3);have hld3:aE 7 (ptr c 0) H3=some (.agg (bQ (-1) false).toArray):=by rw [aL,hb3]; rfl
 simp only [cZ,List.getElem?_cons_zero,List.getElem?_cons_succ,g4,hld3,aD];refine S.kernel_act_hold_socket hE _ _ _ _ fun H4 e4 =>?_;refine S.f1 hE _ fun H5 e5 =>?_;have g5:=(g3.grow e4).grow e5
 have g6:Has H0 Z H5 (K.L (fc.set q (ptr o 0)) xc own done++(((R++[aF o (bQ (-1) false)])++[aF c (bQ (-1) false)])++[aF (c+1) z4])):=by
  refine g5.perm (List.Perm.append_left _ ?_);simp only [List.append_assoc];refine List.Perm.append_left _ ?_;exact List.perm_append_comm (l₁:=[aF c (bQ (-1) false),aF (c+1) z4]) (l₂:=[aF o (bQ (-1) false)])
 exact jJ g6 rfl rfl rfl fun H6 g7=>hQ o H6 g7.less
theorem S.f23 (hE:aU E) (g:Has H0 Z H (K.L fc xc own done++R)) (hl:fc.length=16) (q:Nat) (hq:q<16) {o jo:Nat} {oc:List Value} (hv:fc[q]? = some (ptr o 0)) (ho:R[jo]? = some (aF o oc)) (h7:oc.length=7) (hp:oc.all plain1=true)
  (hQ:∀ H',Has H0 Z H' (K.L (fc.set q (.pointer none)) xc own done++R)->Q (.tuple #[.agg oc.toArray,vi 0]) H'):E.call (E.fid i.f23) [ptr K.f 0,u64 (BitVec.ofNat 64 q)] H Q:=by
 apply hE.f23;generalize hz:([(.int .u8 0),(.int .i64 0),(.int .u16 0),(.int .i64 0),(.int .u16 0),(.int .i64 0),(.bool false)]:List Value)=z7;have hz7:z7.length=7:=by subst hz; rfl
 have g1:=(g.newbox z7).assoc;have hbf:=g1.box (k:=3) (b:=K.f) rfl;simp only [F.f23,hz,aP,iI,aD];generalize hr:H.next=r at *;generalize H.new (.cells z7 none)=H1 at *;refine S.f24 hE hbf q hq hv ?_;have hqi:(BitVec.ofNat 64 q).toNat=q:=by rw [BitVec.toNat_ofNat]; exact Nat.mod_eq_of_lt (by omega)
 have hix:cJ 16 1 (ptr K.f 0) (u64 (BitVec.ofNat 64 q))=some (ptr K.f q):=by
  show (if (0:Int)<=((BitVec.ofNat 64 q).toNat:Int)/\((BitVec.ofNat 64 q).toNat:Int)<(16:Nat) then _ else none)=_
  rw [hqi,if_pos ⟨by omega,by omega⟩]
  show some (Value.pointer (some ((⟨K.f,0,none⟩:Addr).add ((q:Int).toNat*1))))=_
  rw [Int.toNat_natCast,Nat.mul_one,aCf (a:=⟨K.f,0,none⟩) rfl,Nat.zero_add]
 have hs:=gL (j:=q) (v := .pointer none) hbf (by omega) rfl
 have g2:=g1.put (k:=3) (b:=K.f) rfl (fc.set q (.pointer none));have g2:Has H0 Z (H1.put K.f (.cells (fc.set q (.pointer none)) none)) (K.L (fc.set q (.pointer none)) xc own done++(R++[aF r z7])):=g2;have hbo:=g2.box (b:=o) (dK _ (aY ho));have hlo:aE 7 (ptr o 0) (H1.put K.f (.cells (fc.set q (.pointer none)) none))=some (.agg oc.toArray):=by rw [aL,hbo,fC _ _ 7 h7]; rfl
 simp only [eY,hix,hs,hlo,aD];generalize H1.put K.f (.cells (fc.set q (.pointer none)) none)=H2 at *;have hk:(R++[aF r z7])[R.length]? = some (aF r z7):=by simp
 have hbr:=g2.box (b:=r) (dK _ hk)
 have hst:aG 7 (ptr r 0) (.agg oc.toArray) H2=some (H2.put r (.cells oc none)):=by
  rw [cX,hbr];have:AM.bF z7 0 oc=oc:=by simp [bF,h7,hz7]
  simp only [List.size_toArray,List.toList_toArray,h7,hp,hz7,Nat.zero_add,Nat.le_refl,and_self,if_true,this]
 have g3:=g2.put (b:=r) (dK _ hk) oc;rw [aAN] at g3;have e3:(R++[aF r z7]).set R.length (aF r oc)=R++[aF r oc]:=by simp
 rw [e3] at g3;have hk3:(R++[aF r oc])[R.length]? = some (aF r oc):=by simp
 have hb3:=g3.box (b:=r) (dK _ hk3);have hl3:aE 7 (ptr r 0) (H2.put r (.cells oc none))=some (.agg oc.toArray):=by rw [aL,hb3,fC _ _ 7 h7]; rfl
 simp only [hst,hl3,aD];exact hQ _ g3.less
theorem aKa (port:Int) (lis:Bool):(bQ port lis).length=7/\(bQ port lis).all plain1=true:=⟨rfl,rfl⟩
theorem S.f90 (hE:aU E) (g:Has H0 Z H (K.L fc xc own done++R)) (hx:xc[4]? = some (ptr K.f 0)) (hl:fc.length=16) {a ja:Nat} {n:BitVec 32} {A B:BitVec 64} (ha:R[ja]? = some (aF a (dL K n A B))) (q:Nat) (hq:q<16)
  {o jo:Nat} {port:Int} {lis:Bool} (hv:fc[q]? = some (ptr o 0)) (ho:R[jo]? = some (aF o (bQ port lis))) {own':List (BitVec 16×(Int×Int))}
  (hpt:(port = -1/\own'=own)\/∃ p:BitVec 16,port=p.toNat/\lis=true/\own=[(p,(1,1))]/\own'=[])
  (hQ:∀ H',Has H0 Z H' (K.L (fc.set q (.pointer none)) xc own' done++R)->Q (.agg (gZ 0 0).toArray) H'):E.call (E.fid i.f90) [ptr a 0,u64 (BitVec.ofNat 64 q)] H Q:=by
 apply hE.f90;have g1:=(g.newbox z4).assoc;have hba:=g1.box (b:=a) (dK (K.L fc xc own done) (aY ha));have hbx:=g1.box (k:=4) (b:=K.x) rfl;have a1:(dL K n A B)[1]? = some (ptr K.x 0):=rfl;simp only [F.f90,aP,hba,a1,hbx,hx,aD];generalize hr:H.next=r at *;generalize H.new (.cells z4 none)=H1 at *;obtain ⟨h7,hp7⟩:=aKa port lis;refine S.f23 hE g1 hl q hq hv (aY ho) h7 hp7 fun H2 g2 =>?_;have g4:aA .neq (vi 0) (.int .i64 0)=some (vb false):=rfl;have hs3:aG 7 (ptr H2.next 0) (.agg (bQ port lis).toArray) (H2.new (.cells [(.int .u8 0),(.int .i64 0),(.int .u16 0),(.int .i64 0),(.int .u16 0),(.int .i64 0),(.bool false)] none))=some (H2.new (.cells (bQ port lis) none)):=eF rfl rfl rfl;have hl3:aE 7 (ptr H2.next 0) (H2.new (.cells (bQ port lis) none))=some (.agg (bQ port lis).toArray):=jR rfl;have g3:=g2.new (.cells (bQ port lis) none);simp only [cZ,List.getElem?_cons_zero,List.getElem?_cons_succ,aP,hs3,g4,hl3,aD];generalize H2.new (.cells (bQ port lis) none)=H3 at *;apply hE.f72;have g5:=(g3.newbox (bQ port lis)).assoc;have hk5:((R++[aF r z4])++[aF H3.next (bQ port lis)])[R.length+1]? = some (aF H3.next (bQ port lis)):=by simp
 have hb5:=g5.box (b:=H3.next) (dK _ hk5);have o0:(bQ port lis)[0]? = some (u8 3#8):=rfl;have o5:(bQ port lis)[5]? = some (vi port):=rfl;have o6:(bQ port lis)[6]? = some (vb lis):=rfl;have e3:aA .eql (u8 3#8) (.int .u8 3)=some (vb true):=rfl;have i0:(.int .i64 0:Value)=vi 0:=rfl;have hld:∀ {K':AH},K'.get H3.next = .cells (bQ port lis) none->aE 7 (ptr H3.next 0) K'=some (.agg (bQ port lis).toArray):=fun h=>by rw [aL,h]; rfl
 rcases hpt with ⟨rfl,rfl⟩ | ⟨p,rfl,rfl,rfl,rfl⟩
 ·have c5:aA .geq (vi (-1)) (vi 0)=some (vb false):=by rw [eP]; rfl
  simp only [F.f72,aZ,AM.aW,aS,List.toList_toArray,hb5,o0,e3,o5,i0,c5,hld hb5,aD];refine S.kernel_act_hold_socket hE _ _ _ _ fun H6 e6 =>?_;simp only [aD];refine S.f1 hE 0 fun H7 e7 =>?_;exact jJ ((g3.grow ((Ext.refl H3).new _)).grow (e6.trans e7)) rfl rfl rfl hQ
 ·have c5:(0:Int)<=(p.toNat:Int):=by omega
  have hba5:=g5.box (b:=a) (dK _ (aY (aY ha)));have hbk5:=g5.box (k:=8) (b:=K.k) rfl;have a0:(dL K n A B)[0]? = some (ptr K.k 0):=rfl;have k2:(kC K.w K.tk K.pt K.nt K.ps K.fs done)[2]? = some (ptr K.pt 0):=rfl
  have hcv:aR .u16 (vi (p.toNat:Int))=some (u16 p):=by
   rw [xY]; congr 2;rw [BitVec.ofInt_natCast,BitVec.ofNat_toNat,BitVec.setWidth_eq]
  simp only [F.f72,aZ,AM.aW,aS,List.toList_toArray,hb5,o0,e3,o5,o6,i0,eP,ge_iff_le,c5,decide_true,hba5,a0,hbk5,k2,hcv,aD];refine S.port_Table_Drop_l hE p g5 fun H6 g6 =>?_;have hb6:=g6.box (b:=H3.next) (dK _ hk5);simp only [hld hb6,aD];refine S.kernel_act_hold_socket hE _ _ _ _ fun H7 e7 =>?_;simp only [aD];refine S.f1 hE 0 fun H8 e8 =>?_;exact jJ ((g6.less).grow (e7.trans e8)) rfl rfl rfl hQ
end
end Go.AM
end
section
namespace Go.AM
set_option maxRecDepth 20000
section
variable {E:Sy} {H H' H0 Z:AH} {Q:Value->AH->Prop} {A B R R':List Res} {K:KI} {fc xc:List Value} {own:List (BitVec 16×(Int×Int))} {done:Int}
theorem aMN (v:Value):aK 6 v (u64 0#64)=aK 6 v (vi ((0:Nat):Int)):=by
 cases v with
 | slice a n c=>cases a <;> rfl
 | _=>rfl
theorem S.rule_Of_p (hE:aU E) (h:BitVec 16) (l:jP) {pv:Value} (hlen:l.length<=32) (hv:Rows H 2 pv (eZ l)) (w:Nat) (c:fQ)
  (hok:∀ s H',Ext H H'->kO (H'.since H.next) s ⟨h,[],gD l⟩->kO H' s ⟨h,[],gD l⟩->Q (.tuple #[ptr s 0,vi 0]) H'):E.call (E.fid i.f141) [.agg (pcP h pv).toArray,ptr w 0,c.v] H Q:=by
 apply hE.f141;have g0:Has H H H []:=Has.start (Ext.refl H);have g1:=g0.newbox (pcP h pv);have g2:=g1.newbox c.cells;have g3:=g2.newmap u16 u16;have g4:=g3.newmap u16 u16;have hbv:∀ r1 r2,aX [(0,1),(1,1),(2,1)] #[(.int .u16 0),(.map none),(.map none)] [(0,u16 h),(1,.map (some r1)),(2,.map (some r2))]=some (.agg #[u16 h,.map (some r1),.map (some r2)]):=fun r1 r2=>rfl;simp only [F.f141,aZ,AM.aW,aS,List.toList_toArray,iI,aD];have hb2:=g2.box (k:=0) (b:=H.next) rfl;have d3:(pcP h pv)[3]? = some (u16 h):=rfl;generalize hH2:(H.new (.cells (pcP h pv) none)).new (.cells c.cells none)=H2 at *;have n2:H2.next=H.next+2:=by subst hH2; simp
 simp only [hb2,d3,sJ,hbv,AM.aW,aS,aD];have hlt1:=g2.ext.1;have g5:=g4.newbox [u16 h,.map (some H2.next),.map (some (H2.new (.map [] 0 true)).next)];have hb5:=g5.box (k:=0) (b:=H.next) rfl;have d4:(pcP h pv)[4]? = some bL:=rfl;have d5:(pcP h pv)[5]? = some pv:=rfl;have ln:lenSlc bL=some (vi 0):=rfl;have hlq:=hv.lenSlc;rw [show (eZ l).length=l.length by simp [eZ]] at hlq
 generalize hs:((H2.new (.map [] 0 true)).new (.map [] 0 true)).next=s at *;have hsn:H.next<=s:=by subst hs; simp; omega
 simp only [AH.next_new_z] at hb5 g5 hs ⊢;generalize hH5:((H2.new (.map [] 0 true)).new (.map [] 0 true)).new (.cells [u16 h,.map (some H2.next),.map (some (H2.next+1))] none)=H5 at *;simp only [hb5,d4,ln,aD];have g5:Has H H H5 [aF H.next (pcP h pv),aF (H.next+1) c.cells,cF u16 u16 H2.next [],cF u16 u16 (H2.next+1) [],aF s [u16 h,.map (some H2.next),.map (some (H2.next+1))]]:=g5;clear hH5 hs hH2 g4 g3 g2 g1;generalize H2.next=r1 at *;refine aM.step fun X hX =>?_;have c00:aA .lss (.int .i64 0) (vi 0)=some (vb false):=rfl;simp only [F.f141_l1,fW,fV,gI,gJ,kI,nN,aMJ,c00,g5.box (k:=0) (b:=H.next) rfl,d5,hlq,aD];exact aIN l hv (by omega) rfl g5 fun H' e hz hs=>hok s H' e hz hs
theorem S.rule_Set_Hold_p (hE:aU E) {s w:Nat} {d:sB} (h:kO H s d) (hp:d.paths=[]) (more:Bool) (hQ:∀ H',Ext H H'->Q (.tuple #[]) H'):E.call (E.fid i.f142) [ptr s 0,ptr w 0,vb more] H Q:=by
 apply hE.f142;simp only [F.f142,iI,aD];refine S.f143 hE h fun v H2 e2 r2 _ =>?_;have hz:d.inodes=[]:=by unfold sB.inodes; rw [hp]; simp [nV]
 have hl:=r2.lenSlc;rw [hz] at hl;have hl:lenSlc v=some (vi 0):=hl;simp only [hl,aD];refine aM.step fun X hX =>?_;have c00:aA .lss (.int .i64 0) (vi 0)=some (vb false):=rfl;simp only [F.f142_l1,fW,fV,gI,gJ,kI,c00,aD];exact hQ _ e2
theorem S.f87 (hE:aU E) {h:BitVec 16} {l:jP} (pol:K.Pol h l) (hlen:l.length<=32) (g:Has H0 Z H (K.L fc (dY K.f true (.pointer none)) own done++R)) {a ja:Nat} {n:BitVec 32} {A B:BitVec 64} (ha:R[ja]? = some (aF a (dL K n A B)))
  (hQ:∀ s b Z' H',Has H0 Z' H' (K.L fc (dY K.f true (ptr b 0)) own done++R)->lZ Z' (ptr b 0) [(s,⟨h,[],gD l⟩)]->Q (.agg (gZ 0 0).toArray) H'):E.call (E.fid i.f87) [ptr a 0,u64 0#64] H Q:=by
 apply hE.f87;have g1:=(g.newbox z4).assoc;simp only [F.f87,aP,aD];generalize H.new (.cells z4 none)=H1 at *;have hba:=g1.box (b:=a) (dK (K.L fc (dY K.f true (.pointer none)) own done) (aY ha));have hbx:=g1.box (k:=4) (b:=K.x) rfl;have hbk:=g1.box (k:=8) (b:=K.k) rfl;have a0:(dL K n A B)[0]? = some (ptr K.k 0):=rfl;have a1:(dL K n A B)[1]? = some (ptr K.x 0):=rfl;have x5:(dY K.f true (.pointer none))[5]? = some (vb true):=rfl;have x7:(dY K.f true (.pointer none))[7]? = some (.pointer none):=rfl;have k0:(kC K.w K.tk K.pt K.nt K.ps K.fs done)[0]? = some (ptr K.w 0):=rfl;have k4:(kC K.w K.tk K.pt K.nt K.ps K.fs done)[4]? = some K.ps:=rfl;obtain ⟨hps,hpv⟩:=pol.rows (g1.get (k:=9) rfl);have lps:lenSlc K.ps=some (vi 1):=hps.lenSlc;have g4:aA .neq (vi 0) (.int .i64 0)=some (vb false):=rfl;have cge:aA .geq (u64 0#64) (u64 (BitVec.ofInt 64 1))=some (vb false):=rfl;have c16:¬ (16:Int)<=(([]:uQ).length:Int):=by simp
 obtain ⟨b,o,f1,f2⟩:=hps.ix (i:=0) (by simp)
 have f1:aK 6 K.ps (u64 0#64)=some (ptr b o):=(aMN K.ps).trans f1;have f2:(H1.get b).row o 6=some (pcP h K.pv):=f2;have lo:aE 6 (ptr b o) H1=some (.agg (pcP h K.pv).toArray):=by rw [aL,f2]; rfl
 apply hE.f64;simp only [F.f64,hba,a1,hbx,x5,a0,hbk,k4,lps,fZ,cge,aD];simp only [g4,hba,a1,hbx,x7,aD];refine S.f19 hE (dv := .pointer none) (l:=[]) (.inl ⟨rfl,rfl⟩) ?_;simp only [eP,ge_iff_le,c16,decide_false,hba,a0,hbk,k4,f1,lo,k0,aD];refine S.f112 hE fun H2 e2 =>?_;have g2:=g1.grow e2;have hba2:=g2.box (b:=a) (dK (K.L fc (dY K.f true (.pointer none)) own done) (aY ha));have hbk2:=g2.box (k:=8) (b:=K.k) rfl;have lo2:aE 6 (ptr b o) H2=some (.agg (pcP h K.pv).toArray):=by rw [aL,e2.row f2]; rfl
 refine ⟨by simp only [hbk,hbk2,aD],by simp only [hba,hba2,aD],by rw [lo,lo2],by simp only [hbk,hbk2,aD],by simp only [hba,hba2,aD],?_⟩
 refine S.rule_Of_p hE h l hlen (hpv.mono e2) K.w ⟨0,1#16⟩ fun s H3 e3 hz3 hs3 =>?_;have g3:=g2.grow e3;have hba3:=g3.box (b:=a) (dK (K.L fc (dY K.f true (.pointer none)) own done) (aY ha));have hbx3:=g3.box (k:=4) (b:=K.x) rfl;simp only [cZ,List.getElem?_cons_zero,List.getElem?_cons_succ,g4,hba3,a1,hbx3,x7,aD];obtain ⟨gc,sz,_⟩:=g2.calleeP e3;refine S.domain_Domain_WithZ hE (Z:=Z) (n:=H2.next) e3.1 sz gc.sub (dv := .pointer none) (l:=[]) (.inl ⟨rfl,rfl⟩) hz3 (by simp) (fun hb=>by simp at hb) fun _ db H4 e4 hd4 =>?_
 obtain ⟨gd,sd,_⟩:=g2.calleeP (e3.trans e4);have hba4:=gd.box (b:=a) (dK (K.L fc (dY K.f true (.pointer none)) own done) (aY ha));have hbk4:=gd.box (k:=8) (b:=K.k) rfl;simp only [cZ,List.getElem?_cons_zero,List.getElem?_cons_succ,g4,hba4,a0,hbk4,k0,aD];refine S.rule_Set_Hold_p hE (hs3.mono e4) rfl true fun H5 e5 =>?_;have g5:=gd.grow e5;have hba5:=g5.box (b:=a) (dK (K.L fc (dY K.f true (.pointer none)) own done) (aY ha));have hbx5:=g5.box (k:=4) (b:=K.x) rfl;have hst:=gL (j:=7) (v:=ptr db 0) hbx5 (show 7<8 by decide) rfl
 have hset:(dY K.f true (.pointer none)).set 7 (ptr db 0)=dY K.f true (ptr db 0):=rfl;rw [hset] at hst;have g6:=g5.put (k:=4) (b:=K.x) rfl (dY K.f true (ptr db 0));simp only [hba5,a1,hst,aD];refine S.f1 hE 0 fun H7 e7 =>?_;have g6:Has H0 (Z.plus H2.next H4) _ (K.L fc (dY K.f true (ptr db 0)) own done++(R++[aF H.next z4])):=g6;exact jJ (g6.grow e7) rfl rfl rfl fun H8 g8=>hQ s db _ H8 g8 hd4
end
end Go.AM
end
section
namespace Go.AM
set_option maxRecDepth 20000
set_option maxHeartbeats 1000000
section
variable {E:Sy} {H H' H0 Z:AH} {Q:Value->AH->Prop} {A B R R':List Res} {K:KI} {fc xc:List Value} {own:List (BitVec 16×(Int×Int))} {done:Int}
theorem aGf (n:BitVec 32) (A B:BitVec 64) (y:Value) (hy:cY y=[y]) (hd:gQ y=true):aX [(0,1),(1,1),(2,1),(3,6)] #[(.int .u32 0),(.int .u32 0),(.int .u64 0),(.int .u64 0),(.int .u64 0),(.int .u64 0),(.int .u64 0),(.int .u64 0),(.int .u64 0)] [(0,u32 n),(1,y),(3,.agg #[u64 A,u64 B,.int .u64 0,.int .u64 0,.int .u64 0,.int .u64 0])]=some (.agg [u32 n,y,.int .u64 0,u64 A,u64 B,.int .u64 0,.int .u64 0,.int .u64 0,.int .u64 0].toArray):=by
 simp [bF,hy,hd]
theorem S.f0 (hE:aU E) (n:BitVec 32) (A B:BitVec 64) (hQ:∀ cs H',cs.length=9->Ext H H'->Q (.agg (cs:List Value).toArray) H'):E.call (E.fid i.f0) [.agg (eG n A B).toArray] H Q:=by
 apply hE.f0;generalize hz:([(.int .u32 0),(.int .u32 0),(.int .u64 0),(.int .u64 0),(.int .u64 0),(.int .u64 0),(.int .u64 0),(.int .u64 0),(.int .u64 0)]:List Value)=z9;have hz9:z9.length=9:=by subst hz; rfl
 have g0:Has H H H []:=Has.start (Ext.refl H);have g2:=(g0.newbox (eG n A B)).newbox z9;have hn1:(H.new (.cells (eG n A B) none)).next=H.next+1:=rfl;rw [hn1] at g2;have hb2:=g2.box (k:=0) (b:=H.next) rfl;have d1:(eG n A B)[1]? = some (vb false):=rfl;have d2:(eG n A B)[2]? = some (u32 n):=rfl;have d3:(eG n A B)[3]? = some (u64 A):=rfl;have d4:(eG n A B)[4]? = some (u64 B):=rfl;have x0:cJ 2 1 (ptr H.next 3) (.int .i64 0)=some (ptr H.next 3):=cD 2 1 H.next 3 0 0 rfl (by omega)
 have x1:cJ 2 1 (ptr H.next 3) (.int .i64 1)=some (ptr H.next 4):=cD 2 1 H.next 3 1 1 rfl (by omega)
 have hA:mU 1 #[(.int .u64 0),(.int .u64 0),(.int .u64 0),(.int .u64 0),(.int .u64 0),(.int .u64 0)] [(0,u64 A),(1,u64 B)]=some (.agg #[u64 A,u64 B,.int .u64 0,.int .u64 0,.int .u64 0,.int .u64 0]):=rfl;have hz':(#[(.int .u32 0),(.int .u32 0),(.int .u64 0),(.int .u64 0),(.int .u64 0),(.int .u64 0),(.int .u64 0),(.int .u64 0),(.int .u64 0)]:Array Value)=z9.toArray:=by subst hz; rfl
 have hV:=aGf n A B (.int .u32 3221225534) rfl rfl;rw [hz'] at hV;generalize hc:([u32 n,.int .u32 3221225534,.int .u64 0,u64 A,u64 B,.int .u64 0,.int .u64 0,.int .u64 0,.int .u64 0]:List Value)=rc at hV;have hc9:rc.length=9:=by subst hc; rfl
 have hcp:rc.all plain1=true:=by subst hc; simp
 simp only [F.f0,hz,hz',aZ,AM.aW,aS,List.toList_toArray,aP,hb2,d2,d3,d4,x0,x1,hA,hV,aD];rw [hn1];have n2:((H.new (.cells (eG n A B) none)).new (.cells z9 none)).next=H.next+1+1:=rfl;generalize (H.new (.cells (eG n A B) none)).new (.cells z9 none)=H2 at *;have hs3:aG 9 (ptr H2.next 0) (.agg rc.toArray) (H2.new (.cells z9 none))=some (H2.new (.cells rc none)):=eF hz9 hc9 hcp;have hl3:aE 9 (ptr H2.next 0) (H2.new (.cells rc none))=some (.agg rc.toArray):=jR hc9;have g3:=g2.new (.cells rc none);have hb3:=g3.box (k:=0) (b:=H.next) rfl;have hr3:=g3.box (k:=1) (b:=H.next+1) rfl;rw [n2] at hs3 hl3;simp only [n2,hs3,hl3,hb3,d1,aD];generalize H2.new (.cells rc none)=H3 at *
 have hs4:aG 9 (ptr (H.next+1) 0) (.agg rc.toArray) H3=some (H3.put (H.next+1) (.cells rc none)):=by
  rw [cX,hr3];have:AM.bF z9 0 rc=rc:=by simp [bF,hz9,hc9]
  simp only [List.size_toArray,List.toList_toArray,hc9,hcp,hz9,Nat.zero_add,Nat.le_refl,and_self,if_true,this]
 have g4:=g3.put (k:=1) (b:=H.next+1) rfl rc;have hl4:aE 9 (ptr (H.next+1) 0) (H3.put (H.next+1) (.cells rc none))=some (.agg rc.toArray):=by rw [aL,g4.box (k:=1) (b:=H.next+1) rfl,fC _ _ 9 hc9]; rfl
 simp only [hs4,hl4,aD];exact hQ rc _ hc9 g4.ext
theorem aF1 (K:KI) (n:BitVec 32) (A B:BitVec 64):aX [(0,1),(1,1),(2,7)] #[(.pointer none),(.pointer none),(.int .u8 0),(.bool false),(.int .u32 0),(.int .u64 0),(.int .u64 0),(.string ⟨#[]⟩),(.string ⟨#[]⟩)] [(0,ptr K.k 0),(1,ptr K.x 0),(2,.agg (eG n A B).toArray)]=some (.agg (dL K n A B).toArray):=by
 simp [bF,eG,dL]
theorem S.task_Task_Asks_nil (hE:aU E) {x:Nat} {c:List Value} (hx:H.get x = .cells c none) (h6:c[6]? = some bL) (cs:List Value) (h9:cs.length=9) (hQ:∀ H',Ext H H'->Q (u32 2147418112#32) H'):E.call (E.fid i.f183) [ptr x 0,.agg cs.toArray] H Q:=by
 apply hE.f183;have x1:Ext H (H.new (.cells cs none)):=(Ext.refl _).new _;have hx1:=x1.cells hx;have hl:aE 9 (ptr H.next 0) (H.new (.cells cs none))=some (.agg cs.toArray):=jR h9;simp only [F.f183,aZ,AM.aW,aS,List.toList_toArray,eY,hx1,h6,hl,aD];apply hE.f184;have ln:lenSlc bL=some (vi 0):=rfl;have c1:aA .sub (vi 0) (.int .i64 1)=some (vi (-1)):=rfl;have c2:aA .geq (vi (-1)) (.int .i64 0)=some (vb false):=rfl;simp only [F.f184,aZ,AM.aW,aS,List.toList_toArray,ln,c1,aD];refine aM.step fun X hX =>?_;simp only [F.f184_l1,fW,fV,gI,gJ,c2,aD];exact hQ _ (x1.trans ((Ext.refl _).new _))
theorem S.task_Table_Get_1 (hE:aU E) (g:Has H0 Z H (K.L fc xc own done++R)) (hQ:Q (ptr K.x 0) H):E.call (E.fid i.f182) [ptr K.tk 0,u8 1#8] H Q:=by
 apply hE.f182;have hb:=g.box (k:=2) (b:=K.tk) rfl;have hm:=g.mapAt (k:=0) rfl;have c0:(tkC K.ma K.me)[0]? = some (.map (some K.ma)):=rfl;have hlk:=hm.look (kd:=0) (fun a b=>aFq a b) 1#8 (.pointer none) false;have hlk:look 0 (.pointer none) false (.map (some K.ma)) (u8 1#8) H=some (ptr K.x 0):=by rw [hlk]; rfl
 simp only [F.f182,iI,hb,c0,hlk,aD];exact hQ
theorem S.f61 (hE:aU E) (g:Has H0 Z H (K.L fc xc own done++R)) (h6:xc[6]? = some bL) (hd : -9223372036854775808<=done+1/\done+1<9223372036854775808) (n:BitVec 32) (A B:BitVec 64)
  (hdo:∀ c a H1,Has H0 Z H1 (K.L fc xc own (done+1)++(R++[aF c (eG n A B),aF (c+1) z4,aF a (dL K n A B)]))->E.call (E.fid i.f68) [ptr a 0] H1 fun v H2=>opt (aG 4 (ptr (c+1) 0) v H2) fun H3=>opt (aE 4 (ptr (c+1) 0) H3) fun v=>Q v H3) :
  E.call (E.fid i.f61) [ptr K.k 0,.agg (eG n A B).toArray] H Q:=by
 apply hE.f61;have g1:=((g.newbox (eG n A B)).assoc.newbox z4).assoc;have hn1:(H.new (.cells (eG n A B) none)).next=H.next+1:=rfl;have e1:∀ x y:Res,R++[x]++[y]=R++[x,y]:=fun x y=>by simp
 have e2:∀ x y z:Res,R++[x,y]++[z]=R++[x,y,z]:=fun x y z=>by simp
 rw [hn1,e1] at g1;simp only [F.f61,aZ,AM.aW,aS,List.toList_toArray,aP,eY,aD];rw [hn1];generalize (H.new (.cells (eG n A B) none)).new (.cells z4 none)=H1 at *;generalize H.next=c at *;have hbk:=g1.box (k:=8) (b:=K.k) rfl;have k6:(kC K.w K.tk K.pt K.nt K.ps K.fs done)[6]? = some (vi done):=rfl;refine S.sync_atomic_Int64_Add_at hE hbk k6 fun v =>?_;rw [iJ hd.1 hd.2];have g2:=g1.put (k:=8) (b:=K.k) rfl (kC K.w K.tk K.pt K.nt K.ps K.fs (done+1));have g2:Has H0 Z (H1.put K.k (.cells ((kC K.w K.tk K.pt K.nt K.ps K.fs done).set 6 (vi (done+1))) none)) (K.L fc xc own (done+1)++(R++[aF c (eG n A B),aF (c+1) z4])):=g2;generalize H1.put K.k (.cells ((kC K.w K.tk K.pt K.nt K.ps K.fs done).set 6 (vi (done+1))) none)=H2 at *;have hbk2:=g2.box (k:=8) (b:=K.k) rfl;have hc2:=g2.box (b:=c) (dK (K.L fc xc own (done+1)) (R:=R++[aF c (eG n A B),aF (c+1) z4]) (j:=R.length) (r:=aF c (eG n A B)) (by simp))
 have k1:(kC K.w K.tk K.pt K.nt K.ps K.fs (done+1))[1]? = some (ptr K.tk 0):=rfl;have d0:(eG n A B)[0]? = some (u8 1#8):=rfl;simp only [hbk2,k1,hc2,d0,aD];refine S.task_Table_Get_1 hE g2 ?_;have hl2:aE 7 (ptr c 0) H2=some (.agg (eG n A B).toArray):=by rw [aL,hc2]; rfl
 have hbv:=aF1 K n A B;have g3:=(g2.newbox (dL K n A B)).assoc;rw [e2] at g3;have hc3:=g3.box (b:=c) (dK (K.L fc xc own (done+1)) (R:=R++[aF c (eG n A B),aF (c+1) z4,aF H2.next (dL K n A B)]) (j:=R.length) (r:=aF c (eG n A B)) (by simp))
 have hl3:aE 7 (ptr c 0) (H2.new (.cells (dL K n A B) none))=some (.agg (eG n A B).toArray):=by rw [aL,hc3]; rfl
 simp only [eY,hl2,hbv,aZ,AM.aW,aS,List.toList_toArray,hl3,aD];generalize H2.next=a at *;generalize H2.new (.cells (dL K n A B) none)=H3 at *;refine S.f0 hE n A B fun cs H4 h9 e4 =>?_;have g4:=g3.grow e4;have hbx:=g4.box (k:=4) (b:=K.x) rfl;refine S.task_Task_Asks_nil hE hbx h6 cs h9 fun H5 e5 =>?_;have g5:=g4.grow e5;refine S.f134 hE _ ?_;have hak:oL 2147418112#32=2147418112#32:=by decide
 have q1:aA .eql (u32 2147418112#32) (.int .u32 2147483648)=some (vb false):=rfl;have q2:aA .eql (u32 2147418112#32) (.int .u32 327680)=some (vb false):=rfl;have q3:aA .eql (u32 2147418112#32) (.int .u32 2147221504)=some (vb false):=rfl;have hc5:=g5.box (b:=c) (dK (K.L fc xc own (done+1)) (R:=R++[aF c (eG n A B),aF (c+1) z4,aF a (dL K n A B)]) (j:=R.length) (r:=aF c (eG n A B)) (by simp))
 have d1:(eG n A B)[1]? = some (vb false):=rfl;simp only [hak,q1,q2,q3,F.f61_j1,hc5,d1,aD];exact hdo c a H5 g5
end
end Go.AM
end
section
namespace Go.AM
set_option maxRecDepth 20000
set_option maxHeartbeats 1000000
section
variable {E:Sy} {H H' H0 Z:AH} {Q:Value->AH->Prop} {L R R':List Res} {K:KI}
def jD (r:Nat) (Q:Value->AH->Prop):Value->AH->Prop:=fun v H2=>opt (aG 4 (ptr r 0) v H2) fun H3=>opt (aE 4 (ptr r 0) H3) fun v=>Q v H3
theorem eM {H:AH} (A B:BitVec 64):aG 2 (ptr H.next 0) (.agg #[u64 A,u64 B]) (H.new (.cells [(.int .u64 0),(.int .u64 0)] none))=some (H.new (.cells [u64 A,u64 B] none)):=eF (n:=2) (c:=[u64 A,u64 B]) rfl rfl rfl
theorem dJ:aX [(0,1),(1,2),(3,1),(4,1),(5,1),(6,1)] #[(.int .u8 0),(.int .i64 0),(.int .u16 0),(.int .i64 0),(.int .u16 0),(.int .i64 0),(.bool false)] [(0,(.int .u8 3)),(4,(.int .i64 (-1)))]=some (.agg (bQ (-1) false).toArray):=rfl
theorem S.kernel_act_more_157 (hE:aU E) (g:Has H0 Z H (L++R)) {a ja:Nat} {A B:BitVec 64} (ha:R[ja]? = some (aF a (dL K 157#32 A B)))
  (hop:∀ H1,Has H0 Z H1 (L++(R++[aF H.next z4]))->E.call (E.fid i.f82) [ptr a 0,u64 A] H1 (jD H.next Q)):E.call (E.fid i.f79) [ptr a 0] H Q:=by
 apply hE.f79;have g1:=(g.newbox z4).assoc;have hn1:(H.new (.cells z4 none)).next=H.next+1:=rfl;have hba:=g1.box (b:=a) (dK L (aY ha));have hld:aE 2 (ptr a 5) (H.new (.cells z4 none))=some (.agg #[u64 A,u64 B]):=by rw [aL,hba]; rfl
 have hst:=eM (H:=H.new (.cells z4 none)) A B;have g2:=g1.new (.cells [u64 A,u64 B] none);have hb2:=AH.get_new_self (H.new (.cells z4 none)) (.cells [u64 A,u64 B] none);have hba2:=g2.box (b:=a) (dK L (aY ha));have a4:(dL K 157#32 A B)[4]? = some (u32 157#32):=rfl;have x0:∀ b,cJ 2 1 (ptr b 0) (.int .i64 0)=some (ptr b 0):=fun b=>cD 2 1 b 0 0 0 rfl (by omega)
 have x1:∀ b,cJ 2 1 (ptr b 0) (.int .i64 1)=some (ptr b 1):=fun b=>cD 2 1 b 0 1 1 rfl (by omega)
 have hq:∀ m:Int,aA .eql (u32 157#32) (.int .u32 m)=some (.bool ((157:Int) == m)):=fun _=>rfl;rw [hn1] at hst hb2;simp only [F.f79,aP,hld,hn1,hst,hba2,a4,hq,Int.reduceBEq,hb2,x0,x1,dJ,aD];exact hop _ g2
theorem S.kernel_act_do_157 (hE:aU E) (g:Has H0 Z H (L++R)) {a ja:Nat} {A B:BitVec 64} (ha:R[ja]? = some (aF a (dL K 157#32 A B)))
  (hop:∀ H1,Has H0 Z H1 (L++(R++[aF H.next z4]))->E.call (E.fid i.f79) [ptr a 0] H1 (jD H.next Q)):E.call (E.fid i.f68) [ptr a 0] H Q:=by
 apply hE.f68;have g1:=(g.newbox z4).assoc;have hn1:(H.new (.cells z4 none)).next=H.next+1:=rfl;have hba:=g1.box (b:=a) (dK L (aY ha));have hld:aE 2 (ptr a 5) (H.new (.cells z4 none))=some (.agg #[u64 A,u64 B]):=by rw [aL,hba]; rfl
 have hst:=eM (H:=H.new (.cells z4 none)) A B;have g2:=g1.new (.cells [u64 A,u64 B] none);have hb2:=AH.get_new_self (H.new (.cells z4 none)) (.cells [u64 A,u64 B] none);have hba2:=g2.box (b:=a) (dK L (aY ha));have a4:(dL K 157#32 A B)[4]? = some (u32 157#32):=rfl;have x0:∀ b,cJ 2 1 (ptr b 0) (.int .i64 0)=some (ptr b 0):=fun b=>cD 2 1 b 0 0 0 rfl (by omega)
 have x1:∀ b,cJ 2 1 (ptr b 0) (.int .i64 1)=some (ptr b 1):=fun b=>cD 2 1 b 0 1 1 rfl (by omega)
 have hq:∀ m:Int,aA .eql (u32 157#32) (.int .u32 m)=some (.bool ((157:Int) == m)):=fun _=>rfl;rw [hn1] at hst hb2;simp only [F.f68,aP,hld,hn1,hst,hba2,a4,hq,Int.reduceBEq,hb2,x0,x1,dJ,aD];exact hop _ g2
theorem S.kernel_act_more_446 (hE:aU E) (g:Has H0 Z H (L++R)) {a ja:Nat} {A B:BitVec 64} (ha:R[ja]? = some (aF a (dL K 446#32 A B)))
  (hop:∀ H1,Has H0 Z H1 (L++(R++[aF H.next z4]))->E.call (E.fid i.f87) [ptr a 0,u64 A] H1 (jD H.next Q)):E.call (E.fid i.f79) [ptr a 0] H Q:=by
 apply hE.f79;have g1:=(g.newbox z4).assoc;have hn1:(H.new (.cells z4 none)).next=H.next+1:=rfl;have hba:=g1.box (b:=a) (dK L (aY ha));have hld:aE 2 (ptr a 5) (H.new (.cells z4 none))=some (.agg #[u64 A,u64 B]):=by rw [aL,hba]; rfl
 have hst:=eM (H:=H.new (.cells z4 none)) A B;have g2:=g1.new (.cells [u64 A,u64 B] none);have hb2:=AH.get_new_self (H.new (.cells z4 none)) (.cells [u64 A,u64 B] none);have hba2:=g2.box (b:=a) (dK L (aY ha));have a4:(dL K 446#32 A B)[4]? = some (u32 446#32):=rfl;have x0:∀ b,cJ 2 1 (ptr b 0) (.int .i64 0)=some (ptr b 0):=fun b=>cD 2 1 b 0 0 0 rfl (by omega)
 have x1:∀ b,cJ 2 1 (ptr b 0) (.int .i64 1)=some (ptr b 1):=fun b=>cD 2 1 b 0 1 1 rfl (by omega)
 have hq:∀ m:Int,aA .eql (u32 446#32) (.int .u32 m)=some (.bool ((446:Int) == m)):=fun _=>rfl;rw [hn1] at hst hb2;simp only [F.f79,aP,hld,hn1,hst,hba2,a4,hq,Int.reduceBEq,hb2,x0,x1,dJ,aD];exact hop _ g2
theorem S.kernel_act_do_446 (hE:aU E) (g:Has H0 Z H (L++R)) {a ja:Nat} {A B:BitVec 64} (ha:R[ja]? = some (aF a (dL K 446#32 A B)))
  (hop:∀ H1,Has H0 Z H1 (L++(R++[aF H.next z4]))->E.call (E.fid i.f79) [ptr a 0] H1 (jD H.next Q)):E.call (E.fid i.f68) [ptr a 0] H Q:=by
 apply hE.f68;have g1:=(g.newbox z4).assoc;have hn1:(H.new (.cells z4 none)).next=H.next+1:=rfl;have hba:=g1.box (b:=a) (dK L (aY ha));have hld:aE 2 (ptr a 5) (H.new (.cells z4 none))=some (.agg #[u64 A,u64 B]):=by rw [aL,hba]; rfl
 have hst:=eM (H:=H.new (.cells z4 none)) A B;have g2:=g1.new (.cells [u64 A,u64 B] none);have hb2:=AH.get_new_self (H.new (.cells z4 none)) (.cells [u64 A,u64 B] none);have hba2:=g2.box (b:=a) (dK L (aY ha));have a4:(dL K 446#32 A B)[4]? = some (u32 446#32):=rfl;have x0:∀ b,cJ 2 1 (ptr b 0) (.int .i64 0)=some (ptr b 0):=fun b=>cD 2 1 b 0 0 0 rfl (by omega)
 have x1:∀ b,cJ 2 1 (ptr b 0) (.int .i64 1)=some (ptr b 1):=fun b=>cD 2 1 b 0 1 1 rfl (by omega)
 have hq:∀ m:Int,aA .eql (u32 446#32) (.int .u32 m)=some (.bool ((446:Int) == m)):=fun _=>rfl;rw [hn1] at hst hb2;simp only [F.f68,aP,hld,hn1,hst,hba2,a4,hq,Int.reduceBEq,hb2,x0,x1,dJ,aD];exact hop _ g2
theorem S.kernel_act_more_41 (hE:aU E) (g:Has H0 Z H (L++R)) {a ja:Nat} {A B:BitVec 64} (ha:R[ja]? = some (aF a (dL K 41#32 A B)))
  (hop:∀ H1,Has H0 Z H1 (L++(R++[aF H.next z4]))->E.call (E.fid i.f63) [ptr a 0,.agg (bQ (-1) false).toArray] H1 (jD H.next Q)):E.call (E.fid i.f79) [ptr a 0] H Q:=by
 apply hE.f79;have g1:=(g.newbox z4).assoc;have hn1:(H.new (.cells z4 none)).next=H.next+1:=rfl;have hba:=g1.box (b:=a) (dK L (aY ha));have hld:aE 2 (ptr a 5) (H.new (.cells z4 none))=some (.agg #[u64 A,u64 B]):=by rw [aL,hba]; rfl
 have hst:=eM (H:=H.new (.cells z4 none)) A B;have g2:=g1.new (.cells [u64 A,u64 B] none);have hb2:=AH.get_new_self (H.new (.cells z4 none)) (.cells [u64 A,u64 B] none);have hba2:=g2.box (b:=a) (dK L (aY ha));have a4:(dL K 41#32 A B)[4]? = some (u32 41#32):=rfl;have x0:∀ b,cJ 2 1 (ptr b 0) (.int .i64 0)=some (ptr b 0):=fun b=>cD 2 1 b 0 0 0 rfl (by omega)
 have x1:∀ b,cJ 2 1 (ptr b 0) (.int .i64 1)=some (ptr b 1):=fun b=>cD 2 1 b 0 1 1 rfl (by omega)
 have hq:∀ m:Int,aA .eql (u32 41#32) (.int .u32 m)=some (.bool ((41:Int) == m)):=fun _=>rfl;rw [hn1] at hst hb2;simp only [F.f79,aP,hld,hn1,hst,hba2,a4,hq,Int.reduceBEq,hb2,x0,x1,dJ,aD];exact hop _ g2
theorem S.kernel_act_do_41 (hE:aU E) (g:Has H0 Z H (L++R)) {a ja:Nat} {A B:BitVec 64} (ha:R[ja]? = some (aF a (dL K 41#32 A B)))
  (hop:∀ H1,Has H0 Z H1 (L++(R++[aF H.next z4]))->E.call (E.fid i.f79) [ptr a 0] H1 (jD H.next Q)):E.call (E.fid i.f68) [ptr a 0] H Q:=by
 apply hE.f68;have g1:=(g.newbox z4).assoc;have hn1:(H.new (.cells z4 none)).next=H.next+1:=rfl;have hba:=g1.box (b:=a) (dK L (aY ha));have hld:aE 2 (ptr a 5) (H.new (.cells z4 none))=some (.agg #[u64 A,u64 B]):=by rw [aL,hba]; rfl
 have hst:=eM (H:=H.new (.cells z4 none)) A B;have g2:=g1.new (.cells [u64 A,u64 B] none);have hb2:=AH.get_new_self (H.new (.cells z4 none)) (.cells [u64 A,u64 B] none);have hba2:=g2.box (b:=a) (dK L (aY ha));have a4:(dL K 41#32 A B)[4]? = some (u32 41#32):=rfl;have x0:∀ b,cJ 2 1 (ptr b 0) (.int .i64 0)=some (ptr b 0):=fun b=>cD 2 1 b 0 0 0 rfl (by omega)
 have x1:∀ b,cJ 2 1 (ptr b 0) (.int .i64 1)=some (ptr b 1):=fun b=>cD 2 1 b 0 1 1 rfl (by omega)
 have hq:∀ m:Int,aA .eql (u32 41#32) (.int .u32 m)=some (.bool ((41:Int) == m)):=fun _=>rfl;rw [hn1] at hst hb2;simp only [F.f68,aP,hld,hn1,hst,hba2,a4,hq,Int.reduceBEq,hb2,x0,x1,dJ,aD];exact hop _ g2
theorem S.kernel_act_more_49 (hE:aU E) (g:Has H0 Z H (L++R)) {a ja:Nat} {A B:BitVec 64} (ha:R[ja]? = some (aF a (dL K 49#32 A B)))
  (hop:∀ H1,Has H0 Z H1 (L++(R++[aF H.next z4]))->E.call (E.fid i.f65) [ptr a 0,u64 A,u64 B] H1 (jD H.next Q)):E.call (E.fid i.f79) [ptr a 0] H Q:=by
 apply hE.f79;have g1:=(g.newbox z4).assoc;have hn1:(H.new (.cells z4 none)).next=H.next+1:=rfl;have hba:=g1.box (b:=a) (dK L (aY ha));have hld:aE 2 (ptr a 5) (H.new (.cells z4 none))=some (.agg #[u64 A,u64 B]):=by rw [aL,hba]; rfl
 have hst:=eM (H:=H.new (.cells z4 none)) A B;have g2:=g1.new (.cells [u64 A,u64 B] none);have hb2:=AH.get_new_self (H.new (.cells z4 none)) (.cells [u64 A,u64 B] none);have hba2:=g2.box (b:=a) (dK L (aY ha));have a4:(dL K 49#32 A B)[4]? = some (u32 49#32):=rfl;have x0:∀ b,cJ 2 1 (ptr b 0) (.int .i64 0)=some (ptr b 0):=fun b=>cD 2 1 b 0 0 0 rfl (by omega)
 have x1:∀ b,cJ 2 1 (ptr b 0) (.int .i64 1)=some (ptr b 1):=fun b=>cD 2 1 b 0 1 1 rfl (by omega)
 have hq:∀ m:Int,aA .eql (u32 49#32) (.int .u32 m)=some (.bool ((49:Int) == m)):=fun _=>rfl;rw [hn1] at hst hb2;simp only [F.f79,aP,hld,hn1,hst,hba2,a4,hq,Int.reduceBEq,hb2,x0,x1,dJ,aD];exact hop _ g2
theorem S.kernel_act_do_49 (hE:aU E) (g:Has H0 Z H (L++R)) {a ja:Nat} {A B:BitVec 64} (ha:R[ja]? = some (aF a (dL K 49#32 A B)))
  (hop:∀ H1,Has H0 Z H1 (L++(R++[aF H.next z4]))->E.call (E.fid i.f79) [ptr a 0] H1 (jD H.next Q)):E.call (E.fid i.f68) [ptr a 0] H Q:=by
 apply hE.f68;have g1:=(g.newbox z4).assoc;have hn1:(H.new (.cells z4 none)).next=H.next+1:=rfl;have hba:=g1.box (b:=a) (dK L (aY ha));have hld:aE 2 (ptr a 5) (H.new (.cells z4 none))=some (.agg #[u64 A,u64 B]):=by rw [aL,hba]; rfl
 have hst:=eM (H:=H.new (.cells z4 none)) A B;have g2:=g1.new (.cells [u64 A,u64 B] none);have hb2:=AH.get_new_self (H.new (.cells z4 none)) (.cells [u64 A,u64 B] none);have hba2:=g2.box (b:=a) (dK L (aY ha));have a4:(dL K 49#32 A B)[4]? = some (u32 49#32):=rfl;have x0:∀ b,cJ 2 1 (ptr b 0) (.int .i64 0)=some (ptr b 0):=fun b=>cD 2 1 b 0 0 0 rfl (by omega)
 have x1:∀ b,cJ 2 1 (ptr b 0) (.int .i64 1)=some (ptr b 1):=fun b=>cD 2 1 b 0 1 1 rfl (by omega)
 have hq:∀ m:Int,aA .eql (u32 49#32) (.int .u32 m)=some (.bool ((49:Int) == m)):=fun _=>rfl;rw [hn1] at hst hb2;simp only [F.f68,aP,hld,hn1,hst,hba2,a4,hq,Int.reduceBEq,hb2,x0,x1,dJ,aD];exact hop _ g2
theorem S.kernel_act_more_50 (hE:aU E) (g:Has H0 Z H (L++R)) {a ja:Nat} {A B:BitVec 64} (ha:R[ja]? = some (aF a (dL K 50#32 A B)))
  (hop:∀ H1,Has H0 Z H1 (L++(R++[aF H.next z4]))->E.call (E.fid i.f77) [ptr a 0,u64 A] H1 (jD H.next Q)):E.call (E.fid i.f79) [ptr a 0] H Q:=by
 apply hE.f79;have g1:=(g.newbox z4).assoc;have hn1:(H.new (.cells z4 none)).next=H.next+1:=rfl;have hba:=g1.box (b:=a) (dK L (aY ha));have hld:aE 2 (ptr a 5) (H.new (.cells z4 none))=some (.agg #[u64 A,u64 B]):=by rw [aL,hba]; rfl
 have hst:=eM (H:=H.new (.cells z4 none)) A B;have g2:=g1.new (.cells [u64 A,u64 B] none);have hb2:=AH.get_new_self (H.new (.cells z4 none)) (.cells [u64 A,u64 B] none);have hba2:=g2.box (b:=a) (dK L (aY ha));have a4:(dL K 50#32 A B)[4]? = some (u32 50#32):=rfl;have x0:∀ b,cJ 2 1 (ptr b 0) (.int .i64 0)=some (ptr b 0):=fun b=>cD 2 1 b 0 0 0 rfl (by omega)
 have x1:∀ b,cJ 2 1 (ptr b 0) (.int .i64 1)=some (ptr b 1):=fun b=>cD 2 1 b 0 1 1 rfl (by omega)
 have hq:∀ m:Int,aA .eql (u32 50#32) (.int .u32 m)=some (.bool ((50:Int) == m)):=fun _=>rfl;rw [hn1] at hst hb2;simp only [F.f79,aP,hld,hn1,hst,hba2,a4,hq,Int.reduceBEq,hb2,x0,x1,dJ,aD];exact hop _ g2
theorem S.kernel_act_do_50 (hE:aU E) (g:Has H0 Z H (L++R)) {a ja:Nat} {A B:BitVec 64} (ha:R[ja]? = some (aF a (dL K 50#32 A B)))
  (hop:∀ H1,Has H0 Z H1 (L++(R++[aF H.next z4]))->E.call (E.fid i.f79) [ptr a 0] H1 (jD H.next Q)):E.call (E.fid i.f68) [ptr a 0] H Q:=by
 apply hE.f68;have g1:=(g.newbox z4).assoc;have hn1:(H.new (.cells z4 none)).next=H.next+1:=rfl;have hba:=g1.box (b:=a) (dK L (aY ha));have hld:aE 2 (ptr a 5) (H.new (.cells z4 none))=some (.agg #[u64 A,u64 B]):=by rw [aL,hba]; rfl
 have hst:=eM (H:=H.new (.cells z4 none)) A B;have g2:=g1.new (.cells [u64 A,u64 B] none);have hb2:=AH.get_new_self (H.new (.cells z4 none)) (.cells [u64 A,u64 B] none);have hba2:=g2.box (b:=a) (dK L (aY ha));have a4:(dL K 50#32 A B)[4]? = some (u32 50#32):=rfl;have x0:∀ b,cJ 2 1 (ptr b 0) (.int .i64 0)=some (ptr b 0):=fun b=>cD 2 1 b 0 0 0 rfl (by omega)
 have x1:∀ b,cJ 2 1 (ptr b 0) (.int .i64 1)=some (ptr b 1):=fun b=>cD 2 1 b 0 1 1 rfl (by omega)
 have hq:∀ m:Int,aA .eql (u32 50#32) (.int .u32 m)=some (.bool ((50:Int) == m)):=fun _=>rfl;rw [hn1] at hst hb2;simp only [F.f68,aP,hld,hn1,hst,hba2,a4,hq,Int.reduceBEq,hb2,x0,x1,dJ,aD];exact hop _ g2
theorem S.kernel_act_more_42 (hE:aU E) (g:Has H0 Z H (L++R)) {a ja:Nat} {A B:BitVec 64} (ha:R[ja]? = some (aF a (dL K 42#32 A B)))
  (hop:∀ H1,Has H0 Z H1 (L++(R++[aF H.next z4]))->E.call (E.fid i.f67) [ptr a 0,u64 A,u64 B] H1 (jD H.next Q)):E.call (E.fid i.f79) [ptr a 0] H Q:=by
 apply hE.f79;have g1:=(g.newbox z4).assoc;have hn1:(H.new (.cells z4 none)).next=H.next+1:=rfl;have hba:=g1.box (b:=a) (dK L (aY ha));have hld:aE 2 (ptr a 5) (H.new (.cells z4 none))=some (.agg #[u64 A,u64 B]):=by rw [aL,hba]; rfl
 have hst:=eM (H:=H.new (.cells z4 none)) A B;have g2:=g1.new (.cells [u64 A,u64 B] none);have hb2:=AH.get_new_self (H.new (.cells z4 none)) (.cells [u64 A,u64 B] none);have hba2:=g2.box (b:=a) (dK L (aY ha));have a4:(dL K 42#32 A B)[4]? = some (u32 42#32):=rfl;have x0:∀ b,cJ 2 1 (ptr b 0) (.int .i64 0)=some (ptr b 0):=fun b=>cD 2 1 b 0 0 0 rfl (by omega)
 have x1:∀ b,cJ 2 1 (ptr b 0) (.int .i64 1)=some (ptr b 1):=fun b=>cD 2 1 b 0 1 1 rfl (by omega)
 have hq:∀ m:Int,aA .eql (u32 42#32) (.int .u32 m)=some (.bool ((42:Int) == m)):=fun _=>rfl;rw [hn1] at hst hb2;simp only [F.f79,aP,hld,hn1,hst,hba2,a4,hq,Int.reduceBEq,hb2,x0,x1,dJ,aD];exact hop _ g2
theorem S.kernel_act_do_42 (hE:aU E) (g:Has H0 Z H (L++R)) {a ja:Nat} {A B:BitVec 64} (ha:R[ja]? = some (aF a (dL K 42#32 A B)))
  (hop:∀ H1,Has H0 Z H1 (L++(R++[aF H.next z4]))->E.call (E.fid i.f79) [ptr a 0] H1 (jD H.next Q)):E.call (E.fid i.f68) [ptr a 0] H Q:=by
 apply hE.f68;have g1:=(g.newbox z4).assoc;have hn1:(H.new (.cells z4 none)).next=H.next+1:=rfl;have hba:=g1.box (b:=a) (dK L (aY ha));have hld:aE 2 (ptr a 5) (H.new (.cells z4 none))=some (.agg #[u64 A,u64 B]):=by rw [aL,hba]; rfl
 have hst:=eM (H:=H.new (.cells z4 none)) A B;have g2:=g1.new (.cells [u64 A,u64 B] none);have hb2:=AH.get_new_self (H.new (.cells z4 none)) (.cells [u64 A,u64 B] none);have hba2:=g2.box (b:=a) (dK L (aY ha));have a4:(dL K 42#32 A B)[4]? = some (u32 42#32):=rfl;have x0:∀ b,cJ 2 1 (ptr b 0) (.int .i64 0)=some (ptr b 0):=fun b=>cD 2 1 b 0 0 0 rfl (by omega)
 have x1:∀ b,cJ 2 1 (ptr b 0) (.int .i64 1)=some (ptr b 1):=fun b=>cD 2 1 b 0 1 1 rfl (by omega)
 have hq:∀ m:Int,aA .eql (u32 42#32) (.int .u32 m)=some (.bool ((42:Int) == m)):=fun _=>rfl;rw [hn1] at hst hb2;simp only [F.f68,aP,hld,hn1,hst,hba2,a4,hq,Int.reduceBEq,hb2,x0,x1,dJ,aD];exact hop _ g2
theorem S.kernel_act_do_3 (hE:aU E) (g:Has H0 Z H (L++R)) {a ja:Nat} {A B:BitVec 64} (ha:R[ja]? = some (aF a (dL K 3#32 A B)))
  (hop:∀ H1,Has H0 Z H1 (L++(R++[aF H.next z4]))->E.call (E.fid i.f90) [ptr a 0,u64 A] H1 (jD H.next Q)):E.call (E.fid i.f68) [ptr a 0] H Q:=by
 apply hE.f68;have g1:=(g.newbox z4).assoc;have hn1:(H.new (.cells z4 none)).next=H.next+1:=rfl;have hba:=g1.box (b:=a) (dK L (aY ha));have hld:aE 2 (ptr a 5) (H.new (.cells z4 none))=some (.agg #[u64 A,u64 B]):=by rw [aL,hba]; rfl
 have hst:=eM (H:=H.new (.cells z4 none)) A B;have g2:=g1.new (.cells [u64 A,u64 B] none);have hb2:=AH.get_new_self (H.new (.cells z4 none)) (.cells [u64 A,u64 B] none);have hba2:=g2.box (b:=a) (dK L (aY ha));have a4:(dL K 3#32 A B)[4]? = some (u32 3#32):=rfl;have x0:∀ b,cJ 2 1 (ptr b 0) (.int .i64 0)=some (ptr b 0):=fun b=>cD 2 1 b 0 0 0 rfl (by omega)
 have x1:∀ b,cJ 2 1 (ptr b 0) (.int .i64 1)=some (ptr b 1):=fun b=>cD 2 1 b 0 1 1 rfl (by omega)
 have hq:∀ m:Int,aA .eql (u32 3#32) (.int .u32 m)=some (.bool ((3:Int) == m)):=fun _=>rfl;rw [hn1] at hst hb2;simp only [F.f68,aP,hld,hn1,hst,hba2,a4,hq,Int.reduceBEq,hb2,x0,x1,dJ,aD];exact hop _ g2
end
end Go.AM
end
section
namespace Go.AM
set_option maxRecDepth 20000
set_option maxHeartbeats 1000000
section
variable {E:Sy} {H H' H0 Z Z':AH} {Q:Value->AH->Prop} {L M R R' T:List Res} {K:KI} {fc xc:List Value} {own:List (BitVec 16×(Int×Int))} {done:Int}
def aAH (H0:AH) (T:List Res) (Q:Value->AH->Prop):Value->AH->Prop:=fun v H2=>∃ (cs:List Value) (Z':AH) (M R':List Res),v = .agg cs.toArray/\cs.length=4/\cs.all plain1=true/\Has H0 Z' H2 (M++(R'++T))/\∀ H3,Has H0 Z' H3 (M++R')->Q (.agg cs.toArray) H3
theorem aMo {r1:Nat} {cs:List Value} (g:Has H0 Z' H (M++(R'++T++[aF r1 z4]))) (h1:cs.length=4) (h2:cs.all plain1=true) (hQ:∀ H3,Has H0 Z' H3 (M++R')->Q (.agg cs.toArray) H3):jD r1 (aAH H0 T Q) (.agg cs.toArray) H :=
 jJ (R:=R'++T) g rfl h1 h2 fun _ g3=>⟨cs,Z',M,R',rfl,h1,h2,g3,hQ⟩
theorem tJ {r1 r2:Nat} {cs:List Value} (g:Has H0 Z' H (M++(R'++T++[aF r1 z4]++[aF r2 z4]))) (h1:cs.length=4) (h2:cs.all plain1=true) (hQ:∀ H3,Has H0 Z' H3 (M++R')->Q (.agg cs.toArray) H3):jD r2 (jD r1 (aAH H0 T Q)) (.agg cs.toArray) H :=
 jJ (R:=R'++T++[aF r1 z4]) g rfl h1 h2 fun _ g3=>aMo g3 h1 h2 hQ
theorem S.one_1_go (hE:aU E) (g:Has H0 Z H (K.L fc xc own done++R)) (h6:xc[6]? = some bL) (hd : -9223372036854775808<=done+1/\done+1<9223372036854775808) {kk jk:Nat} (hkk:R[jk]? = some (aF kk [ptr K.k 0])) (n:BitVec 32) (A B:BitVec 64)
  (hdo:∀ T a ja H1,R.length<=ja->(R++T)[ja]? = some (aF a (dL K n A B))->Has H0 Z H1 (K.L fc xc own (done+1)++(R++T))->E.call (E.fid i.f68) [ptr a 0] H1 (aAH H0 T Q)) :
  E.call (E.fid i.f120) [u32 n,u64 A,u64 B,(.string ⟨#[]⟩),(.string ⟨#[]⟩),ptr kk 0] H Q:=by
 apply hE.f120;have g1:=(g.newbox z4).assoc;have hbk:=g1.box (b:=kk) (dK _ (aY hkk));have bA:mU 1 #[(.int .u64 0),(.int .u64 0)] [(0,u64 A),(1,u64 B)]=some (.agg #[u64 A,u64 B]):=rfl;have bT:mU 1 #[(.string ⟨#[]⟩),(.string ⟨#[]⟩)] [(0,(.string ⟨#[]⟩)),(1,(.string ⟨#[]⟩))]=some (.agg #[(.string ⟨#[]⟩),(.string ⟨#[]⟩)]):=rfl
 have bV:aX [(0,1),(1,1),(2,1),(3,2),(5,2)] #[(.int .u8 0),(.bool false),(.int .u32 0),(.int .u64 0),(.int .u64 0),(.string ⟨#[]⟩),(.string ⟨#[]⟩)] [(0,(.int .u8 1)),(2,u32 n),(3,.agg #[u64 A,u64 B]),(4,.agg #[(.string ⟨#[]⟩),(.string ⟨#[]⟩)])]=some (.agg (eG n A B).toArray):=by
  simp [bF,eG]
 simp only [F.f120,aP,hbk,bA,bT,bV,aD];generalize H.next=z0 at *;generalize H.new (.cells z4 none)=H1 at *;refine S.f61 hE g1 h6 hd n A B fun c a H2 g2 =>?_;have e1:(R++[aF z0 z4])++[aF c (eG n A B),aF (c+1) z4,aF a (dL K n A B)]=R++[aF z0 z4,aF c (eG n A B),aF (c+1) z4,aF a (dL K n A B)]:=by simp
 rw [e1] at g2;refine hE.mono _ _ _ _ _ ?_ (hdo [aF z0 z4,aF c (eG n A B),aF (c+1) z4,aF a (dL K n A B)] a (R.length+3) H2 (by omega) (by rw [List.getElem?_append_right (by omega)]; simp) g2)
 rintro v H3 ⟨cs,Z',M,R',rfl,h1,h2,g3,hQ⟩;have e2:R'++[aF z0 z4,aF c (eG n A B),aF (c+1) z4,aF a (dL K n A B)]=(R'++[aF z0 z4,aF c (eG n A B)]++[aF (c+1) z4])++[aF a (dL K n A B)]:=by simp
 rw [e2] at g3;refine jJ (R:=R'++[aF z0 z4,aF c (eG n A B)]) g3.less rfl h1 h2 fun H4 g4 =>?_;have e3:R'++[aF z0 z4,aF c (eG n A B)]=(R'++[aF z0 z4])++[aF c (eG n A B)]:=by simp
 rw [e3] at g4;exact jJ (R:=R') g4.less rfl h1 h2 hQ
theorem S.one_1_157 (hE:aU E) (g:Has H0 Z H (K.L fc xc own done++R)) (h6:xc[6]? = some bL) (hd : -9223372036854775808<=done+1/\done+1<9223372036854775808) {kk jk:Nat} (hkk:R[jk]? = some (aF kk [ptr K.k 0])) (A B:BitVec 64)
  (hop:∀ T r1 r2 a ja H1,R.length<=ja->(R++T++[aF r1 z4]++[aF r2 z4])[ja]? = some (aF a (dL K 157#32 A B))->Has H0 Z H1 (K.L fc xc own (done+1)++(R++T++[aF r1 z4]++[aF r2 z4]))->E.call (E.fid i.f82) [ptr a 0,u64 A] H1 (jD r2 (jD r1 (aAH H0 T Q)))) :
  E.call (E.fid i.f120) [u32 157#32,u64 A,u64 B,(.string ⟨#[]⟩),(.string ⟨#[]⟩),ptr kk 0] H Q:=by
 refine S.one_1_go hE g h6 hd hkk _ A B fun T a ja H1 hj ha g1 =>?_;refine S.kernel_act_do_157 hE g1 ha fun H2 g2 =>?_;refine S.kernel_act_more_157 hE g2 (aY ha) fun H3 g3 =>?_;exact hop T _ _ a ja H3 hj (aY (aY ha)) g3
theorem S.one_1_446 (hE:aU E) (g:Has H0 Z H (K.L fc xc own done++R)) (h6:xc[6]? = some bL) (hd : -9223372036854775808<=done+1/\done+1<9223372036854775808) {kk jk:Nat} (hkk:R[jk]? = some (aF kk [ptr K.k 0])) (A B:BitVec 64)
  (hop:∀ T r1 r2 a ja H1,R.length<=ja->(R++T++[aF r1 z4]++[aF r2 z4])[ja]? = some (aF a (dL K 446#32 A B))->Has H0 Z H1 (K.L fc xc own (done+1)++(R++T++[aF r1 z4]++[aF r2 z4]))->E.call (E.fid i.f87) [ptr a 0,u64 A] H1 (jD r2 (jD r1 (aAH H0 T Q)))) :
  E.call (E.fid i.f120) [u32 446#32,u64 A,u64 B,(.string ⟨#[]⟩),(.string ⟨#[]⟩),ptr kk 0] H Q:=by
 refine S.one_1_go hE g h6 hd hkk _ A B fun T a ja H1 hj ha g1 =>?_;refine S.kernel_act_do_446 hE g1 ha fun H2 g2 =>?_;refine S.kernel_act_more_446 hE g2 (aY ha) fun H3 g3 =>?_;exact hop T _ _ a ja H3 hj (aY (aY ha)) g3
theorem S.one_1_41 (hE:aU E) (g:Has H0 Z H (K.L fc xc own done++R)) (h6:xc[6]? = some bL) (hd : -9223372036854775808<=done+1/\done+1<9223372036854775808) {kk jk:Nat} (hkk:R[jk]? = some (aF kk [ptr K.k 0])) (A B:BitVec 64)
  (hop:∀ T r1 r2 a ja H1,R.length<=ja->(R++T++[aF r1 z4]++[aF r2 z4])[ja]? = some (aF a (dL K 41#32 A B))->Has H0 Z H1 (K.L fc xc own (done+1)++(R++T++[aF r1 z4]++[aF r2 z4]))->E.call (E.fid i.f63) [ptr a 0,.agg (bQ (-1) false).toArray] H1 (jD r2 (jD r1 (aAH H0 T Q)))) :
  E.call (E.fid i.f120) [u32 41#32,u64 A,u64 B,(.string ⟨#[]⟩),(.string ⟨#[]⟩),ptr kk 0] H Q:=by
 refine S.one_1_go hE g h6 hd hkk _ A B fun T a ja H1 hj ha g1 =>?_;refine S.kernel_act_do_41 hE g1 ha fun H2 g2 =>?_;refine S.kernel_act_more_41 hE g2 (aY ha) fun H3 g3 =>?_;exact hop T _ _ a ja H3 hj (aY (aY ha)) g3
theorem S.one_1_49 (hE:aU E) (g:Has H0 Z H (K.L fc xc own done++R)) (h6:xc[6]? = some bL) (hd : -9223372036854775808<=done+1/\done+1<9223372036854775808) {kk jk:Nat} (hkk:R[jk]? = some (aF kk [ptr K.k 0])) (A B:BitVec 64)
  (hop:∀ T r1 r2 a ja H1,R.length<=ja->(R++T++[aF r1 z4]++[aF r2 z4])[ja]? = some (aF a (dL K 49#32 A B))->Has H0 Z H1 (K.L fc xc own (done+1)++(R++T++[aF r1 z4]++[aF r2 z4]))->E.call (E.fid i.f65) [ptr a 0,u64 A,u64 B] H1 (jD r2 (jD r1 (aAH H0 T Q)))) :
  E.call (E.fid i.f120) [u32 49#32,u64 A,u64 B,(.string ⟨#[]⟩),(.string ⟨#[]⟩),ptr kk 0] H Q:=by
 refine S.one_1_go hE g h6 hd hkk _ A B fun T a ja H1 hj ha g1 =>?_;refine S.kernel_act_do_49 hE g1 ha fun H2 g2 =>?_;refine S.kernel_act_more_49 hE g2 (aY ha) fun H3 g3 =>?_;exact hop T _ _ a ja H3 hj (aY (aY ha)) g3
theorem S.one_1_50 (hE:aU E) (g:Has H0 Z H (K.L fc xc own done++R)) (h6:xc[6]? = some bL) (hd : -9223372036854775808<=done+1/\done+1<9223372036854775808) {kk jk:Nat} (hkk:R[jk]? = some (aF kk [ptr K.k 0])) (A B:BitVec 64)
  (hop:∀ T r1 r2 a ja H1,R.length<=ja->(R++T++[aF r1 z4]++[aF r2 z4])[ja]? = some (aF a (dL K 50#32 A B))->Has H0 Z H1 (K.L fc xc own (done+1)++(R++T++[aF r1 z4]++[aF r2 z4]))->E.call (E.fid i.f77) [ptr a 0,u64 A] H1 (jD r2 (jD r1 (aAH H0 T Q)))) :
  E.call (E.fid i.f120) [u32 50#32,u64 A,u64 B,(.string ⟨#[]⟩),(.string ⟨#[]⟩),ptr kk 0] H Q:=by
 refine S.one_1_go hE g h6 hd hkk _ A B fun T a ja H1 hj ha g1 =>?_;refine S.kernel_act_do_50 hE g1 ha fun H2 g2 =>?_;refine S.kernel_act_more_50 hE g2 (aY ha) fun H3 g3 =>?_;exact hop T _ _ a ja H3 hj (aY (aY ha)) g3
theorem S.one_1_42 (hE:aU E) (g:Has H0 Z H (K.L fc xc own done++R)) (h6:xc[6]? = some bL) (hd : -9223372036854775808<=done+1/\done+1<9223372036854775808) {kk jk:Nat} (hkk:R[jk]? = some (aF kk [ptr K.k 0])) (A B:BitVec 64)
  (hop:∀ T r1 r2 a ja H1,R.length<=ja->(R++T++[aF r1 z4]++[aF r2 z4])[ja]? = some (aF a (dL K 42#32 A B))->Has H0 Z H1 (K.L fc xc own (done+1)++(R++T++[aF r1 z4]++[aF r2 z4]))->E.call (E.fid i.f67) [ptr a 0,u64 A,u64 B] H1 (jD r2 (jD r1 (aAH H0 T Q)))) :
  E.call (E.fid i.f120) [u32 42#32,u64 A,u64 B,(.string ⟨#[]⟩),(.string ⟨#[]⟩),ptr kk 0] H Q:=by
 refine S.one_1_go hE g h6 hd hkk _ A B fun T a ja H1 hj ha g1 =>?_;refine S.kernel_act_do_42 hE g1 ha fun H2 g2 =>?_;refine S.kernel_act_more_42 hE g2 (aY ha) fun H3 g3 =>?_;exact hop T _ _ a ja H3 hj (aY (aY ha)) g3
theorem S.one_1_3 (hE:aU E) (g:Has H0 Z H (K.L fc xc own done++R)) (h6:xc[6]? = some bL) (hd : -9223372036854775808<=done+1/\done+1<9223372036854775808) {kk jk:Nat} (hkk:R[jk]? = some (aF kk [ptr K.k 0])) (A B:BitVec 64)
  (hop:∀ T r1 a ja H1,R.length<=ja->(R++T++[aF r1 z4])[ja]? = some (aF a (dL K 3#32 A B))->Has H0 Z H1 (K.L fc xc own (done+1)++(R++T++[aF r1 z4]))->E.call (E.fid i.f90) [ptr a 0,u64 A] H1 (jD r1 (aAH H0 T Q))) :
  E.call (E.fid i.f120) [u32 3#32,u64 A,u64 B,(.string ⟨#[]⟩),(.string ⟨#[]⟩),ptr kk 0] H Q:=by
 refine S.one_1_go hE g h6 hd hkk _ A B fun T a ja H1 hj ha g1 =>?_;refine S.kernel_act_do_3 hE g1 ha fun H2 g2 =>?_;exact hop T _ a ja H2 hj (aY ha) g2
end
end Go.AM
end
section
namespace Go.AM
set_option maxRecDepth 20000
section
variable {E:Sy} {H H' H0 Z Z':AH} {Q:Value->AH->Prop} {R:List Res} {K:KI} {fc xc:List Value} {own:List (BitVec 16×(Int×Int))} {done:Int}
theorem aIM (hE:aU E) {nn:Bool} {dv:Value} (g:Has H0 Z H (K.L fc (dY K.f nn dv) own done++R)) (hd : -9223372036854775808<=done+1/\done+1<9223372036854775808) {kk jk:Nat} (hkk:R[jk]? = some (aF kk [ptr K.k 0]))
  (hQ:∀ H',Has H0 Z H' (K.L fc (dY K.f true dv) own (done+1)++R)->Q (.agg (gZ 0 0).toArray) H'):E.call (E.fid i.f120) [u32 157#32,u64 1#64,u64 0#64,(.string ⟨#[]⟩),(.string ⟨#[]⟩),ptr kk 0] H Q :=
 S.one_1_157 hE g rfl hd hkk _ _ fun T r1 r2 a ja H1 hj ha g1=>S.f82 hE g1 ha fun H2 g2=>tJ g2 rfl rfl hQ
theorem aCV (hE:aU E) {h:BitVec 16} {l:jP} (pol:K.Pol h l) (hlen:l.length<=32) (g:Has H0 Z H (K.L fc (dY K.f true (.pointer none)) own done++R)) (hd : -9223372036854775808<=done+1/\done+1<9223372036854775808) {kk jk:Nat} (hkk:R[jk]? = some (aF kk [ptr K.k 0]))
  (hQ:∀ s b Z' H',Has H0 Z' H' (K.L fc (dY K.f true (ptr b 0)) own (done+1)++R)->lZ Z' (ptr b 0) [(s,⟨h,[],gD l⟩)]->Q (.agg (gZ 0 0).toArray) H'):E.call (E.fid i.f120) [u32 446#32,u64 0#64,u64 0#64,(.string ⟨#[]⟩),(.string ⟨#[]⟩),ptr kk 0] H Q :=
 S.one_1_446 hE g rfl hd hkk _ _ fun T r1 r2 a ja H1 hj ha g1=>S.f87 hE pol hlen g1 ha fun s b Z' H2 g2 hd2=>tJ g2 rfl rfl fun H3 g3=>hQ s b Z' H3 g3 hd2
theorem aAU (hE:aU E) {dv:Value} (g:Has H0 Z H (K.L fc (dY K.f true dv) own done++R)) (hd : -9223372036854775808<=done+1/\done+1<9223372036854775808) {kk jk:Nat} (hkk:R[jk]? = some (aF kk [ptr K.k 0]))
  (hl:fc.length=16) (q:Nat) (hq:q<16) (hpre:∀ j,j<q->∃ b,fc[j]? = some (ptr b 0)) (hnil:fc[q]? = some (.pointer none))
  (hQ:∀ o H',Has H0 Z H' (K.L (fc.set q (ptr o 0)) (dY K.f true dv) own (done+1)++(R++[aF o (bQ (-1) false)]))->Q (.agg (gZ q 0).toArray) H'):E.call (E.fid i.f120) [u32 41#32,u64 0#64,u64 0#64,(.string ⟨#[]⟩),(.string ⟨#[]⟩),ptr kk 0] H Q :=
 S.one_1_41 hE g rfl hd hkk _ _ fun T r1 r2 a ja H1 hj ha g1=>S.f63 hE g1 rfl hl q hq hpre hnil ha fun o H2 g2=>by
  have p:(R++T++[aF r1 z4]++[aF r2 z4]++[aF o (bQ (-1) false)]).Perm (R++[aF o (bQ (-1) false)]++T++[aF r1 z4]++[aF r2 z4]):=by
   simp only [List.append_assoc];refine List.Perm.append_left R ?_;have:=List.perm_append_comm (l₁:=T++([aF r1 z4]++[aF r2 z4])) (l₂:=[aF o (bQ (-1) false)])
   simpa only [List.append_assoc] using this
  exact tJ (R':=R++[aF o (bQ (-1) false)]) (g2.perm (List.Perm.append_left _ p)) rfl rfl fun H3 g3=>hQ o H3 g3
theorem aH5 (a b:Int):(gZ a b).length=4/\(gZ a b).all plain1=true/\(gZ a b)[2]? = some (vi b):=⟨rfl,rfl,rfl⟩
theorem rK (hE:aU E) {dv:Value} {sl:uQ} (hdm:lZ Z dv sl) (hsl:sl.length<2 ^ 62) (g:Has H0 Z H (K.L fc (dY K.f true dv) own done++R)) (hd : -9223372036854775808<=done+1/\done+1<9223372036854775808) {kk jk:Nat} (hkk:R[jk]? = some (aF kk [ptr K.k 0]))
  (q:Nat) (hi:q<16) {o jo:Nat} {port:Int} {lis:Bool} (hv:fc[q]? = some (ptr o 0)) (ho:R[jo]? = some (aF o (bQ port lis))) (p:BitVec 16) {e:Int}
  (he:e=if (sl.all fun x=>x.2.port 32768#16 p)=true then (if (iD own p).2=0 then 111 else 0) else 13)
  (hQ:∀ (cs:List Value) (H':AH),cs.length=4->cs.all plain1=true->cs[2]? = some (vi e)->Has H0 Z H' (K.L fc (dY K.f true dv) own (done+1)++R)->Q (.agg cs.toArray) H'):E.call (E.fid i.f120) [u32 42#32,u64 (BitVec.ofNat 64 q),u64 (p.setWidth 64),(.string ⟨#[]⟩),(.string ⟨#[]⟩),ptr kk 0] H Q :=
 S.one_1_42 hE g rfl hd hkk _ _ fun T r1 r2 a ja H1 hj ha g1=>S.f67 hE g1 rfl rfl hdm hsl ha q hi hv (by rw [List.append_assoc,List.append_assoc,List.getElem?_append_left (nL ho)]; exact ho) p fun H2 g2=>by
  have k:∃ cs:List Value,(if (sl.all fun x=>x.2.port 32768#16 p)=true then aB9 (if (iD own p).2=0 then 111 else 0) else gZ (-1) 13)=cs/\cs.length=4/\cs.all plain1=true/\cs[2]? = some (vi e):=by
   rw [he]
   by_cases h1:(sl.all fun x=>x.2.port 32768#16 p)=true
   ·rw [if_pos h1,if_pos h1]; exact ⟨_,rfl,zQ _⟩
   ·rw [if_neg h1,if_neg h1]; exact ⟨_,rfl,aH5 _ _⟩
  obtain ⟨cs,hcs,k1,k2,k3⟩:=k;rw [hcs];exact tJ g2 k1 k2 fun H3 g3=>hQ cs H3 k1 k2 k3 g3
theorem aFR (hE:aU E) {dv:Value} {sl:uQ} (hdm:lZ Z dv sl) (hsl:sl.length<2 ^ 62) (g:Has H0 Z H (K.L fc (dY K.f true dv) own done++R)) (hd : -9223372036854775808<=done+1/\done+1<9223372036854775808) {kk jk:Nat} (hkk:R[jk]? = some (aF kk [ptr K.k 0]))
  (q:Nat) (hi:q<16) {o jo:Nat} (hv:fc[q]? = some (ptr o 0)) (ho:R[jo]? = some (aF o (bQ (-1) false))) (p:BitVec 16) (hp0:p≠0#16)
  (hQ:∀ (e:Int) (own':List (BitVec 16×(Int×Int))) (port:Int) (cs:List Value) (H':AH),((sl.all fun x=>x.2.port 16384#16 p)=false/\e=13/\own'=own/\port = -1)\/((sl.all fun x=>x.2.port 16384#16 p)=true/\(iD own p).1 > 0/\e=98/\own'=own/\port = -1)\/((sl.all fun x=>x.2.port 16384#16 p)=true/\¬ (iD own p).1 > 0/\e=0/\own'=dQ p (1,0) own/\port=p.toNat) ->
   cs.length=4->cs.all plain1=true->cs[2]? = some (vi e)->Has H0 Z H' (K.L fc (dY K.f true dv) own' (done+1)++R.set jo (aF o (bQ port false)))->Q (.agg cs.toArray) H'):E.call (E.fid i.f120) [u32 49#32,u64 (BitVec.ofNat 64 q),u64 (p.setWidth 64),(.string ⟨#[]⟩),(.string ⟨#[]⟩),ptr kk 0] H Q :=
 S.one_1_49 hE g rfl hd hkk _ _ fun T r1 r2 a ja H1 hj ha g1=>by
  have ho':(R++T++[aF r1 z4]++[aF r2 z4])[jo]? = some (aF o (bQ (-1) false)):=by rw [List.append_assoc,List.append_assoc,List.getElem?_append_left (nL ho)]; exact ho
  have hs:R.set jo (aF o (bQ (-1) false))=R:=by
   refine List.ext_getElem? fun m =>?_;rw [List.getElem?_set]
   split
   ·rename_i h; subst h; rw [if_pos (nL ho),ho]
   ·rfl
  have hst:∀ r,(R++T++[aF r1 z4]++[aF r2 z4]).set jo r=R.set jo r++T++[aF r1 z4]++[aF r2 z4]:=fun r=>by
   have hl:=nL ho;rw [List.set_append_left _ _ (by simp; omega),List.set_append_left _ _ (by simp; omega),List.set_append_left _ _ hl]
  refine S.f65 hE g1 rfl rfl hdm hsl ha q hi hv ho' p hp0 (fun h1 H2 g2 =>?_) (fun h1 h2 H2 g2 =>?_) (fun h1 h2 H2 g2 =>?_)
  ·exact tJ g2 rfl rfl fun H3 g3=>hQ 13 _ (-1) _ H3 (.inl ⟨h1,rfl,rfl,rfl⟩) rfl rfl rfl (by rw [hs]; exact g3)
  ·exact tJ g2 rfl rfl fun H3 g3=>hQ 98 _ (-1) _ H3 (.inr (.inl ⟨h1,h2,rfl,rfl,rfl⟩)) rfl rfl rfl (by rw [hs]; exact g3)
  ·rw [hst] at g2
   exact tJ g2 rfl rfl fun H3 g3=>hQ 0 _ _ _ H3 (.inr (.inr ⟨h1,h2,rfl,rfl,rfl⟩)) rfl rfl rfl g3
theorem aHf (hE:aU E) {dv:Value} (g:Has H0 Z H (K.L fc (dY K.f true dv) own done++R)) (hd : -9223372036854775808<=done+1/\done+1<9223372036854775808) {kk jk:Nat} (hkk:R[jk]? = some (aF kk [ptr K.k 0]))
  (q:Nat) (hi:q<16) {o jo:Nat} {port:Int} (hv:fc[q]? = some (ptr o 0)) (ho:R[jo]? = some (aF o (bQ port false))) (p:BitVec 16) (hpt:port = -1\/port=p.toNat/\iD own p=(1,0))
  (hQ:∀ (e:Int) (own':List (BitVec 16×(Int×Int))) (lis:Bool) (cs:List Value) (H':AH),(port = -1/\e=22/\own'=own/\lis=false)\/(port=p.toNat/\e=0/\own'=dQ p (1,1) own/\lis=true) ->
   cs.length=4->cs.all plain1=true->cs[2]? = some (vi e)->Has H0 Z H' (K.L fc (dY K.f true dv) own' (done+1)++R.set jo (aF o (bQ port lis)))->Q (.agg cs.toArray) H'):E.call (E.fid i.f120) [u32 50#32,u64 (BitVec.ofNat 64 q),u64 0#64,(.string ⟨#[]⟩),(.string ⟨#[]⟩),ptr kk 0] H Q :=
 S.one_1_50 hE g rfl hd hkk _ _ fun T r1 r2 a ja H1 hj ha g1=>by
  have ho':(R++T++[aF r1 z4]++[aF r2 z4])[jo]? = some (aF o (bQ port false)):=by rw [List.append_assoc,List.append_assoc,List.getElem?_append_left (nL ho)]; exact ho
  have hs:R.set jo (aF o (bQ port false))=R:=by
   refine List.ext_getElem? fun m =>?_;rw [List.getElem?_set]
   split
   ·rename_i h; subst h; rw [if_pos (nL ho),ho]
   ·rfl
  have hst:∀ r,(R++T++[aF r1 z4]++[aF r2 z4]).set jo r=R.set jo r++T++[aF r1 z4]++[aF r2 z4]:=fun r=>by
   have hl:=nL ho;rw [List.set_append_left _ _ (by simp; omega),List.set_append_left _ _ (by simp; omega),List.set_append_left _ _ hl]
  refine S.f77 hE g1 rfl ha q hi (by have:=nL ho; omega) hv ho' (fun h1 H2 g2 =>?_) (fun p' hp' =>?_) ?_
  ·exact tJ g2 rfl rfl fun H3 g3=>hQ 22 _ false _ H3 (.inl ⟨h1,rfl,rfl,rfl⟩) rfl rfl rfl (by rw [hs]; exact g3)
  ·have hpp:port=p.toNat/\iD own p=(1,0):=hpt.resolve_left (by omega)
   obtain rfl:p'=p:=BitVec.eq_of_toNat_eq (by omega)
   refine ⟨hpp.2,fun H2 g2 =>?_⟩;rw [hst] at g2;exact tJ g2 rfl rfl fun H3 g3=>hQ 0 _ true _ H3 (.inr ⟨hpp.1,rfl,rfl,rfl⟩) rfl rfl rfl (by rw [hp']; exact g3)
  ·exact hpt.imp id fun h=>⟨p,h.1⟩
theorem aIb (hE:aU E) {dv:Value} (g:Has H0 Z H (K.L fc (dY K.f true dv) own done++R)) (hd : -9223372036854775808<=done+1/\done+1<9223372036854775808) {kk jk:Nat} (hkk:R[jk]? = some (aF kk [ptr K.k 0]))
  (hl:fc.length=16) (q:Nat) (hq:q<16) {o jo:Nat} {port:Int} {lis:Bool} (hv:fc[q]? = some (ptr o 0)) (ho:R[jo]? = some (aF o (bQ port lis))) {own':List (BitVec 16×(Int×Int))}
  (hpt:(port = -1/\own'=own)\/∃ p:BitVec 16,port=p.toNat/\lis=true/\own=[(p,(1,1))]/\own'=[])
  (hQ:∀ cs H',Has H0 Z H' (K.L (fc.set q (.pointer none)) (dY K.f true dv) own' (done+1)++R)->Q (.agg cs) H'):E.call (E.fid i.f120) [u32 3#32,u64 (BitVec.ofNat 64 q),u64 0#64,(.string ⟨#[]⟩),(.string ⟨#[]⟩),ptr kk 0] H Q :=
 S.one_1_3 hE g rfl hd hkk _ _ fun T r1 a ja H1 hj ha g1=>S.f90 hE g1 rfl hl ha q hq hv (by rw [List.append_assoc,List.getElem?_append_left (nL ho)]; exact ho) hpt fun H2 g2=>aMo g2 rfl rfl fun H3 g3=>hQ _ H3 g3
theorem qK {P:Value->AH->Prop} {L:List Res} (g:Has H0 Z H (L++R)) {cs:List Value} (h1:cs.length=4) (h2:cs.all plain1=true) (hQ:∀ b H',Has H0 Z H' (L++(R++[aF b cs]))->P (ptr b 0) H') :
  bJ [(.int .i64 0),(.slice none 0 0),(.int .i64 0),(.bool false)] H fun v H1=>opt (aG 4 v (.agg cs.toArray) H1) fun H2=>P v H2:=by
 have hs:aG 4 (ptr H.next 0) (.agg cs.toArray) (H.new (.cells z4 none))=some (H.new (.cells cs none)):=eF rfl h1 h2;simp only [aP,hs,aD];exact hQ _ _ (g.newbox cs).assoc
theorem S.f119 (hE:aU E) (h:BitVec 16) (l:jP) (hh:h &&& ~~~51199#16=0#16) (ok:lU h l) {v pv:Value} (hv:Rows H 6 v [pcP h pv]) (hpp:plain1 pv=true) (hpv:Rows H 2 pv (eZ l))
  (hQ:∀ (K:KI) kk H',Has H H H' (K.L (zs 16 (.pointer none)) (dY K.f false (.pointer none)) [] 0++[aF kk [ptr K.k 0]])->K.Pol h l->Q (.tuple #[ptr K.k 0,.func (.func (E.fid i.f120)) #[] #[ptr kk 0]]) H'):E.call (E.fid i.f119) [v] H Q:=by
 apply hE.f119;simp only [F.f119,aD];refine S.kernel_New_p hE h l hh ok hv hpp hpv fun K H1 g1 pol =>?_;have g2:=g1.newbox [ptr K.k 0]
 have hs:aQ (ptr H1.next 0) (ptr K.k 0) (H1.new (.cells [.pointer none] none))=some (H1.new (.cells [ptr K.k 0] none)):=by
  have:=gL (j:=0) (v:=ptr K.k 0) (AH.get_new_self H1 (.cells [.pointer none] none)) (by simp) rfl
  rw [AH.new_put] at this;exact this
 have hb:=AH.get_new_self H1 (.cells [ptr K.k 0] none);simp only [cZ,List.getElem?_cons_zero,List.getElem?_cons_succ,aP,hs,aN,hb,aD];exact hQ K H1.next _ g2 pol
theorem uC (hE:aU E) {t vr:Nat} {h r x:BitVec 16} {pv:Value} (ht:H.get t = .cells (pcP h pv) none) (hr:H.get vr = .cells [u16 r] none) (hQ:Q (vb (decide ((x&&&h) &&& ~~~ r=0#16))) H):E.call (E.fid i.f117) [u16 x,ptr t 0,ptr vr 0] H Q:=by
 apply hE.f117;have d3:(pcP h pv)[3]? = some (u16 h):=rfl;have n0:(.int .u16 0:Value)=u16 0#16:=rfl;simp only [F.f117,ht,hr,d3,qC,oE,n0,cV,aD];exact hQ
theorem sV (hE:aU E) (c:Bool) (e:Int) (hQ:Q (vi (if c=true then e else 13)) H):E.call (E.fid i.f118) [vb c,vi e] H Q:=by
 apply hE.f118;cases c
 ·simp only [F.f118,aD]
  exact hQ
 ·simp only [F.f118,aD]
  exact hQ
end
end Go.AM
end
section
namespace Go.AM
theorem aFT {k:BitVec 16} {l:List (BitVec 16×BitVec 16)} (h:k ∉ l.map Prod.fst):wQ k l=0#16:=by
 unfold wQ;rw [kT.2 h]; rfl
theorem uM {k v:BitVec 16}:∀ {l:List (BitVec 16×BitVec 16)},k ∉ l.map Prod.fst->dQ k v l=l++[(k,v)]
 | [],_=>rfl
 | p :: l,h=>by
  simp only [List.map_cons,List.mem_cons,not_or] at h;rw [dQ,if_neg fun e:p.1=k=>h.1 e.symm,uM h.2,List.cons_append]
theorem aEN (ps:List (BitVec 16×BitVec 16)) (h:(ps.map Prod.fst).Nodup):gD ps=ps:=by
 have key:∀ (l m:List (BitVec 16×BitVec 16)),((m++l).map Prod.fst).Nodup->l.foldl (fun l x=>aIG x.1 x.2 l) m=m++l:=by
  intro l
  induction l with
  | nil=>intro m _; simp
  | cons x l ih =>
   intro m hn
   have hx:x.1 ∉ m.map Prod.fst:=by
    rw [List.map_append,List.nodup_append] at hn;exact fun hm=>hn.2.2 _ hm x.1 (by simp) rfl
   rw [List.foldl_cons]
   have:aIG x.1 x.2 m=m++[x]:=by
    unfold aIG;rw [aFT hx,uM hx]; simp
   rw [this,ih _ (by simpa using hn)]
   simp
 have:=key ps [] (by simpa using h)
 simpa [gD] using this
end Go.AM
end
section
namespace Go.AM
set_option maxRecDepth 20000
section
variable {E:Sy} {H H' H0 Z Z':AH} {Q:Value->AH->Prop} {R:List Res} {K:KI} {fc xc:List Value} {own:List (BitVec 16×(Int×Int))} {done:Int}
theorem aCD (hE:aU E) {t vr:Nat} {h r:BitVec 16} {pv:Value} (ht:H.get t = .cells (pcP h pv) none) (hr:H.get vr = .cells [u16 r] none) {a b c d e f:Nat} {ca cb cc cd ce cf:List Value} {ea eb ec ed ee ef te td:Int} (mB mC:Bool)
  (hB:decide ((16384#16&&&h) &&& ~~~ r=0#16)=mB) (hC:decide ((32768#16&&&h) &&& ~~~ r=0#16)=mC)
  (ga:H.get a = .cells ca none) (ka:ca[2]? = some (vi ea)) (gb:H.get b = .cells cb none) (kb:cb[2]? = some (vi eb)) (gc:H.get c = .cells cc none) (kc:cc[2]? = some (vi ec))
  (gd:H.get d = .cells cd none) (kd:cd[2]? = some (vi ed)) (ge:H.get e = .cells ce none) (ke:ce[2]? = some (vi ee)) (gf:H.get f = .cells cf none) (kf:cf[2]? = some (vi ef))
  (qa:ea=if mC=true then 111 else 13) (qb:eb=if mB=true then 0 else 13) (qd:ed=if mC=true then td else 13) (qe:ee=if mB=true then te else 13) (qf:ef=if mC=true then 111 else 13) (hQ:Q (vb true) H) :
  F.f116_j2 E Q (.func (.func (E.fid i.f117)) #[] #[ptr t 0,ptr vr 0]) (ptr a 0) (ptr b 0) (ptr c 0) (ptr d 0) (ptr e 0) (ptr f 0) (.func (.func (E.fid i.f118)) #[] #[]) (vi ec) (vi te) (vi td) H:=by
 have i0:(.int .i64 0:Value)=vi 0:=rfl;have i111:(.int .i64 111:Value)=vi 111:=rfl;have n1:(.int .u16 32768:Value)=u16 32768#16:=rfl;have n2:(.int .u16 16384:Value)=u16 16384#16:=rfl;simp only [F.f116_j2,ga,ka,i0,i111,n1,n2,cG,List.nil_append,List.append_nil,List.cons_append,hO,forall_const,imp_self,true_and,and_true,aD];refine uC (x:=32768#16) hE ht hr ?_;rw [hC];simp only [cG,List.nil_append,List.append_nil,List.cons_append,hO,forall_const,imp_self,true_and,and_true,aD];refine sV hE mC 111 ?_;simp only [eU,qa,decide_true,gb,kb,cG,List.nil_append,List.append_nil,List.cons_append,hO,forall_const,imp_self,true_and,and_true,aD];refine uC (x:=16384#16) hE ht hr ?_;rw [hB];simp only [cG,List.nil_append,List.append_nil,List.cons_append,hO,forall_const,imp_self,true_and,and_true,aD];refine sV hE mB 0 ?_;simp only [eU,qb,decide_true,gc,kc,gd,kd,cG,List.nil_append,List.append_nil,List.cons_append,hO,forall_const,imp_self,true_and,and_true,aD];refine uC (x:=32768#16) hE ht hr ?_;rw [hC];simp only [cG,List.nil_append,List.append_nil,List.cons_append,hO,forall_const,imp_self,true_and,and_true,aD];refine sV hE mC td ?_;simp only [eU,qd,decide_true,ge,ke,cG,List.nil_append,List.append_nil,List.cons_append,hO,forall_const,imp_self,true_and,and_true,aD];refine uC (x:=16384#16) hE ht hr ?_;rw [hB];simp only [cG,List.nil_append,List.append_nil,List.cons_append,hO,forall_const,imp_self,true_and,and_true,aD];refine sV hE mB te ?_;simp only [eU,qe,decide_true,gf,kf,cG,List.nil_append,List.append_nil,List.cons_append,hO,forall_const,imp_self,true_and,and_true,aD];refine uC (x:=32768#16) hE ht hr ?_;rw [hC];simp only [cG,List.nil_append,List.append_nil,List.cons_append,hO,forall_const,imp_self,true_and,and_true,aD];refine sV hE mC 111 ?_;simp only [eU,qf,decide_true,hO,forall_const,imp_self,true_and,and_true,aD];exact hQ
end
end Go.AM
end
section
namespace Go.AM
set_option maxRecDepth 20000
set_option maxHeartbeats 1000000
section
variable {E:Sy} {H H' H0 Z Z':AH} {Q:Value->AH->Prop} {R:List Res} {K:KI} {fc xc:List Value} {own:List (BitVec 16×(Int×Int))} {done:Int}
theorem aMz (s:Nat) {h p:BitVec 16} {l:jP} (want:BitVec 16) (hn:(l.map Prod.fst).Nodup):(([(s,⟨h,[],gD l⟩)]:uQ).all fun x=>x.2.port want p)=decide ((want&&&h) &&& ~~~ wQ p l=0#16):=by
 rw [aEN l hn];simp [sB.port]
theorem aLu (p:BitVec 16):iD [] p=(0,0):=rfl
theorem aIh (p:BitVec 16) (v:Int×Int):iD [(p,v)] p=v:=by simp [iD]
theorem aOZ (p:BitVec 16) (v w:Int×Int):dQ p v [(p,w)]=[(p,v)]:=by simp [dQ]
theorem aDL (hE:aU E) (x2:BitVec 8) {t m:Nat} {h:BitVec 16} {l:jP} {pv:Value} (ht:H.get t = .cells (pcP h pv) none) (hm:dP u16 u16 H m l) (ok:lU h l) (hpv:Rows H 2 pv (eZ l)) (hpp:plain1 pv=true) (hh:h &&& ~~~51199#16=0#16) (hQ:∀ H',Q (vb true) H') :
  F.f116_j1 E Q (u8 x2) (ptr t 0) (.map (some m)) H:=by
 have hlo:aE 6 (ptr t 0) H=some (.agg (pcP h pv).toArray):=by rw [aL,ht]; rfl
 have hb6:bR 1 6 #[(.string ⟨#[]⟩),(.int .u32 0),(.slice none 0 0),(.int .u16 0),(.slice none 0 0),(.slice none 0 0)] [(0,.agg (pcP h pv).toArray)]=some (.cells (pcP h pv) none,dN 1 1):=cQ 6 z6 (pcP h pv) rfl rfl;have hv:Rows (H.new (.cells (pcP h pv) none)) 6 (slc H.next 0 1 1) [pcP h pv]:=Rows.made (f:=none) (by rw [AH.get_new_self]; rfl) (.inl rfl) rfl (by simp [pcP])
 have x1:Ext H (H.new (.cells (pcP h pv) none)):=(Ext.refl _).new _;have r4:aA .rem (u8 x2) (.int .u8 4)=some (u8 (x2 % 4#8)):=aCd _ 4#8 (by decide)
 have a80:aA .add (.int .u8 80) (u8 (x2 % 4#8))=some (u8 (80#8+x2 % 4#8)):=aER 80#8 _
 have hcv:∀ x:BitVec 8,aR .u64 (u8 x)=some (u64 ((x.setWidth 16).setWidth 64)):=fun x=>by
  rw [aHc]; congr 2
 have p0:(80#8+x2 % 4#8).setWidth 16≠0#16:=by
  have:∀ x:BitVec 8,(80#8+x % 4#8).setWidth 16≠0#16:=by decide +kernel
  exact this x2
 simp only [F.f116_j1,hlo,hb6,AM.aW,cW,aD];generalize H.new (.cells (pcP h pv) none)=H1 at *;have ht1:=x1.cells ht;have hm1:∀ {H':AH},Ext H1 H'->dP u16 u16 H' m l:=fun e=>hm.keep ((x1.trans e).get hm.lt);refine S.f119 hE h l hh ok hv hpp (hpv.mono x1) fun K kk H2 g2 pol =>?_;simp only [cZ,List.getElem?_cons_zero,List.getElem?_cons_succ,cG,List.nil_append,List.cons_append,aD];refine aIM hE g2 (by decide) (jk:=0) rfl fun H3 g3 =>?_
 simp only [cG,List.nil_append,List.cons_append,aD];refine aCV hE pol ok.len g3 (by decide) (jk:=0) rfl fun s b Z' H4 g4 hd =>?_
 have p2:mF (.agg (gZ 0 0).toArray) 2=some (vi 0):=rfl;have c0:aA .neq (vi 0) (.int .i64 0)=some (vb false):=rfl;have hlk:=tI (hm1 g4.ext) ((80#8+x2 % 4#8).setWidth 16);generalize hp:(80#8+x2 % 4#8).setWidth 16=p at *;generalize hr:wQ p l=r at *
 have s1:aQ (ptr H4.next 0) (u16 r) (H4.new (.cells [.int .u16 0] none))=some (H4.new (.cells [u16 r] none)):=by
  have:=gL (j:=0) (v:=u16 r) (AH.get_new_self H4 (.cells [.int .u16 0] none)) (by simp) rfl
  rw [AH.new_put] at this;exact this
 have hcp:=hcv (80#8+x2 % 4#8);rw [hp] at hcp;simp only [p2,c0,r4,a80,nK,hp,hlk,aP,s1,cG,List.nil_append,List.cons_append,aD];have g5:=(g4.newbox [u16 r]).assoc;generalize H4.next=vr at *;generalize H4.new (.cells [u16 r] none)=H5 at *;refine aAU hE g5 (by decide) (jk:=0) rfl rfl 0 (by omega) (fun j hj=>by omega) rfl fun o0 H6 g6 =>?_
 simp only [cG,List.nil_append,List.cons_append,aD];refine aAU hE g6 (by decide) (jk:=0) rfl rfl 1 (by omega) (fun j hj=>⟨o0,by rw [show j=0 by omega]; rfl⟩) rfl fun o1 H7 g7 =>?_
 simp only [hcp,cG,List.nil_append,List.cons_append,aD];have hB:=aMz s (h:=h) (p:=p) 16384#16 ok.nd;have hC:=aMz s (h:=h) (p:=p) 32768#16 ok.nd;rw [hr] at hB hC;generalize hmB:decide ((16384#16&&&h) &&& ~~~ r=0#16)=mB at *;generalize hmC:decide ((32768#16&&&h) &&& ~~~ r=0#16)=mC at *;refine rK (e:=if mC=true then 111 else 13) hE hd (by simp) g7 (by decide) (jk:=0) rfl 1 (by omega) (o:=o1) (jo:=3) (port := -1) (lis:=false) rfl rfl p (by rw [hC,aLu]; rfl) fun ca H8 a1 a2 a3 g8 =>?_
 refine qK g8 a1 a2 fun ra H9 g9 =>?_;simp only [hcp,cG,List.nil_append,List.cons_append,aD];refine aFR hE hd (by simp) g9 (by decide) (jk:=0) rfl 0 (by omega) (o:=o0) (jo:=2) rfl rfl p p0 fun eb own1' port cb H10 hb b1 b2 b3 g10 =>?_
 rw [hB,aLu] at hb
 have hb:(mB=false/\eb=13/\own1'=[]/\port = -1)\/(mB=true/\eb=0/\own1'=[(p,(1,0))]/\port=p.toNat):=by
  rcases hb with h | h | h
  ·exact .inl h
  ·exact absurd h.2.1 (by decide)
  ·exact .inr ⟨h.1,h.2.2.1,h.2.2.2.1,h.2.2.2.2⟩
 refine qK g10 b1 b2 fun rb H11 g11 =>?_;simp only [cG,List.nil_append,List.cons_append,aD]
 refine aHf hE g11 (by decide) (jk:=0) rfl 0 (by omega) (o:=o0) (jo:=2) (port:=port) rfl rfl p (by
  rcases hb with ⟨_,_,_,h⟩ | ⟨_,_,h',h⟩
  ·exact .inl h
  ·exact .inr ⟨h,by rw [h',aIh]⟩) fun ec own2 lis cc H12 hc c1 c2 c3 g12 =>?_
 have hc:(mB=false/\eb=13/\ec=22/\own2=[]/\port = -1)\/(mB=true/\eb=0/\ec=0/\own2=[(p,(1,1))]/\port=p.toNat/\lis=true):=by
  rcases hb with ⟨h1,h2,h3,h4⟩ | ⟨h1,h2,h3,h4⟩ <;> rcases hc with ⟨k1,k2,k3,k4⟩ | ⟨k1,k2,k3,k4⟩
  ·exact .inl ⟨h1,h2,k2,by rw [k3,h3],h4⟩
  ·omega
  ·omega
  ·exact .inr ⟨h1,h2,k2,by rw [k3,h3,aOZ],h4,k4⟩
 clear hb;refine qK g12 c1 c2 fun rc H13 g13 =>?_;simp only [hcp,cG,List.nil_append,List.cons_append,aD]
 refine rK (e:=if mC=true then (if mB=true then 0 else 111) else 13) hE hd (by simp) g13 (by decide) (jk:=0) rfl 1 (by omega) (o:=o1) (jo:=3) (port := -1) (lis:=false) rfl rfl p (by
  rw [hC];rcases hc with ⟨h1,_,_,h,_⟩ | ⟨h1,_,_,h,_⟩
  ·rw [h,h1,aLu]; rfl
  ·rw [h,h1,aIh]; rfl) fun cd H14 d1 d2 d3 g14 =>?_
 refine qK g14 d1 d2 fun rd H15 g15 =>?_;simp only [hcp,cG,List.nil_append,List.cons_append,aD];refine aFR hE hd (by simp) g15 (by decide) (jk:=0) rfl 1 (by omega) (o:=o1) (jo:=3) rfl rfl p p0 fun ee own3 port3 ce H16 he e1 e2 e3 g16 =>?_
 rw [hB] at he
 have he2:own3=own2/\port3 = -1/\ee=if mB=true then 98 else 13:=by
  rcases hc with ⟨h1,_,_,h,_⟩ | ⟨h1,_,_,h,_⟩
  ·rw [h1] at he
   rcases he with k | k | k
   ·exact ⟨k.2.2.1,k.2.2.2,by rw [h1]; exact k.2.1⟩
   ·exact absurd k.1 (by decide)
   ·exact absurd k.1 (by decide)
  ·rw [h1,h,aIh] at he
   rcases he with k | k | k
   ·exact absurd k.1 (by decide)
   ·exact ⟨by rw [h]; exact k.2.2.2.1,k.2.2.2.2,by rw [h1]; exact k.2.2.1⟩
   ·exact absurd (show (1:Int) > 0 by decide) k.2.1
 obtain ⟨rfl,rfl,hee⟩:=he2;clear he;refine qK g16 e1 e2 fun re H17 g17 =>?_;simp only [cG,List.nil_append,List.cons_append,aD]
 refine aIb (own':=[]) hE g17 (by decide) (jk:=0) rfl rfl 0 (by omega) (o:=o0) (jo:=2) (port:=port) (lis:=lis) rfl rfl (by
  rcases hc with ⟨h1,_,_,h,h2⟩ | ⟨h1,_,_,h,h2,h3⟩
  ·exact .inl ⟨h2,h.symm⟩
  ·exact .inr ⟨p,h2,h3,h,rfl⟩) fun _ H18 g18 =>?_
 simp only [hcp,cG,List.nil_append,List.cons_append,aD];refine rK (e:=if mC=true then 111 else 13) hE hd (by simp) g18 (by decide) (jk:=0) rfl 1 (by omega) (o:=o1) (jo:=3) (port := -1) (lis:=false) rfl rfl p (by rw [hC,aLu]; rfl) fun cf H19 f1 f2 f3 g19 =>?_
 refine qK g19 f1 f2 fun rf H20 g20 =>?_;simp only [cG,List.nil_append,List.cons_append,aD];have ht20:=g20.ext.cells ht1;have q:=fun {k b c} (h:([aF kk [ptr K.k 0],aF vr [u16 r],aF o0 (bQ port lis),aF o1 (bQ (-1) false),aF ra ca,aF rb cb,aF rc cc,aF rd cd,aF re ce,aF rf cf]:List Res)[k]? = some (aF b c))=>g20.box (b:=b) (c:=c) (dK _ h);have hvr:=q (k:=1) rfl;refine uC (x:=16384#16) hE ht20 hvr ?_;rw [hmB];simp only [aD];rcases hc with ⟨h1,k1,k2,_,_⟩ | ⟨h1,k1,k2,_,_,_⟩
 ·rw [h1] at hmB hee d3 ⊢
  rw [k1] at b3;rw [k2] at c3;simp only [aD];exact aCD hE ht20 hvr false mC hmB hmC (q (k:=4) rfl) a3 (q (k:=5) rfl) b3 (q (k:=6) rfl) c3 (q (k:=7) rfl) d3 (q (k:=8) rfl) e3 (q (k:=9) rfl) f3 (te:=0) (td:=111) rfl rfl rfl hee rfl (hQ _)
 ·rw [h1] at hmB hee d3 ⊢
  rw [k1] at b3;rw [k2] at c3;simp only [aD];exact aCD hE ht20 hvr true mC hmB hmC (q (k:=4) rfl) a3 (q (k:=5) rfl) b3 (q (k:=6) rfl) c3 (q (k:=7) rfl) d3 (q (k:=8) rfl) e3 (q (k:=9) rfl) f3 (te:=98) (td:=0) rfl rfl rfl hee rfl (hQ _)
end
end Go.AM
end
section
namespace Go.AM
set_option maxRecDepth 20000
set_option maxHeartbeats 1000000
section
variable {E:Sy} {H H' H0 Z Z':AH} {Q:Value->AH->Prop}
theorem aJo (x:BitVec 8):((x % 4#8).setWidth 16 <<< 14) &&& ~~~51199#16=0#16:=by
 have:∀ x:BitVec 8,((x % 4#8).setWidth 16 <<< 14) &&& ~~~51199#16=0#16:=by decide +kernel
 exact this x
theorem aH6 (x:BitVec 8):((x % 4#8).setWidth 16 <<< 14) &&& ~~~49152#16=0#16:=by
 have:∀ x:BitVec 8,((x % 4#8).setWidth 16 <<< 14) &&& ~~~49152#16=0#16:=by decide +kernel
 exact this x
theorem aIF (x h:BitVec 16):(x&&&h) &&& ~~~h=0#16:=by
 rw [BitVec.and_assoc];have:h &&& ~~~h=0#16:=by ext k hk; simp
 rw [this]; simp
theorem lU.add {h:BitVec 16} {l:jP} (ok:lU h l) (hk:h &&& ~~~49152#16=0#16) {p x:BitVec 16} (hp:p ∉ l.map Prod.fst) (h0:x&&&h≠0#16) (hl:l.length<32):lU h (l++[(p,x&&&h)]):=by
 refine ⟨?_,?_,?_,?_,by simp; omega⟩
 ·rw [List.map_append,List.nodup_append]
  refine ⟨ok.nd,by simp,fun a ha b hb =>?_⟩
  simp at hb;subst hb;exact fun e=>hp (e▸ha)
 ·intro q hq
  rcases List.mem_append.1 hq with hq | hq
  ·exact ok.some_ q hq
  ·simp at hq; subst hq; exact h0
 ·intro q hq
  rcases List.mem_append.1 hq with hq | hq
  ·exact ok.held q hq
  ·simp at hq; subst hq; exact aIF x h
 ·intro q hq
  rcases List.mem_append.1 hq with hq | hq
  ·exact ok.kind q hq
  ·simp at hq; subst hq
   show (x&&&h) &&& ~~~49152#16=0#16
   rw [BitVec.and_assoc,hk]; simp
theorem S.f116 (hE:aU E) (e:List (BitVec 8)) (he:e.length<2 ^ 63) {v:Value} (hv:yQ H v (e.map AM.u8)) (x1 x2:BitVec 8) (hQ:∀ H',Q (vb true) H'):E.call (E.fid i.f116) [v,u8 x1,u8 x2] H Q:=by
 apply hE.f116;have r4:aA .rem (u8 x1) (.int .u8 4)=some (u8 (x1 % 4#8)):=aCd _ 4#8 (by decide)
 have hh:=aJo x1;have hk:=aH6 x1;simp only [F.f116,aD];apply hE.f115;have hb:∀ h:BitVec 16,aX [(0,1),(1,1),(2,1),(3,1),(4,1),(5,1)] #[(.string ⟨#[]⟩),(.int .u32 0),(.slice none 0 0),(.int .u16 0),(.slice none 0 0),(.slice none 0 0)] [(0,(.string ⟨#[112]⟩)),(1,(.int .u32 2147418112)),(3,u16 h)]=some (.agg (pcP h bL).toArray):=fun _=>rfl;generalize hhh:(x1 % 4#8).setWidth 16 <<< 14=h at *;have hst:aG 6 (ptr H.next 0) (.agg (pcP h bL).toArray) (H.new (.cells z6 none))=some (H.new (.cells (pcP h bL) none)):=eF rfl rfl rfl;have hlen:=hv.lenSlc;rw [List.length_map] at hlen;have g0:Has H H H []:=Has.start (Ext.refl H);have g1:=((g0.newbox (pcP h bL)).nils 2).newmap u16 u16;have not1:un .not (.bool true)=some (.bool false):=rfl;simp only [not1,r4,nK,mL,hhh,hb,aP,hst,sJ,hlen,aD];rw [show (H.new (.cells (pcP h bL) none)).next=H.next+1 from rfl] at g1;generalize H.next+1=m at *;generalize ht:H.next=t at *;generalize (H.new (.cells (pcP h bL) none)).new (.map [] 0 true)=H2 at *;refine aM.count e.length (fun j ls H'=>ls=[u8 x2,ptr t 0,.map (some m),v,vi e.length,vi j]/\∃ (l:jP) (pv:Value),lU h l/\l.length<=j/\plain1 pv=true/\Has H H H' [aF t (pcP h pv),bP 2 pv (eZ l),cF u16 u16 m l]) ?_ ⟨rfl,[],bL,⟨by simp,by simp,by simp,by simp,by simp⟩,by simp,rfl,g1⟩
 rintro j _ H3 X hj hX ⟨rfl,l,pv,ok,hlj,hpp,g3⟩;have hb3:=g3.box (k:=0) (b:=t) rfl;have hm3:=g3.mapAt (k:=2) rfl;have hr3:=g3.rows (k:=1) rfl;have k10:(.int .i64 10:Value)=vi 10:=rfl;rcases Nat.lt_or_ge j e.length with hjl | hjl
 rotate_left
 ·have hjl':¬ (j:Int)<e.length:=by omega
  simp only [F.f116_l1,fW,fV,gI,gJ,kI,nN,aV,hjl',decide_false,aD];exact aDL hE x2 hb3 hm3 ok hr3 hpp hh hQ
 have hX:=hX hjl;have hjl':(j:Int)<e.length:=by omega
 have hjj:=cU (i:=j) (by omega)
 obtain ⟨b,o,f1,f2⟩:=(hv.mono g3.ext).elem (i:=j) (by simpa using hjl)
 rw [List.getElem_map] at f2;generalize e[j]=B at *;rcases Nat.lt_or_ge j 10 with h10 | h10
 rotate_left
 ·have h10':(10:Int)<=(j:Int):=by omega
  simp only [F.f116_l1,fW,fV,gI,gJ,kI,nN,aV,hjl',decide_true,f1,f2,k10,eP,ge_iff_le,h10',aD];exact aDL hE x2 hb3 hm3 ok hr3 hpp hh hQ
 have h10':¬ (10:Int)<=(j:Int):=by omega
 have q1:aA .rem (u8 B) (.int .u8 4)=some (u8 (B % 4#8)):=aCd _ 4#8 (by decide)
 have q2:aA .add (.int .u8 80) (u8 (B % 4#8))=some (u8 (80#8+B % 4#8)):=aER 80#8 _;have q3:aA .quo (u8 B) (.int .u8 4)=some (u8 (B / 4#8)):=aMW _ 4#8 (by decide)
 have q4:aA .rem (u8 (B / 4#8)) (.int .u8 3)=some (u8 (B / 4#8 % 3#8)):=aCd _ 3#8 (by decide)
 have q5:aA .add (.int .u8 1) (u8 (B / 4#8 % 3#8))=some (u8 (1#8+B / 4#8 % 3#8)):=aER 1#8 _;have hneq:∀ y:BitVec 16,aA .neq (u16 y) (.int .u16 0)=some (vb (decide (y≠0#16))):=fun y=>sO y 0#16;have d3:(pcP h pv)[3]? = some (u16 h):=rfl;have d5:(pcP h pv)[5]? = some pv:=rfl;have hlk:=aOM hm3 ((80#8+B % 4#8).setWidth 16);generalize hp:(80#8+B % 4#8).setWidth 16=p at *;generalize hx:(1#8+B / 4#8 % 3#8).setWidth 16 <<< 14=x at *;have unb:∀ b:Bool,un .not (vb b)=some (vb (!b)):=fun b=>by cases b <;> rfl
 cases hl:l.lookup p with
 | some y =>
  rw [hl] at hlk;simp only [F.f116_l1,fW,fV,gI,gJ,kI,nN,aV,hjl',decide_true,f1,f2,k10,eP,ge_iff_le,h10',decide_false,q1,q2,q3,q4,q5,nK,mL,hp,hx,hb3,d3,qC,hlk,cZ,List.getElem?_cons_zero,List.getElem?_cons_succ,unb,Option.isSome_some,Bool.not_true,hjj,aD];exact hX _ _ ⟨rfl,l,pv,ok,by omega,hpp,g3⟩
 | none =>
  rw [hl] at hlk;have hnot:p ∉ l.map Prod.fst:=kT.1 hl
  by_cases hz:x&&&h=0#16
  ·simp only [F.f116_l1,fW,fV,gI,gJ,kI,nN,aV,hjl',decide_true,f1,f2,k10,eP,ge_iff_le,h10',decide_false,q1,q2,q3,q4,q5,nK,mL,hp,hx,hb3,d3,qC,hlk,cZ,List.getElem?_cons_zero,List.getElem?_cons_succ,unb,Option.isSome_none,Bool.not_false,hneq,hz,ne_eq,not_true,hjj,aD]
   exact hX _ _ ⟨rfl,l,pv,ok,by omega,hpp,g3⟩
  ·have hok:=ok.add hk hnot hz (by omega)
   obtain ⟨H4,s4,g4⟩:=g3.mapset (n:=2) (kd:=0) (r:=m) (l:=l) rfl (fun a b=>fP a b) p (x&&&h);rw [uM hnot] at g4;have hbv:aX [(0,1),(1,1)] #[(.int .u16 0),(.int .u16 0)] [(0,u16 p),(1,u16 (x&&&h))]=some (.agg #[u16 p,u16 (x&&&h)]):=rfl;have hb2:bR 1 2 #[(.int .u16 0),(.int .u16 0)] [(0,.agg #[u16 p,u16 (x&&&h)])]=some (.cells [u16 p,u16 (x&&&h)] none,dN 1 1):=cQ 2 [u16 0#16,u16 0#16] [u16 p,u16 (x&&&h)] rfl rfl;obtain ⟨pv',H5,a1,a2,g5⟩:=g4.app1 (k:=1) (sz:=2) (v:=pv) (rows:=eZ l) rfl (bytes:=4) [u16 p,u16 (x&&&h)] rfl rfl (by decide) (by decide) (by simp [eZ]; omega)
   have hb4:=g4.box (k:=0) (b:=t) rfl;have hb5:=g5.box (k:=0) (b:=t) rfl;have s6:=gL (j:=5) (v:=pv') hb5 (show 5<6 by decide) a2
   have g6:=g5.put (k:=0) (b:=t) rfl (pcP h pv');have hset:(pcP h pv).set 5 pv'=pcP h pv':=rfl;rw [hset] at s6;simp only [F.f116_l1,fW,fV,gI,gJ,kI,nN,aV,hjl',decide_true,f1,f2,k10,eP,ge_iff_le,h10',decide_false,q1,q2,q3,q4,q5,nK,mL,hp,hx,hb3,d3,qC,hlk,cZ,List.getElem?_cons_zero,List.getElem?_cons_succ,unb,Option.isSome_none,Bool.not_false,hneq,hz,ne_eq,not_false_eq_true,s4,hb4,d5,hbv,hb2,AM.aW,cW,a1,gN,s6,hjj,aD];exact hX _ _ ⟨rfl,l++[(p,x&&&h)],pv',hok,by simp; omega,a2,by rw [show eZ (l++[(p,x&&&h)])=eZ l++[[u16 p,u16 (x&&&h)]] by simp [eZ]]; exact g6⟩
theorem S.law_KernelPorts (hE:aU E) (args:List Value) (ha:jQ H [.slice 1 (.int .u8),.int .u8,.int .u8] args) (hQ:∀ H',Q (vb true) H'):E.call (E.fid i.f116) args H Q:=by
 obtain ⟨v1,_,rfl,h1,ha⟩:=ha.cons_inv;obtain ⟨v2,_,rfl,h2,ha⟩:=ha.cons_inv;obtain ⟨v3,_,rfl,h3,ha⟩:=ha.cons_inv;obtain rfl:=ha.nil_inv;obtain ⟨l,hv,hl⟩:=vL.u8s' h1;obtain ⟨x,rfl⟩:=h2.u8;obtain ⟨n,rfl⟩:=h3.u8;exact S.f116 hE l hl hv x n hQ
end
end Go.AM
end
