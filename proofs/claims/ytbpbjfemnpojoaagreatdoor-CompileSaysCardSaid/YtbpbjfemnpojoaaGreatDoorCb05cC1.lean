/- CONTRACTS ON THE PRINTED FUNCTIONS. -/
import Derived.Test.YtbpbjfemnpojoaaGreatDoorCb05cC0
set_option linter.all false
namespace Go.AM
section
open Go.Sort (SWO PermIn SortedIn insertionSort)
set_option maxRecDepth 20000
theorem Has.perm{H0 Z H:AH}{L L':List Res}(h:Has H0 Z H L)(p:L.Perm L'):Has H0 Z H L' :=
 ⟨h.ext,h.sub,λr hr=>h.all r (p.mem_iff.2 hr),(p.flatMap_right Res.fp).nodup_iff.1 h.nd⟩
def itR(ib r:Nat)(l done:List (BitVec 32×PlV)):Res:=⟨[r,ib],λH=>iP u32 pv H ib r l done,λh e=>h.keep (e _ (by simp)) (e _ (by simp))⟩
section
variable {E:Sy}{H H' H0 Z:AH}{Q:Value->AH->Prop}{L:List Res}
theorem aFD(l:List cC)(k:Nat):(l.filter λx=>decide (rkR x=k)).map cC.r=oD (l.map cC.r) k:=by
 unfold oD;rw[List.filter_map]
 rfl
theorem tT(l:List cC):(fU rkR l 4).map cC.r=sC (l.map cC.r):=by
 simp only[fU,List.nil_append,List.map_append,aFD,sC]
theorem aCa(es:List cC)(n:BitVec 32):(aD6 es n).map cC.r=lQ (es.map cC.r) n:=by
 unfold aD6 lQ;rw[List.filter_map]
 rfl
theorem wA(l:List cC):∀ (n:Nat) {x:cC},x∈fU rkR l n->x∈l
 | 0,x,h=>by simp[fU]at h
 | n+1,x,h=>by
  rw[fU,List.mem_append]at h;rcases h with h | h
  ·exact wA l n h
  ·exact(List.mem_filter.1 h).1
theorem aBl(l:List cC):(fU rkR l 4).length=l.length:=by
 have h0:∀ n,(fU rkR l n).length=(l.filter λx=>decide (rkR x<n)).length:=by
  intro n
  induction n with
  | zero =>
   have:l.filter (λx=>decide (rkR x<0))=[]:=List.filter_eq_nil_iff.2 λx _=>by simp
   rw[this];rfl
  | succ n ih =>
   rw[fU,List.length_append,ih];clear ih
   induction l with
   | nil=>rfl
   | cons x l ih =>
    by_cases h1:rkR x<n
    ·have h2:¬ rkR x=n:=by omega
     have h3:rkR x<n+1:=by omega
     simp only[List.filter_cons,h1,h2,h3,decide_true,decide_false,if_true,Bool.false_eq_true,if_false,List.length_cons]at ih ⊢;omega
    ·by_cases h2:rkR x=n
     ·have h3:rkR x<n+1:=by omega
      simp only[List.filter_cons,h1,h2,h3,decide_true,decide_false,if_true,Bool.false_eq_true,if_false,List.length_cons]at ih ⊢;rw[h2]at h1;simp only[h1,decide_false,Bool.false_eq_true,if_false,Nat.lt_succ_self,decide_true,if_true,List.length_cons];omega
     ·have h3:¬ rkR x<n+1:=by omega
      simp only[List.filter_cons,h1,h2,h3,decide_false,Bool.false_eq_true,if_false]at ih ⊢;omega
 rw[h0,List.filter_eq_self.2];intro x _
 simpa using aMr x
def ofL(t2 t3 r ib:Nat)(d:BitVec 32)(kv done:List (BitVec 32×PlV))(cv:Value)(rows:List (List Value))(es:List dR):List Res :=
 [bF t2 [bY,u32 0#32],bF t3 [cv,u32 d],itR ib r kv done,aY 2 cv rows]++es.map pQ
theorem aBI{m:Nat}(hSR:jP E m){v:Value}{l:List cC}(g:dJ zH H 3 v (l.map cC.cells))(hne:l≠[])(hl:l.length<=m)(hQ:∀ H',Upd (aY 3 v (l.map cC.cells)) (aY 3 v ((fU rkR l 4).map cC.cells)) H H'->Q (.tuple #[]) H'):
  E.call 62 [v,.func (.func 63) #[] #[]] H Q:=by
 obtain⟨b,c,tail,f,rfl,hg,up⟩:=g.arrE qC hne;have hs:(l.toArray).size=l.length:=by simp
 have:=hSR (Q:=Q) (c:=c) hg (by rw[hs];exact hl) λd' H' hd s =>?_
 ·rw[hs]at this;exact this
 ·have hd:d'.toList=fU rkR l 4:=by simpa using hd
  have h:=up d' H' (by rw[<- Array.length_toList,hd,aBl]) s
  rw[hd]at h;exact hQ H' h
noncomputable local instance:DecidableEq (BitVec 32×PlV):=λa b=>Classical.propDecidable _
theorem vE{α β:Type}(f:α->β):∀ (l:List α) (i:Nat),(l.map f).eraseIdx i=(l.eraseIdx i).map f
 | [],_=>rfl
 | _ :: _,0=>rfl
 | a :: l,i+1=>by simp[vE f l i]
theorem zR{α β:Type}(f:α->β){l:List α}{i:Nat}(h:i<l.length):(l.map f)[i]? = some (f l[i]):=by simp[h]
theorem aM8(hE:aX E){sm:Nat}(hsm:sm<=80)(hSC:kI E sm)(hSR:jP E sm){H1:AH}{t2 t3 r ib:Nat}{d:BitVec 32}{al:List dR}{pes:List cC}(gr:Grp pes al)(hpl:pes.length<=sm)(hca:∀ x∈pes,dM H x.r x.cells/\x.r.conds.length<2 ^ 20)(g1:Has H Z H1 (ofL t2 t3 r ib d (al.map dR.kv) [] bY [] al))(hz0:∀ b,b<H.next->Z.get b = .dead)(hQ:∀ ns cs H' Z',Ext H H'->Sub Z' H'->(∀ b,b<H.next->Z'.get b = .dead)->pE ⟨d,pes.map cC.r⟩ ns->oY Z' (eA ⟨d,pes.map cC.r⟩ ns) cs->Q (.agg cs.toArray) H'):
  lp3 (F.f30_l2 E Q) [ptr t2 0,ptr t3 0,ptr ib 0] H1:=by
 have hall:al.length<=sm:=by
  have h1:=qJ (al.map dR.n) (pes.map λx=>x.r.number) gr.nd λn hn=>by
   obtain⟨e,he,rfl⟩:=List.mem_map.1 hn;obtain⟨h1,h2⟩:=gr.all e he;obtain⟨x,hx⟩:=List.exists_mem_of_ne_nil _ h2;rw[h1]at hx;have:=List.mem_filter.1 hx;exact List.mem_map.2 ⟨x,this.1,by simpa using this.2⟩
  simp only[List.length_map]at h1;omega
 refine aZ.ind (λm ls H'=>∃ cv ces es done Z,ls=[ptr t2 0,ptr t3 0,ptr ib 0]/\Has H Z H' (ofL t2 t3 r ib d (al.map dR.kv) done cv (ces.map fB.cells) es)/\(∀ x∈ces,cO (gC 0) Z 2 x.v.1 x.c.branches) /\
   (∀ e∈al,e.kv ∉ done->e∈es)/\ces.map fB.c=done.map (λp=>rC ⟨d,pes.map cC.r⟩ p.1)/\(done=[]->cv=bY)/\(∀ b,b<H.next->Z.get b = .dead)/\m=al.length - done.length) ?_ al.length
  ⟨bY,[],al,[],Z,rfl,g1,by simp,λe he _=>he,rfl,λ_=>rfl,hz0,by simp⟩
 rintro m _ H2 X ih ⟨cv,ces,es,done,Z,rfl,g,hces,hes,hcd,hnil,hzd,rfl⟩;have it:iP u32 pv H2 ib r (al.map dR.kv) done:=g.get (k:=2) rfl;have hcl:ces.length=done.length:=by have:=congrArg List.length hcd;simpa using this
 simp only[F.f30_l2,aC];refine iP.next it (λp ob hp hnd it' hen =>?_) λhperm =>?_
 ·
  have hdl:done.length<al.length:=by
   have h1:=it'.nodup;have:=qJ (done++[p]) (al.map dR.kv) h1.1 h1.2;simp at this;omega
  obtain⟨e,he,rfl⟩:=List.mem_map.1 hp;have hee:=hes e he hnd;obtain⟨i,hi,hie⟩:=List.getElem_of_mem hee
  have g2:Has H Z (H2.put ib ob) (ofL t2 t3 r ib d (al.map dR.kv) (done++[e.kv]) cv (ces.map fB.cells) es):=by
   refine g.step (k:=2) (r':=itR ib r (al.map dR.kv) (done++[e.kv])) rfl ⟨(dU.refl _ _).put (.inl (by simp[itR])) _,it',λb hb=>⟨.inl hb,?_⟩,?_⟩
   ·simp only[itR,List.mem_cons,List.not_mem_nil,or_false]at hb
    rcases hb with rfl | rfl
    ·exact it.map.lt
    ·exact it.lt
   ·have:=it.map.lt
    obtain⟨es',clock,h1,h2,h3,h4,h5,ix,h6,h7,h8,h9⟩:=it;simp only[itR,List.nodup_cons,List.mem_cons,List.not_mem_nil,or_false,not_false_eq_true,List.nodup_nil,and_true];rintro rfl;rw[h1]at h9;simp at h9
  generalize H2.put ib ob=H3 at *
  have hk:(ofL t2 t3 r ib d (al.map dR.kv) (done++[e.kv]) cv (ces.map fB.cells) es)[4+i]? = some (aY 3 e.v.1 (e.l.map cC.cells)):=by
   simp only[ofL];rw[List.getElem?_append_right (by simp)]
   have:4+i - [bF t2 [bY,u32 0#32],bF t3 [cv,u32 d],itR ib r (al.map dR.kv) (done++[e.kv]),aY 2 cv (ces.map fB.cells)].length=i:=by simp
   rw[this,zR pQ hi,hie]
   rfl
  obtain⟨hel,hene⟩:=gr.all e he;have hell:e.l.length<=sm:=by rw[hel];exact Nat.le_trans (List.length_filter_le _ _) hpl
  have x0:(dR.kv e).1=e.n:=rfl;have x1:pv (dR.kv e).2=e.v.1:=rfl;simp only[hen,x0,x1,aC];refine aBI hSR (g2.slice hk) hene hell λH4 u4 =>?_;have g4:=g2.step hk u4
  have hk4:((ofL t2 t3 r ib d (al.map dR.kv) (done++[e.kv]) cv (ces.map fB.cells) es).set (4+i) (aY 3 e.v.1 ((fU rkR e.l 4).map cC.cells)))[4+i]? = some (aY 3 e.v.1 ((fU rkR e.l 4).map cC.cells)):=by
   rw[List.getElem?_set_self];simp[ofL,hi];omega
  have r4:=g4.rows hk4
  have hbx:H4.get t3 = .cells [cv,u32 d] none:=g4.box (k:=1) (b:=t3) (by
   rw[List.getElem?_set_ne (by omega)];rfl)
  simp only[hbx,aC]
  have hsl:=aCv r4 λx hx=>by
   have hx:=wA e.l 4 hx;rw[hel]at hx;exact((hca x (List.mem_filter.1 hx).1).1).mono (g4.ext)
  rw[tT,hel,aCa]at hsl;refine S.f36 hE hsl ?_ ?_ λv' H5 e5 hbr hfr =>?_
  ·have hlen:=aBl e.l
   have:(sC (lQ (pes.map cC.r) e.n)).length=(fU rkR e.l 4).length:=by
    rw[<- aCa,<- hel,<- tT,List.length_map]
   omega
  ·intro x hx
   rw[<- aCa,<- hel,<- tT]at hx;obtain⟨y,hy,rfl⟩:=List.mem_map.1 hx;have hy:=wA e.l 4 hy;rw[hel]at hy;exact(hca y (List.mem_filter.1 hy).1).2
  ·have hk1:∀ {H'':AH},Ext H4 H''->H''.get t3 = .cells [cv,u32 d] none:=λe=>e.cells hbx
   refine⟨by rw[eM,eM,hk1 e5,hbx],?_⟩
   obtain⟨Z5,fz,g5,keep⟩:=g4.callee e5
   have hbz:cO (gC 0) Z5 2 v' (dX (sC (lQ (pes.map cC.r) e.n))):=by
    obtain⟨rows,h1,h2,h3⟩:=hbr;refine⟨rows,keep _ _ _ h1 hfr,h2,λi a b =>?_⟩;obtain⟨q0,w,q1,q2,q3⟩:=h3 i a b;exact⟨q0,w,q1,keep _ _ _ q2 q3,rI.zero w⟩
   have hpv:plain1 v'=true:=by obtain⟨rows,h1,_⟩:=hbr;exact h1.plain
   have hbv:aK [(0,1),(1,1)] #[(.int .u32 0),(.slice none 0 0)] [(0,u32 e.n),(1,v')]=some (.agg [u32 e.n,v'].toArray):=by
    have hd:=aBS hpv;have hvc:=yT hpv;simp[hd,hvc,aT]
   have hbS:bO 1 2 #[(.int .u32 0),(.slice none 0 0)] [(0,.agg [u32 e.n,v'].toArray)]=some (.cells [u32 e.n,v'] none,fC 1 1):=cX 2 [u32 0#32,bY] _ rfl rfl;have g6:=g5.drop (4+i)
   have hdr:((ofL t2 t3 r ib d (al.map dR.kv) (done++[e.kv]) cv (ces.map fB.cells) es).set (4+i) (aY 3 e.v.1 ((fU rkR e.l 4).map cC.cells))).eraseIdx (4+i)=ofL t2 t3 r ib d (al.map dR.kv) (done++[e.kv]) cv (ces.map fB.cells) (es.eraseIdx i):=by
    simp only[ofL,List.cons_append,List.nil_append];rw[show 4+i=i+1+1+1+1 by omega]
    simp only[List.set_cons_succ,List.eraseIdx_cons_succ,List.eraseIdx_set_eq,vE]
   rw[hdr]at g6;obtain⟨cv',H7,a1,a2,g7⟩:=g6.app1 (k:=3) (sz:=2) (v:=cv) (rows:=ces.map fB.cells) (bytes:=32) rfl [u32 e.n,v'] rfl (by simp[hpv]) (by decide) (by decide) (by rw[List.length_map];omega)
   have hb7:=g7.box (k:=1) (b:=t3) (c:=[cv,u32 d]) rfl
   have st7:bD (ptr t3 0) cv' H7=some (H7.put t3 (.cells [cv',u32 d] none)):=by
    rw[eK,if_pos a2,hb7];rfl
   simp only[hbv,hbS,AM.aQ,cL,a1,nZ,st7,aC];have g8:=g7.put (k:=1) (b:=t3) (c:=[cv,u32 d]) rfl [cv',u32 d];refine ih (al.length - (done++[e.kv]).length) (by simp;omega) _ _ ⟨cv',ces++[(⟨rC ⟨d,pes.map cC.r⟩ e.n,⟨v',hpv⟩⟩:fB)],es.eraseIdx i,done++[e.kv],Z5,rfl,?_,?_,?_,?_,by simp,λb hb=>fz.dead (Nat.lt_of_lt_of_le hb g4.ext.1) (hzd b hb),rfl⟩
   ·have:(ofL t2 t3 r ib d (al.map dR.kv) (done++[e.kv]) cv (ces.map fB.cells) (es.eraseIdx i)).set 3 (aY 2 cv' (ces.map fB.cells++[[u32 e.n,v']]))=[bF t2 [bY,u32 0#32],bF t3 [cv,u32 d],itR ib r (al.map dR.kv) (done++[e.kv]),aY 2 cv' (ces.map fB.cells++[[u32 e.n,v']])]++(es.eraseIdx i).map pQ:=rfl
    rw[this]at g8
    have:([bF t2 [bY,u32 0#32],bF t3 [cv,u32 d],itR ib r (al.map dR.kv) (done++[e.kv]),aY 2 cv' (ces.map fB.cells++[[u32 e.n,v']])]++(es.eraseIdx i).map pQ).set 1 (bF t3 [cv',u32 d])=ofL t2 t3 r ib d (al.map dR.kv) (done++[e.kv]) cv' ((ces++[(⟨rC ⟨d,pes.map cC.r⟩ e.n,⟨v',hpv⟩⟩:fB)]).map fB.cells) (es.eraseIdx i):=by
     rw[List.map_append];rfl
    rw[this]at g8;exact g8
   ·intro x hx
    rcases List.mem_append.1 hx with hx | hx
    ·exact(hces x hx).sub (λ_ _ _ _ h e=>gC.sub h e) fz.1
    ·simp only[List.mem_singleton]at hx
     subst hx;exact hbz
   ·intro e' he' hn'
    simp only[List.mem_append,List.mem_singleton,not_or]at hn';have h1:=hes e' he' hn'.1;obtain⟨j,hj,hje⟩:=List.getElem_of_mem h1;refine List.mem_eraseIdx_iff_getElem?.2 ⟨j,?_,by rw[List.getElem?_eq_getElem hj,hje]⟩
    rintro rfl;rw[hje]at hie;exact hn'.2 (by rw[hie])
   ·rw[List.map_append,List.map_append,hcd];rfl
 ·
  have hb2:=g.box (k:=1) (b:=t3) (c:=[cv,u32 d]) rfl;have hex:ext (Value.tuple #[Value.bool false]) 0=some (.bool false):=rfl;simp only[hex,hb2,aC]
  have hdm:∀ n,n∈done.map Prod.fst↔∃ x∈pes.map cC.r,x.number=n:=by
   intro n
   have h1:n∈done.map Prod.fst↔n∈al.map dR.n:=by
    rw[(hperm.map Prod.fst).mem_iff,List.map_map];rfl
   rw[h1];constructor
   ·intro h
    obtain⟨e,he,rfl⟩:=List.mem_map.1 h;obtain⟨h1,h2⟩:=gr.all e he;obtain⟨x,hx⟩:=List.exists_mem_of_ne_nil _ h2;rw[h1]at hx;have:=List.mem_filter.1 hx;exact⟨x.r,List.mem_map.2 ⟨x,this.1,rfl⟩,by simpa using this.2⟩
   ·rintro⟨x,hx,rfl⟩
    obtain⟨y,hy,rfl⟩:=List.mem_map.1 hx;exact gr.mem y hy
  have hdn:(done.map Prod.fst).Nodup:=by
   have h1:=(hperm.map Prod.fst).nodup_iff;rw[h1,List.map_map];exact gr.nd
  have hcn:ces.map (λx=>x.c.number)=done.map Prod.fst:=by
   have:=congrArg (List.map cV.number) hcd;rw[List.map_map,List.map_map]at this;exact this
  have hcase:∀ x∈ces,x.c=rC ⟨d,pes.map cC.r⟩ x.c.number:=by
   intro x hx;have:x.c∈ces.map fB.c:=List.mem_map.2 ⟨x,hx,rfl⟩;rw[hcd]at this;obtain⟨p,_,hp⟩:=List.mem_map.1 this;rw[<- hp];rfl
  have fin:∀ (l':List fB) (H':AH),l'.Perm ces->l'.Pairwise (λx y=>x.c.number.toNat<y.c.number.toNat)->Has H Z H' (ofL t2 t3 r ib d (al.map dR.kv) done cv (l'.map fB.cells) es) ->
    opt (aE 2 (ptr t3 0) H') λv17=>opt (aH 2 (ptr t2 0) v17 H') λH8=>opt (aE 2 (ptr t2 0) H8) λv18=>Q v18 H8:=by
   intro l' H' hp hs g';have hb3:=g'.box (k:=1) (b:=t3) (c:=[cv,u32 d]) rfl;have hb2:=g'.box (k:=0) (b:=t2) (c:=[bY,u32 0#32]) rfl;have hr:=g'.rows (k:=3) (sz:=2) (v:=cv) (rows:=l'.map fB.cells) rfl;have hpc:=hr.plain;have lo3:aE 2 (ptr t3 0) H'=some (.agg [cv,u32 d].toArray):=by rw[aJ,hb3];rfl
   have st2:aH 2 (ptr t2 0) (.agg [cv,u32 d].toArray) H'=some (H'.put t2 (.cells [cv,u32 d] none)):=by
    rw[cM,hb2];have h3:AM.aT [bY,u32 0#32] 0 [cv,u32 d]=[cv,u32 d]:=rfl;have h4:[cv,u32 d].all plain1=true:=by simp[hpc]
    simp only[List.size_toArray,List.toList_toArray,h4,List.length_cons,List.length_nil,Nat.zero_add,Nat.le_refl,and_self,if_true,h3]
   have g8:=g'.put (k:=0) (b:=t2) (c:=[bY,u32 0#32]) rfl [cv,u32 d];have hb8:=g8.box (k:=0) (b:=t2) (c:=[cv,u32 d]) rfl;have lo2:aE 2 (ptr t2 0) (H'.put t2 (.cells [cv,u32 d] none))=some (.agg [cv,u32 d].toArray):=by rw[aJ,hb8];rfl
   simp only[lo3,st2,lo2,aC];obtain⟨Z',z1,z2,g9⟩:=g8.freeze (k:=3) (r:=aY 2 cv (l'.map fB.cells)) rfl;have hr8:Rows Z' 2 cv (l'.map fB.cells):=z2.toRows;have hmem:∀ x∈l',x∈ces:=λx hx=>hp.mem_iff.1 hx;refine hQ (l'.map λx=>x.c.number) [cv,u32 d] _ Z' g8.ext g9.sub (λb hb=>z1.dead hb (hzd b hb)) ⟨?_,λn =>?_⟩ ⟨cv,rfl,?_⟩
   ·rw[List.pairwise_map];exact hs
   ·rw[(hp.map λx:fB=>x.c.number).mem_iff,hcn]
    exact hdm n
   ·have hpl:(eA ⟨d,pes.map cC.r⟩ (l'.map λx=>x.c.number)).cases=l'.map fB.c:=by
     unfold eA;simp only[List.map_map];apply List.map_congr_left;intro x hx;exact(hcase x (hmem x hx)).symm
    rw[hpl];refine⟨_,hr8,by simp,λi h1 h2 =>?_⟩
    simp only[List.getElem_map];have hx:l'[i]'(by simpa using h1)∈l':=List.getElem_mem _
    exact⟨_,rfl,(hces _ (hmem _ hx)).sub (λ_ _ _ _ h e=>gC.sub h e) z1.1⟩
  by_cases hce:ces=[]
  ·have hd0:done=[]:=List.length_eq_zero_iff.1 (by rw[<- hcl,hce];rfl)
   have:=hnil hd0;subst this;subst hce;refine S.slices_SortFunc_nil hE ?_;exact fin [] H2 (List.Perm.refl _) List.Pairwise.nil g
  ·have g0:=g.slice (k:=3) (sz:=2) (v:=cv) (rows:=ces.map fB.cells) rfl
   obtain⟨b,c,tail,f,hcv,hg,up⟩:=g0.arrE aBp hce;have hs:(ces.toArray).size=ces.length:=by simp
   have:=hSC (c:=c) (Q:=λv16 H7=>opt (aE 2 (ptr t3 0) H7) λv17=>opt (aH 2 (ptr t2 0) v17 H7) λH8=>opt (aE 2 (ptr t2 0) H8) λv18=>Q v18 H8) hg (by rw[hs,hcl,hperm.length_eq,List.length_map];exact hall) λd' H' hp hso s =>?_
   ·rw[hs,<- hcv]at this
    exact this
   ·have hsz:d'.size=ces.length:=by rw[hp.1,hs]
    have hpm:d'.toList.Perm ces:=by
     have h1:=hp.2.2;have e1:d'.extract 0 ces.toArray.size=d':=by rw[hs,<- hsz];simp
     have e2:ces.toArray.extract 0 ces.toArray.size=ces.toArray:=by simp
     rw[e1,e2]at h1
     simpa using h1
    have g9:=g.step (k:=3) (r:=aY 2 cv (ces.map fB.cells)) rfl (up d' H' hsz s);refine fin d'.toList H' hpm ?_ g9;rw[List.pairwise_iff_getElem];intro i j hi hj hij;have hi':i<d'.size:=by simpa using hi
    have hj':j<d'.size:=by simpa using hj
    have h1:=hso i j (Nat.zero_le _) hij (by rw[hs,<- hsz];exact hj')
    rw[getElem!_pos d' i hi',getElem!_pos d' j hj']at h1;unfold ltC at h1;simp only[decide_eq_false_iff_not]at h1;simp only[Array.getElem_toList]
    have hnd:(d'.toList.map λx=>x.c.number).Nodup:=by
     rw[(hpm.map λx:fB=>x.c.number).nodup_iff,hcn];exact hdn
    rcases Nat.lt_or_ge d'[i].c.number.toNat d'[j].c.number.toNat with h2 | h2
    ·exact h2
    ·have he:d'[i].c.number=d'[j].c.number:=BitVec.eq_of_toNat_eq (by omega)
     have:=(List.getElem_inj (xs:=d'.toList.map λx=>x.c.number) (i:=i) (j:=j) (h₀:=by simpa using hi) (h₁:=by simpa using hj) hnd).1 (by simpa using he)
     omega
theorem aNl(hE:aX E){H1:AH}{t2 t3 r:Nat}{c2 c3:List Value}{pes:List cC}(hpl:pes.length<=80){v:Value}(hv:Rows H 3 v (pes.map cC.cells))(g1:Has H zH H1 (gL t2 t3 r c2 c3 []))(next:∀ al H',Has H zH H' (gL t2 t3 r c2 c3 al)->Grp pes al->mk (wT (.map (some r)) H') H' λv14 H6=>lp3 (F.f30_l2 E Q) [ptr t2 0,ptr t3 0,v14] H6):
  lp6 (F.f30_l1 E Q) [ptr t2 0,ptr t3 0,.map (some r),v,vi (pes.length:Int),vi 0] H1:=by
 have i0:vi 0=vi ((0:Nat):Int):=rfl;rw[i0];refine aZ.count pes.length (λj ls H'=>∃ al,ls=[ptr t2 0,ptr t3 0,.map (some r),v,vi (pes.length:Int),vi j]/\Has H zH H' (gL t2 t3 r c2 c3 al)/\Grp (pes.take j) al) ?_ ⟨[],rfl,g1,⟨by simp,by simp,by simp⟩⟩
 rintro j _ H2 X hj hX ⟨al,rfl,g,gr⟩
 by_cases hjl:j<pes.length
 rotate_left
 ·have hjl':¬ (j:Int)<pes.length:=by omega
  rw[List.take_of_length_le (by omega)]at gr
  simp only[F.f30_l1,aF,hjl',decide_false,aC];exact next al H2 g gr
 have hX:=hX hjl;have hjl':(j:Int)<pes.length:=by omega
 have hjj:=bE (i:=j) (by omega)
 obtain⟨b,o,f1,f2⟩:=(hv.mono g.ext).ix (i:=j) (by rw[List.length_map];exact hjl)
 have htk:pes.take (j+1)=pes.take j++[pes[j]]:=List.take_succ_eq_append_getElem hjl;rw[List.getElem_map]at f2;rw[htk]at hX;have htl:(pes.take j).length<1000:=by rw[List.length_take];omega
 generalize pes[j]=x at *;have lo1:aE 3 (ptr b o) H2=some (.agg x.cells.toArray):=by rw[aJ,f2];rfl
 have b4:=AH.get_new_self H2 (.cells x.cells none);have c0:x.cells[0]? = some (u32 x.r.number):=rfl;have lo4:aE 3 (ptr H2.next 0) (H2.new (.cells x.cells none))=some (.agg x.cells.toArray):=by rw[aJ,b4];rfl
 have hbS:bO 1 3 #[(.int .u32 0),(.int .u32 0),(.slice none 0 0)] [(0,.agg x.cells.toArray)]=some (.cells x.cells none,fC 1 1):=cX 3 [u32 0#32,u32 0#32,bY] _ rfl rfl
 have:=aNv (R:=λH5=>opt (aA .add (vi j) (vi 1)) λv13=>X [ptr t2 0,ptr t3 0,.map (some r),v,vi (pes.length:Int),v13] H5) g gr htl x (λal' H' g' gr'=>by
  simp only[hjj,aC];exact hX _ _ ⟨al',rfl,g',gr'⟩) rfl
 simp only[F.f30_l1,aF,hjl',decide_true,f1,lo1,aW,aJj,b4,c0,lo4,hbS,AM.aQ,cL,aC];cases hlk:look 0 (.slice none 0 0) false (.map (some r)) (u32 x.r.number) (H2.new (.cells x.cells none)) with
 | none=>rw[hlk]at this;exact this.elim
 | some w =>
  rw[hlk]at this;simp only[lo4,hbS,AM.aQ,cL,aC]at this ⊢;exact this
theorem S.ir_OfZ(hE:aX E){sm:Nat}(hsm:sm<=80)(hSC:kI E sm)(hSR:jP E sm)(p:jS)(cs:List Value)(hp:sB H p cs)(hpl:p.rules.length<=sm)(hc:∀ r∈p.rules,r.conds.length<2 ^ 20)(hQ:∀ ns cs' H' Z',Ext H H'->Sub Z' H'->(∀ b,b<H.next->Z'.get b = .dead)->pE p ns->oY Z' (eA p ns) cs'->Q (.agg cs'.toArray) H'):E.call 30 [.agg cs.toArray] H Q:=by
 apply hE.f30;obtain⟨_,a,v,b,c,d,rfl,hv⟩:=hp;obtain⟨es,he1,he2,he3⟩:=aCL hv;have hel:es.length=p.rules.length:=by rw[<- he1,List.length_map]
 have g1:=(Has.begin (H0:=H) (Z:=zH) (Ext.refl H) ⟨Nat.zero_le _,λb hb=>(hb (nF b)).elim⟩).newbox [a,u32 p.default,v,b,c,d];have hb1:=AH.get_new_self H (.cells [a,u32 p.default,v,b,c,d] none);simp only[F.f30,aV,AM.aQ,aR,List.toList_toArray,aC];generalize H.new (.cells [a,u32 p.default,v,b,c,d] none)=H1 at *;generalize H.next=bp at g1 hb1 ⊢;have g2:=g1.newbox [bY,u32 0#32];have x2:Ext H1 (H1.new (.cells [bY,u32 0#32] none)):=(Ext.refl _).new _;have hb2:=x2.cells hb1;have hz:([(.slice none 0 0),(.int .u32 0)]:List Value)=[bY,u32 0#32]:=rfl;simp only[aW,hz,aC];generalize H1.new (.cells [bY,u32 0#32] none)=H2 at *;generalize H1.next=t2 at *;have hbv:aK [(0,1),(1,1)] [bY,u32 0#32].toArray [(1,u32 p.default)]=some (.agg [bY,u32 p.default].toArray):=rfl;simp only[hb2,hz,hbv,aC];have g3:=g2.newbox [bY,u32 p.default];have st3:aH 2 (ptr H2.next 0) (.agg [bY,u32 p.default].toArray) (H2.new (.cells [bY,u32 0#32] none))=some (H2.new (.cells [bY,u32 p.default] none)):=oB rfl rfl rfl;have x3:Ext H2 (H2.new (.cells [bY,u32 p.default] none)):=(Ext.refl _).new _;have hb3:=x3.cells hb2;simp only[aW,hz,st3,aC];generalize H2.new (.cells [bY,u32 p.default] none)=H3 at *;generalize H2.next=t3 at *;have g4:=g3.newmap u32 pv;have x4:Ext H3 (H3.new (.map [] 0 true)):=(Ext.refl _).new _;have hb4:=x4.cells hb3;have hlv:=he2.lenSlc;rw[List.length_map]at hlv;have hmw:∀ K:Value->AH->Prop,pD H3 K=K (.map (some H3.next)) (H3.new (.map [] 0 true)):=λ_=>rfl;simp only[hmw,aC];generalize H3.new (.map [] 0 true)=H4 at *;generalize H3.next=r at *;simp only[hb4,hlv,aC];have g5:Has H zH H4 (gL t2 t3 r [bY,u32 0#32] [bY,u32 p.default] []):=g4.drop 0;refine aNl hE (by omega) he2 g5 λal H5 g6 gr =>?_
 have hm:=g6.mapAt (k:=2) (fk:=u32) (fv:=pv) (r:=r) (l:=al.map dR.kv) rfl;obtain⟨o,o1,o2⟩:=iP.start hm;simp only[o1,AM.aQ,aR,aC]
 have g7:=g6.step (k:=2) (r':=itR H5.next r (al.map dR.kv) []) (H':=H5.new o) rfl ⟨((Ext.refl H5).new o).only,o2,λb hb=>by
  simp only[itR,List.mem_cons,List.not_mem_nil,or_false]at hb;rcases hb with rfl | rfl
  ·exact⟨.inl (by simp[eU]),o2.map.lt⟩
  ·exact⟨.inr (Nat.le_refl _),o2.lt⟩,by
  have:=hm.lt;simp only[itR,List.nodup_cons,List.mem_cons,List.not_mem_nil,or_false,not_false_eq_true,List.nodup_nil,and_true];omega⟩
 have g8:=g7.nils 2
 have g9:Has H zH (H5.new o) (ofL t2 t3 r H5.next p.default (al.map dR.kv) [] bY [] al):=by
  refine g8.perm ?_
  show List.Perm (([bF t2 [bY,u32 0#32],bF t3 [bY,u32 p.default],itR H5.next r (al.map dR.kv) []]++al.map pQ)++[aY 2 bY []]) ([bF t2 [bY,u32 0#32],bF t3 [bY,u32 p.default],itR H5.next r (al.map dR.kv) [],aY 2 bY []]++al.map pQ)
  rw[List.append_assoc];exact List.Perm.append_left [bF t2 [bY,u32 0#32],bF t3 [bY,u32 p.default],itR H5.next r (al.map dR.kv) []] (List.perm_append_singleton _ _)
 obtain⟨pd,pr⟩:=p;simp only at he1;subst he1;refine aM8 hE hsm hSC hSR gr (by omega) (λx hx=>⟨he3 x hx,hc _ (List.mem_map.2 ⟨x,hx,rfl⟩)⟩) g9 (λb _=>nF b) hQ
theorem oY.subZ{Z H:AH}{p:iJ}{cs:List Value}(h:oY Z p cs)(e:Sub Z H):oY H p cs:=by
 obtain⟨v,h1,h2⟩:=h;exact⟨v,h1,h2.sub (λ_ _ _ _ h e=>gJ.sub h e) e⟩
theorem S.f30(hE:aX E){sm:Nat}(hsm:sm<=80)(hSC:kI E sm)(hSR:jP E sm)(p:jS)(cs:List Value)(hp:sB H p cs)(hpl:p.rules.length<=sm)(hc:∀ r∈p.rules,r.conds.length<2 ^ 20)(hQ:∀ ns cs' H',Ext H H'->pE p ns->oY H' (eA p ns) cs'->Q (.agg cs'.toArray) H'):E.call 30 [.agg cs.toArray] H Q :=
 S.ir_OfZ hE hsm hSC hSR p cs hp hpl hc λns cs' H' _ e s _ hn hp=>hQ ns cs' H' e hn (hp.subZ s)
end
end
section
set_option maxRecDepth 20000
section
variable {E:Sy}{H H' H0 Z:AH}{Q:Value->AH->Prop}{L:List Res}
theorem aEX(hE:aX E)(x:cV)(c:List Value)(hx:gJ 0 H x c)(n:BitVec 32)(hQ:∀ H',Ext H H'->Q (vi (aCM x.number n)) H'):E.call 83 [.agg c.toArray,u32 n] H Q:=by
 apply hE.f34;obtain⟨v,rfl,_⟩:=hx;have x1:Ext H (H.new (.cells [u32 x.number,v] none)):=(Ext.refl _).new _;have hb1:=AH.get_new_self H (.cells [u32 x.number,v] none);simp only[F.f34,aV,AM.aQ,aR,List.toList_toArray,hb1,aC];exact S.f7 hE _ _ (hQ _ x1)
theorem zW{v:Value}{l:List cV}(h:cO (gJ 0) H 2 v l){j:Nat}(hj:j<l.length):∃ b o c,aI 2 v (vi j)=some (ptr b o)/\(H.get b).row o 2=some c/\aE 2 (ptr b o) H=some (.agg c.toArray)/\gJ 0 H l[j] c:=by
 obtain⟨b,o,c,h1,h2,h3⟩:=h.ix hj;exact⟨b,o,c,h1,h2,by rw[aJ,h2];rfl,h3⟩
theorem S.f108(hE:aX E){v:Value}{l:List cV}(hs:cO (gJ 0) H 2 v l)(hr:l.Pairwise λa b=>a.number.toNat<b.number.toNat)(hl:l.length<2 ^ 60)(n:BitVec 32)(hQ:∀ (a:Nat) H',Ext H H'->a<=l.length->(∀ b (h:b<l.length),b<a->(l[b]).number.toNat<n.toNat)->(∀ b (h:b<l.length),a<=b->n.toNat<=(l[b]).number.toNat)->Q (.tuple #[vi a,vb (decide (l[a]?.map cV.number=some n))]) H'):
  E.call 82 [v,u32 n,.func (.func 83) #[] #[]] H Q:=by
 apply hE.f108;have hlv:=cO.lenSlc hs;have i0:vi 0=vi ((0:Nat):Int):=rfl;simp only[F.f108,hlv,i0,aC]
 refine aZ.ind (λm ls H'=>∃ (a b:Nat),m=b - a/\a<=b/\b<=l.length/\ls=[v,u32 n,.func (.func 83) #[] #[],vi l.length,vi a,vi b]/\Ext H H'/\(∀ c (h:c<l.length),c<a->(l[c]).number.toNat<n.toNat)/\(∀ c (h:c<l.length),b<=c->n.toNat<=(l[c]).number.toNat)) ?_ l.length
  ⟨0,l.length,rfl,Nat.zero_le _,Nat.le_refl _,rfl,Ext.refl _,λc _ h=>by omega,λc h1 h2=>by omega⟩
 rintro m _ H1 X ih ⟨a,b,rfl,hab,hbl,rfl,e1,hlo,hhi⟩;have hs1:cO (gJ 0) H1 2 v l:=hs.sub (λ_ _ _ _ h e=>gJ.sub h e) e1.sub;rcases Nat.lt_or_ge a b with hlt | hge
 ·have hlt':(a:Int)<b:=by omega
  have hadd:aA .add (vi a) (vi b)=some (vi ((a+b:Nat):Int)):=by
   rw[eB (by omega) (by omega)];congr 2
  obtain⟨y,y1,y2,y3⟩:=aBD a b (by omega)
  have hm:(a+b) / 2<l.length:=by omega
  obtain⟨bb,o,c,q1,_,q2,q3⟩:=zW hs1 hm;have hma:a<=(a+b) / 2/\(a+b) / 2<b:=by omega
  have hmono:∀ p q (hp:p<l.length) (hq:q<l.length),p<=q->(l[p]).number.toNat<=(l[q]).number.toNat:=λp q hp hq hpq=>by
   rcases Nat.lt_or_ge p q with h | h
   ·exact Nat.le_of_lt (List.pairwise_iff_getElem.1 hr p q hp hq h)
   ·have:p=q:=by omega
    subst this;exact Nat.le_refl _
  have hhj:=bE (i:=(a+b) / 2) (by omega)
  have hlow:∀ c (h:c<l.length),c<=(a+b) / 2->(l[c]).number.toNat<=(l[(a+b) / 2]).number.toNat:=λc h hc=>hmono _ _ h hm hc;have hupp:∀ c (h:c<l.length),(a+b) / 2<=c->(l[(a+b) / 2]).number.toNat<=(l[c]).number.toNat:=λc h hc=>hmono _ _ hm h hc;generalize l[(a+b) / 2]=x at *;generalize (a+b) / 2=p at *;simp only[F.f108_l1,aF,hlt',decide_true,hadd,y1,y2,y3,q1,q2,rK,List.nil_append,List.append_nil,aC];refine aEX hE x c q3 n λH2 e2 =>?_;unfold aCM
  by_cases h1:x.number.toNat<n.toNat
  ·have hneg:((-1:Int)<0):=by decide
   rw[if_pos h1];simp only[aF,hneg,decide_true,hhj,aC];exact ih _ (by omega) _ _ ⟨p+1,b,rfl,by omega,hbl,rfl,e1.trans e2,λc h hc=>Nat.lt_of_le_of_lt (hlow c h (by omega)) h1,hhi⟩
  ·have hz:¬ ((if n.toNat<x.number.toNat then(1:Int) else 0)<0):=by split<;>decide
   rw[if_neg h1];simp only[aF,hz,decide_false,aC];exact ih _ (by omega) _ _ ⟨a,p,rfl,by omega,by omega,rfl,e1.trans e2,hlo,λc h hc=>Nat.le_trans (by omega) (hupp c h hc)⟩
 ·have hae:a=b:=by omega
  subst hae;have hlt':¬ (a:Int)<a:=by omega
  rcases Nat.lt_or_ge a l.length with hl1 | hl1
  ·have hl1':(a:Int)<l.length:=by omega
   obtain⟨bb,o,c,q1,_,q2,q3⟩:=zW hs1 hl1;have hle:=hhi a hl1 (Nat.le_refl _);have hget:l[a]?.map cV.number=some l[a].number:=by rw[List.getElem?_eq_getElem hl1];rfl
   simp only[F.f108_l1,aF,hlt',decide_false,hl1',decide_true,q1,q2,rK,List.nil_append,List.append_nil,aC];refine aEX hE _ c q3 n λH2 e2 =>?_;have hq:=hQ a H2 (e1.trans e2) hbl hlo hhi;rw[hget]at hq;unfold aCM
   by_cases h1:l[a].number=n
   ·rw[if_neg (by rw[h1];omega),if_neg (by rw[h1];omega)]
    simp only[h1,decide_true]at hq;simp only[cZ,decide_true,aC];exact hq
   ·have h2:n.toNat<l[a].number.toNat:=by
     rcases Nat.lt_or_ge n.toNat l[a].number.toNat with h | h
     ·exact h
     ·exact(h1 (BitVec.eq_of_toNat_eq (by omega))).elim
    rw[if_neg (by omega),if_pos h2]
    have hd:decide (some l[a].number=some n)=false:=by simpa using h1
    rw[hd]at hq;simp only[cZ,show((1:Int)=0)=False by simp,decide_false,aC]
    exact hq
  ·have hl1':¬ (a:Int)<l.length:=by omega
   have hq:=hQ a H1 e1 hbl hlo hhi;rw[List.getElem?_eq_none hl1]at hq;simp only[F.f108_l1,aF,hlt',decide_false,hl1',aC];exact hq
theorem S.f33(hE:aX E)(p:iJ)(cs:List Value)(hp:oY H p cs)(hr:p.cases.Pairwise λa b=>a.number.toNat<b.number.toNat)(hl:p.cases.length<2 ^ 60)(hb:∀ c∈p.cases,c.branches.length<2 ^ 30)(r:aN)(hro:r.ok)(hQ:∀ H',Ext H H'->Q (u32 (iS p r)) H'):E.call 44 [.agg cs.toArray,r.v] H Q:=by
 apply hE.f33;obtain⟨v,rfl,hv⟩:=hp;have x2:Ext H ((H.new (.cells [v,u32 p.default] none)).new (.cells r.cells none)):=((Ext.refl _).new _).new _;have b1:((H.new (.cells [v,u32 p.default] none)).new (.cells r.cells none)).get H.next = .cells [v,u32 p.default] none:=by rw[AH.get_new_ne _ _ (by rw[AH.next_new];omega),AH.get_new_self]
 have b2:((H.new (.cells [v,u32 p.default] none)).new (.cells r.cells none)).get (H.next+1) = .cells r.cells none:=AH.get_new_self (H.new _) _;have c1:r.cells[1]? = some (u32 r.arch):=rfl;have c0:r.cells[0]? = some (u32 r.number):=rfl;have kA:(.int .u32 3221225534:Value)=u32 3221225534#32:=rfl;simp only[F.f33,aV,AM.aQ,aR,List.toList_toArray,AH.next_new_z,b1,b2,c1,kA,yK,aC];generalize (H.new (.cells [v,u32 p.default] none)).new (.cells r.cells none)=H2 at *;unfold iS at hQ
 by_cases ha:r.arch=3221225534#32
 rotate_left
 ·rw[if_neg ha]at hQ
  have hd:decide (r.arch≠3221225534#32)=true:=by simpa using ha
  simp only[hd,aC];exact hQ _ x2
 rw[if_pos ha]at hQ;have hd:decide (r.arch≠3221225534#32)=false:=by simpa using ha
 simp only[hd,b1,b2,c0,aC];have hv2:=hv.sub (λ_ _ _ _ h e=>gJ.sub h e) x2.sub;refine S.f108 hE hv2 hr hl r.number λa H3 e3 ha1 ha2 ha3 =>?_;have b13:=e3.cells b1;have b23:=e3.cells b2;have x3:=x2.trans e3
 by_cases hf:p.cases[a]?.map cV.number=some r.number
 rotate_left
 ·have hnone:p.cases.find? (λc=>decide (c.number=r.number))=none:=by
   rw[List.find?_eq_none];intro c hc;obtain⟨j,hj,rfl⟩:=List.getElem_of_mem hc;simp only[decide_eq_true_eq];intro he;rcases Nat.lt_trichotomy j a with h | h | h
   ·have:=ha2 j hj h;rw[he]at this;omega
   ·subst h;exact hf (by rw[List.getElem?_eq_getElem hj,Option.map_some,he])
   ·have hal:a<p.cases.length:=by omega
    have h1:=List.pairwise_iff_getElem.1 hr a j hal hj h;have h2:=ha3 a hal (Nat.le_refl _);rw[he]at h1;omega
  rw[hnone]at hQ;have hd:decide (p.cases[a]?.map cV.number=some r.number)=false:=by simpa using hf
  simp only[hd,b13,aC];exact hQ _ x3
 have hal:a<p.cases.length:=by
  rcases Nat.lt_or_ge a p.cases.length with h | h
  ·exact h
  ·rw[List.getElem?_eq_none h]at hf;simp at hf
 rw[List.getElem?_eq_getElem hal,Option.map_some,Option.some.injEq]at hf;have hd:decide (p.cases[a]?.map cV.number=some r.number)=true:=by rw[List.getElem?_eq_getElem hal];simp[hf]
 have hsome:p.cases.find? (λc=>decide (c.number=r.number))=some p.cases[a]:=by
  rw[List.find?_eq_some_iff_getElem];refine⟨by simpa using hf,a,hal,rfl,λj hj =>?_⟩
  have h1:=ha2 j (by omega) hj
  simp only[Bool.not_eq_true',decide_eq_false_iff_not];intro he;rw[he]at h1;omega
 rw[hsome]at hQ;simp only at hQ;have hv3:=hv.sub (λ_ _ _ _ h e=>gJ.sub h e) x3.sub;obtain⟨b,o,c,q1,q2,_,q3⟩:=zW hv3 hal;have hbl:=hb _ (List.getElem_mem hal);generalize p.cases[a]=k at *;obtain⟨bv,rfl,hbv⟩:=q3;have q4:(H3.get b).cell (o+1)=some bv:=by have:=lD q2 (j:=1) (by omega);simpa using this
 have hlb:=hbv.lenSlc;have i0:vi 0=vi ((0:Nat):Int):=rfl;simp only[hd,b13,q1,q4,hlb,i0,aC];unfold jK at hQ;refine aZ.count k.branches.length (λj ls H'=>ls=[ptr H.next 0,ptr (H.next+1) 0,bv,vi (k.branches.length:Int),vi j]/\Ext H3 H'/\∀ i (hi:i<k.branches.length),i<j->bQ k.branches[i].conds r=false) ?_ ⟨rfl,Ext.refl _,λi _ h=>by omega⟩
 rintro j _ H4 X hj hX ⟨rfl,e4,hno⟩;have b14:=e4.cells b13;have b24:=e4.cells b23
 by_cases hjl:j<k.branches.length
 rotate_left
 ·have hjl':¬ (j:Int)<k.branches.length:=by omega
  have hnone:k.branches.find? (λb=>bQ b.conds r)=none:=by
   rw[List.find?_eq_none];intro x hx;obtain⟨i,hi,rfl⟩:=List.getElem_of_mem hx;rw[hno i hi (by omega)]
   simp
  rw[hnone]at hQ;simp only[F.f33_l1,aF,hjl',decide_false,b14,aC];exact hQ _ (x3.trans e4)
 have hX:=hX hjl;have hjl':(j:Int)<k.branches.length:=by omega
 have hjj:=bE (i:=j) (by omega)
 obtain⟨bb,oo,bc,w1,w2,w3⟩:=(hbv.sub (λ_ _ _ _ h e=>gC.sub h e) e4.sub).ix hjl
 have hstep:bQ k.branches[j].conds r=false->∀ i (hi:i<k.branches.length),i<j+1->bQ k.branches[i].conds r=false:=by
  intro h i hi hij
  by_cases e:i=j
  ·subst e;exact h
  ·exact hno i hi (by omega)
 have hfound:bQ k.branches[j].conds r=true->k.branches.find? (λb=>bQ b.conds r)=some k.branches[j]:=by
  intro h;rw[List.find?_eq_some_iff_getElem];exact⟨h,j,hjl,rfl,λi hi=>by rw[hno i (by omega) hi];rfl⟩
 generalize k.branches[j]=br at *;obtain⟨hcl,cv,rfl,hcv,_⟩:=w3;have hpc:=hcv.plain;have lo:aE 2 (ptr bb oo) H4=some (.agg [cv,u32 br.action].toArray):=by rw[aJ,w2];rfl
 have st:aH 2 (ptr H4.next 0) (.agg [cv,u32 br.action].toArray) (H4.new (.cells [(.slice none 0 0),(.int .u32 0)] none))=some (H4.new (.cells [cv,u32 br.action] none)):=oB rfl rfl (by simp[hpc])
 have x5:Ext H4 (H4.new (.cells [cv,u32 br.action] none)):=(Ext.refl _).new _;have b5:=AH.get_new_self H4 (.cells [cv,u32 br.action] none);have hlc:=(hcv.mono x5).lenSlc;rw[dL]at hlc;have hcv5:=hcv.mono x5;have b25:=x5.cells b24;simp only[F.f33_l1,aF,hjl',decide_true,w1,lo,aW,st,b5,hlc,i0,aC];generalize H4.new (.cells [cv,u32 br.action] none)=H5 at *;generalize H4.next=bx at *;refine aZ.count br.conds.length (λq ls H'=>ls=[ptr H.next 0,ptr (H.next+1) 0,ptr bx 0,bv,vi (k.branches.length:Int),vi j,cv,vi (br.conds.length:Int),vi q]/\Ext H5 H'/\∀ i (hi:i<br.conds.length),i<q->holds br.conds[i] r.args=true) ?_ ⟨rfl,Ext.refl _,λi _ h=>by omega⟩
 rintro q _ H6 X1 hq hX1 ⟨rfl,e6,hyes⟩
 by_cases hql:q<br.conds.length
 rotate_left
 ·have hql':¬ (q:Int)<br.conds.length:=by omega
  have hall:bQ br.conds r=true:=by
   unfold bQ;rw[List.all_eq_true];intro x hx;obtain⟨i,hi,rfl⟩:=List.getElem_of_mem hx;exact hyes i hi (by omega)
  rw[hfound hall]at hQ;simp only[F.f33_l2,aF,hql',decide_false,e6.cells b5,aC];exact hQ _ ((x3.trans e4).trans (x5.trans e6))
 have hX1:=hX1 hql;have hql':(q:Int)<br.conds.length:=by omega
 have hqq:=bE (i:=q) (by omega)
 obtain⟨d1,d2,m1,m2⟩:=qY (hcv5.mono e6) hql
 have hy2:holds br.conds[q] r.args=true->∀ i (hi:i<br.conds.length),i<q+1->holds br.conds[i] r.args=true:=by
  intro h i hi hij
  by_cases e:i=q
  ·subst e;exact h
  ·exact hyes i hi (by omega)
 have hn2:holds br.conds[q] r.args=false->bQ br.conds r=false:=by
  intro h;unfold bQ;rw[List.all_eq_false];exact⟨_,List.getElem_mem hql,by rw[h];simp⟩
 generalize br.conds[q]=c at *;have x7:Ext H6 (H6.new (.cells c.cells none)):=(Ext.refl _).new _;have b7:=AH.get_new_self H6 (.cells c.cells none);have b27:=(e6.trans x7).cells b25;have e9:=cH r.cells none 9 (aN.cells_len hro);have lor:aE 9 (ptr (H.next+1) 0) (H6.new (.cells c.cells none))=some r.v:=by rw[aJ,b27,e9];rfl
 simp only[F.f33_l2,aF,hql',decide_true,m1,m2 _ (Ext.refl _),aW,oC,lZ b7,lor,aC];refine S.f69 hE c r hro λH8 e8 =>?_;have x8:=x7.trans e8;cases hh:holds c r.args with
 | true =>
  simp only[hqq,aC];exact hX1 _ _ ⟨rfl,e6.trans x8,hy2 hh⟩
 | false =>
  simp only[hjj,aC];exact hX _ _ ⟨rfl,e4.trans (x5.trans (e6.trans x8)),hstep (hn2 hh)⟩
end
end
section
deriving instance DecidableEq for bM
structure aG where
 kind:BitVec 8
 to:Int
 els:Int
 insn:bM
 deriving DecidableEq
def aG.cells(p:aG):List Value:=[u8 p.kind,vi p.to,vi p.els,u16 p.insn.code,u8 p.insn.jt,u8 p.insn.jf,u32 p.insn.k]
abbrev aG.v(p:aG):Value := .agg p.cells.toArray
def bL(l:List aG):List (List Value):=l.map aG.cells
def bM.zero:bM:=⟨0#16,0#8,0#8,0#32⟩
def cP(n:Nat):aG:=⟨1#8,n,0,.zero⟩
def bN(i:bM):aG:=⟨2#8,0,0,i⟩
def pIf(how:BitVec 16)(k:BitVec 32)(t e:Nat):aG:=⟨3#8,t,e,⟨5#16|||how|||0#16,0#8,0#8,k⟩⟩
def pN(n:Nat):aG:=⟨4#8,n,0,.zero⟩
def dV(k:BitVec 32):bM:=⟨32#16,0#8,0#8,k⟩
def aMW(k:BitVec 32):bM:=⟨6#16,0#8,0#8,k⟩
def rW(k:BitVec 32):bM:=⟨84#16,0#8,0#8,k⟩
structure LwD where
 parts:List aG
 last:Nat
 other:Nat
 acts:List (BitVec 32×Nat)
 order:List (BitVec 32)
def LwD.new(s:LwD):LwD:={ s with last:=s.last+1 }
def LwD.put(s:LwD)(p:aG):LwD:={ s with parts:=s.parts++[p] }
def LwD.act(s:LwD)(a:BitVec 32):LwD×Nat:=match bB a s.acts with
 | some n=>(s,n)
 | none=>({ s with last:=s.last+1,acts:=fE a (s.last+1) s.acts,order:=s.order++[a] },s.last+1)
def eF(n:Int)(b:Bool):BitVec 32:=BitVec.ofNat 32 (16+8*fY n+(if b then 4 else 0))
def LwD.second(s:LwD)(c:bA)(at_:Nat):LwD:=(s.put (cP at_)).put (bN (dV (eF c.arg false)))
def LwD.order64(s:LwD)(c:bA)(how:BitVec 16)(yes no:Nat):LwD :=
 let same:=s.last+1
 let next:=s.last+2
 let s:=(((s.new.new.put (pIf 32#16 (dD c.value) yes same)).put (cP same)).put (pIf 16#16 (dD c.value) next no))
 (s.second c next).put (pIf how (fS c.value) yes no)
def LwD.condOn(s:LwD)(c:bA)(next yes no:Nat):LwD :=
 if c.op=1#8 then((s.put (pIf 16#16 (dD c.value) next no)).second c next).put (pIf 16#16 (fS c.value) yes no)
 else if c.op=2#8 then((s.put (pIf 16#16 (dD c.value) next yes)).second c next).put (pIf 16#16 (fS c.value) no yes)
 else if c.op=5#8 then s.order64 c 32#16 yes no
 else if c.op=6#8 then s.order64 c 48#16 yes no
 else if c.op=3#8 then s.order64 c 48#16 no yes
 else if c.op=4#8 then s.order64 c 32#16 no yes
 else if c.op=7#8 then((((s.put (bN (rW (dD c.mask)))).put (pIf 16#16 (dD c.value) next no)).second c next).put (bN (rW (fS c.mask)))).put (pIf 16#16 (fS c.value) yes no)
 else s.put (pN no)
def LwD.cond(s:LwD)(c:bA)(yes no:Nat):LwD:=(s.new.put (bN (dV (eF c.arg true)))).condOn c (s.last+1) yes no
def LwD.condStep(no:Nat)(s:LwD)(c:bA):LwD:=(s.new.cond c (s.last+1) no).put (cP (s.last+1))
def LwD.conds(no:Nat)(l:List bA)(s:LwD):LwD:=l.foldl (LwD.condStep no) s
def LwD.branch(s:LwD)(b:dK):LwD :=
 let t:=LwD.conds (s.last+1) b.conds s.new
 ((t.act b.action).1.put (pN (t.act b.action).2)).put (cP (s.last+1))
def LwD.branches(l:List dK)(s:LwD):LwD:=let t:=l.foldl LwD.branch s;t.put (pN t.other)
def jW(n:BitVec 32)(l:List (BitVec 32×Nat)):Nat:=(bB n l).getD 0
def rX(l:List cV)(k:Nat):BitVec 32:=(l[k]?.map cV.number).getD 0#32
def LwD.choose(starts:List (BitVec 32×Nat)):Nat->List cV->LwD->LwD
 | 0,_,s=>s
 | f+1,l,s =>
  if l.length=0 then s.put (pN s.other)
  else if l.length=1 then s.put (pIf 16#16 (rX l 0) (jW (rX l 0) starts) s.other)
  else LwD.choose starts f (l.drop (l.length / 2)) ((LwD.choose starts f (l.take (l.length / 2)) ((s.new.new.put (pIf 48#16 (rX l (l.length / 2)) (s.last+2) (s.last+1))).put (cP (s.last+1)))).put (cP (s.last+2)))
def LwD.end1(acts:List (BitVec 32×Nat))(s:LwD)(a:BitVec 32):LwD:=(s.put (cP (jW a acts))).put (bN (aMW a))
def LwD.ends(s:LwD):LwD:=s.order.foldl (LwD.end1 s.acts) s
def LwD.start1(x:LwD×List (BitVec 32×Nat))(c:cV):LwD×List (BitVec 32×Nat):=(x.1.new,fE c.number (x.1.last+1) x.2)
def LwD.starts(l:List cV)(x:LwD×List (BitVec 32×Nat)):LwD×List (BitVec 32×Nat):=l.foldl LwD.start1 x
def LwD.case1(starts:List (BitVec 32×Nat))(s:LwD)(c:cV):LwD:=LwD.branches c.branches (s.put (cP (jW c.number starts)))
def LwD.cases(starts:List (BitVec 32×Nat))(l:List cV)(s:LwD):LwD:=l.foldl (LwD.case1 starts) s
def LwD.setO(s:LwD)(n:Nat):LwD:=⟨s.parts,s.last,n,s.acts,s.order⟩
def LwD.zero:LwD:=⟨[],0,0,[],[]⟩
def uY(d:BitVec 32):LwD:=(LwD.zero.act d).1.setO (LwD.zero.act d).2
def low2(d:BitVec 32):LwD×Nat:=(uY d).act 2147483648#32
def lower0(d:BitVec 32):LwD:=(((low2 d).1.new.put (bN (dV 4#32))).put (pIf 16#16 3221225534#32 ((low2 d).1.last+1) (low2 d).2)).put (cP ((low2 d).1.last+1))
def fI(p:iJ):LwD×List (BitVec 32×Nat):=LwD.starts p.cases (lower0 p.default,[])
def kN(p:iJ):LwD:=LwD.choose (fI p).2 (p.cases.length+1) p.cases ((fI p).1.put (bN (dV 0#32)))
def iG(p:iJ):LwD:=(LwD.cases (fI p).2 p.cases (kN p)).ends
end
section
set_option maxRecDepth 20000
def jT(n:Nat):Value:=vi n
def lwL(lw m:Nat)(lv ov:Value)(s:LwD):List Res:=[bF lw [lv,vi s.last,vi s.other,.map (some m),ov],aY 7 lv (bL s.parts),eU u32 jT m s.acts,aY 1 ov (pC s.order)]
def Lw(H0 Z H:AH)(lw m:Nat)(s:LwD)(X:List Res):Prop:=∃ lv ov,Has H0 Z H (lwL lw m lv ov s++X)
def LwO(H0 Z H:AH)(lw m:Nat)(ov:Value)(s:LwD)(X:List Res):Prop:=∃ lv,Has H0 Z H (lwL lw m lv ov s++X)
def LwD.big(s:LwD):Nat:=s.parts.length+s.last+s.order.length
section
variable {E:Sy}{H H' H0 Z:AH}{Q:Value->AH->Prop}{X:List Res}{lw m:Nat}{s:LwD}
theorem iC(b o:Nat):eW iU .eql (ptr b o) (.pointer none)=some (vb false):=rfl
theorem aAK(b o:Nat):eW iU .neq (ptr b o) (.pointer none)=some (vb true):=rfl
theorem Has.dropLast{L:List Res}{r:Res}(h:Has H0 Z H (L++[r])):Has H0 Z H L:=by
 have:=h.drop L.length
 rwa [List.eraseIdx_append_of_length_le (Nat.le_refl _),Nat.sub_self,List.eraseIdx_cons_zero,List.append_nil]at this
theorem Lw.grow(h:Lw H0 Z H lw m s X)(e:Ext H H'):Lw H0 Z H' lw m s X:=by
 obtain⟨lv,ov,h⟩:=h;exact⟨lv,ov,h.grow e⟩
theorem LwO.grow{ov:Value}(h:LwO H0 Z H lw m ov s X)(e:Ext H H'):LwO H0 Z H' lw m ov s X:=by
 obtain⟨lv,h⟩:=h;exact⟨lv,h.grow e⟩
theorem Lw.newbox(h:Lw H0 Z H lw m s X)(c:List Value):Lw H0 Z (H.new (.cells c none)) lw m s (X++[bF H.next c]):=by
 obtain⟨lv,ov,h⟩:=h;have:=h.newbox c;rw[List.append_assoc]at this;exact⟨lv,ov,this⟩
theorem Lw.box{t:Nat}{c:List Value}(h:Lw H0 Z H lw m s (X++[bF t c])):H.get t = .cells c none:=by
 obtain⟨lv,ov,h⟩:=h;exact(h.all (bF t c) (by simp)).1
theorem Lw.dropLast{r:Res}(h:Lw H0 Z H lw m s (X++[r])):Lw H0 Z H lw m s X:=by
 obtain⟨lv,ov,h⟩:=h;rw[<- List.append_assoc]at h;exact⟨lv,ov,h.dropLast⟩
theorem Lw.ext(h:Lw H0 Z H lw m s X):Ext H0 H:=by
 obtain⟨lv,ov,h⟩:=h;exact h.ext
theorem S.f43(hE:aX E)(h:Lw H0 Z H lw m s X)(hb:s.big<2 ^ 30)(hQ:∀ H',Lw H0 Z H' lw m s.new X->Q (vi ((s.last+1:Nat):Int)) H'):E.call 53 [ptr lw 0] H Q:=by
 apply hE.f43;obtain⟨lv,ov,h⟩:=h;have hbx:=h.box (k:=0) rfl;have hlt:s.last<2 ^ 62:=by unfold LwD.big at hb;omega
 have hinc:=bE (i:=s.last) (by omega)
 have g:=h.put (k:=0) rfl [lv,vi ((s.last+1:Nat):Int),vi s.other,.map (some m),ov]
 have hst:bD (ptr lw 1) (vi ((s.last+1:Nat):Int)) H=some (H.put lw (.cells [lv,vi ((s.last+1:Nat):Int),vi s.other,.map (some m),ov] none)):=by
  rw[eK,if_pos (show plain1 (vi ((s.last+1:Nat):Int))=true from rfl),hbx];rfl
 have hb2:=g.box (k:=0) rfl;simp only[F.f43,aAK,iC,hbx,hinc,hst,hb2,aC];exact hQ _ ⟨lv,ov,g⟩
theorem aMq(hE:aX E){ov:Value}(h:LwO H0 Z H lw m ov s X)(hb:s.big<2 ^ 30)(p:aG)(hQ:∀ H',LwO H0 Z H' lw m ov (s.put p) X->Q (.tuple #[]) H'):E.call 86 [ptr lw 0,p.v] H Q:=by
 apply hE.f46;obtain⟨lv,h⟩:=h;have h1:=h.newbox p.cells;have hbx:=h1.box (k:=0) (b:=lw) rfl;have hb1:=AH.get_new_self H (.cells p.cells none);have hlen:(bL s.parts).length<2 ^ 30:=by unfold LwD.big at hb;simp only[bL,List.length_map];omega
 have hbS:bO 1 7 #[(.int .u8 0),vi 0,vi 0,(.int .u16 0),(.int .u8 0),(.int .u8 0),(.int .u32 0)] [(0,p.v)]=some (.cells p.cells none,fC 1 1):=cX 7 [u8 0#8,vi 0,vi 0,u16 0#16,u8 0#8,u8 0#8,u32 0#32] p.cells rfl rfl
 have hlo:aE 7 (ptr H.next 0) (H.new (.cells p.cells none))=some p.v:=by
  rw[aJ,hb1,cH _ _ 7 rfl];rfl
 have h1:Has H0 Z (H.new (.cells p.cells none)) (lwL lw m lv ov s++X):=h1.dropLast;obtain⟨v',H3,a1,a2,g⟩:=h1.app1 (k:=1) (sz:=7) (v:=lv) (rows:=bL s.parts) (bytes:=32) rfl p.cells rfl (by simp[aG.cells]) (by decide) (by decide) (by omega)
 have a1:app 7 32 lv (slc (H.next+1) 0 1 1) ((H.new (.cells p.cells none)).new (.cells p.cells none))=some (v',H3):=a1;have hbx3:=g.box (k:=0) (b:=lw) (c:=[lv,vi s.last,vi s.other,.map (some m),ov]) rfl
 have hst:bD (ptr lw 0) v' H3=some (H3.put lw (.cells [v',vi s.last,vi s.other,.map (some m),ov] none)):=by
  rw[eK,if_pos a2,hbx3];rfl
 have g2:=g.put (k:=0) (b:=lw) (c:=[lv,vi s.last,vi s.other,.map (some m),ov]) rfl [v',vi s.last,vi s.other,.map (some m),ov];simp only[F.f46,aV,AM.aQ,aR,List.toList_toArray,aAK,iC,hbx,hlo,hbS,cL,a1,hst,aC];refine hQ _ ⟨v',?_⟩;have hr:bL (s.put p).parts=bL s.parts++[p.cells]:=by simp[bL,LwD.put]
 show Has H0 Z _ (bF lw [v',vi s.last,vi s.other,.map (some m),ov] :: aY 7 v' (bL (s.put p).parts) :: eU u32 jT m s.acts :: aY 1 ov (pC s.order) :: X)
 rw[hr];exact g2
theorem S.f46(hE:aX E)(h:Lw H0 Z H lw m s X)(hb:s.big<2 ^ 30)(p:aG)(hQ:∀ H',Lw H0 Z H' lw m (s.put p) X->Q (.tuple #[]) H'):E.call 86 [ptr lw 0,p.v] H Q:=by
 obtain⟨lv,ov,h⟩:=h;exact aMq hE ⟨lv,h⟩ hb p λH' ⟨lv',h'⟩=>hQ H' ⟨lv',ov,h'⟩
theorem S.f41(hE:aX E)(h:Lw H0 Z H lw m s X)(hb:s.big<2 ^ 30)(n:Nat)(hQ:∀ H',Lw H0 Z H' lw m (s.put (cP n)) X->Q (.tuple #[]) H'):E.call 57 [ptr lw 0,vi n] H Q:=by
 apply hE.f41;have hbv:aK [(0,1),(1,1),(2,1),(3,4)] #[(.int .u8 0),vi 0,vi 0,(.int .u16 0),(.int .u8 0),(.int .u8 0),(.int .u32 0)] [(0,(.int .u8 1)),(1,vi n)]=some (cP n).v:=rfl;simp only[F.f41,hbv,aC];exact S.f46 hE h hb _ hQ
theorem aON(hE:aX E){ov:Value}(h:LwO H0 Z H lw m ov s X)(hb:s.big<2 ^ 30)(n:Nat)(hQ:∀ H',LwO H0 Z H' lw m ov (s.put (cP n)) X->Q (.tuple #[]) H'):E.call 57 [ptr lw 0,vi n] H Q:=by
 apply hE.f41;have hbv:aK [(0,1),(1,1),(2,1),(3,4)] #[(.int .u8 0),vi 0,vi 0,(.int .u16 0),(.int .u8 0),(.int .u8 0),(.int .u32 0)] [(0,(.int .u8 1)),(1,vi n)]=some (cP n).v:=rfl;simp only[F.f41,hbv,aC];exact aMq hE h hb _ hQ
theorem S.f40(hE:aX E)(h:Lw H0 Z H lw m s X)(hb:s.big<2 ^ 30)(n:Nat)(hQ:∀ H',Lw H0 Z H' lw m (s.put (pN n)) X->Q (.tuple #[]) H'):E.call 88 [ptr lw 0,vi n] H Q:=by
 apply hE.f40;have hbv:aK [(0,1),(1,1),(2,1),(3,4)] #[(.int .u8 0),vi 0,vi 0,(.int .u16 0),(.int .u8 0),(.int .u8 0),(.int .u32 0)] [(0,(.int .u8 4)),(1,vi n)]=some (pN n).v:=rfl;simp only[F.f40,hbv,aC];exact S.f46 hE h hb _ hQ
theorem S.f45(hE:aX E)(h:Lw H0 Z H lw m s X)(hb:s.big<2 ^ 30)(n:bM)(hQ:∀ H',Lw H0 Z H' lw m (s.put (bN n)) X->Q (.tuple #[]) H'):E.call 54 [ptr lw 0,n.v] H Q:=by
 apply hE.f45;have hb1:=AH.get_new_self H (.cells n.cells none)
 have hlo:aE 4 (ptr H.next 0) (H.new (.cells n.cells none))=some n.v:=by
  rw[aJ,hb1,cH _ _ 4 rfl];rfl
 have hbv:aK [(0,1),(1,1),(2,1),(3,4)] #[(.int .u8 0),vi 0,vi 0,(.int .u16 0),(.int .u8 0),(.int .u8 0),(.int .u32 0)] [(0,(.int .u8 2)),(3,n.v)]=some (bN n).v:=rfl;simp only[F.f45,aV,AM.aQ,aR,List.toList_toArray,hlo,hbv,aC];exact S.f46 hE (h.grow ((Ext.refl H).new _)) hb _ hQ
theorem aM0(hE:aX E){ov:Value}(h:LwO H0 Z H lw m ov s X)(hb:s.big<2 ^ 30)(n:bM)(hQ:∀ H',LwO H0 Z H' lw m ov (s.put (bN n)) X->Q (.tuple #[]) H'):E.call 54 [ptr lw 0,n.v] H Q:=by
 apply hE.f45;have hb1:=AH.get_new_self H (.cells n.cells none)
 have hlo:aE 4 (ptr H.next 0) (H.new (.cells n.cells none))=some n.v:=by
  rw[aJ,hb1,cH _ _ 4 rfl];rfl
 have hbv:aK [(0,1),(1,1),(2,1),(3,4)] #[(.int .u8 0),vi 0,vi 0,(.int .u16 0),(.int .u8 0),(.int .u8 0),(.int .u32 0)] [(0,(.int .u8 2)),(3,n.v)]=some (bN n).v:=rfl;simp only[F.f45,aV,AM.aQ,aR,List.toList_toArray,hlo,hbv,aC];exact aMq hE (h.grow ((Ext.refl H).new _)) hb _ hQ
theorem S.f42(hE:aX E)(h:Lw H0 Z H lw m s X)(hb:s.big<2 ^ 30)(how:BitVec 16)(k:BitVec 32)(t e:Nat)(hQ:∀ H',Lw H0 Z H' lw m (s.put (pIf how k t e)) X->Q (.tuple #[]) H'):E.call 56 [ptr lw 0,u16 how,u32 k,vi t,vi e] H Q:=by
 apply hE.f42;simp only[F.f42,aC];refine S.f17 hE how k 0#8 0#8 λH1 e1 =>?_;have hbv:∀ n:bM,aK [(0,1),(1,1),(2,1),(3,4)] #[(.int .u8 0),vi 0,vi 0,(.int .u16 0),(.int .u8 0),(.int .u8 0),(.int .u32 0)] [(0,(.int .u8 3)),(1,vi t),(2,vi e),(3,n.v)]=some (aG.v ⟨3#8,t,e,n⟩):=λ_=>by rw[gX];rfl
 have hv:sE (5#16|||how|||0#16) 0#8 0#8 k=bM.v ⟨5#16|||how|||0#16,0#8,0#8,k⟩:=rfl;rw[hv];simp only[hbv,aC];exact S.f46 hE (h.grow e1) hb _ hQ
end
end
section
set_option maxRecDepth 20000
structure MkD where
 out:List bM
 places:List (Int×Nat)
def pS(n:Int):bM:=⟨5#16,0#8,0#8,BitVec.ofInt 32 n⟩
def MkD.away(s:MkD)(n:Int):Int:=(s.out.length:Int) - ((bB n s.places).getD 0:Nat)
def MkD.hop(s:MkD)(n:Int):MkD:=⟨pS n :: s.out,s.places⟩
def MkD.cmp2(s:MkD)(i1:bM)(to els:Int):MkD:=⟨⟨i1.code,BitVec.ofInt 8 to,BitVec.ofInt 8 els,i1.k⟩ :: s.out,s.places⟩
def MkD.cmp1(s:MkD)(i1:bM)(to els:Int):MkD:=if 253<to then(s.hop to).cmp2 i1 0 (els+1) else s.cmp2 i1 to els
def MkD.cmp0(s:MkD)(i1:bM)(to els:Int):MkD:=if 253<els then(s.hop els).cmp1 i1 (to+1) 0 else s.cmp1 i1 to els
def MkD.part(s:MkD)(p:aG):Int ⊕ MkD :=
 if p.kind=1#8 then(if(bB p.to s.places).isSome then .inl 206 else .inr ⟨s.out,fE p.to s.out.length s.places⟩)
 else if p.kind=2#8 then(if bS p.insn.code=5#16 then .inl 210 else .inr ⟨p.insn :: s.out,s.places⟩)
 else if p.kind=4#8 then(if(bB p.to s.places).isSome then .inr (s.hop (s.away p.to)) else .inl 207)
 else if p.kind=3#8 then
  (if bS p.insn.code≠5#16\/p.insn.code=5#16 then .inl 210
  else if(bB p.to s.places).isSome=false\/(bB p.els s.places).isSome=false then .inl 207
  else .inr (s.cmp0 p.insn (s.away p.to) (s.away p.els)))
 else .inl 210
def cY:List aG->Int ⊕ MkD
 | [] => .inr ⟨[],[]⟩
 | p :: l=>match cY l with
  | .inl e => .inl e
  | .inr s=>match s.part p with
   | .inl e => .inl e
   | .inr t=>if 4096<t.out.length then .inl 205 else .inr t
def bV(l:List bM):List (List Value):=l.map bM.cells
def mkL(mb pm:Nat)(ov:Value)(s:MkD):List Res:=[bF mb [ov,.map (some pm)],aY 4 ov (bV s.out.reverse),eU vi jT pm s.places]
def Mk(H0 Z H:AH)(mb pm:Nat)(s:MkD)(X:List Res):Prop:=∃ ov,Has H0 Z H (mkL mb pm ov s++X)
section
variable {E:Sy}{H H' H0 Z:AH}{Q:Value->AH->Prop}{X:List Res}{mb pm:Nat}{s:MkD}
theorem pG(a b:Int):cA 0 (vi a) (vi b)=some (decide (a=b)):=by
 simp only[cA]
 rfl
theorem eE.look_int{r:Nat}{l:List (Int×Nat)}(h:eE vi jT H r l)(a:Int)(ok:Bool):AM.look 0 (vi 0) ok (.map (some r)) (vi a) H=some (if ok then .tuple #[vi ((bB a l).getD 0:Nat),.bool (bB a l).isSome] else vi ((bB a l).getD 0:Nat)):=by
 have:=h.look (kd:=0) pG a (vi 0) ok;cases hk:bB a l with
 | none=>unfold bB at hk;rw[hk]at this;rw[this];cases ok<;>rfl
 | some n=>unfold bB at hk;rw[hk]at this;rw[this];cases ok<;>rfl
theorem Mk.grow(h:Mk H0 Z H mb pm s X)(e:Ext H H'):Mk H0 Z H' mb pm s X:=by
 obtain⟨ov,h⟩:=h;exact⟨ov,h.grow e⟩
theorem Mk.ext(h:Mk H0 Z H mb pm s X):Ext H0 H:=by
 obtain⟨ov,h⟩:=h;exact h.ext
theorem Mk.newbox(h:Mk H0 Z H mb pm s X)(c:List Value):Mk H0 Z (H.new (.cells c none)) mb pm s (X++[bF H.next c]):=by
 obtain⟨ov,h⟩:=h;have:=h.newbox c;rw[List.append_assoc]at this;exact⟨ov,this⟩
theorem Mk.box{t:Nat}{c:List Value}(h:Mk H0 Z H mb pm s (X++[bF t c])):H.get t = .cells c none:=by
 obtain⟨ov,h⟩:=h;exact(h.all (bF t c) (by simp)).1
theorem Mk.dropLast{r:Res}(h:Mk H0 Z H mb pm s (X++[r])):Mk H0 Z H mb pm s X:=by
 obtain⟨ov,h⟩:=h;rw[<- List.append_assoc]at h;exact⟨ov,h.dropLast⟩
theorem Mk.cells(h:Mk H0 Z H mb pm s X):∃ ov,H.get mb = .cells [ov,.map (some pm)] none/\lenSlc ov=some (vi s.out.length):=by
 obtain⟨ov,h⟩:=h;have hl:=(h.rows (k:=1) (sz:=4) (v:=ov) (rows:=bV s.out.reverse) rfl).lenSlc;simp only[bV,List.length_map,List.length_reverse]at hl;exact⟨ov,h.box (k:=0) rfl,hl⟩
theorem Mk.look(h:Mk H0 Z H mb pm s X)(a:Int):AM.look 0 (vi 0) true (.map (some pm)) (vi a) H=some (.tuple #[vi ((bB a s.places).getD 0:Nat),.bool (bB a s.places).isSome]):=by
 obtain⟨ov,h⟩:=h;exact(h.mapAt (k:=2) (fk:=vi) (fv:=jT) (r:=pm) (l:=s.places) rfl).look_int a true
theorem Mk.push(h:Mk H0 Z H mb pm s X)(hl:s.out.length<2 ^ 30)(x:bM){ov:Value}(ho:H.get mb = .cells [ov,.map (some pm)] none):
  ∃ v' H1,app 4 8 ov (slc H.next 0 1 1) (H.new (.cells x.cells none))=some (v',H1)/\∃ H2,bD (ptr mb 0) v' H1=some H2/\Mk H0 Z H2 mb pm ⟨x :: s.out,s.places⟩ X:=by
 obtain⟨ov2,h⟩:=h;have hb:=h.box (k:=0) (b:=mb) (c:=[ov2,.map (some pm)]) rfl;rw[ho]at hb
 injection hb with hb _
 simp only[List.cons.injEq,and_true]at hb;subst hb;obtain⟨v',H3,a1,a2,g⟩:=h.app1 (k:=1) (sz:=4) (v:=ov) (rows:=bV s.out.reverse) (bytes:=8) rfl x.cells rfl rfl (by decide) (by decide) (by simp only[bV,List.length_map,List.length_reverse];omega)
 have hbx:=g.box (k:=0) (b:=mb) (c:=[ov,.map (some pm)]) rfl
 have hst:bD (ptr mb 0) v' H3=some (H3.put mb (.cells [v',.map (some pm)] none)):=by
  rw[eK,if_pos a2,hbx];rfl
 have g2:=g.put (k:=0) (b:=mb) (c:=[ov,.map (some pm)]) rfl [v',.map (some pm)];refine⟨v',H3,a1,_,hst,v',?_⟩;have hr:bV (x :: s.out).reverse=bV s.out.reverse++[x.cells]:=by simp[bV]
 show Has H0 Z _ (bF mb [v',.map (some pm)] :: aY 4 v' (bV (x :: s.out).reverse) :: eU vi jT pm s.places :: X)
 rw[hr];exact g2
theorem Mk.setPlace(h:Mk H0 Z H mb pm s X)(n:Int)(k:Nat):∃ H',eO 0 (.map (some pm)) (vi n) (vi k) H=some H'/\Mk H0 Z H' mb pm ⟨s.out,fE n k s.places⟩ X:=by
 obtain⟨ov,h⟩:=h;obtain⟨H2,m1,g2⟩:=h.mapset (n:=2) (r:=pm) (l:=s.places) (fk:=vi) (fv:=jT) rfl pG n k;exact⟨H2,m1,ov,g2⟩
theorem S.f51(hE:aX E)(h:Mk H0 Z H mb pm s X)(hl:s.out.length<2 ^ 30)(n:Int)(hk:(bB n s.places).getD 0<2 ^ 30)(hQ:Q (.tuple #[vi (s.away n),vb (bB n s.places).isSome]) H):E.call 99 [ptr mb 0,vi n] H Q:=by
 apply hE.f51;obtain⟨ov,hbx,hlv⟩:=h.cells;have hlk:=h.look n;have hsub:aA .sub (vi s.out.length) (vi ((bB n s.places).getD 0:Nat))=some (vi (s.away n)):=iF (by omega) (by omega)
 simp only[F.f51,hbx,hlk,hlv,hsub,aC];exact hQ
theorem S.f53(hE:aX E)(h:Mk H0 Z H mb pm s X)(hl:s.out.length<2 ^ 30)(n:Int)(hQ:∀ H',Mk H0 Z H' mb pm (s.hop n) X->Q (.tuple #[]) H'):E.call 100 [ptr mb 0,vi n] H Q:=by
 apply hE.f53;obtain⟨ov,hbx,hlv⟩:=h.cells;simp only[F.f53,hbx,aBh,aC];refine S.f22 hE _ λH1 e1 =>?_;have hb1:=e1.cells hbx;refine⟨by rw[eM,eM,hb1,hbx],?_⟩
 have hv:sE 5 0 0 (BitVec.ofInt 32 n)=(pS n).v:=rfl;have hbS:bO 1 4 #[(.int .u16 0),(.int .u8 0),(.int .u8 0),(.int .u32 0)] [(0,(pS n).v)]=some (.cells (pS n).cells none,fC 1 1):=cX 4 [u16 0#16,u8 0#8,u8 0#8,u32 0#32] (pS n).cells rfl rfl;obtain⟨v',H2,a1,H3,a2,g⟩:=(h.grow e1).push hl (pS n) hb1;rw[hv];simp only[hbS,AM.aQ,cL,a1,a2,aC];exact hQ _ g
end
end
section
set_option maxRecDepth 20000
def gA:List aG->Int->Bool
 | [],_=>false
 | p :: l,n=>if p.kind=1#8 then(if p.to=n then true else gA l n) else false
def bP(m:List (Int×Int)):Nat->Int->Int
 | 0,n=>n
 | f+1,n=>match bB n m with
  | none=>n
  | some t=>bP m f t
def dN:List aG->Option (BitVec 32)->List aG
 | [],_=>[]
 | p :: l,now =>
  if p.kind=1#8 then p :: dN l none
  else if p.kind=2#8/\p.insn.code=32#16 then(if now=some p.insn.k then dN l now else p :: dN l (some p.insn.k))
  else if p.kind=2#8 then p :: dN l none
  else p :: dN l now
section
variable {E:Sy}{H H' H0 Z:AH}{Q:Value->AH->Prop}{X:List Res}
theorem tS(x:aG)(H:AH):aH 7 (ptr H.next 0) x.v (H.new (.cells [(.int .u8 0),vi 0,vi 0,(.int .u16 0),(.int .u8 0),(.int .u8 0),(.int .u32 0)] none))=some (H.new (.cells x.cells none)):=by
 rw[cM,AH.get_new_self];have h3:AM.aT [(.int .u8 0),vi 0,vi 0,(.int .u16 0),(.int .u8 0),(.int .u8 0),(.int .u32 0)] 0 x.cells=x.cells:=rfl;have h4:x.cells.all plain1=true:=rfl;have h5:x.cells.length=7:=rfl;simp only[List.size_toArray,List.toList_toArray,h4,h5,List.length_cons,List.length_nil,Nat.zero_add,Nat.le_refl,and_self,if_true,h3,AH.new_put]
theorem uE{v:Value}{l:List aG}(hv:Rows H 7 v (bL l)){k:Nat}(hk:k<l.length):∃ b o,aI 7 v (vi k)=some (ptr b o)/\(H.get b).row o 7=some l[k].cells/\aE 7 (ptr b o) H=some l[k].v:=by
 obtain⟨b,o,f1,f2⟩:=hv.ix (i:=k) (by simpa[bL] using hk)
 have hrow:(bL l)[k]'(by simpa[bL] using hk)=l[k].cells:=by simp[bL]
 rw[hrow]at f2;exact⟨b,o,f1,f2,by rw[aJ,f2];rfl⟩
theorem S.f50(hE:aX E){v:Value}{l:List aG}(hv:Rows H 7 v (bL l))(hl:l.length<2 ^ 30)(n:Int)(hQ:∀ H',Ext H H'->Q (vb (gA l n)) H'):E.call 104 [v,vi n] H Q:=by
 apply hE.f50;have i0:vi 0=vi ((0:Nat):Int):=rfl;have hlv:=hv.lenSlc;have hpl:(bL l).length=l.length:=by simp[bL]
 rw[hpl]at hlv;simp only[F.f50,hlv,i0,aC];refine aZ.count l.length (λk ls H'=>ls=[vi n,v,vi l.length,vi k]/\Ext H H'/\gA l n=gA (l.drop k) n) ?_ ⟨rfl,Ext.refl _,rfl⟩;rintro k _ H1 X1 hk ih ⟨rfl,e1,hf⟩;rcases Nat.lt_or_ge k l.length with hlt | hge
 ·have hlt':decide ((k:Int)<l.length)=true:=decide_eq_true (by omega)
  obtain⟨b,o,f1,_,f2⟩:=uE (hv.mono e1) hlt;have hinc:=bE (i:=k) (by omega)
  rw[List.drop_eq_getElem_cons hlt]at hf;generalize l[k]=p at *;have hst:=tS p H1;have bp:=AH.get_new_self H1 (.cells p.cells none);have x1:Ext H1 (H1.new (.cells p.cells none)):=(Ext.refl _).new _;have c0:p.cells[0]? = some (u8 p.kind):=rfl;have c1:p.cells[1]? = some (vi p.to):=rfl;have q1:(.int .u8 1:Value)=u8 1#8:=rfl;simp only[F.f50_l1,aF,hlt',f1,f2,aW,hst,bp,c0,q1,aCj,aC];have hcons:gA (p :: l.drop (k+1)) n=if p.kind=1#8 then(if p.to=n then true else gA (l.drop (k+1)) n) else false:=rfl;rw[hcons]at hf
  by_cases o1:p.kind=1#8
  ·have hd:decide (p.kind≠1#8)=false:=decide_eq_false (by simpa using o1)
   rw[if_pos o1]at hf;simp only[hd,bp,c1,cZ,aC]
   by_cases o2:p.to=n
   ·have hd2:decide (p.to=n)=true:=decide_eq_true o2
    rw[if_pos o2]at hf;rw[hf]at hQ;simp only[hd2,aC];exact hQ _ (e1.trans x1)
   ·have hd2:decide (p.to=n)=false:=decide_eq_false o2
    rw[if_neg o2]at hf;simp only[hd2,hinc,aC];exact ih hlt _ _ ⟨rfl,e1.trans x1,hf⟩
  ·have hd:decide (p.kind≠1#8)=true:=decide_eq_true o1
   rw[if_neg o1]at hf;rw[hf]at hQ;simp only[hd,aC];exact hQ _ (e1.trans x1)
 ·have hlt':decide ((k:Int)<l.length)=false:=decide_eq_false (by omega)
  rw[List.drop_eq_nil_of_le hge]at hf;rw[hf]at hQ;simp only[F.f50_l1,aF,hlt',aC];exact hQ _ e1
theorem eE.look_ints{r:Nat}{l:List (Int×Int)}(h:eE vi vi H r l)(a:Int):AM.look 0 (vi 0) true (.map (some r)) (vi a) H=some (.tuple #[vi ((bB a l).getD 0),.bool (bB a l).isSome]):=by
 have:=h.look (kd:=0) pG a (vi 0) true;cases hk:bB a l with
 | none=>unfold bB at hk;rw[hk]at this;rw[this];rfl
 | some n=>unfold bB at hk;rw[hk]at this;rw[this];rfl
theorem S.f49(hE:aX E){r:Nat}{m:List (Int×Int)}(hm:eE vi vi H r m)(hl:m.length<2 ^ 30)(n:Int)(hQ:Q (vi (bP m m.length n)) H):E.call 103 [.map (some r),vi n] H Q:=by
 apply hE.f49;have i0:vi 0=vi ((0:Nat):Int):=rfl;have hlm:=hm.len;simp only[F.f49,hlm,i0,aC];refine aZ.count m.length (λk ls H'=>∃ x,ls=[.map (some r),vi x,vi m.length,vi k]/\H=H'/\bP m m.length n=bP m (m.length - k) x) ?_ ⟨n,rfl,rfl,rfl⟩;rintro k _ _ X1 hk ih ⟨x,rfl,rfl,hf⟩;rcases Nat.lt_or_ge k m.length with hlt | hge
 ·have hlt':decide ((k:Int)<m.length)=true:=decide_eq_true (by omega)
  have hlk:=hm.look_ints x;have hinc:=bE (i:=k) (by omega)
  obtain⟨f,hfe⟩:∃ f,m.length - k=f+1:=⟨m.length - k - 1,by omega⟩
  rw[hfe]at hf;have hsucc:bP m (f+1) x=match bB x m with | none=>x | some t=>bP m f t:=rfl
  rw[hsucc]at hf;simp only[F.f49_l1,aF,hlt',hlk,aC];cases ha:bB x m with
  | none =>
   rw[ha]at hf;have hf:bP m m.length n=x:=hf;simp only[Option.isSome_none,aC];rw[<- hf];exact hQ
  | some t =>
   rw[ha]at hf;have hf:bP m m.length n=bP m f t:=hf;simp only[Option.isSome_some,Option.getD_some,hinc,aC];exact ih hlt _ _ ⟨t,rfl,rfl,by rw[hf,show m.length - (k+1)=f by omega]⟩
 ·have hlt':decide ((k:Int)<m.length)=false:=decide_eq_false (by omega)
  have h0:m.length - k=0:=by omega
  rw[h0]at hf;have hf:bP m m.length n=x:=hf;simp only[F.f49_l1,aF,hlt',aC];rw[<- hf];exact hQ
end
end
section
set_option maxRecDepth 20000
def wG(o:Option (BitVec 32)):List Value:=[vb o.isSome,u32 (o.getD 0#32)]
section
variable {E:Sy}{H H' H0 Z:AH}{Q:Value->AH->Prop}{X:List Res}
theorem aLq(o:Option (BitVec 32))(k:BitVec 32):iE [2,0] .eql (.agg (wG o).toArray) (.agg [vb true,u32 k].toArray)=some (vb (decide (o=some k))):=by
 have hb:∀ a:Bool,cA 2 (vb a) (vb true)=some (a == true):=λ_=>rfl;simp only[iE,wG,List.toList_toArray,bH,hb,lE,Option.bind_some,Option.map_some];cases o with
 | none=>simp
 | some x=>simp
def peL(nb:Nat)(o:Option (BitVec 32))(ov:Value)(out:List aG):List Res:=[bF nb (wG o),aY 7 ov (bL out)]
theorem Has.setNow{nb:Nat}{o:Option (BitVec 32)}{ov:Value}{out:List aG}(h:Has H0 Z H (peL nb o ov out++X))(o':Option (BitVec 32)):∃ H',aH 2 (ptr nb 0) (.agg (wG o').toArray) H=some H'/\Has H0 Z H' (peL nb o' ov out++X):=by
 have hb:=h.box (k:=0) (b:=nb) (c:=wG o) rfl;refine⟨H.put nb (.cells (wG o') none),by rw[cM,hb];rfl,h.put (k:=0) (b:=nb) (c:=wG o) rfl (wG o')⟩
theorem aK2{nb:Nat}{o:Option (BitVec 32)}{ov:Value}{out:List aG}(h:Has H0 Z H (peL nb o ov out++X))(hl:out.length<2 ^ 30)(p:aG):∃ v' H',app 7 32 ov (slc H.next 0 1 1) (H.new (.cells p.cells none))=some (v',H')/\Has H0 Z H' (peL nb o v' (out++[p])++X):=by
 obtain⟨v',H3,a1,a2,g⟩:=h.app1 (k:=1) (sz:=7) (v:=ov) (rows:=bL out) (bytes:=32) rfl p.cells rfl (by simp[aG.cells]) (by decide) (by decide) (by simp only[bL,List.length_map];omega)
 refine⟨v',H3,a1,?_⟩;have hr:bL (out++[p])=bL out++[p.cells]:=by simp[bL]
 show Has H0 Z H3 (bF nb (wG o) :: aY 7 v' (bL (out++[p])) :: X)
 rw[hr];exact g
theorem aCk{b o:Nat}{p:aG}(e:Ext H0 H)(hr:(H0.get b).row o 7=some p.cells):aE 7 (ptr b o) H=some p.v:=by
 have:H.get b=H0.get b:=e.obj (o:=H0.get b) (λhd=>by rw[hd]at hr;cases hr) rfl
 rw[aJ,this,hr];rfl
theorem S.f14(hE:aX E){v:Value}{l:List aG}(hv:Rows H 7 v (bL l))(hl:l.length<2 ^ 29)(hQ:∀ w H',Ext H H'->Rows H' 7 w (bL (dN l none))->Q w H'):E.call 28 [v] H Q:=by
 apply hE.f14;have i0:vi 0=vi ((0:Nat):Int):=rfl;have hlv:=hv.lenSlc;have hpl:(bL l).length=l.length:=by simp[bL]
 rw[hpl]at hlv;have g1:=((Has.begin (Ext.refl H) (Sub.refl H)).newbox [(.bool false),(.int .u32 0)]).nils 7;simp only[F.f14,aW,hlv,i0,aC];generalize H.new (.cells [(.bool false),(.int .u32 0)] none)=H2 at *;generalize H.next=nb at *;refine aZ.count l.length (λk ls H'=>∃ ov out now,ls=[ov,ptr nb 0,v,vi l.length,vi k]/\Has H H H' (peL nb now ov out++[])/\out.length<=k/\out++dN (l.drop k) now=dN l none) ?_ ⟨bY,[],none,rfl,g1,Nat.le_refl _,rfl⟩;rintro k _ H3 X1 hk ih ⟨ov,out,now,rfl,g,hol,hpe⟩;rcases Nat.lt_or_ge k l.length with hlt | hge
 rotate_left
 ·have hlt':decide ((k:Int)<l.length)=false:=decide_eq_false (by omega)
  rw[List.drop_eq_nil_of_le hge]at hpe;have hpe:out=dN l none:=by rw[<- hpe];simp[dN]
  simp only[F.f14_l1,aF,hlt',aC];refine hQ _ _ g.ext ?_;rw[<- hpe];exact g.rows (k:=1) (sz:=7) (v:=ov) (rows:=bL out) rfl
 have hlt':decide ((k:Int)<l.length)=true:=decide_eq_true (by omega)
 obtain⟨b,o,f1,f2,_⟩:=uE hv hlt;have lo:=aCk g.ext f2;have hinc:=bE (i:=k) (by omega)
 rw[List.drop_eq_getElem_cons hlt]at hpe;generalize l[k]=p at *;have hst:=tS p H3;have bp:=AH.get_new_self H3 (.cells p.cells none);have g4:Has H H (H3.new (.cells p.cells none)) (peL nb now ov out++[bF H3.next p.cells]):=g.newbox p.cells;have c0:p.cells[0]? = some (u8 p.kind):=rfl;have c3:p.cells[3]? = some (u16 p.insn.code):=rfl;have c6:p.cells[6]? = some (u32 p.insn.k):=rfl;have q1:(.int .u8 1:Value)=u8 1#8:=rfl;have q2:(.int .u8 2:Value)=u8 2#8:=rfl;have q32:(.int .u16 32:Value)=u16 32#16:=rfl;have hbv0:aK [(0,1),(1,1)] #[(.bool false),(.int .u32 0)] []=some (.agg (wG none).toArray):=rfl;have hbv1:aK [(0,1),(1,1)] #[(.bool false),(.int .u32 0)] [(0,(.bool true)),(1,u32 p.insn.k)]=some (.agg (wG (some p.insn.k)).toArray):=rfl;simp only[F.f14_l1,aF,hlt',f1,lo,aW,hst,bp,c0,q1,eJ,aC];generalize H3.new (.cells p.cells none)=H4 at *;generalize H3.next=t at *
 have fin:∀ (now':Option (BitVec 32)) (K:AH),Has H H K (peL nb now' ov out++[bF t p.cells])->(out++[p])++dN (l.drop (k+1)) now'=dN l none->F.f14_j1 E Q X1 ov (ptr nb 0) (ptr t 0) v (vi l.length) (vi k) K:=by
  intro now' K gk hk';have hbt:=gk.box (k:=2) (b:=t) (c:=p.cells) rfl;have lot:aE 7 (ptr t 0) K=some p.v:=by rw[aJ,hbt,cH _ _ 7 rfl];rfl
  have hbS:bO 1 7 #[(.int .u8 0),vi 0,vi 0,(.int .u16 0),(.int .u8 0),(.int .u8 0),(.int .u32 0)] [(0,p.v)]=some (.cells p.cells none,fC 1 1):=cX 7 [u8 0#8,vi 0,vi 0,u16 0#16,u8 0#8,u8 0#8,u32 0#32] p.cells rfl rfl;obtain⟨w,K2,a1,g5⟩:=aK2 gk (by omega) p
  simp only[F.f14_j1,lot,hbS,AM.aQ,cL,a1,hinc,aC];exact ih hlt _ _ ⟨w,out++[p],now',rfl,Has.dropLast (L:=peL nb now' w (out++[p])) g5,by simp;omega,hk'⟩
 have hcons:dN (p :: l.drop (k+1)) now=if p.kind=1#8 then p :: dN (l.drop (k+1)) none
  else if p.kind=2#8/\p.insn.code=32#16 then(if now=some p.insn.k then dN (l.drop (k+1)) now else p :: dN (l.drop (k+1)) (some p.insn.k))
  else if p.kind=2#8 then p :: dN (l.drop (k+1)) none
  else p :: dN (l.drop (k+1)) now:=rfl
 rw[hcons]at hpe
 by_cases o1:p.kind=1#8
 ·have hd:decide (p.kind=1#8)=true:=decide_eq_true o1
  rw[if_pos o1]at hpe;obtain⟨K,s1,gk⟩:=g4.setNow none;simp only[hd,hbv0,s1,aC];exact fin none K gk (by rw[List.append_assoc];exact hpe)
 have hd1:decide (p.kind=1#8)=false:=decide_eq_false o1;rw[if_neg o1]at hpe;simp only[hd1,bp,c0,q2,eJ,aC]
 by_cases o2:p.kind=2#8
 ·have hd:decide (p.kind=2#8)=true:=decide_eq_true o2
  simp only[hd,bp,c3,q32,cE,aC]
  by_cases o3:p.insn.code=32#16
  ·have hd3:decide (p.insn.code=32#16)=true:=decide_eq_true o3
   rw[if_pos ⟨o2,o3⟩]at hpe;have hbn:=g4.box (k:=0) (b:=nb) (c:=wG now) rfl;have lon:aE 2 (ptr nb 0) H4=some (.agg (wG now).toArray):=by rw[aJ,hbn,cH _ _ 2 rfl];rfl
   have hsame:iE [2,0] .eql (.agg (wG now).toArray) (.agg (wG (some p.insn.k)).toArray)=some (vb (decide (now=some p.insn.k))):=aLq now p.insn.k;simp only[hd3,lon,bp,c6,hbv1,hsame,aC]
   by_cases o4:now=some p.insn.k
   ·have hd4:decide (now=some p.insn.k)=true:=decide_eq_true o4
    rw[if_pos o4]at hpe;simp only[hd4,hinc,aC];exact ih hlt _ _ ⟨ov,out,now,rfl,Has.dropLast (L:=peL nb now ov out) g4,by omega,hpe⟩
   ·have hd4:decide (now=some p.insn.k)=false:=decide_eq_false o4
    rw[if_neg o4]at hpe;obtain⟨K,s1,gk⟩:=g4.setNow (some p.insn.k);simp only[hd4,bp,c6,hbv1,s1,aC];exact fin (some p.insn.k) K gk (by rw[List.append_assoc];exact hpe)
  ·have hd3:decide (p.insn.code=32#16)=false:=decide_eq_false o3
   rw[if_neg (λh=>o3 h.2),if_pos o2]at hpe;obtain⟨K,s1,gk⟩:=g4.setNow none;simp only[hd3,hd,bp,c0,q2,eJ,hbv0,s1,aC];exact fin none K gk (by rw[List.append_assoc];exact hpe)
 ·have hd:decide (p.kind=2#8)=false:=decide_eq_false o2
  rw[if_neg (λh=>o2 h.1),if_neg o2]at hpe;simp only[hd,bp,c0,q2,eJ,aC];exact fin now H4 g4 (by rw[List.append_assoc];exact hpe)
end
end
section
set_option maxRecDepth 20000
def nI:List aG->List aG
 | []=>[]
 | p :: l=>if p.kind=1#8 then nI l else p :: l
def gQ(p:aG)(l:List aG)(m:List (Int×Int)):List (Int×Int) :=
 if p.kind=1#8 then(match (nI l).head? with
  | some q=>if q.kind=4#8 then fE p.to q.to m else m
  | none=>m) else m
def cQ:List aG->List (Int×Int)->List (Int×Int)
 | [],m=>m
 | p :: l,m=>cQ l (gQ p l m)
section
variable {E:Sy}{H H' H0 Z:AH}{Q:Value->AH->Prop}{X:List Res}
theorem aGs(hE:aX E){v:Value}{l:List aG}(hv:Rows H0 7 v (bL l))(hl:l.length<2 ^ 29){k:Nat}(hk:k<l.length)(h1:l[k].kind=1#8){r t:Nat}{m:List (Int×Int)}(g:Has H0 Z H [eU vi vi r m,bF t l[k].cells]){X0:List Value->AH->Prop}(next:∀ H',Has H0 Z H' [eU vi vi r (gQ l[k] (l.drop (k+1)) m)]->X0 [v,.map (some r),v,vi l.length,vi ((k+1:Nat):Int)] H'):
  lp7 (F.f56_l2 E Q X0) [v,.map (some r),ptr t 0,vi k,v,vi l.length,vi k] H:=by
 have hlv:=hv.lenSlc;have hpl:(bL l).length=l.length:=by simp[bL]
 rw[hpl]at hlv;have hinck:=bE (i:=k) (by omega)
 have hth:gQ l[k] (l.drop (k+1)) m=match (nI (l.drop k)).head? with
  | some q=>if q.kind=4#8 then fE l[k].to q.to m else m
  | none=>m:=by
  have:nI (l.drop k)=nI (l.drop (k+1)):=by
   rw[List.drop_eq_getElem_cons hk]
   show(if l[k].kind=1#8 then _ else _)=_
   rw[if_pos h1]
  unfold gQ;rw[if_pos h1,this]
 refine aZ.ind (λn ls H'=>H=H'/\∃ j:Nat,n=l.length - j/\j<=l.length/\nI (l.drop k)=nI (l.drop j)/\ls=[v,.map (some r),ptr t 0,vi j,v,vi l.length,vi k]) ?_ (l.length - k) ⟨rfl,k,rfl,by omega,rfl,rfl⟩
 rintro n _ _ X1 ih ⟨rfl,j,rfl,hj,hs,rfl⟩;have q1:(.int .u8 1:Value)=u8 1#8:=rfl;have q4:(.int .u8 4:Value)=u8 4#8:=rfl;rcases Nat.lt_or_ge j l.length with hlt | hge
 ·have hlt':decide ((j:Int)<l.length)=true:=decide_eq_true (by omega)
  obtain⟨b,o,f1,f2,_⟩:=uE (hv.mono g.ext) hlt;have c0:((H.get b).cell o)=some (u8 l[j].kind):=by have:=lD f2 (j:=0) (by omega);simpa[aG.cells] using this
  have c1:((H.get b).cell (o+1))=some (vi l[j].to):=by have:=lD f2 (j:=1) (by omega);simpa[aG.cells] using this
  have hinc:=bE (i:=j) (by omega)
  have hdr:l.drop j=l[j] :: l.drop (j+1):=List.drop_eq_getElem_cons hlt;have hsk:nI (l.drop j)=if l[j].kind=1#8 then nI (l.drop (j+1)) else l[j] :: l.drop (j+1):=by rw[hdr];rfl
  generalize l[j]=p at *;simp only[F.f56_l2,hlv,aF,hlt',f1,c0,q1,eJ,aC]
  by_cases o1:p.kind=1#8
  ·have hd:decide (p.kind=1#8)=true:=decide_eq_true o1
   rw[if_pos o1]at hsk;simp only[hd,hinc,aC];exact ih _ (by omega) _ _ ⟨rfl,j+1,rfl,by omega,by rw[hs,hsk],rfl⟩
  ·have hd:decide (p.kind=1#8)=false:=decide_eq_false o1
   rw[if_neg o1]at hsk;rw[hs,hsk]at hth;simp only[hd,hlv,aF,hlt',f1,c0,q4,eJ,aC]
   by_cases o4:p.kind=4#8
   ·have hd4:decide (p.kind=4#8)=true:=decide_eq_true o4
    have hbt:=g.box (k:=1) (b:=t) (c:=l[k].cells) rfl;have ct:l[k].cells[1]? = some (vi l[k].to):=rfl;obtain⟨H2,m1,g2⟩:=g.mapset (n:=0) (r:=r) (l:=m) (fk:=vi) (fv:=vi) rfl pG l[k].to p.to;have hth:gQ l[k] (l.drop (k+1)) m=fE l[k].to p.to m:=by rw[hth];show(if p.kind=4#8 then _ else _)=_;rw[if_pos o4]
    rw[hth]at next;simp only[hd4,hbt,ct,f1,c1,m1,hinck,aC];exact next _ (g2.drop 1)
   ·have hd4:decide (p.kind=4#8)=false:=decide_eq_false o4
    have hth:gQ l[k] (l.drop (k+1)) m=m:=by rw[hth];show(if p.kind=4#8 then _ else _)=_;rw[if_neg o4]
    rw[hth]at next;simp only[hd4,hinck,aC];exact next _ (g.drop 1)
 ·have hlt':decide ((j:Int)<l.length)=false:=decide_eq_false (by omega)
  rw[hs,List.drop_eq_nil_of_le hge]at hth;have hth:gQ l[k] (l.drop (k+1)) m=m:=hth;rw[hth]at next;simp only[F.f56_l2,hlv,aF,hlt',hinck,aC];exact next _ (g.drop 1)
theorem S.f56(hE:aX E){v:Value}{l:List aG}(hv:Rows H 7 v (bL l))(hl:l.length<2 ^ 29)(hQ:∀ r H',Has H H H' [eU vi vi r (cQ l [])]->Q (.map (some r)) H'):E.call 102 [v] H Q:=by
 apply hE.f56;have hlv:=hv.lenSlc;have hpl:(bL l).length=l.length:=by simp[bL]
 rw[hpl]at hlv;have i0:vi 0=vi ((0:Nat):Int):=rfl;have hmw:∀ (H:AH) (K:Value->AH->Prop),pD H K=K (.map (some H.next)) (H.new (.map [] 0 true)):=λ_ _=>rfl;have g1:=(Has.begin (Ext.refl H) (Sub.refl H)).newmap vi vi;simp only[F.f56,hmw,hlv,i0,aC];generalize H.new (.map [] 0 true)=H1 at *;generalize H.next=r at *;refine aZ.count l.length (λk ls H'=>ls=[v,.map (some r),v,vi l.length,vi k]/\∃ m,Has H H H' [eU vi vi r m]/\cQ (l.drop k) m=cQ l []) ?_ ⟨rfl,[],g1,rfl⟩;rintro k _ H2 X1 hk ih ⟨rfl,m,g,hm⟩;rcases Nat.lt_or_ge k l.length with hlt | hge
 ·have hlt':decide ((k:Int)<l.length)=true:=decide_eq_true (by omega)
  obtain⟨b,o,f1,f2,_⟩:=uE hv hlt;have lo:=aCk g.ext f2;have hinc:=bE (i:=k) (by omega)
  rw[List.drop_eq_getElem_cons hlt]at hm;have hm:cQ (l.drop (k+1)) (gQ l[k] (l.drop (k+1)) m)=cQ l []:=hm;have hst:=tS l[k] H2;have bp:=AH.get_new_self H2 (.cells l[k].cells none);have g3:=g.newbox l[k].cells;have c0:l[k].cells[0]? = some (u8 l[k].kind):=rfl;have q1:(.int .u8 1:Value)=u8 1#8:=rfl;simp only[F.f56_l1,aF,hlt',f1,lo,aW,hst,bp,c0,q1,aCj,aC];generalize H2.new (.cells l[k].cells none)=H3 at *;generalize H2.next=t at *
  by_cases o1:l[k].kind=1#8
  ·have hd:decide (l[k].kind≠1#8)=false:=decide_eq_false (by simpa using o1)
   simp only[hd,aC];exact aGs hE hv hl hlt o1 g3 λH' g'=>ih hlt _ _ ⟨rfl,_,g',hm⟩
  ·have hd:decide (l[k].kind≠1#8)=true:=decide_eq_true o1
   have ht:gQ l[k] (l.drop (k+1)) m=m:=by unfold gQ;rw[if_neg o1]
   rw[ht]at hm;simp only[hd,hinc,aC];exact ih hlt _ _ ⟨rfl,m,g3.drop 1,hm⟩
 ·have hlt':decide ((k:Int)<l.length)=false:=decide_eq_false (by omega)
  rw[List.drop_eq_nil_of_le hge]at hm;have hm:m=cQ l []:=hm;simp only[F.f56_l1,aF,hlt',aC];rw[hm]at g;exact hQ _ _ g
end
end
section
set_option maxRecDepth 20000
def cG(w:List (Int×Int))(p:aG):aG :=
 if p.kind=4#8 then { p with to:=bP w w.length p.to }
 else if p.kind=3#8 then { p with to:=bP w w.length p.to,els:=bP w w.length p.els }
 else p
def iB(u:List (Int×Bool))(p:aG):List (Int×Bool) :=
 if p.kind=4#8 then fE p.to true u
 else if p.kind=3#8 then fE p.els true (fE p.to true u)
 else u
def dQ(u:List (Int×Bool)):List aG->Bool->List aG
 | [],_=>[]
 | p :: l,dead =>
  if p.kind=1#8 then(if(bB p.to u).getD false=true then p :: dQ u l false else dQ u l dead)
  else if dead=true\/(p.kind=4#8/\gA l p.to=true) then dQ u l dead
  else p :: dQ u l (decide (p.kind=4#8)||(decide (p.kind=2#8)&&decide (bS p.insn.code=6#16)))
def lB(l:List aG):List aG :=
 let out:=l.map (cG (cQ l []))
 dQ (out.foldl iB []) out false
section
variable {E:Sy}{H H' H0 Z:AH}{Q:Value->AH->Prop}{X:List Res}
theorem Has.bset{L:List Res}{n t k:Nat}{c c':List Value}{v:Value}(h:Has H0 Z H L)(hn:L[n]? = some (bF t c))(hp:plain1 v=true)(hk:k<c.length)(hc:c.set k v=c'):∃ H',bD (ptr t k) v H=some H'/\Has H0 Z H' (L.set n (bF t c')):=by
 subst hc;have hb:=h.box hn;refine⟨H.put t (.cells (c.set k v) none),?_,h.put hn _⟩;rw[eK,if_pos hp,hb];simp only[hk,if_true]
def onL(r ur:Nat)(w:List (Int×Int))(u:List (Int×Bool))(ov:Value)(out:List aG):List Res:=[eU vi vi r w,eU vi vb ur u,aY 7 ov (bL out)]
theorem aEn(hE:aX E){r ur t:Nat}{w:List (Int×Int)}{u:List (Int×Bool)}{ov v:Value}{out:List aG}{p:aG}(g:Has H0 Z H (onL r ur w u ov out++[bF t p.cells]))(hl:out.length<2 ^ 30){ln k:Nat}(hk:k<2 ^ 30){X0:List Value->AH->Prop}(next:∀ ov' H',Has H0 Z H' (onL r ur w u ov' (out++[p]))->X0 [.map (some r),.map (some ur),ov',v,vi ln,vi ((k+1:Nat):Int)] H'):F.f55_j1 E Q X0 (.map (some r)) (.map (some ur)) ov (ptr t 0) v (vi ln) (vi k) H:=by
 have hbt:=g.box (k:=3) (b:=t) (c:=p.cells) rfl;have lot:aE 7 (ptr t 0) H=some p.v:=by rw[aJ,hbt,cH _ _ 7 rfl];rfl
 have hbS:bO 1 7 #[(.int .u8 0),vi 0,vi 0,(.int .u16 0),(.int .u8 0),(.int .u8 0),(.int .u32 0)] [(0,p.v)]=some (.cells p.cells none,fC 1 1):=cX 7 [u8 0#8,vi 0,vi 0,u16 0#16,u8 0#8,u8 0#8,u32 0#32] p.cells rfl rfl;have hinc:=bE (i:=k) (by omega)
 obtain⟨v',H3,a1,a2,g2⟩:=g.app1 (k:=2) (sz:=7) (v:=ov) (rows:=bL out) (bytes:=32) rfl p.cells rfl (by simp[aG.cells]) (by decide) (by decide) (by simp only[bL,List.length_map];omega)
 have hr:bL (out++[p])=bL out++[p.cells]:=by simp[bL]
 simp only[F.f55_j1,lot,hbS,AM.aQ,cL,a1,hinc,aC];refine next v' H3 ?_
 show Has H0 Z H3 [eU vi vi r w,eU vi vb ur u,aY 7 v' (bL (out++[p]))]
 rw[hr];exact Has.dropLast (L:=[eU vi vi r w,eU vi vb ur u,aY 7 v' (bL out++[p.cells])]) g2
theorem aM7(hE:aX E){v:Value}{l:List aG}(hv:Rows H0 7 v (bL l))(hl:l.length<2 ^ 29){r ur:Nat}{w:List (Int×Int)}(hw:w.length<2 ^ 30)(g0:Has H0 Z H (onL r ur w [] bY [])){R:List Value->AH->Prop}(hR:∀ ov H',Has H0 Z H' (onL r ur w ((l.map (cG w)).foldl iB []) ov (l.map (cG w))) ->
   (opt (lenSlc ov) λv27=>lp7 (F.f55_l2 E Q) [.map (some ur),ov,(.slice none 0 0),(.bool false),ov,v27,vi 0] H')):
  lp6 (F.f55_l1 E Q) [.map (some r),.map (some ur),(.slice none 0 0),v,vi l.length,vi 0] H:=by
 have i0:vi 0=vi ((0:Nat):Int):=rfl;rw[i0];refine aZ.count l.length (λk ls H'=>∃ ov,ls=[.map (some r),.map (some ur),ov,v,vi l.length,vi k]/\Has H0 Z H' (onL r ur w (((l.take k).map (cG w)).foldl iB []) ov ((l.take k).map (cG w)))) ?_ ⟨bY,rfl,g0⟩;rintro k _ H1 X1 hk ih ⟨ov,rfl,g⟩;rcases Nat.lt_or_ge k l.length with hlt | hge
 rotate_left
 ·have hke:k=l.length:=by omega
  subst hke;have hlt':decide ((l.length:Int)<l.length)=false:=decide_eq_false (by omega)
  rw[List.take_length]at g;simp only[F.f55_l1,aF,hlt',aC];exact hR _ _ g
 have hlt':decide ((k:Int)<l.length)=true:=decide_eq_true (by omega)
 obtain⟨b,o,f1,f2,_⟩:=uE hv hlt;have lo:=aCk g.ext f2
 have htk:(l.take (k+1)).map (cG w)=(l.take k).map (cG w)++[cG w l[k]]:=by
  rw[List.take_succ,List.getElem?_eq_getElem hlt,List.map_append];rfl
 have hlen:((l.take k).map (cG w)).length<2 ^ 30:=by rw[List.length_map,List.length_take];omega
 have hus:((l.take (k+1)).map (cG w)).foldl iB []=iB (((l.take k).map (cG w)).foldl iB []) (cG w l[k]):=by rw[htk,List.foldl_append];rfl
 have ih:=ih hlt;rw[htk]at ih;rw[htk]at hus;generalize l[k]=p at *;rw[hus]at ih;generalize (l.take k).map (cG w)=out at *;generalize out.foldl iB []=u at *;have hst:=tS p H1;have g2:=g.newbox p.cells;have bp:=AH.get_new_self H1 (.cells p.cells none);have c0:p.cells[0]? = some (u8 p.kind):=rfl;have c1:p.cells[1]? = some (vi p.to):=rfl;have c2:p.cells[2]? = some (vi p.els):=rfl;have q4:(.int .u8 4:Value)=u8 4#8:=rfl;have q3:(.int .u8 3:Value)=u8 3#8:=rfl;simp only[F.f55_l1,aF,hlt',f1,lo,aW,hst,bp,c0,q4,eJ,aC];generalize H1.new (.cells p.cells none)=H2 at *;generalize H1.next=t at *;have hmw:eE vi vi H2 r w:=g2.mapAt (k:=0) rfl
 by_cases o4:p.kind=4#8
 ·have hd:decide (p.kind=4#8)=true:=decide_eq_true o4
  have hrd:cG w p={ p with to:=bP w w.length p.to }:=by unfold cG;rw[if_pos o4]
  have hu1:iB u (cG w p)=fE (bP w w.length p.to) true u:=by rw[hrd];unfold iB;rw[if_pos (show aG.kind { p with to:=bP w w.length p.to }=4#8 from o4)]
  rw[hu1,hrd]at ih;simp only[hd,bp,c1,aC];refine S.f49 hE hmw hw p.to ?_;obtain⟨H4,s4,g4⟩:=g2.bset (n:=3) (t:=t) (k:=1) (c:=p.cells) (c':=aG.cells { p with to:=bP w w.length p.to }) (v:=vi (bP w w.length p.to)) rfl rfl (by simp[aG.cells]) rfl
  have b4:=g4.box (k:=3) (b:=t) (c:=aG.cells { p with to:=bP w w.length p.to }) rfl
  have d1:(aG.cells { p with to:=bP w w.length p.to })[1]? = some (vi (bP w w.length p.to)):=rfl
  obtain⟨H5,m5,g5⟩:=g4.mapset (n:=1) (r:=ur) (l:=u) (fk:=vi) (fv:=vb) rfl pG (bP w w.length p.to) true;have m5:eO 0 (.map (some ur)) (vi (bP w w.length p.to)) (.bool true) H4=some H5:=m5;simp only[s4,b4,d1,m5,aC];exact aEn hE (p:={ p with to:=bP w w.length p.to }) g5 hlen (by omega) λov' H' g'=>ih _ _ ⟨ov',rfl,g'⟩
 have hd4:decide (p.kind=4#8)=false:=decide_eq_false o4;simp only[hd4,q3,eJ,aC]
 by_cases o3:p.kind=3#8
 ·have hd:decide (p.kind=3#8)=true:=decide_eq_true o3
  have hrd:cG w p={ p with to:=bP w w.length p.to,els:=bP w w.length p.els }:=by unfold cG;rw[if_neg o4,if_pos o3]
  have hu1:iB u (cG w p)=fE (bP w w.length p.els) true (fE (bP w w.length p.to) true u):=by
   rw[hrd];unfold iB;rw[if_neg (show ¬ aG.kind { p with to:=bP w w.length p.to,els:=bP w w.length p.els }=4#8 from o4),if_pos (show aG.kind { p with to:=bP w w.length p.to,els:=bP w w.length p.els }=3#8 from o3)]
  rw[hu1,hrd]at ih;simp only[hd,bp,c1,c2,aC];refine S.f49 hE hmw hw p.to ?_;refine⟨rfl,?_⟩;simp only[aC];refine S.f49 hE hmw hw p.els ?_;obtain⟨H4,s4,g4⟩:=g2.bset (n:=3) (t:=t) (k:=1) (c:=p.cells) (c':=aG.cells { p with to:=bP w w.length p.to }) (v:=vi (bP w w.length p.to)) rfl rfl (by simp[aG.cells]) rfl
  obtain⟨H5,s5,g5⟩:=g4.bset (n:=3) (t:=t) (k:=2) (c:=aG.cells { p with to:=bP w w.length p.to }) (c':=aG.cells { p with to:=bP w w.length p.to,els:=bP w w.length p.els }) (v:=vi (bP w w.length p.els)) rfl rfl (by simp[aG.cells]) rfl
  have b5:=g5.box (k:=3) (b:=t) (c:=aG.cells { p with to:=bP w w.length p.to,els:=bP w w.length p.els }) rfl
  have d1:(aG.cells { p with to:=bP w w.length p.to,els:=bP w w.length p.els })[1]? = some (vi (bP w w.length p.to)):=rfl
  have d2:(aG.cells { p with to:=bP w w.length p.to,els:=bP w w.length p.els })[2]? = some (vi (bP w w.length p.els)):=rfl
  obtain⟨H6,m6,g6⟩:=g5.mapset (n:=1) (r:=ur) (l:=u) (fk:=vi) (fv:=vb) rfl pG (bP w w.length p.to) true;have m6:eO 0 (.map (some ur)) (vi (bP w w.length p.to)) (.bool true) H5=some H6:=m6;have b6:=g6.box (k:=3) (b:=t) (c:=aG.cells { p with to:=bP w w.length p.to,els:=bP w w.length p.els }) rfl
  obtain⟨H7,m7,g7⟩:=g6.mapset (n:=1) (r:=ur) (l:=fE (bP w w.length p.to) true u) (fk:=vi) (fv:=vb) rfl pG (bP w w.length p.els) true;have m7:eO 0 (.map (some ur)) (vi (bP w w.length p.els)) (.bool true) H6=some H7:=m7;simp only[s4,s5,b5,d1,d2,m6,aC];refine⟨by rw[b6];rfl,?_⟩
  simp only[m7,aC];exact aEn hE (p:={ p with to:=bP w w.length p.to,els:=bP w w.length p.els }) g7 hlen (by omega) λov' H' g'=>ih _ _ ⟨ov',rfl,g'⟩
 ·have hd:decide (p.kind=3#8)=false:=decide_eq_false o3
  have hrd:cG w p=p:=by unfold cG;rw[if_neg o4,if_neg o3]
  have hu1:iB u p=u:=by unfold iB;rw[if_neg o4,if_neg o3]
  rw[hrd,hu1]at ih;simp only[hd,aC];exact aEn hE (p:=p) g2 hlen (by omega) λov' H' g'=>ih _ _ ⟨ov',rfl,g'⟩
end
end
section
set_option maxRecDepth 20000
section
variable {E:Sy}{H H' H0 Z:AH}{Q:Value->AH->Prop}{X:List Res}
theorem eE.look_bool{r:Nat}{l:List (Int×Bool)}(h:eE vi vb H r l)(a:Int):AM.look 0 (.bool false) false (.map (some r)) (vi a) H=some (vb ((bB a l).getD false)):=by
 have:=h.look (kd:=0) pG a (.bool false) false;cases hk:bB a l with
 | none=>unfold bB at hk;rw[hk]at this;rw[this];rfl
 | some n=>unfold bB at hk;rw[hk]at this;rw[this];rfl
def kpL(ur:Nat)(u:List (Int×Bool))(ov:Value)(out:List aG)(kv:Value)(kept:List aG):List Res:=[eU vi vb ur u,aY 7 ov (bL out),aY 7 kv (bL kept)]
theorem aNC(hE:aX E){ur t:Nat}{u:List (Int×Bool)}{ov kv:Value}{out kept:List aG}{p:aG}(g:Has H0 Z H (kpL ur u ov out kv kept++[bF t p.cells]))(hl:kept.length<2 ^ 30){t9 t56:Value}{ln k:Nat}(hk:k<2 ^ 30)(dead:Value){X0:List Value->AH->Prop}(next:∀ kv' H',Has H0 Z H' (kpL ur u ov out kv' (kept++[p]))->X0 [.map (some ur),ov,kv',dead,t56,vi ln,vi ((k+1:Nat):Int)] H'):F.f55_j2 E Q X0 (.map (some ur)) ov kv dead (ptr t 0) t56 (vi ln) (vi k) H:=by
 have hbt:=g.box (k:=3) (b:=t) (c:=p.cells) rfl;have lot:aE 7 (ptr t 0) H=some p.v:=by rw[aJ,hbt,cH _ _ 7 rfl];rfl
 have hbS:bO 1 7 #[(.int .u8 0),vi 0,vi 0,(.int .u16 0),(.int .u8 0),(.int .u8 0),(.int .u32 0)] [(0,p.v)]=some (.cells p.cells none,fC 1 1):=cX 7 [u8 0#8,vi 0,vi 0,u16 0#16,u8 0#8,u8 0#8,u32 0#32] p.cells rfl rfl;have hinc:=bE (i:=k) (by omega)
 obtain⟨v',H3,a1,a2,g2⟩:=g.app1 (k:=2) (sz:=7) (v:=kv) (rows:=bL kept) (bytes:=32) rfl p.cells rfl (by simp[aG.cells]) (by decide) (by decide) (by simp only[bL,List.length_map];omega)
 have hr:bL (kept++[p])=bL kept++[p.cells]:=by simp[bL]
 simp only[F.f55_j2,lot,hbS,AM.aQ,cL,a1,hinc,aC];refine next v' H3 ?_
 show Has H0 Z H3 [eU vi vb ur u,aY 7 ov (bL out),aY 7 v' (bL (kept++[p]))]
 rw[hr];exact Has.dropLast (L:=[eU vi vb ur u,aY 7 ov (bL out),aY 7 v' (bL kept++[p.cells])]) g2
theorem aMX(hE:aX E){ur:Nat}{u:List (Int×Bool)}{ov:Value}{out:List aG}(hl:out.length<2 ^ 29)(g0:Has H0 Z H (kpL ur u ov out bY []))(hQ:∀ w H',Ext H0 H'->Rows H' 7 w (bL (dQ u out false))->Q w H'):
  lp7 (F.f55_l2 E Q) [.map (some ur),ov,(.slice none 0 0),(.bool false),ov,vi out.length,vi 0] H:=by
 have i0:vi 0=vi ((0:Nat):Int):=rfl;rw[i0];refine aZ.count out.length (λk ls H'=>∃ kv kept dead,ls=[.map (some ur),ov,kv,vb dead,ov,vi out.length,vi k]/\Has H0 Z H' (kpL ur u ov out kv kept)/\kept.length<=k/\kept++dQ u (out.drop k) dead=dQ u out false) ?_ ⟨bY,[],false,rfl,g0,Nat.le_refl _,rfl⟩;rintro k _ H1 X1 hk ih ⟨kv,kept,dead,rfl,g,hkl,hkp⟩;rcases Nat.lt_or_ge k out.length with hlt | hge
 rotate_left
 ·have hlt':decide ((k:Int)<out.length)=false:=decide_eq_false (by omega)
  rw[List.drop_eq_nil_of_le hge]at hkp;have hkp:kept=dQ u out false:=by rw[<- hkp];simp[dQ]
  simp only[F.f55_l2,aF,hlt',aC];refine hQ _ _ g.ext ?_;rw[<- hkp];exact g.rows (k:=2) (sz:=7) (v:=kv) (rows:=bL kept) rfl
 have hlt':decide ((k:Int)<out.length)=true:=decide_eq_true (by omega)
 have hrw:=g.rows (k:=1) (sz:=7) (v:=ov) (rows:=bL out) rfl;obtain⟨b,o,f1,_,lo⟩:=uE hrw hlt;have hinc:=bE (i:=k) (by omega)
 have ih:=ih hlt;have hpo:(bL out).length=out.length:=by simp[bL]
 have hdt:((bL out).take out.length).drop (k+1)=bL (out.drop (k+1)):=by
  rw[<- hpo,List.take_length];simp[bL]
 rw[List.drop_eq_getElem_cons hlt]at hkp;generalize out[k]=p at *;have hst:=tS p H1;have g2:=g.newbox p.cells;have bp:=AH.get_new_self H1 (.cells p.cells none);have c0:p.cells[0]? = some (u8 p.kind):=rfl;have c1:p.cells[1]? = some (vi p.to):=rfl;have c3:p.cells[3]? = some (u16 p.insn.code):=rfl;have q1:(.int .u8 1:Value)=u8 1#8:=rfl;have q2:(.int .u8 2:Value)=u8 2#8:=rfl;have q4:(.int .u8 4:Value)=u8 4#8:=rfl;have q6:(.int .u16 6:Value)=u16 6#16:=rfl;simp only[F.f55_l2,aF,hlt',f1,lo,aW,hst,bp,c0,q1,eJ,aC];generalize H1.new (.cells p.cells none)=H2 at *;generalize H1.next=t at *;have skip:∀ {K:AH},Has H0 Z K (kpL ur u ov out kv kept++[bF t p.cells])->kept++dQ u (out.drop (k+1)) dead=dQ u out false->X1 [.map (some ur),ov,kv,vb dead,ov,vi out.length,vi ((k+1:Nat):Int)] K:=λgK h=>ih _ _ ⟨kv,kept,dead,rfl,Has.dropLast (L:=kpL ur u ov out kv kept) gK,by omega,h⟩
 have push:∀ {K:AH} (d':Bool),Has H0 Z K (kpL ur u ov out kv kept++[bF t p.cells])->(kept++[p])++dQ u (out.drop (k+1)) d'=dQ u out false->F.f55_j2 E Q X1 (.map (some ur)) ov kv (vb d') (ptr t 0) ov (vi out.length) (vi k) K:=λd' gK h =>
  aNC hE gK (by omega) (t9:=bY) (by omega) (vb d') λkv' H' g'=>ih _ _ ⟨kv',kept++[p],d',rfl,g',by simp;omega,h⟩
 have hcons:dQ u (p :: out.drop (k+1)) dead=if p.kind=1#8 then(if(bB p.to u).getD false=true then p :: dQ u (out.drop (k+1)) false else dQ u (out.drop (k+1)) dead)
  else if dead=true\/(p.kind=4#8/\gA (out.drop (k+1)) p.to=true) then dQ u (out.drop (k+1)) dead
  else p :: dQ u (out.drop (k+1)) (decide (p.kind=4#8)||(decide (p.kind=2#8)&&decide (bS p.insn.code=6#16))):=rfl
 rw[hcons]at hkp
 by_cases o1:p.kind=1#8
 ·have hd:decide (p.kind=1#8)=true:=decide_eq_true o1
  have hlk:=(g2.mapAt (k:=0) (fk:=vi) (fv:=vb) (r:=ur) (l:=u) rfl).look_bool p.to;rw[if_pos o1]at hkp;simp only[hd,bp,c1,hlk,aC];cases hu:(bB p.to u).getD false with
  | true =>
   rw[hu,if_pos rfl]at hkp;simp only[aC];exact push false g2 (by rw[List.append_assoc];exact hkp)
  | false =>
   rw[hu,if_neg (by decide)]at hkp
   simp only[hinc,aC];exact skip g2 hkp
 have hd1:decide (p.kind=1#8)=false:=decide_eq_false o1;rw[if_neg o1]at hkp;simp only[hd1,aC]
 have stay:∀ {K:AH},Has H0 Z K (kpL ur u ov out kv kept++[bF t p.cells])->¬ (dead=true\/(p.kind=4#8/\gA (out.drop (k+1)) p.to=true))->F.f55_j3 E Q X1 (.map (some ur)) ov kv (vb dead) (ptr t 0) ov (vi out.length) (vi k) (vb false) K:=by
  intro K gK hn;rw[if_neg hn]at hkp;have bK:=gK.box (k:=3) (b:=t) (c:=p.cells) rfl;simp only[F.f55_j3,bK,c0,q4,eJ,aC]
  by_cases o4:p.kind=4#8
  ·have hd4:decide (p.kind=4#8)=true:=decide_eq_true o4
   rw[hd4,Bool.true_or]at hkp;simp only[hd4,aC];exact push true gK (by rw[List.append_assoc];exact hkp)
  ·have hd4:decide (p.kind=4#8)=false:=decide_eq_false o4
   rw[hd4,Bool.false_or]at hkp;simp only[hd4,bK,c0,q2,eJ,aC]
   by_cases o2:p.kind=2#8
   ·have hd2:decide (p.kind=2#8)=true:=decide_eq_true o2
    rw[hd2,Bool.true_and]at hkp;simp only[hd2,bK,c3,aC];refine S.f16 hE _ ?_;simp only[q6,cE,hd4,hd2,aC];exact push _ gK (by rw[List.append_assoc];exact hkp)
   ·have hd2:decide (p.kind=2#8)=false:=decide_eq_false o2
    rw[hd2,Bool.false_and]at hkp;simp only[hd2,hd4,aC];exact push false gK (by rw[List.append_assoc];exact hkp)
 have go:∀ {K:AH},Has H0 Z K (kpL ur u ov out kv kept++[bF t p.cells])->(dead=true\/(p.kind=4#8/\gA (out.drop (k+1)) p.to=true))->F.f55_j3 E Q X1 (.map (some ur)) ov kv (vb dead) (ptr t 0) ov (vi out.length) (vi k) (vb true) K:=by
  intro K gK hy;rw[if_pos hy]at hkp;simp only[F.f55_j3,hinc,aC];exact skip gK hkp
 cases dead with
 | true =>
  simp only[aC];exact go g2 (.inl rfl)
 | false =>
  simp only[bp,c0,q4,eJ,aC]
  by_cases o4:p.kind=4#8
  ·have hd4:decide (p.kind=4#8)=true:=decide_eq_true o4
   have i1:(.int .i64 1:Value)=vi 1:=rfl;obtain⟨sl,rl⟩:=(g2.rows (k:=1) (sz:=7) (v:=ov) (rows:=bL out) rfl).slice' (lo:=some (vi ((k+1:Nat):Int))) (hi:=none) (i:=k+1) (j:=out.length) (.inl rfl) (.inr ⟨rfl,hpo.symm⟩) (by omega) (by omega)
   rw[hdt]at rl;simp only[hd4,hinc,sl,bp,c1,aC];refine S.f50 hE rl (by rw[List.length_drop];omega) p.to λH3 e3 =>?_
   have g3:=g2.grow e3;cases hf:gA (out.drop (k+1)) p.to with
   | true =>
    simp only[hd4,aC];exact go g3 (.inr ⟨o4,hf⟩)
   | false =>
    simp only[hd4,aC];exact stay g3 (λh=>h.elim (λh=>by cases h) λh=>by rw[hf]at h;cases h.2)
  ·have hd4:decide (p.kind=4#8)=false:=decide_eq_false o4
   simp only[hd4,aC];exact stay g2 (λh=>h.elim (λh=>by cases h) λh=>o4 h.1)
end
end
section
set_option maxRecDepth 20000
def qM:Nat->List aG->List aG
 | 0,l=>l
 | f+1,l=>if(lB l).length=l.length then lB l else qM f (lB l)
theorem aCQ(u:List (Int×Bool)):∀ (l:List aG) (d:Bool),(dQ u l d).length<=l.length
 | [],_=>Nat.le_refl _
 | p :: l,d=>by
  unfold dQ;have h:=aCQ u l
  split
  ·split
   ·have:=h false;simp only[List.length_cons];omega
   ·have:=h d;simp only[List.length_cons];omega
  ·split
   ·have:=h d;simp only[List.length_cons];omega
   ·have:=h (decide (p.kind=4#8)||(decide (p.kind=2#8)&&decide (bS p.insn.code=6#16)));simp only[List.length_cons];omega
theorem aDa(l:List aG):(lB l).length<=l.length:=by
 unfold lB;have:=aCQ ((l.map (cG (cQ l []))).foldl iB []) (l.map (cG (cQ l []))) false;rw[List.length_map]at this;exact this
theorem aFV{K V:Type}[DecidableEq K](k:K)(v:V):∀ l:List (K×V),(fE k v l).length<=l.length+1
 | []=>by simp[fE]
 | p :: l=>by
  simp only[fE]
  split
  ·simp
  ·have:=aFV k v l;simp only[List.length_cons];omega
theorem yD:∀ (l:List aG) (m:List (Int×Int)),(cQ l m).length<=m.length+l.length
 | [],_=>Nat.le_refl _
 | p :: l,m=>by
  have h1:=yD l (gQ p l m)
  have h2:(gQ p l m).length<=m.length+1:=by
   unfold gQ
   split
   ·split
    ·split
     ·exact aFV _ _ _
     ·exact Nat.le_succ _
    ·exact Nat.le_succ _
   ·exact Nat.le_succ _
  show(cQ l (gQ p l m)).length<=_
  simp only[List.length_cons];omega
section
variable {E:Sy}{H H' H0 Z:AH}{Q:Value->AH->Prop}{X:List Res}
theorem S.f55(hE:aX E){v:Value}{l:List aG}(hv:Rows H 7 v (bL l))(hl:l.length<2 ^ 29)(hQ:∀ w H',Ext H H'->Rows H' 7 w (bL (lB l))->Q w H'):E.call 71 [v] H Q:=by
 apply hE.f55;have hlv:=hv.lenSlc;have hpl:(bL l).length=l.length:=by simp[bL]
 rw[hpl]at hlv;have hmw:∀ (H:AH) (K:Value->AH->Prop),pD H K=K (.map (some H.next)) (H.new (.map [] 0 true)):=λ_ _=>rfl;simp only[F.f55,aC];refine S.f56 hE hv hl λr H1 g1 =>?_;have g2:=(g1.newmap vi vb).nils 7;simp only[hmw,hlv,aC];generalize H1.new (.map [] 0 true)=H2 at *;generalize H1.next=ur at *;have hwl:=yD l [];simp only[List.length_nil,Nat.zero_add]at hwl;refine aM7 hE hv hl (by omega) g2 (R:=λ_ _=>True) λov H3 g3 =>?_
 have hlo:=(g3.rows (k:=2) (sz:=7) (v:=ov) (rows:=bL (l.map (cG (cQ l [])))) rfl).lenSlc;have hpo:(bL (l.map (cG (cQ l [])))).length=(l.map (cG (cQ l []))).length:=by simp[bL]
 rw[hpo]at hlo;simp only[hlo,aC];exact aMX hE (by rw[List.length_map];exact hl) ((g3.drop 0).nils 7) hQ
theorem S.f48(hE:aX E){v:Value}{l:List aG}(hv:Rows H 7 v (bL l))(hl:l.length<2 ^ 29)(hQ:∀ w H',Ext H H'->Rows H' 7 w (bL (qM (l.length+1) l))->Q w H'):E.call 32 [v] H Q:=by
 apply hE.f48;simp only[F.f48,aC];refine aZ.ind (λn ls H'=>∃ tv l',ls=[tv]/\n=l'.length/\Ext H H'/\Rows H' 7 tv (bL l')/\l'.length<=l.length/\∃ f,l'.length<f/\qM f l'=qM (l.length+1) l) ?_ l.length ⟨v,l,rfl,rfl,Ext.refl _,hv,Nat.le_refl _,l.length+1,Nat.lt_succ_self _,rfl⟩;rintro n _ H1 X1 ih ⟨tv,l',rfl,rfl,e1,hr,hll,f,hf,ht⟩;obtain⟨f,rfl⟩:∃ g,f=g+1:=⟨f - 1,by omega⟩
 have hts:qM (f+1) l'=if(lB l').length=l'.length then lB l' else qM f (lB l'):=rfl;rw[hts]at ht;have hol:=aDa l';have hlv:=hr.lenSlc;have hpl:∀ l:List aG,(bL l).length=l.length:=λl=>by simp[bL]
 rw[hpl]at hlv;simp only[F.f48_l1,aC];refine S.f55 hE hr (by omega) λw H2 e2 hw =>?_
 have hlw:=hw.lenSlc;rw[hpl]at hlw;simp only[hlw,hlv,cZ,aC]
 by_cases he:(lB l').length=l'.length
 ·have hd:decide (((lB l').length:Int)=(l'.length:Int))=true:=decide_eq_true (by omega)
  rw[if_pos he]at ht;rw[ht]at hw;simp only[hd,aC];exact hQ _ _ (e1.trans e2) hw
 ·have hd:decide (((lB l').length:Int)=(l'.length:Int))=false:=decide_eq_false (by omega)
  rw[if_neg he]at ht;simp only[hd,aC];exact ih (lB l').length (by omega) _ _ ⟨w,lB l',rfl,rfl,e1.trans e2,hw,by omega,f,by omega,ht⟩
end
end
section
set_option maxRecDepth 20000
def MkD.okM(s:MkD):Prop:=s.out.length<2 ^ 27/\∀ n,(bB n s.places).getD 0<=s.out.length
section
variable {E:Sy}{H H' H0 Z:AH}{Q:Value->AH->Prop}{X:List Res}{mb pm:Nat}{s:MkD}
theorem aBy(x:bM)(H:AH):aH 4 (ptr H.next 0) x.v (H.new (.cells [(.int .u16 0),(.int .u8 0),(.int .u8 0),(.int .u32 0)] none))=some (H.new (.cells x.cells none)):=by
 rw[cM,AH.get_new_self];have h3:AM.aT [(.int .u16 0),(.int .u8 0),(.int .u8 0),(.int .u32 0)] 0 x.cells=x.cells:=rfl;have h4:x.cells.all plain1=true:=rfl;have h5:x.cells.length=4:=rfl;simp only[List.size_toArray,List.toList_toArray,h4,h5,List.length_cons,List.length_nil,Nat.zero_add,Nat.le_refl,and_self,if_true,h3,AH.new_put]
theorem aDg{c c':List Value}{k:Nat}{v:Value}(H:AH)(hp:plain1 v=true)(hk:k<c.length)(he:c.set k v=c'):bD (ptr H.next k) v (H.new (.cells c none))=some (H.new (.cells c' none)):=by
 subst he;rw[eK,if_pos hp,AH.get_new_self];simp only[hk,if_true,AH.new_put]
theorem aBm(hE:aX E){p:aG}{t:Nat}(h:Mk H0 Z H mb pm s (X++[bF t p.cells]))(hl:s.out.length<2 ^ 29)(to els:Int)(hQ:∀ H',Mk H0 Z H' mb pm (s.cmp2 p.insn to els) X->Q (vi 0) H'):F.f52_j2 E Q (ptr mb 0) (ptr t 0) (vi to) (vi els) H:=by
 have hb:=h.box;have lo:aE 4 (ptr t 3) H=some p.insn.v:=by rw[aJ,hb];rfl
 have s1:=aBy p.insn H;have s2:=aDg (c:=p.insn.cells) (c':=[u16 p.insn.code,u8 (BitVec.ofInt 8 to),u8 p.insn.jf,u32 p.insn.k]) (k:=1) (v:=u8 (BitVec.ofInt 8 to)) H rfl (by simp[bM.cells]) rfl
 have s3:=aDg (c:=[u16 p.insn.code,u8 (BitVec.ofInt 8 to),u8 p.insn.jf,u32 p.insn.k]) (c':=bM.cells ⟨p.insn.code,BitVec.ofInt 8 to,BitVec.ofInt 8 els,p.insn.k⟩) (k:=2) (v:=u8 (BitVec.ofInt 8 els)) H rfl (by simp) rfl
 generalize hx:(⟨p.insn.code,BitVec.ofInt 8 to,BitVec.ofInt 8 els,p.insn.k⟩:bM)=x at *;have b1:=AH.get_new_self H (.cells x.cells none);have g:=h.newbox x.cells;obtain⟨ov,hbx,hlv⟩:=g.cells;have lo2:aE 4 (ptr H.next 0) (H.new (.cells x.cells none))=some x.v:=by rw[aJ,b1,cH _ _ 4 rfl];rfl
 have hbS:bO 1 4 #[(.int .u16 0),(.int .u8 0),(.int .u8 0),(.int .u32 0)] [(0,x.v)]=some (.cells x.cells none,fC 1 1):=cX 4 [u16 0#16,u8 0#8,u8 0#8,u32 0#32] x.cells rfl rfl;obtain⟨v',H2,a1,H3,a2,g2⟩:=g.push (by omega) x hbx
 simp only[F.f52_j2,lo,aW,s1,s2,s3,aI7,hbx,lo2,hbS,AM.aQ,cL,aC];have a1:app 4 8 ov (slc (H.next+1) 0 1 1) ((H.new (.cells x.cells none)).new (.cells x.cells none))=some (v',H2):=a1;simp only[a1,a2,aC];refine hQ _ ?_;unfold MkD.cmp2;rw[hx];exact g2.dropLast.dropLast
theorem aBL(hE:aX E){p:aG}{t:Nat}(h:Mk H0 Z H mb pm s (X++[bF t p.cells]))(hl:s.out.length<2 ^ 28)(to els:Int)(h1:els<2 ^ 40)(h2 : -2 ^ 40<els)(hQ:∀ H',Mk H0 Z H' mb pm (s.cmp1 p.insn to els) X->Q (vi 0) H'):F.f52_j1 E Q (ptr mb 0) (ptr t 0) (vi to) (vi els) H:=by
 have k253:(.int .i64 253:Value)=vi 253:=rfl;have i0:(.int .i64 0:Value)=vi 0:=rfl;have i1:(.int .i64 1:Value)=vi 1:=rfl;simp only[F.f52_j1,k253,cI,aC];unfold MkD.cmp1 at hQ
 by_cases hg:253<to
 ·have hd:decide ((253:Int)<to)=true:=decide_eq_true hg
  rw[if_pos hg]at hQ;simp only[hd,aC];refine S.f53 hE h (by omega) to λH1 g =>?_
  have ha:aA .add (vi els) (vi 1)=some (vi (els+1)):=eB (by omega) (by omega)
  simp only[i1,i0,ha,aC];refine aBm hE g ?_ 0 (els+1) hQ
  show(pS to :: s.out).length<_
  rw[List.length_cons];omega
 ·have hd:decide ((253:Int)<to)=false:=decide_eq_false hg
  rw[if_neg hg]at hQ;simp only[hd,aC];exact aBm hE h (by omega) to els hQ
theorem S.f52(hE:aX E)(h:Mk H0 Z H mb pm s X)(ok:s.okM)(p:aG)(hB:∀ e H',(bS p.insn.code≠5#16\/p.insn.code=5#16)->e=210->Ext H0 H'->Q (vi e) H')(hJ:∀ e H',¬ (bS p.insn.code≠5#16\/p.insn.code=5#16)->((bB p.to s.places).isSome=false\/(bB p.els s.places).isSome=false)->e=207->Ext H0 H'->Q (vi e) H')(hQ:∀ H',¬ (bS p.insn.code≠5#16\/p.insn.code=5#16)->¬ ((bB p.to s.places).isSome=false\/(bB p.els s.places).isSome=false)->Mk H0 Z H' mb pm (s.cmp0 p.insn (s.away p.to) (s.away p.els)) X->Q (vi 0) H'):
  E.call 101 [ptr mb 0,p.v] H Q:=by
 apply hE.f52;have g:=h.newbox p.cells;have b1:=AH.get_new_self H (.cells p.cells none);have c1:p.cells[1]? = some (vi p.to):=rfl;have c2:p.cells[2]? = some (vi p.els):=rfl;have c3:p.cells[3]? = some (u16 p.insn.code):=rfl;have k5:(.int .u16 5:Value)=u16 5#16:=rfl;have i0:(.int .i64 0:Value)=vi 0:=rfl;have i1:(.int .i64 1:Value)=vi 1:=rfl;have k253:(.int .i64 253:Value)=vi 253:=rfl;have p1:=ok.2 p.to;have p2:=ok.2 p.els;have p0:=ok.1;have aw1:s.away p.to=(s.out.length:Int) - ((bB p.to s.places).getD 0:Nat):=rfl;have aw2:s.away p.els=(s.out.length:Int) - ((bB p.els s.places).getD 0:Nat):=rfl;simp only[F.f52,aV,AM.aQ,aR,List.toList_toArray,b1,c1,aC];generalize H.new (.cells p.cells none)=H1 at *;generalize H.next=t at *;refine S.f51 hE g (by omega) p.to (by omega) ?_
 simp only[b1,c2,aC];refine S.f51 hE g (by omega) p.els (by omega) ?_
 simp only[b1,c3,aC];refine S.f16 hE _ ?_;simp only[k5,yH,aC]
 by_cases hc1:bS p.insn.code=5#16
 rotate_left
 ·have hd:decide (bS p.insn.code≠5#16)=true:=decide_eq_true hc1
  simp only[hd,aC];exact hB 210 _ (.inl hc1) rfl g.ext
 have hd:decide (bS p.insn.code≠5#16)=false:=decide_eq_false (by simpa using hc1)
 simp only[hd,b1,c3,k5,cE,aC]
 by_cases hc2:p.insn.code=5#16
 ·have hd2:decide (p.insn.code=5#16)=true:=decide_eq_true hc2
  simp only[hd,hd2,aC];exact hB 210 _ (.inr hc2) rfl g.ext
 have hd2:decide (p.insn.code=5#16)=false:=decide_eq_false hc2
 have hcc:¬ (bS p.insn.code≠5#16\/p.insn.code=5#16):=by
  rintro(h | h)
  ·exact h hc1
  ·exact hc2 h
 simp only[hd,hd2,aC];cases ho1:(bB p.to s.places).isSome with
 | false =>
  simp only[aC];exact hJ 207 _ hcc (.inl ho1) rfl g.ext
 | true =>
  cases ho2:(bB p.els s.places).isSome with
  | false =>
   simp only[aC];exact hJ 207 _ hcc (.inr ho2) rfl g.ext
  | true =>
   have hoo:¬ ((bB p.to s.places).isSome=false\/(bB p.els s.places).isSome=false):=by rw[ho1,ho2];simp
   have hQ:=λH' h=>hQ H' hcc hoo h;unfold MkD.cmp0 at hQ;simp only[k253,cI,aC]
   by_cases hg:253<s.away p.els
   ·have hd:decide ((253:Int)<s.away p.els)=true:=decide_eq_true hg
    rw[if_pos hg]at hQ;have ha:aA .add (vi (s.away p.to)) (vi 1)=some (vi (s.away p.to+1)):=eB (by omega) (by omega)
    simp only[hd,aC];refine S.f53 hE g (by omega) _ λH2 g2 =>?_
    simp only[i1,i0,ha,aC];refine aBL hE g2 ?_ _ 0 (by omega) (by omega) hQ
    show(pS _ :: s.out).length<_
    rw[List.length_cons];omega
   ·have hd:decide ((253:Int)<s.away p.els)=false:=decide_eq_false hg
    rw[if_neg hg]at hQ;simp only[hd,aC];exact aBL hE g (by omega) _ _ (by omega) (by omega) hQ
end
end
section
set_option maxRecDepth 20000
section
variable {E:Sy}{H H' H0 Z:AH}{Q:Value->AH->Prop}{X:List Res}{mb pm:Nat}{s:MkD}
theorem S.f54(hE:aX E)(h:Mk H0 Z H mb pm s X)(ok:s.okM)(p:aG)(hB:∀ e H',s.part p = .inl e->e≠0->Ext H0 H'->Q (vi e) H')(hQ:∀ t H',s.part p = .inr t->Mk H0 Z H' mb pm t X->Q (vi 0) H'):
  E.call 70 [ptr mb 0,p.v] H Q:=by
 apply hE.f54;have g:=h.newbox p.cells;have b1:=AH.get_new_self H (.cells p.cells none);have c0:p.cells[0]? = some (u8 p.kind):=rfl;have c1:p.cells[1]? = some (vi p.to):=rfl;have c3:p.cells[3]? = some (u16 p.insn.code):=rfl;have q1:(.int .u8 1:Value)=u8 1#8:=rfl;have q2:(.int .u8 2:Value)=u8 2#8:=rfl;have q3:(.int .u8 3:Value)=u8 3#8:=rfl;have q4:(.int .u8 4:Value)=u8 4#8:=rfl;have k5:(.int .u16 5:Value)=u16 5#16:=rfl;have p1:=ok.2 p.to;have p0:=ok.1;have lo:aE 7 (ptr H.next 0) (H.new (.cells p.cells none))=some p.v:=by rw[aJ,b1,cH _ _ 7 rfl];rfl
 have lo3:aE 4 (ptr H.next 3) (H.new (.cells p.cells none))=some p.insn.v:=by rw[aJ,b1];rfl
 simp only[F.f54,aV,AM.aQ,aR,List.toList_toArray,b1,c0,q1,eJ,aC];generalize H.new (.cells p.cells none)=H1 at *;generalize H.next=t at *;unfold MkD.part at hB hQ
 by_cases o1:p.kind=1#8
 ·have hd:decide (p.kind=1#8)=true:=decide_eq_true o1
  simp only[if_pos o1]at hB hQ;obtain⟨ov,hbx,hlv⟩:=g.cells;have hlk:=g.look p.to;simp only[hd,hbx,b1,c1,hlk,aC];cases hs:(bB p.to s.places).isSome with
  | true =>
   rw[hs]at hB hQ;simp only[aC];exact hB 206 _ rfl (by decide) g.ext
  | false =>
   rw[hs]at hB hQ;obtain⟨H2,m1,g2⟩:=g.setPlace p.to s.out.length;simp only[hbx,b1,c1,hlv,m1,aC];exact hQ _ _ rfl g2.dropLast
 have hd1:decide (p.kind=1#8)=false:=decide_eq_false o1;simp only[if_neg o1]at hB hQ;simp only[hd1,q2,eJ,aC]
 by_cases o2:p.kind=2#8
 ·have hd:decide (p.kind=2#8)=true:=decide_eq_true o2
  simp only[if_pos o2]at hB hQ;simp only[hd,b1,c3,aC];refine S.f16 hE _ ?_;simp only[k5,cE,aC]
  by_cases hc:bS p.insn.code=5#16
  ·have hd:decide (bS p.insn.code=5#16)=true:=decide_eq_true hc
   simp only[if_pos hc]at hB;simp only[hd,aC];exact hB 210 _ rfl (by decide) g.ext
  ·have hd:decide (bS p.insn.code=5#16)=false:=decide_eq_false hc
   simp only[if_neg hc]at hQ;obtain⟨ov,hbx,hlv⟩:=g.cells;have hbS:bO 1 4 #[(.int .u16 0),(.int .u8 0),(.int .u8 0),(.int .u32 0)] [(0,p.insn.v)]=some (.cells p.insn.cells none,fC 1 1):=cX 4 [u16 0#16,u8 0#8,u8 0#8,u32 0#32] p.insn.cells rfl rfl;obtain⟨v',H2,a1,H3,a2,g2⟩:=g.push (by omega) p.insn hbx
   simp only[hd,hbx,lo3,hbS,AM.aQ,cL,a1,a2,aC];exact hQ _ _ rfl g2.dropLast
 have hd2:decide (p.kind=2#8)=false:=decide_eq_false o2;simp only[if_neg o2]at hB hQ;simp only[hd2,q4,eJ,aC]
 by_cases o4:p.kind=4#8
 ·have hd:decide (p.kind=4#8)=true:=decide_eq_true o4
  simp only[if_pos o4]at hB hQ;simp only[hd,b1,c1,aC];refine S.f51 hE g (by omega) p.to (by omega) ?_
  cases hs:(bB p.to s.places).isSome with
  | false =>
   rw[hs]at hB hQ;simp only[aC];exact hB 207 _ rfl (by decide) g.ext
  | true =>
   rw[hs]at hB hQ;simp only[aC];refine S.f53 hE g (by omega) _ λH2 g2 =>?_
   exact hQ _ _ rfl g2.dropLast
 have hd4:decide (p.kind=4#8)=false:=decide_eq_false o4;simp only[if_neg o4]at hB hQ;simp only[hd4,q3,eJ,aC]
 by_cases o3:p.kind=3#8
 ·have hd:decide (p.kind=3#8)=true:=decide_eq_true o3
  simp only[if_pos o3]at hB hQ;simp only[hd,lo,aC];refine S.f52 hE g ok p (λe H' h1 he e1 =>?_) (λe H' h1 h2 he e1 =>?_) λH' h1 h2 g2 =>?_
  ·subst he
   exact hB 210 _ (if_pos h1) (by decide) e1
  ·subst he
   exact hB 207 _ (by rw[if_neg h1,if_pos h2]) (by decide) e1
  ·exact hQ _ _ (by rw[if_neg h1,if_neg h2]) g2.dropLast
 have hd3:decide (p.kind=3#8)=false:=decide_eq_false o3;simp only[if_neg o3]at hB;simp only[hd3,aC];exact hB 210 _ rfl (by decide) g.ext
end
end
section
set_option maxRecDepth 20000
theorem dA{K V:Type}[DecidableEq K](k n:K)(v:V):∀ l:List (K×V),bB n (fE k v l)=if n=k then some v else bB n l
 | []=>by simp only[fE,eL]
 | p :: l=>by
  simp only[fE]
  by_cases h:p.1=k
  ·rw[if_pos h,eL,eL]
   by_cases hn:n=k
   ·rw[if_pos hn,if_pos hn]
   ·rw[if_neg hn,if_neg hn,if_neg (by rw[h];exact hn)]
  ·rw[if_neg h,eL,eL,dA k n v l]
   by_cases hn:n=p.1
   ·rw[if_pos hn,if_neg (by rw[hn];exact h),if_pos hn]
   ·rw[if_neg hn,if_neg hn]
def MkD.okP(s:MkD):Prop:=∀ n k,bB n s.places=some k->k<=s.out.length
theorem MkD.okP.getD{s:MkD}(h:s.okP)(n:Int):(bB n s.places).getD 0<=s.out.length:=by
 cases hk:bB n s.places with
 | none=>exact Nat.zero_le _
 | some k=>exact h n k hk
theorem MkD.okP.push{s:MkD}(h:s.okP)(x:bM):MkD.okP ⟨x :: s.out,s.places⟩:=λn k hk=>Nat.le_succ_of_le (h n k hk)
theorem aFc(s:MkD)(x:bM)(a b:Int):(s.cmp0 x a b).places=s.places:=by
 unfold MkD.cmp0 MkD.cmp1 MkD.cmp2
 split<;>split<;>rfl
theorem aK6(s:MkD)(x:bM)(a b:Int):s.out.length<(s.cmp0 x a b).out.length/\(s.cmp0 x a b).out.length<=s.out.length+3:=by
 unfold MkD.cmp0 MkD.cmp1 MkD.cmp2 MkD.hop
 split<;>split<;>simp<;>omega
theorem aHw{s t:MkD}{p:aG}(h:s.okP)(e:s.part p = .inr t):t.okP/\s.out.length<=t.out.length/\t.out.length<=s.out.length+3:=by
 unfold MkD.part at e
 split at e
 ·split at e
  ·cases e
  ·cases e
   refine⟨λn k hk =>?_,Nat.le_refl _,Nat.le_add_right _ _⟩;simp only[dA]at hk
   split at hk
   ·cases hk;exact Nat.le_refl _
   ·exact h n k hk
 ·split at e
  ·split at e
   ·cases e
   ·cases e
    exact⟨h.push _,by simp,by simp⟩
  ·split at e
   ·split at e
    ·cases e
     exact⟨h.push _,by simp[MkD.hop],by simp[MkD.hop]⟩
    ·cases e
   ·split at e
    ·split at e
     ·cases e
     ·split at e
      ·cases e
      ·cases e
       have h2:=aK6 s p.insn (s.away p.to) (s.away p.els);refine⟨λn k hk =>?_,by omega,h2.2⟩
       rw[aFc]at hk;exact Nat.le_trans (h n k hk) (by omega)
    ·cases e
theorem tY:∀ {l:List aG} {s:MkD},cY l = .inr s->s.okP/\s.out.length<=4096
 | [],s,e=>by
  cases e;exact⟨λn k hk=>by simp[bB]at hk,Nat.zero_le _⟩
 | p :: l,s,e=>by
  unfold cY at e
  split at e
  ·cases e
  ·rename_i s1 h1
   have ih:=tY h1
   split at e
   ·cases e
   ·rename_i t h2
    split at e
    ·cases e
    ·cases e
     exact⟨(aHw ih.1 h2).1,by omega⟩
theorem aDc{e:Int}{b:List aG}(h:cY b = .inl e):∀ a:List aG,cY (a++b) = .inl e
 | []=>h
 | p :: a=>by
  show cY (p :: (a++b))=_
  unfold cY;rw[aDc h a]
theorem aDq{e:Int}{l:List aG}(k:Nat)(h:cY (l.drop k) = .inl e):cY l = .inl e:=by
 have:=aDc h (l.take k)
 rwa [List.take_append_drop]at this
section
variable {E:Sy}{H H' H0 Z:AH}{Q:Value->AH->Prop}{X:List Res}{mb pm:Nat}{s:MkD}
theorem Has.newroomc{L:List Res}(h:Has H0 Z H L)(sz n:Nat)(c:List Value)(hc:c.length=n*sz):Has H0 Z (H.new (.cells c none)) (L++[aY sz (slc H.next 0 0 n) []]) :=
 h.add _ ((Ext.refl H).new _) (dJ.room (nF _) (AH.get_new_self _ _) hc) (by simp[aY,lM,blk]) (by simp[aY,lM,blk])
theorem aMU(hE:aX E){ov rv:Value}(h:Has H0 Z H (mkL mb pm ov s++[aY 4 rv []]))(hl:s.out.length<=4096)(hQ:∀ v H',Ext H0 H'->Rows H' 4 v (bV s.out)->Q (.tuple #[v,vi 0]) H'):
  lp3 (F.f47_l2 E Q) [ptr mb 0,rv,vi ((s.out.length:Int) - 1)] H:=by
 refine aZ.count s.out.length (λk ls H'=>∃ rv,ls=[ptr mb 0,rv,vi ((s.out.length:Int) - 1 - k)]/\Has H0 Z H' (mkL mb pm ov s++[aY 4 rv (bV (s.out.take k))])) ?_ ⟨rv,by simp,by simpa[bV] using h⟩
 rintro k _ H1 X1 hk ih ⟨rv,rfl,g⟩;have i0:(.int .i64 0:Value)=vi 0:=rfl;have i1:(.int .i64 1:Value)=vi 1:=rfl;rcases Nat.lt_or_ge k s.out.length with hlt | hge
 ·have hbx:=g.box (k:=0) (b:=mb) (c:=[ov,.map (some pm)]) rfl
  have hrw:=g.rows (k:=1) (sz:=4) (v:=ov) (rows:=bV s.out.reverse) rfl;have he:(s.out.length:Int) - 1 - k=((s.out.length - 1 - k:Nat):Int):=by omega
  have hd:decide ((0:Int)<=(s.out.length:Int) - 1 - k)=true:=decide_eq_true (by omega)
  have hs:aA .sub (vi ((s.out.length:Int) - 1 - k)) (vi 1)=some (vi ((s.out.length:Int) - 1 - (k+1:Nat))):=by
   rw[iF (by omega) (by omega)];congr 2;omega
  have hjl:s.out.length - 1 - k<(bV s.out.reverse).length:=by simp only[bV,List.length_map,List.length_reverse];omega
  obtain⟨bb,o,f1,f2⟩:=hrw.ix (i:=s.out.length - 1 - k) hjl
  have hrow:(bV s.out.reverse)[s.out.length - 1 - k]=s.out[k].cells:=by
   simp only[bV,List.getElem_map,List.getElem_reverse]
   congr 2
   omega
  rw[hrow]at f2;have lo:aE 4 (ptr bb o) H1=some s.out[k].v:=by rw[aJ,f2];rfl
  rw[<- he]at f1;have hbS:bO 1 4 #[(.int .u16 0),(.int .u8 0),(.int .u8 0),(.int .u32 0)] [(0,s.out[k].v)]=some (.cells s.out[k].cells none,fC 1 1):=cX 4 [u16 0#16,u8 0#8,u8 0#8,u32 0#32] s.out[k].cells rfl rfl;obtain⟨v',H2,a1,a2,g2⟩:=g.app1 (k:=3) (sz:=4) (v:=rv) (rows:=bV (s.out.take k)) (bytes:=8) rfl s.out[k].cells rfl rfl (by decide) (by decide) (by simp only[bV,List.length_map,List.length_take];omega)
  have hst:s.out.take (k+1)=s.out.take k++[s.out[k]]:=by rw[List.take_succ,List.getElem?_eq_getElem hlt];rfl
  simp only[F.f47_l2,i0,i1,dW,hd,hbx,f1,lo,hbS,AM.aQ,cL,a1,hs,aC];refine ih hlt _ _ ⟨v',rfl,?_⟩;rw[hst];have:bV (s.out.take k++[s.out[k]])=bV (s.out.take k)++[s.out[k].cells]:=by unfold bV;rw[List.map_append];rfl
  rw[this];exact g2
 ·have hke:k=s.out.length:=by omega
  subst hke;have hd:decide ((0:Int)<=(s.out.length:Int) - 1 - (s.out.length:Nat))=false:=decide_eq_false (by omega)
  rw[List.take_length]at g;simp only[F.f47_l2,i0,dW,hd,aC];exact hQ _ _ g.ext (g.rows (k:=3) (sz:=4) (v:=rv) (rows:=bV s.out) rfl)
theorem S.f47(hE:aX E){v:Value}{l:List aG}(hv:Rows H 7 v (bL l))(hl:l.length<2 ^ 26)(hQ:∀ H',Ext H H'->(∀ e,cY l = .inl e->e≠0->Q (.tuple #[bY,vi e]) H')/\(∀ s w,cY l = .inr s->Rows H' 4 w (bV s.out)->Q (.tuple #[w,vi 0]) H')):E.call 31 [v] H Q:=by
 apply hE.f47;have hmw:∀ (H:AH) (K:Value->AH->Prop),pD H K=K (.map (some H.next)) (H.new (.map [] 0 true)):=λ_ _=>rfl;have hlv:=hv.lenSlc;have hpl:(bL l).length=l.length:=by simp[bL]
 rw[hpl]at hlv;have i0:(.int .i64 0:Value)=vi 0:=rfl;have i1:(.int .i64 1:Value)=vi 1:=rfl;have hbv:∀ n:Nat,aK [(0,1),(1,1)] #[(.slice none 0 0),(.map none)] [(1,.map (some n))]=some (.agg [bY,.map (some n)].toArray):=λ_=>rfl;have hs:aA .sub (vi (l.length:Int)) (vi 1)=some (vi ((l.length:Int) - 1)):=iF (by omega) (by omega)
 simp only[F.f47,hmw,hbv,aV,AM.aQ,aR,List.toList_toArray,hlv,i1,hs,aC];have g1:=(Has.begin (Ext.refl H) (Sub.refl H)).newmap vi jT;have hn2:H.next+1=(H.new (.map [] 0 true)).next:=rfl;rw[hn2];generalize H.new (.map [] 0 true)=H2 at *;generalize H.next=pm at *;clear hn2;have g2:=(g1.newbox [bY,.map (some pm)]).nils 4;generalize H2.new (.cells [bY,.map (some pm)] none)=H3 at *;generalize H2.next=mb at *;have g3:Mk H H H3 mb pm ⟨[],[]⟩ []:=⟨bY,g2.perm ((List.Perm.swap _ _ _).trans ((List.Perm.swap _ _ _).cons _))⟩;refine aZ.ind (λn ls H'=>∃ s,n<=l.length/\ls=[v,ptr mb 0,vi ((n:Int) - 1)]/\cY (l.drop n) = .inr s/\Mk H H H' mb pm s []) ?_ l.length ⟨⟨[],[]⟩,Nat.le_refl _,rfl,by rw[List.drop_length];rfl,g3⟩
 rintro n _ H4 X1 ih ⟨s,hn,rfl,hm,g⟩;have hok:=tY hm;have hmk:s.okM:=⟨by omega,hok.1.getD⟩
 have i4096:(.int .i64 4096:Value)=vi 4096:=rfl;rcases Nat.eq_zero_or_pos n with h0 | h0
 ·subst h0
  rw[List.drop_zero]at hm;have hd:decide ((0:Int)<=((0:Nat):Int) - 1)=false:=rfl;obtain⟨ov,g⟩:=g;have hbx:=g.box (k:=0) (b:=mb) (c:=[ov,.map (some pm)]) rfl;have hlo:=(g.rows (k:=1) (sz:=4) (v:=ov) (rows:=bV s.out.reverse) rfl).lenSlc;simp only[bV,List.length_map,List.length_reverse]at hlo;have hms:=aGK 4 8 s.out.length [(.int .u16 0),(.int .u8 0),(.int .u8 0),(.int .u32 0)] rfl (by omega) (by omega)
  have hms:sW 4 8 #[(.int .u16 0),(.int .u8 0),(.int .u8 0),(.int .u32 0)] (vi 0) (vi s.out.length)=some (.cells (List.replicate s.out.length [(.int .u16 0),(.int .u8 0),(.int .u8 0),(.int .u32 0)]).flatten none,λb=>slc b 0 0 s.out.length):=hms;have g5:=g.newroomc 4 s.out.length (List.replicate s.out.length [(.int .u16 0),(.int .u8 0),(.int .u8 0),(.int .u32 0)]).flatten (by simp[List.length_flatten,List.map_replicate,List.sum_replicate_nat])
  have hb5:=g5.box (k:=0) (b:=mb) (c:=[ov,.map (some pm)]) rfl;have hs2:aA .sub (vi (s.out.length:Int)) (vi 1)=some (vi ((s.out.length:Int) - 1)):=iF (by omega) (by omega)
  simp only[F.f47_l1,i0,dW,hd,i1,hbx,hlo,hms,AM.aQ,hb5,hs2,aC];exact aMU hE g5 hok.2 λw H' e' r'=>(hQ H' e').2 s w hm r'
 ·have hd:decide ((0:Int)<=(n:Int) - 1)=true:=decide_eq_true (by omega)
  have hj:n - 1<l.length:=by omega
  have he:(n:Int) - 1=((n - 1:Nat):Int):=by omega
  have hv4:=hv.mono g.ext;obtain⟨bb,o,f1,f2⟩:=hv4.ix (i:=n - 1) (by omega)
  have hrow:(bL l)[n - 1]'(by omega)=l[n - 1].cells:=by simp[bL]
  rw[hrow]at f2;have lo:aE 7 (ptr bb o) H4=some l[n - 1].v:=by rw[aJ,f2];rfl
  rw[<- he]at f1
  have hdr:l.drop (n - 1)=l[n - 1] :: l.drop n:=by
   rw[List.drop_eq_getElem_cons hj,show n - 1+1=n by omega]
  have hs1:aA .sub (vi ((n:Int) - 1)) (vi 1)=some (vi (((n - 1:Nat):Int) - 1)):=by
   rw[iF (by omega) (by omega)];congr 2;omega
  generalize l[n - 1]=p at *;simp only[F.f47_l1,i0,dW,hd,f1,lo,aC];refine S.f54 hE g hmk p (λe H5 h1 h2 e5 =>?_) λt H5 h1 g5 =>?_
  ·have hd:decide (e≠0)=true:=decide_eq_true h2
   simp only[i0,eG,hd,aC];refine(hQ H5 e5).1 e (aDq (n - 1) ?_) h2;rw[hdr];unfold cY;simp only[hm,h1]
  ·have hd:decide ((0:Int)≠0)=false:=rfl
   obtain⟨ov,hbx,hlo⟩:=g5.cells;simp only[i0,eG,hd,hbx,hlo,i4096,cI,aC]
   by_cases hbig:4096<t.out.length
   ·have hd:decide ((4096:Int)<t.out.length)=true:=decide_eq_true (by omega)
    simp only[hd,aC];refine(hQ H5 g5.ext).1 205 (aDq (n - 1) ?_) (by decide)
    rw[hdr];unfold cY;simp only[hm,h1,if_pos hbig]
   ·have hd:decide ((4096:Int)<t.out.length)=false:=decide_eq_false (by omega)
    simp only[hd,i1,hs1,aC];refine ih (n - 1) (by omega) _ _ ⟨t,by omega,rfl,?_,g5⟩
    rw[hdr];unfold cY;simp only[hm,h1,if_neg hbig]
end
end
section
set_option maxRecDepth 20000
def okI(x:bM)(left:Nat):Prop :=
 (x.code=32#16/\x.k.toNat % 4=0/\x.k.toNat<=60)\/x.code=84#16\/(x.code=5#16/\x.k.toNat<left) \/
 (x.code=21#16/\x.jt.toNat<left/\x.jf.toNat<left)\/(x.code=37#16/\x.jt.toNat<left/\x.jf.toNat<left)\/(x.code=53#16/\x.jt.toNat<left/\x.jf.toNat<left)\/x.code=6#16
def cK(r:aN)(x:bM)(a:BitVec 32):BitVec 32×Nat×Option (BitVec 32) :=
 if x.code=32#16 then((kZ r x.k).1,0,none)
 else if x.code=84#16 then(a&&&x.k,0,none)
 else if x.code=5#16 then(a,x.k.toNat,none)
 else if x.code=21#16 then(a,if a=x.k then x.jt.toNat else x.jf.toNat,none)
 else if x.code=37#16 then(a,if x.k.toNat<a.toNat then x.jt.toNat else x.jf.toNat,none)
 else if x.code=53#16 then(a,if x.k.toNat<=a.toNat then x.jt.toNat else x.jf.toNat,none)
 else(a,0,some x.k)
def hO(r:aN):Nat->List bM->BitVec 32->BitVec 32
 | 0,_,_=>2147483648#32
 | _+1,[],_=>2147483648#32
 | f+1,x :: c,a=>match (cK r x a).2.2 with
  | some o=>o
  | none=>hO r f (c.drop (cK r x a).2.1) (cK r x a).1
def mC(a:BitVec 32)(at_:Nat)(act:BitVec 32)(e:Bool)(rc:List Value):List Value :=
 u32 a :: u32 0#32 :: u32 0#32 :: u32 0#32 :: u32 0#32 :: u32 0#32 :: u32 0#32 :: u32 0#32 :: u32 0#32 :: u32 0#32 :: u32 0#32 :: u32 0#32 :: u32 0#32 :: u32 0#32 :: u32 0#32 :: u32 0#32 :: u32 0#32 :: u32 0#32 :: vi at_ :: (rc++[u32 act,vb e])
theorem aEx{rc:List Value}(h:rc.length=9):∃ c0 c1 c2 c3 c4 c5 c6 c7 c8,rc=[c0,c1,c2,c3,c4,c5,c6,c7,c8]:=by
 match rc,h with
 | [c0,c1,c2,c3,c4,c5,c6,c7,c8],_=>exact⟨c0,c1,c2,c3,c4,c5,c6,c7,c8,rfl⟩
theorem dB{r:aN}(h:r.ok):r.cells.length=9:=by
 unfold aN.ok at h;simp[aN.cells,h]
section
variable {E:Sy}{H H' H0 Z:AH}{Q:Value->AH->Prop}{X:List Res}{mb:Nat}
theorem S.f148(hE:aX E)(p:Value)(x:bM)(hx:x.code&&&8#16=0#16)(hQ:∀ H',Ext H H'->Q (u32 x.k) H'):E.call 85 [p,x.v] H Q:=by
 apply hE.f148;have b1:=AH.get_new_self H (.cells x.cells none);have c0:x.cells[0]? = some (u16 x.code):=rfl;have c3:x.cells[3]? = some (u32 x.k):=rfl;have k8:(.int .u16 8:Value)=u16 8#16:=rfl;have k0:(.int .u16 0:Value)=u16 0#16:=rfl;have hd:decide (x.code&&&8#16≠0#16)=false:=decide_eq_false (by simpa using hx)
 simp only[F.f148,aV,AM.aQ,aR,List.toList_toArray,b1,c0,c3,k8,k0,aHD,yH,hd,aC];exact hQ _ ((Ext.refl H).new _)
theorem S.f147(hE:aX E){r:aN}(hr:r.ok){a act:BitVec 32}{at_:Nat}(hb:H.get mb = .cells (mC a at_ act false r.cells) none)(x:bM)(hx:x.code=32#16)(hQ:∀ H',Ext H H'->Q (u32 (kZ r x.k).1) H'):E.call 48 [ptr mb 0,x.v] H Q:=by
 apply hE.f147;have b1:=AH.get_new_self H (.cells x.cells none);have x1:Ext H (H.new (.cells x.cells none)):=(Ext.refl _).new _;have bm:=x1.cells hb;have c0:x.cells[0]? = some (u16 32#16):=by rw[<- hx];rfl
 have c3:x.cells[3]? = some (u32 x.k):=rfl;have k7:(.int .u16 7:Value)=u16 7#16:=rfl;have k32:(.int .u16 32:Value)=u16 32#16:=rfl;have hd:decide (32#16 &&& ~~~7#16=32#16)=true:=by decide
 have lo:aE 9 (ptr mb 19) (H.new (.cells x.cells none))=some r.v:=by
  rw[aJ,bm];obtain⟨c0,c1,c2,c3,c4,c5,c6,c7,c8,hc⟩:=aEx (dB hr);unfold aN.v;rw[hc];rfl
 simp only[F.f147,aV,AM.aQ,aR,List.toList_toArray,b1,c0,c3,k7,k32,jD,cE,hd,lo,aC];refine S.f102 hE r hr x.k λH2 e2 =>?_;simp only[aC];exact hQ _ (x1.trans e2)
end
end
section
set_option maxRecDepth 20000
section
variable {E:Sy}{H H' H0 Z:AH}{Q:Value->AH->Prop}{X:List Res}{mb:Nat}
theorem aHz(a:BitVec 32)(at_:Nat)(act:BitVec 32)(e:Bool)(rc:List Value)(n:Nat):(mC a at_ act e rc).set 18 (vi n)=mC a n act e rc:=rfl
theorem aPI(a b:BitVec 32)(at_:Nat)(act:BitVec 32)(e:Bool)(rc:List Value):(mC a at_ act e rc).set 0 (u32 b)=mC b at_ act e rc:=rfl
theorem lG{a:BitVec 32}{at_:Nat}{act:BitVec 32}{e:Bool}{rc:List Value}(h:rc.length=9):(mC a at_ act e rc)[0]? = some (u32 a)/\(mC a at_ act e rc)[18]? = some (vi at_)/\(mC a at_ act e rc)[28]? = some (u32 act)/\(mC a at_ act e rc)[29]? = some (vb e) /\
  (mC a at_ act e rc).set 29 (vb true)=mC a at_ act true rc/\(∀ b,(mC a at_ act e rc).set 28 (u32 b)=mC a at_ b e rc)/\(mC a at_ act e rc).length=30:=by
 obtain⟨c0,c1,c2,c3,c4,c5,c6,c7,c8,rfl⟩:=aEx h;exact⟨rfl,rfl,rfl,rfl,rfl,λ_=>rfl,rfl⟩
abbrev mR(mb:Nat)(a:BitVec 32)(at_:Nat)(act:BitVec 32)(e:Bool)(r:aN):Res:=bF mb (mC a at_ act e r.cells)
theorem Has.mset{a act:BitVec 32}{at_:Nat}{e:Bool}{r:aN}(hr:r.ok)(h:Has H0 Z H (mR mb a at_ act e r :: X)){k:Nat}{v:Value}(hv:plain1 v=true){a' act':BitVec 32}{at':Nat}{e':Bool}(hk:k<30)(hs:(mC a at_ act e r.cells).set k v=mC a' at' act' e' r.cells):
  ∃ H',bD (ptr mb k) v H=some H'/\Has H0 Z H' (mR mb a' at' act' e' r :: X):=by
 have hb:=h.box (k:=0) (b:=mb) (c:=mC a at_ act e r.cells) rfl;have g:=h.put (k:=0) (b:=mb) (c:=mC a at_ act e r.cells) rfl (mC a' at' act' e' r.cells);refine⟨_,?_,g⟩;rw[eK,if_pos hv,hb];have hl:=(lG (a:=a) (at_:=at_) (act:=act) (e:=e) (dB hr)).2.2.2.2.2.2;simp only[hl,hk,if_true,hs]
theorem S.f149(hE:aX E){r:aN}(hr:r.ok){a act:BitVec 32}{at_:Nat}(h:Has H0 Z H (mR mb a at_ act false r :: X))(x:bM)(hx:x.code=84#16)(hQ:∀ H',Has H0 Z H' (mR mb (a&&&x.k) at_ act false r :: X)->Q (.tuple #[]) H'):E.call 49 [ptr mb 0,x.v] H Q:=by
 apply hE.f149;have b1:=AH.get_new_self H (.cells x.cells none);have c0:x.cells[0]? = some (u16 84#16):=by rw[<- hx];rfl
 have lo:aE 4 (ptr H.next 0) (H.new (.cells x.cells none))=some x.v:=by rw[aJ,b1,cH _ _ 4 rfl];rfl
 have k15:(.int .u16 15:Value)=u16 15#16:=rfl;have k0:(.int .u16 0:Value)=u16 0#16:=rfl;have k16:(.int .u16 16:Value)=u16 16#16:=rfl;have k32:(.int .u16 32:Value)=u16 32#16:=rfl;have k48:(.int .u16 48:Value)=u16 48#16:=rfl;have k64:(.int .u16 64:Value)=u16 64#16:=rfl;have k80:(.int .u16 80:Value)=u16 80#16:=rfl;have d0:decide (84#16 &&& ~~~15#16=0#16)=false:=by decide
 have d16:decide (84#16 &&& ~~~15#16=16#16)=false:=by decide
 have d32:decide (84#16 &&& ~~~15#16=32#16)=false:=by decide
 have d48:decide (84#16 &&& ~~~15#16=48#16)=false:=by decide
 have d64:decide (84#16 &&& ~~~15#16=64#16)=false:=by decide
 have d80:decide (84#16 &&& ~~~15#16=80#16)=true:=by decide
 have g:=h.new (.cells x.cells none);simp only[F.f149,aV,AM.aQ,aR,List.toList_toArray,lo,aC];generalize H.new (.cells x.cells none)=H1 at *;generalize H.next=t at *;refine S.f148 hE _ x (by rw[hx];decide) λH2 e2 =>?_
 have b2:=e2.cells b1;have g2:=g.grow e2;have bm:=g2.box (k:=0) (b:=mb) (c:=mC a at_ act false r.cells) rfl;have hc:=lG (a:=a) (at_:=at_) (act:=act) (e:=false) (dB hr);have cm:=hc.1;obtain⟨H3,s3,g3⟩:=g2.mset hr (k:=0) (v:=u32 (a&&&x.k)) rfl (by decide) (aPI a (a&&&x.k) at_ act false r.cells)
 simp only[b2,c0,k15,jD,k0,k16,k32,k48,k64,k80,cE,d0,d16,d32,d48,d64,d80,bm,cm,aHg,s3,aC];exact hQ _ g3
theorem aEH(hE:aX E){r:aN}(hr:r.ok){a act:BitVec 32}{at_ t:Nat}(hat:at_<2 ^ 40){x:bM}(h:Has H0 Z H (mR mb a at_ act false r :: X))(hb:H.get t = .cells x.cells none)(b:Bool)(hQ:∀ H',Has H0 Z H' (mR mb a (at_+if b=true then x.jt.toNat else x.jf.toNat) act false r :: X)->Q (.tuple #[]) H'):F.f146_j1 E Q (ptr mb 0) (ptr t 0) (vb b) H:=by
 have bm:=h.box (k:=0) (b:=mb) (c:=mC a at_ act false r.cells) rfl;have hc:=lG (a:=a) (at_:=at_) (act:=act) (e:=false) (dB hr);have cm:=hc.2.1;have c1:x.cells[1]? = some (u8 x.jt):=rfl;have c2:x.cells[2]? = some (u8 x.jf):=rfl;have l1:=x.jt.isLt;have l2:=x.jf.isLt;cases b with
 | true =>
  have ha:aA .add (vi at_) (vi x.jt.toNat)=some (vi ((at_+x.jt.toNat:Nat):Int)):=by rw[eB (by omega) (by omega)];congr 2
  obtain⟨H3,s3,g3⟩:=h.mset hr (k:=18) (v:=vi ((at_+x.jt.toNat:Nat):Int)) rfl (by decide) (aHz a at_ act false r.cells _)
  simp only[F.f146_j1,bm,cm,hb,c1,qA,ha,s3,aC];exact hQ _ g3
 | false =>
  have ha:aA .add (vi at_) (vi x.jf.toNat)=some (vi ((at_+x.jf.toNat:Nat):Int)):=by rw[eB (by omega) (by omega)];congr 2
  obtain⟨H3,s3,g3⟩:=h.mset hr (k:=18) (v:=vi ((at_+x.jf.toNat:Nat):Int)) rfl (by decide) (aHz a at_ act false r.cells _)
  simp only[F.f146_j1,bm,cm,hb,c2,qA,ha,s3,aC];exact hQ _ g3
theorem S.f146(hE:aX E){r:aN}(hr:r.ok){a act:BitVec 32}{at_:Nat}(hat:at_<2 ^ 40)(h:Has H0 Z H (mR mb a at_ act false r :: X))(x:bM)(hx:x.code=5#16\/x.code=21#16\/x.code=37#16\/x.code=53#16)(hQ:∀ H',Has H0 Z H' (mR mb a (at_+(cK r x a).2.1) act false r :: X)->Q (.tuple #[]) H'):E.call 50 [ptr mb 0,x.v] H Q:=by
 apply hE.f146;have b1:=AH.get_new_self H (.cells x.cells none);have c0:x.cells[0]? = some (u16 x.code):=rfl;have c3:x.cells[3]? = some (u32 x.k):=rfl;have lo:aE 4 (ptr H.next 0) (H.new (.cells x.cells none))=some x.v:=by rw[aJ,b1,cH _ _ 4 rfl];rfl
 have k15:(.int .u16 15:Value)=u16 15#16:=rfl;have k0:(.int .u16 0:Value)=u16 0#16:=rfl;have k16:(.int .u16 16:Value)=u16 16#16:=rfl;have k32:(.int .u16 32:Value)=u16 32#16:=rfl;have k48:(.int .u16 48:Value)=u16 48#16:=rfl;have g:=h.new (.cells x.cells none);have l3:=x.k.isLt;simp only[F.f146,aV,AM.aQ,aR,List.toList_toArray,lo,aC];generalize H.new (.cells x.cells none)=H1 at *;generalize H.next=t at *;refine S.f148 hE _ x (by rcases hx with h | h | h | h<;>rw[h]<;>decide) λH2 e2 =>?_
 have b2:=e2.cells b1;have g2:=g.grow e2;have bm:=g2.box (k:=0) (b:=mb) (c:=mC a at_ act false r.cells) rfl;have hc:=lG (a:=a) (at_:=at_) (act:=act) (e:=false) (dB hr);have cm:=hc.1;have cm2:=hc.2.1;rcases hx with hx | hx | hx | hx
 ·have hs:(cK r x a).2.1=x.k.toNat:=by unfold cK;rw[if_neg (by rw[hx];decide),if_neg (by rw[hx];decide),if_pos hx]
  rw[hs]at hQ;have d0:decide (5#16 &&& ~~~15#16=0#16)=true:=by decide
  have ha:aA .add (vi at_) (vi x.k.toNat)=some (vi ((at_+x.k.toNat:Nat):Int)):=by rw[eB (by omega) (by omega)];congr 2
  obtain⟨H3,s3,g3⟩:=g2.mset hr (k:=18) (v:=vi ((at_+x.k.toNat:Nat):Int)) rfl (by decide) (aHz a at_ act false r.cells _)
  simp only[b2,c0,hx,k15,jD,k0,cE,d0,bm,cm2,c3,aBZ,ha,s3,aC];exact hQ _ g3
 ·have hs:(cK r x a).2.1=if decide (a=x.k)=true then x.jt.toNat else x.jf.toNat:=by unfold cK;rw[if_neg (by rw[hx];decide),if_neg (by rw[hx];decide),if_neg (by rw[hx];decide),if_pos hx];simp only[decide_eq_true_eq]
  rw[hs]at hQ;have d0:decide (21#16 &&& ~~~15#16=0#16)=false:=by decide
  have d16:decide (21#16 &&& ~~~15#16=16#16)=true:=by decide
  simp only[b2,c0,hx,k15,jD,k0,k16,cE,d0,d16,bm,cm,pL,aC];exact aEH hE hr hat g2 b2 _ hQ
 ·have hs:(cK r x a).2.1=if decide (x.k.toNat<a.toNat)=true then x.jt.toNat else x.jf.toNat:=by unfold cK;rw[if_neg (by rw[hx];decide),if_neg (by rw[hx];decide),if_neg (by rw[hx];decide),if_neg (by rw[hx];decide),if_pos hx];simp only[decide_eq_true_eq]
  rw[hs]at hQ;have d0:decide (37#16 &&& ~~~15#16=0#16)=false:=by decide
  have d16:decide (37#16 &&& ~~~15#16=16#16)=false:=by decide
  have d32:decide (37#16 &&& ~~~15#16=32#16)=true:=by decide
  simp only[b2,c0,hx,k15,jD,k0,k16,k32,cE,d0,d16,d32,bm,cm,aDL,aC];exact aEH hE hr hat g2 b2 _ hQ
 ·have hs:(cK r x a).2.1=if decide (x.k.toNat<=a.toNat)=true then x.jt.toNat else x.jf.toNat:=by unfold cK;rw[if_neg (by rw[hx];decide),if_neg (by rw[hx];decide),if_neg (by rw[hx];decide),if_neg (by rw[hx];decide),if_neg (by rw[hx];decide),if_pos hx];simp only[decide_eq_true_eq]
  rw[hs]at hQ;have d0:decide (53#16 &&& ~~~15#16=0#16)=false:=by decide
  have d16:decide (53#16 &&& ~~~15#16=16#16)=false:=by decide
  have d32:decide (53#16 &&& ~~~15#16=32#16)=false:=by decide
  have d48:decide (53#16 &&& ~~~15#16=48#16)=true:=by decide
  simp only[b2,c0,hx,k15,jD,k0,k16,k32,k48,cE,d0,d16,d32,d48,bm,cm,aHu,aC];exact aEH hE hr hat g2 b2 _ hQ
end
end
section
set_option maxRecDepth 20000
section
variable {E:Sy}{H H' H0 Z:AH}{Q:Value->AH->Prop}{X:List Res}{mb:Nat}
theorem Has.lastBox{L:List Res}{t:Nat}{c:List Value}(h:Has H0 Z H (L++[bF t c])):H.get t = .cells c none:=(h.all (bF t c) (by simp)).1
theorem uL{x:bM}{t:Nat}(hb:H.get t = .cells x.cells none):aE 4 (ptr t 0) H=some x.v:=by rw[aJ,hb,cH _ _ 4 rfl];rfl
theorem S.f150(hE:aX E){r:aN}(hr:r.ok){a act:BitVec 32}{at_:Nat}(hat:at_<2 ^ 39)(h:Has H0 Z H (mR mb a at_ act false r :: X))(x:bM){left:Nat}(hx:okI x left)(hQ:∀ H',Has H0 Z H' (mR mb (cK r x a).1 (at_+1+(cK r x a).2.1) (((cK r x a).2.2).getD act) ((cK r x a).2.2).isSome r :: X)->Q (.tuple #[]) H'):E.call 26 [ptr mb 0,x.v] H Q:=by
 apply hE.f150;have g:=h.newbox x.cells;have bm:=g.box (k:=0) (b:=mb) (c:=mC a at_ act false r.cells) rfl;have hc:=lG (a:=a) (at_:=at_) (act:=act) (e:=false) (dB hr);have cm2:=hc.2.1;have hinc:=bE (i:=at_) (by omega)
 obtain⟨H2,s2,g2⟩:=Has.mset (X:=X++[bF H.next x.cells]) hr g (k:=18) (v:=vi ((at_+1:Nat):Int)) rfl (by decide) (aHz a at_ act false r.cells _)
 have b2:=Has.lastBox (L:=mR mb a (at_+1) act false r :: X) g2;have c0:x.cells[0]? = some (u16 x.code):=rfl;have c3:x.cells[3]? = some (u32 x.k):=rfl;have k0:(.int .u16 0:Value)=u16 0#16:=rfl;have k1:(.int .u16 1:Value)=u16 1#16:=rfl;have k2:(.int .u16 2:Value)=u16 2#16:=rfl;have k3:(.int .u16 3:Value)=u16 3#16:=rfl;have k4:(.int .u16 4:Value)=u16 4#16:=rfl;have k5:(.int .u16 5:Value)=u16 5#16:=rfl;have k6:(.int .u16 6:Value)=u16 6#16:=rfl;have k22:(.int .u16 22:Value)=u16 22#16:=rfl;have l2:=uL b2;have g2':Has H0 Z H2 (mR mb a (at_+1) act false r :: (X++[bF H.next x.cells])):=g2;simp only[F.f150,aV,AM.aQ,aR,List.toList_toArray,bm,cm2,hinc,s2,b2,c0,aC];generalize H.next=t at *;refine S.f16 hE _ ?_;have hcc:=lG (a:=a) (at_:=at_+1) (act:=act) (e:=false) (dB hr);rcases hx with ⟨hx,_,_⟩ | hx | ⟨hx,_⟩ | ⟨hx,_⟩ | ⟨hx,_⟩ | ⟨hx,_⟩ | hx
 ·have hs:cK r x a=((kZ r x.k).1,0,none):=by unfold cK;rw[if_pos hx]
  rw[hs]at hQ;have d0:decide (bS x.code=0#16)=true:=by rw[hx];decide
  simp only[k0,cE,d0,l2,aC];have bm2:=g2'.box (k:=0) (b:=mb) (c:=mC a (at_+1) act false r.cells) rfl;refine S.f147 hE hr bm2 x hx λH3 e3 =>?_;obtain⟨H4,s4,g4⟩:=Has.mset hr (g2'.grow e3) (k:=0) (v:=u32 (kZ r x.k).1) rfl (by decide) (aPI a _ (at_+1) act false r.cells)
  simp only[s4,aC];exact hQ _ (Has.dropLast (L:=_ :: X) g4)
 ·have hs:cK r x a=(a&&&x.k,0,none):=by unfold cK;rw[if_neg (by rw[hx];decide),if_pos hx]
  rw[hs]at hQ;have d0:decide (bS x.code=0#16)=false:=by rw[hx];decide
  have d1:decide (bS x.code=1#16)=false:=by rw[hx];decide
  have d2:decide (bS x.code=2#16)=false:=by rw[hx];decide
  have d3:decide (bS x.code=3#16)=false:=by rw[hx];decide
  have d4:decide (bS x.code=4#16)=true:=by rw[hx];decide
  simp only[k0,k1,k2,k3,k4,cE,d0,d1,d2,d3,d4,l2,aC];refine S.f149 hE hr g2' x hx λH4 g4 =>?_;exact hQ _ (Has.dropLast (L:=_ :: X) g4)
 all_goals try
  have d0:decide (bS x.code=0#16)=false:=by rw[hx];decide
  have d1:decide (bS x.code=1#16)=false:=by rw[hx];decide
  have d2:decide (bS x.code=2#16)=false:=by rw[hx];decide
  have d3:decide (bS x.code=3#16)=false:=by rw[hx];decide
  have d4:decide (bS x.code=4#16)=false:=by rw[hx];decide
  have d5:decide (bS x.code=5#16)=true:=by rw[hx];decide
  have hs:(cK r x a).1=a/\(cK r x a).2.2=none:=by unfold cK;rw[hx];exact⟨rfl,rfl⟩
  rw[hs.1,hs.2]at hQ;simp only[k0,k1,k2,k3,k4,k5,cE,d0,d1,d2,d3,d4,d5,l2,aC];refine S.f146 hE hr (by omega) g2' x (by rw[hx];decide) λH4 g4 =>?_
  exact hQ _ (Has.dropLast (L:=_ :: X) g4)
 have d0:decide (bS x.code=0#16)=false:=by rw[hx];decide
 have d1:decide (bS x.code=1#16)=false:=by rw[hx];decide
 have d2:decide (bS x.code=2#16)=false:=by rw[hx];decide
 have d3:decide (bS x.code=3#16)=false:=by rw[hx];decide
 have d4:decide (bS x.code=4#16)=false:=by rw[hx];decide
 have d5:decide (bS x.code=5#16)=false:=by rw[hx];decide
 have d6:decide (bS x.code=6#16)=true:=by rw[hx];decide
 have hs:cK r x a=(a,0,some x.k):=by unfold cK;rw[hx];rfl
 rw[hs]at hQ;obtain⟨H3,s3,g3⟩:=Has.mset hr g2' (k:=29) (v:=vb true) rfl (by decide) hcc.2.2.2.2.1
 have b3:=Has.lastBox (L:=mR mb a (at_+1) act true r :: X) g3;obtain⟨H4,s4,g4⟩:=Has.mset hr g3 (k:=28) (v:=u32 x.k) rfl (by decide) ((lG (a:=a) (at_:=at_+1) (act:=act) (e:=true) (dB hr)).2.2.2.2.2.1 x.k)
 have b4:=Has.lastBox (L:=mR mb a (at_+1) x.k true r :: X) g4;have s3:bD (ptr mb 29) (.bool true) H2=some H3:=s3;have d22:decide (x.code=22#16)=false:=by rw[hx];decide
 simp only[k0,k1,k2,k3,k4,k5,k6,cE,d0,d1,d2,d3,d4,d5,d6,b2,c3,s3,aC];refine⟨by rw[b3];rfl,?_⟩
 simp only[s4,b4,c0,k22,cE,d22,aC];exact hQ _ (Has.dropLast (L:=_ :: X) g4)
end
end
section
set_option maxRecDepth 20000
def iQ(c:List bM):Prop:=∀ k (h:k<c.length),okI c[k] (c.length - k - 1)
def Fil(H0 Z H:AH)(fb:Nat)(c:List bM)(X:List Res):Prop:=∃ lv n1 n2,Has H0 Z H (bF fb [lv,vi n1,vi n2] :: aY 4 lv (bV c) :: X)
section
variable {E:Sy}{H H' H0 Z:AH}{Q:Value->AH->Prop}{X:List Res}{fb:Nat}
theorem Fil.grow{c:List bM}(h:Fil H0 Z H fb c X)(e:Ext H H'):Fil H0 Z H' fb c X:=by
 obtain⟨lv,n1,n2,h⟩:=h;exact⟨lv,n1,n2,h.grow e⟩
theorem Fil.ext{c:List bM}(h:Fil H0 Z H fb c X):Ext H0 H:=by
 obtain⟨lv,n1,n2,h⟩:=h;exact h.ext
theorem S.sync_atomic_Int64_Add_at(hE:aX E){b o:Nat}{c:List Value}{n d:Int}(hb:H.get b = .cells c none)(hc:c[o]? = some (vi n))(hQ:∀ v,Q v (H.put b (.cells (c.set o (vi (IntKind.i64.wrap (n+d)))) none))):E.call 27 [ptr b o,vi d] H Q:=by
 apply hE.f141;simp only[F.f141,aEd,hU,aP];rw[rS,aP];apply hE.f140;have hc:c[o+0]? = some (.int .i64 n):=hc;simp only[mG,ptr,vi,hb,hc];exact hQ _
theorem qI(r:aN):∀ (f:Nat) (a:BitVec 32),hO r f [] a=2147483648#32
 | 0,_=>rfl
 | _+1,_=>rfl
theorem S.f144(hE:aX E){r:aN}(hr:r.ok){c:List bM}(hok:iQ c)(hlen:c.length<=4096)(h:Fil H0 Z H fb c X)(hQ:∀ n H',n<=c.length->Fil H0 Z H' fb c X->Q (.tuple #[u32 (hO r c.length c 0#32),vi (n:Nat)]) H'):E.call 10 [ptr fb 0,r.v] H Q:=by
 apply hE.f144;obtain⟨lv,n1,n2,h⟩:=h;have g:=h.new (.cells r.cells none);have b1:=AH.get_new_self H (.cells r.cells none);have lo:aE 9 (ptr H.next 0) (H.new (.cells r.cells none))=some r.v:=by rw[aJ,b1,cH _ _ 9 (dB hr)];rfl
 obtain⟨c0,c1,c2,c3,c4,c5,c6,c7,c8,hrc⟩:=aEx (dB hr);have hp:r.cells.all plain1=true:=by simp[aN.cells]
 have hbv:aK [(0,1),(1,1),(2,16),(18,1),(19,9),(28,1),(29,1)] #[(.int .u32 0),(.int .u32 0),(.int .u32 0),(.int .u32 0),(.int .u32 0),(.int .u32 0),(.int .u32 0),(.int .u32 0),(.int .u32 0),(.int .u32 0),(.int .u32 0),(.int .u32 0),(.int .u32 0),(.int .u32 0),(.int .u32 0),(.int .u32 0),(.int .u32 0),(.int .u32 0),vi 0,(.int .u32 0),(.int .u32 0),(.int .u64 0),(.int .u64 0),(.int .u64 0),(.int .u64 0),(.int .u64 0),(.int .u64 0),(.int .u64 0),(.int .u32 0),(.bool false)] [(4,r.v)]=some (.agg (mC 0#32 0 0#32 false r.cells).toArray):=by
  unfold aN.v;rw[gX,hrc];rfl
 simp only[F.f144,aV,AM.aQ,aR,List.toList_toArray,iC,lo,hbv,aW,aC];have hn1:H.next+1=(H.new (.cells r.cells none)).next:=rfl;rw[hn1];clear hn1;generalize H.new (.cells r.cells none)=H1 at *
 have hst:aH 30 (ptr H1.next 0) (.agg (mC 0#32 0 0#32 false r.cells).toArray) (H1.new (.cells [(.int .u32 0),(.int .u32 0),(.int .u32 0),(.int .u32 0),(.int .u32 0),(.int .u32 0),(.int .u32 0),(.int .u32 0),(.int .u32 0),(.int .u32 0),(.int .u32 0),(.int .u32 0),(.int .u32 0),(.int .u32 0),(.int .u32 0),(.int .u32 0),(.int .u32 0),(.int .u32 0),vi 0,(.int .u32 0),(.int .u32 0),(.int .u64 0),(.int .u64 0),(.int .u64 0),(.int .u64 0),(.int .u64 0),(.int .u64 0),(.int .u64 0),(.int .u32 0),(.bool false)] none))=some (H1.new (.cells (mC 0#32 0 0#32 false r.cells) none)):=by
  rw[cM,AH.get_new_self];have hl:=(lG (a:=0#32) (at_:=0) (act:=0#32) (e:=false) (dB hr)).2.2.2.2.2.2;have hpl:(mC 0#32 0 0#32 false r.cells).all plain1=true:=by simp[mC,hp]
  have hsp:∀ z:List Value,z.length=30->AM.aT z 0 (mC 0#32 0 0#32 false r.cells)=mC 0#32 0 0#32 false r.cells:=λz hz=>by simp[aT,hz,hl]
  simp only[List.size_toArray,List.toList_toArray,hl,hpl,List.length_cons,List.length_nil,Nat.zero_add,Nat.le_refl,and_self,if_true];rw[hsp _ rfl,AH.new_put]
 have g2:Has H0 Z (H1.new (.cells (mC 0#32 0 0#32 false r.cells) none)) (mR H1.next 0#32 0 0#32 false r :: bF fb [lv,vi n1,vi n2] :: aY 4 lv (bV c) :: X):=(g.newbox (mC 0#32 0 0#32 false r.cells)).perm (List.perm_append_singleton _ _);simp only[hst,aC];generalize H1.new (.cells (mC 0#32 0 0#32 false r.cells) none)=H2 at *;generalize H1.next=mb at *;have i0:vi 0=vi ((0:Nat):Int):=rfl;have i1:(.int .i64 1:Value)=vi 1:=rfl;have kK:(.int .u32 2147483648:Value)=u32 2147483648#32:=rfl;rw[i0]
 refine aZ.ind (λm ls H'=>∃ (a:BitVec 32) (at_:Nat) (act:BitVec 32) (e:Bool) (n:Nat),ls=[ptr fb 0,ptr mb 0,vi n]/\Has H0 Z H' (mR mb a at_ act e r :: bF fb [lv,vi n1,vi n2] :: aY 4 lv (bV c) :: X)/\at_<=c.length/\n<=at_ /\
   (e=true->m=0/\act=hO r c.length c 0#32)/\(e=false->m=c.length - at_+1/\∃ f,c.length - at_<=f/\hO r f (c.drop at_) a=hO r c.length c 0#32)) ?_ (c.length+1)
  ⟨0#32,0,0#32,false,0,rfl,g2,Nat.zero_le _,Nat.le_refl _,by simp,λ_=>⟨by omega,c.length,by omega,by rw[List.drop_zero]⟩⟩
 rintro m _ H3 X1 ih ⟨a,at_,act,e,n,rfl,g3,hat,hn,he1,he2⟩;have bm:=g3.box (k:=0) (b:=mb) (c:=mC a at_ act e r.cells) rfl;have bf:=g3.box (k:=1) (b:=fb) (c:=[lv,vi n1,vi n2]) rfl;have hc:=lG (a:=a) (at_:=at_) (act:=act) (e:=e) (dB hr);have hlv:=(g3.rows (k:=2) (sz:=4) (v:=lv) (rows:=bV c) rfl).lenSlc;have hil:(bV c).length=c.length:=by simp[bV]
 rw[hil]at hlv
 have fin:∀ res:BitVec 32,res=hO r c.length c 0#32->(e=true->act=res)->(e=false->res=2147483648#32) ->
   E.call 27 [ptr fb 1,vi 1] H3 λv24 H10 =>
    opt (aO (ptr fb 0)) λv25=>opt (aB v25 2) λv26 =>
    E.call 27 [v26,vi n] H10 λv27 H11 =>
    opt (aB (ptr mb 0) 29) λv28=>opt (aD v28 H11) λv29=>opt (un .not v29) λv30 =>
    ifB v30 (Q (.tuple #[(.int .u32 2147483648),vi n]) H11) (opt (aB (ptr mb 0) 28) λv31=>opt (aD v31 H11) λv32=>Q (.tuple #[v32,vi n]) H11):=by
  intro res hres ha hb;refine S.sync_atomic_Int64_Add_at hE bf (n:=n1) rfl λ_ =>?_;have g4:=g3.put (k:=1) (b:=fb) (c:=[lv,vi n1,vi n2]) rfl [lv,vi (IntKind.i64.wrap (n1+1)),vi n2];have bf4:=g4.box (k:=1) (b:=fb) (c:=[lv,vi (IntKind.i64.wrap (n1+1)),vi n2]) rfl;simp only[aC];refine S.sync_atomic_Int64_Add_at hE bf4 (n:=n2) rfl λ_ =>?_;have g5:=g4.put (k:=1) (b:=fb) (c:=[lv,vi (IntKind.i64.wrap (n1+1)),vi n2]) rfl [lv,vi (IntKind.i64.wrap (n1+1)),vi (IntKind.i64.wrap (n2+n))];have bm5:=g5.box (k:=0) (b:=mb) (c:=mC a at_ act e r.cells) rfl;have g6:=g5.drop 0;have hq:=hQ n _ (Nat.le_trans hn hat) ⟨lv,_,_,g6⟩;rw[<- hres]at hq;have bm5':=bm5;simp only[List.set_cons_succ,List.set_cons_zero]at bm5' hq ⊢;simp only[bm5',hc.2.2.2.1,aC];cases e with
  | true =>
   rw[ha rfl]at hc bm5';simp only[bm5',hc.2.2.1,aC];exact hq
  | false =>
   rw[hb rfl]at hq;simp only[kK,aC];exact hq
 cases e with
 | true =>
  obtain⟨_,hact⟩:=he1 rfl;simp only[F.f144_l1,bm,hc.2.2.2.1,i1,aC];exact fin _ rfl (λ_=>hact) (λh=>by cases h)
 | false =>
  obtain⟨hm,f,hf,hrun⟩:=he2 rfl;rcases Nat.lt_or_ge at_ c.length with hlt | hge
  ·have hlt':decide ((at_:Int)<c.length)=true:=decide_eq_true (by omega)
   obtain⟨bb,o,f1,f2⟩:=(g3.rows (k:=2) (sz:=4) (v:=lv) (rows:=bV c) rfl).ix (i:=at_) (by omega)
   have hrow:(bV c)[at_]'(by omega)=c[at_].cells:=by simp[bV]
   rw[hrow]at f2;have lo3:aE 4 (ptr bb o) H3=some c[at_].v:=by rw[aJ,f2];rfl
   have hokx:=hok at_ hlt;have hinc:=bE (i:=n) (by omega)
   have hdr:c.drop at_=c[at_] :: c.drop (at_+1):=List.drop_eq_getElem_cons hlt
   have hskip:at_+1+(cK r c[at_] a).2.1<=c.length:=by
    unfold cK;rcases hokx with ⟨hx,_,_⟩ | hx | ⟨hx,h1⟩ | ⟨hx,h1,h2⟩ | ⟨hx,h1,h2⟩ | ⟨hx,h1,h2⟩ | hx<;>rw[hx]<;>simp only[BitVec.reduceEq,if_true,if_false,Nat.add_zero]<;>try omega
    all_goals split<;>omega
   rw[hdr]at hrun;generalize c[at_]=x at *;simp only[F.f144_l1,bm,bf,hc.2.1,hc.2.2.2.1,hlv,aF,hlt',f1,lo3,aC];refine S.f150 hE hr (by omega) g3 x hokx λH4 g4 =>?_
   simp only[hinc,aC];obtain⟨f,rfl⟩:∃ f',f=f'+1:=⟨f - 1,by omega⟩
   have hrun:(match (cK r x a).2.2 with | some o=>o | none=>hO r f ((c.drop (at_+1)).drop (cK r x a).2.1) (cK r x a).1)=hO r c.length c 0#32:=hrun
   cases ho:(cK r x a).2.2 with
   | some res =>
    rw[ho]at hrun g4;have hrun:res=_:=hrun;exact ih 0 (by omega) _ _ ⟨_,_,_,true,n+1,rfl,g4,hskip,by omega,λ_=>⟨rfl,hrun⟩,λh=>by cases h⟩
   | none =>
    rw[ho]at hrun g4;have hrun:hO r f ((c.drop (at_+1)).drop (cK r x a).2.1) (cK r x a).1=_:=hrun;rw[List.drop_drop]at hrun;exact ih (c.length - (at_+1+(cK r x a).2.1)+1) (by omega) _ _ ⟨_,_,_,false,n+1,rfl,g4,hskip,by omega,(λh=>by cases h),λ_=>⟨rfl,f,by omega,hrun⟩⟩
  ·have hlt':decide ((at_:Int)<c.length)=false:=decide_eq_false (by omega)
   rw[List.drop_eq_nil_of_le hge,qI]at hrun;simp only[F.f144_l1,bm,bf,hc.2.1,hc.2.2.2.1,hlv,aF,hlt',i1,aC];exact fin _ hrun.symm.symm (λh=>by cases h) (λ_=>rfl)
end
end
section
set_option maxRecDepth 20000
def aM2(a b:BitVec 8):BitVec 8:=if a.toNat<b.toNat then b else a
section
variable {E:Sy}{H H' H0 Z:AH}{Q:Value->AH->Prop}{X:List Res}
theorem aOf(a b:BitVec 8):oV max2 [u8 a,u8 b]=some (u8 (aM2 a b)):=by
 unfold aM2;have h0:oV max2 [u8 a,u8 b]=some (.int .u8 (if(b.toNat:Int) > (a.toNat:Int) then(b.toNat:Int) else(a.toNat:Int))):=by simp only[gE];rfl
 rw[h0]
 by_cases h:a.toNat<b.toNat
 ·rw[if_pos h,if_pos (by omega),gE]
 ·rw[if_neg h,if_neg (by omega),gE]
theorem S.f4(hE:aX E)(c:BitVec 16)(h1:c≠96#16)(h2:c≠97#16)(h3:c≠2#16)(h4:c≠3#16)(hQ:Q (vb false) H):E.call 78 [u16 c] H Q:=by
 apply hE.f4;have k1:(.int .u16 96:Value)=u16 96#16:=rfl;have k2:(.int .u16 97:Value)=u16 97#16:=rfl;have k3:(.int .u16 2:Value)=u16 2#16:=rfl;have k4:(.int .u16 3:Value)=u16 3#16:=rfl;simp only[F.f4,F.f4_j1,k1,k2,k3,k4,cE,decide_eq_false h1,decide_eq_false h2,decide_eq_false h3,decide_eq_false h4,aC];exact hQ
theorem S.f3(hE:aX E)(x:bM){at_ n:Nat}(hx:okI x (n - at_ - 1))(hat:at_<n)(hn:n<=4096)(hQ:∀ H',Ext H H'->Q (vi 0) H'):E.call 39 [x.v,vi at_,vi n] H Q:=by
 apply hE.f3;have b1:=AH.get_new_self H (.cells x.cells none);have x1:Ext H (H.new (.cells x.cells none)):=(Ext.refl _).new _;have c0:x.cells[0]? = some (u16 x.code):=rfl;have c1:x.cells[1]? = some (u8 x.jt):=rfl;have c2:x.cells[2]? = some (u8 x.jf):=rfl;have c3:x.cells[3]? = some (u32 x.k):=rfl;have k1:(.int .i64 1:Value)=vi 1:=rfl;have k5:(.int .u16 5:Value)=u16 5#16:=rfl;have k32:(.int .u16 32:Value)=u16 32#16:=rfl;have k52:(.int .u16 52:Value)=u16 52#16:=rfl;have k100:(.int .u16 100:Value)=u16 100#16:=rfl;have k116:(.int .u16 116:Value)=u16 116#16:=rfl;have q4:(.int .u32 4:Value)=u32 4#32:=rfl;have q0:(.int .u32 0:Value)=u32 0#32:=rfl;have q60:(.int .u32 60:Value)=u32 60#32:=rfl;have s1:aA .sub (vi (n:Int)) (vi (at_:Int))=some (vi ((n:Int) - at_)):=iF (by omega) (by omega)
 have s2:aA .sub (vi ((n:Int) - at_)) (vi 1)=some (vi ((n - at_ - 1:Nat):Int)):=by rw[iF (by omega) (by omega)];congr 2;omega
 have hrem:aA .rem (u32 x.k) (u32 4#32)=some (u32 (x.k % 4#32)):=aNj _ _ (by decide)
 have hln:n - at_ - 1<4096:=by omega
 have known:aG7.contains x.code||aAT x.code:=by
  rcases hx with ⟨h,_⟩ | h | ⟨h,_⟩ | ⟨h,_⟩ | ⟨h,_⟩ | ⟨h,_⟩ | h<;>rw[h]<;>decide +kernel
 have e52:decide (x.code=52#16)=false:=by rcases hx with ⟨h,_⟩ | h | ⟨h,_⟩ | ⟨h,_⟩ | ⟨h,_⟩ | ⟨h,_⟩ | h<;>rw[h]<;>decide
 have e100:decide (x.code=100#16)=false:=by rcases hx with ⟨h,_⟩ | h | ⟨h,_⟩ | ⟨h,_⟩ | ⟨h,_⟩ | ⟨h,_⟩ | h<;>rw[h]<;>decide
 have e116:decide (x.code=116#16)=false:=by rcases hx with ⟨h,_⟩ | h | ⟨h,_⟩ | ⟨h,_⟩ | ⟨h,_⟩ | ⟨h,_⟩ | h<;>rw[h]<;>decide
 have e96:x.code≠96#16:=by rcases hx with ⟨h,_⟩ | h | ⟨h,_⟩ | ⟨h,_⟩ | ⟨h,_⟩ | ⟨h,_⟩ | h<;>rw[h]<;>decide
 have e97:x.code≠97#16:=by rcases hx with ⟨h,_⟩ | h | ⟨h,_⟩ | ⟨h,_⟩ | ⟨h,_⟩ | ⟨h,_⟩ | h<;>rw[h]<;>decide
 have e2:x.code≠2#16:=by rcases hx with ⟨h,_⟩ | h | ⟨h,_⟩ | ⟨h,_⟩ | ⟨h,_⟩ | ⟨h,_⟩ | h<;>rw[h]<;>decide
 have e3:x.code≠3#16:=by rcases hx with ⟨h,_⟩ | h | ⟨h,_⟩ | ⟨h,_⟩ | ⟨h,_⟩ | ⟨h,_⟩ | h<;>rw[h]<;>decide
 simp only[F.f3,aV,AM.aQ,aR,List.toList_toArray,k1,s1,s2,b1,c0,aC];generalize H.new (.cells x.cells none)=H1 at *;generalize H.next=t at *;refine S.f18 hE _ ?_;rw[known];have tail:∀ (Q':Prop),(Q (vi 0) H1->Q')->Q':=λQ' f=>f (hQ _ x1)
 have ec32:∀ b:Bool,decide (x.code=32#16)=b->(b=true->decide (x.k % 4#32≠0#32)=false/\decide ((60#32).toNat<x.k.toNat)=false):=by
  intro b hb ht;subst ht;have h32:x.code=32#16:=of_decide_eq_true hb;rcases hx with ⟨_,h1,h2⟩ | h | ⟨h,_⟩ | ⟨h,_⟩ | ⟨h,_⟩ | ⟨h,_⟩ | h
  rotate_left
  all_goals first
   | (rw[h32]at h;exact absurd h (by decide))
   | skip
  refine⟨decide_eq_false ?_,decide_eq_false ?_⟩
  ·intro hne
   apply hne;apply BitVec.eq_of_toNat_eq;rw[BitVec.toNat_umod];exact h1
  ·show ¬ 60<_
   omega
 have fin:∀ b:Bool,decide (x.code=32#16)=b->Q (vi 0) H1:=λ_ _=>hQ _ x1;rcases hx with ⟨hc,h1,h2⟩ | hc | ⟨hc,h1⟩ | ⟨hc,h1,h2⟩ | ⟨hc,h1,h2⟩ | ⟨hc,h1,h2⟩ | hc
 ·
  have a5:decide (x.code=5#16)=false:=by rw[hc];decide
  have cl:decide (bS x.code=5#16)=false:=by rw[hc];decide
  have c32:decide (x.code=32#16)=true:=by rw[hc];decide
  obtain⟨m1,m2⟩:=ec32 _ c32 rfl;simp only[b1,c0,k5,cE,a5,aC];refine S.f16 hE _ ?_;simp only[k5,cE,cl,b1,c0,c3,k32,c32,q4,q0,q60,hrem,yK,aDL,m1,m2,aC];refine S.f4 hE _ e96 e97 e2 e3 ?_;simp only[b1,c0,k52,k100,k116,cE,e52,e100,e116,aC];exact hQ _ x1
 all_goals try
  have a5:decide (x.code=5#16)=false:=by rw[hc];decide
  have n5:decide (x.code≠5#16)=true:=by rw[hc];decide
  have cl:decide (bS x.code=5#16)=true:=by rw[hc];decide
  have c32:decide (x.code=32#16)=false:=by rw[hc];decide
  have hmx:decide (((n - at_ - 1:Nat):Int)<=((aM2 x.jt x.jf).toNat:Int))=false:=decide_eq_false (by
   unfold aM2
   split<;>omega)
  simp only[b1,c0,k5,cE,a5,aC];refine S.f16 hE _ ?_;simp only[k5,cE,yH,cl,n5,b1,c0,c1,c2,aOf,qA,dW,hmx,k32,c32,aC];refine S.f4 hE _ e96 e97 e2 e3 ?_;simp only[b1,c0,k52,k100,k116,cE,e52,e100,e116,aC];exact hQ _ x1
 ·have a5:decide (x.code=5#16)=false:=by rw[hc];decide
  have cl:decide (bS x.code=5#16)=false:=by rw[hc];decide
  have c32:decide (x.code=32#16)=false:=by rw[hc];decide
  simp only[b1,c0,k5,cE,a5,aC];refine S.f16 hE _ ?_;simp only[k5,cE,cl,b1,c0,k32,c32,aC];refine S.f4 hE _ e96 e97 e2 e3 ?_;simp only[b1,c0,k52,k100,k116,cE,e52,e100,e116,aC];exact hQ _ x1
 ·have a5:decide (x.code=5#16)=true:=by rw[hc];decide
  have n5:decide (x.code≠5#16)=false:=by rw[hc];decide
  have cl:decide (bS x.code=5#16)=true:=by rw[hc];decide
  have c32:decide (x.code=32#16)=false:=by rw[hc];decide
  have hlt:decide ((BitVec.ofInt 64 ((n - at_ - 1:Nat):Int)).toNat<=(x.k.setWidth 64).toNat)=false:=decide_eq_false (by
   have:=x.k.isLt;rw[BitVec.toNat_setWidth,BitVec.ofInt_natCast,BitVec.toNat_ofNat,Nat.mod_eq_of_lt (by omega),Nat.mod_eq_of_lt (by omega)]
   omega)
  simp only[b1,c0,c3,k5,cE,a5,aGC,kL,aEi,hlt,aC];refine S.f16 hE _ ?_;simp only[k5,cE,yH,cl,n5,b1,c0,k32,c32,aC];refine S.f4 hE _ e96 e97 e2 e3 ?_;simp only[b1,c0,k52,k100,k116,cE,e52,e100,e116,aC];exact hQ _ x1
 ·have a5:decide (x.code=5#16)=false:=by rw[hc];decide
  have cl:decide (bS x.code=5#16)=false:=by rw[hc];decide
  have c32:decide (x.code=32#16)=false:=by rw[hc];decide
  simp only[b1,c0,k5,cE,a5,aC];refine S.f16 hE _ ?_;simp only[k5,cE,cl,b1,c0,k32,c32,aC];refine S.f4 hE _ e96 e97 e2 e3 ?_;simp only[b1,c0,k52,k100,k116,cE,e52,e100,e116,aC];exact hQ _ x1
end
end
section
set_option maxRecDepth 20000
section
variable {E:Sy}{H H' H0 Z:AH}{Q:Value->AH->Prop}{X:List Res}
theorem aAV(b n c k:Nat)(hk:k<n):aI 1 (slc b 0 n c) (vi k)=some (ptr b k):=by
 simp only[aI,slc,vi,ptr];have h1:(0:Int)<=(k:Int)/\(k:Int).toNat<n:=⟨by omega,by omega⟩
 simp[Addr.add,hk];exact λh=>h.symm
def aAS(l:List Nat):List (List Value):=l.map λk=>[vi (k:Nat)]
theorem Has.newnats{L:List Res}(h:Has H0 Z H L){n:Nat}(l:List Nat)(hn:l.length=n){cs:List Value}(hc:(aAS l).flatten=cs):Has H0 Z (H.new (.cells cs none)) (L++[aY 1 (slc H.next 0 n n) (aAS l)]) :=
 h.add _ ((Ext.refl H).new _) (dJ.made (f:=none) (nF _) (by rw[AH.get_new_self,hc]) (.inl rfl) (by simp[aAS,hn]) (by intro r hr;obtain⟨x,_,rfl⟩:=List.mem_map.1 hr;exact⟨rfl,rfl⟩)) (by simp[aY,lM,blk]) (by simp[aY,lM,blk])
theorem S.f1(hE:aX E)(x:bM)(hQ:∀ H',Ext H H'->Q (vb (decide (bS x.code=6#16))) H'):E.call 40 [x.v] H Q:=by
 apply hE.f1;have b1:=AH.get_new_self H (.cells x.cells none);have x1:Ext H (H.new (.cells x.cells none)):=(Ext.refl _).new _;have c0:x.cells[0]? = some (u16 x.code):=rfl;have k6:(.int .u16 6:Value)=u16 6#16:=rfl;simp only[F.f1,aV,AM.aQ,aR,List.toList_toArray,b1,c0,aC];refine S.f16 hE _ ?_;simp only[k6,cE,aC];exact hQ _ x1
theorem S.f5(hE:aX E)(x:bM){at_ n:Nat}(hx:okI x (n - at_ - 1))(hat:at_<n)(hn:n<=4096)(hl:x.code=6#16\/at_+1<n){L:List Res}(h:Has H0 Z H L)(hQ:∀ v (l:List Nat) H',Has H0 Z H' (L++[aY 1 v (aAS l)])->(∀ k∈l,k<n)->l.length<=2->Q v H'):E.call 79 [x.v,vi at_] H Q:=by
 apply hE.f5;have b1:=AH.get_new_self H (.cells x.cells none);have x1:Ext H (H.new (.cells x.cells none)):=(Ext.refl _).new _;have lo:=uL b1;have c0:x.cells[0]? = some (u16 x.code):=rfl;have c1:x.cells[1]? = some (u8 x.jt):=rfl;have c2:x.cells[2]? = some (u8 x.jf):=rfl;have c3:x.cells[3]? = some (u32 x.k):=rfl;have k5:(.int .u16 5:Value)=u16 5#16:=rfl;have hinc:=bE (i:=at_) (by omega)
 simp only[F.f5,aV,AM.aQ,aR,List.toList_toArray,lo,aC];generalize H.new (.cells x.cells none)=H1 at *;generalize H.next=t at *;refine S.f1 hE x λH2 e2 =>?_;have b2:=e2.cells b1;have x2:=x1.trans e2;have lone:∀ m:Nat,bO 1 1 #[vi 0] [(0,vi m)]=some (.cells [vi m] none,fC 1 1):=λm=>cX 1 [vi 0] [vi m] rfl rfl;have ltwo:∀ m k:Nat,bO 2 1 #[vi 0] [(0,vi m),(1,vi k)]=some (.cells [vi m,vi k] none,fC 2 2):=λm k=>iZ 2 1 [vi 0] [(0,vi m),(1,vi k)] [vi m,vi k] rfl rfl rfl rfl (by simp)
 have g2:=h.grow x2
 have one:∀ m:Nat,m<n->Q (slc H2.next 0 1 1) (H2.new (.cells [vi m] none)):=λm hm =>
  hQ _ [m] _ (g2.newnats [m] rfl rfl) (by simpa using hm) (by simp)
 have two:∀ m k:Nat,m<n->k<n->Q (slc H2.next 0 2 2) (H2.new (.cells [vi m,vi k] none)):=λm k hm hk =>
  hQ _ [m,k] _ (g2.newnats [m,k] rfl rfl) (by simp[hm,hk]) (by simp)
 rcases hx with ⟨hc,_⟩ | hc | ⟨hc,h1⟩ | ⟨hc,h1,h2⟩ | ⟨hc,h1,h2⟩ | ⟨hc,h1,h2⟩ | hc
 rotate_left 6
 ·have a6:decide (bS x.code=6#16)=true:=by rw[hc];decide
  simp only[a6,aC];exact hQ bY [] _ (g2.nils 1) (by simp) (by simp)
 ·have a6:decide (bS x.code=6#16)=false:=by rw[hc];decide
  have a5:decide (x.code=5#16)=false:=by rw[hc];decide
  have cl:decide (bS x.code=5#16)=false:=by rw[hc];decide
  have hl:at_+1<n:=hl.resolve_left (by rw[hc];decide)
  simp only[a6,b2,c0,k5,cE,a5,aC];refine S.f16 hE _ ?_;simp only[k5,cE,cl,hinc,lone,AM.aQ,cL,aC];exact one _ hl
 ·have a6:decide (bS x.code=6#16)=false:=by rw[hc];decide
  have a5:decide (x.code=5#16)=false:=by rw[hc];decide
  have cl:decide (bS x.code=5#16)=false:=by rw[hc];decide
  have hl:at_+1<n:=hl.resolve_left (by rw[hc];decide)
  simp only[a6,b2,c0,k5,cE,a5,aC];refine S.f16 hE _ ?_;simp only[k5,cE,cl,hinc,lone,AM.aQ,cL,aC];exact one _ hl
 ·have a6:decide (bS x.code=6#16)=false:=by rw[hc];decide
  have a5:decide (x.code=5#16)=true:=by rw[hc];decide
  have ha:aA .add (vi ((at_+1:Nat):Int)) (vi x.k.toNat)=some (vi ((at_+1+x.k.toNat:Nat):Int)):=by rw[eB (by omega) (by omega)];congr 2
  simp only[a6,b2,c0,c3,k5,cE,a5,hinc,aBZ,ha,lone,AM.aQ,cL,aC];exact one _ (by omega)
 all_goals
  have a6:decide (bS x.code=6#16)=false:=by rw[hc];decide
  have a5:decide (x.code=5#16)=false:=by rw[hc];decide
  have cl:decide (bS x.code=5#16)=true:=by rw[hc];decide
  have ha1:aA .add (vi ((at_+1:Nat):Int)) (vi x.jt.toNat)=some (vi ((at_+1+x.jt.toNat:Nat):Int)):=by rw[eB (by omega) (by omega)];congr 2
  have ha2:aA .add (vi ((at_+1:Nat):Int)) (vi x.jf.toNat)=some (vi ((at_+1+x.jf.toNat:Nat):Int)):=by rw[eB (by omega) (by omega)];congr 2
  simp only[a6,b2,c0,k5,cE,a5,aC];refine S.f16 hE _ ?_;simp only[k5,cE,cl,b2,c1,c2,hinc,qA,ha1,ha2,ltwo,AM.aQ,cL,aC];exact two _ _ (by omega) (by omega)
end
end
section
set_option maxRecDepth 20000
def xV(c:List bM):Prop:=∃ h:0<c.length,(c[c.length - 1]'(by omega)).code=6#16
section
variable {E:Sy}{H H' H0 Z:AH}{Q:Value->AH->Prop}{X:List Res}
abbrev rG(ws:List (BitVec 16)):List Value:=ws.map u16
theorem Has.setW{sb k:Nat}{ws:List (BitVec 16)}{wb:Nat}{wc:List Value}(h:Has H0 Z H (bF wb wc :: bF sb (rG ws) :: X))(hk:k<ws.length)(w:BitVec 16):∃ H',bD (ptr sb k) (u16 w) H=some H'/\Has H0 Z H' (bF wb wc :: bF sb (rG (ws.set k w)) :: X):=by
 have hb:=h.box (k:=1) (b:=sb) (c:=rG ws) rfl;refine⟨H.put sb (.cells (rG (ws.set k w)) none),?_,h.put (k:=1) (b:=sb) (c:=rG ws) rfl _⟩;rw[eK,if_pos (show plain1 (u16 w)=true from rfl),hb];simp only[rG,List.length_map,hk,if_true,List.map_set]
theorem S.f2(hE:aX E){v:Value}{c:List bM}(hv:Rows H 4 v (bV c))(hok:iQ c)(hend:xV c)(hlen:c.length<=4096)(hQ:∀ H',Ext H H'->Q (.agg #[vi 0,vi 0]) H'):E.call 41 [v] H Q:=by
 apply hE.f2;obtain⟨h0,hend⟩:=hend;have hlv:=hv.lenSlc;have hil:(bV c).length=c.length:=by simp[bV]
 rw[hil]at hlv;have hms:=aCT 1 2 c.length [u16 0#16] rfl (by omega) (by omega)
 rw[aDH]at hms;have hms:sW 1 2 #[(.int .u16 0)] (vi c.length) (vi c.length)=some (.cells (rG (List.replicate c.length 0#16)) none,λb=>slc b 0 c.length c.length):=by rw[rG,List.map_replicate];exact hms
 have i0:vi 0=vi ((0:Nat):Int):=rfl;have q0:(.int .u16 0:Value)=u16 0#16:=rfl;have qf:(.int .u16 65535:Value)=u16 65535#16:=rfl;have g:=((Has.begin (Ext.refl H) (Sub.refl H)).newbox [vi 0,vi 0]).newbox (rG (List.replicate c.length 0#16));have hls:∀ b n m,lenSlc (slc b 0 n m)=some (vi n):=λ_ _ _=>rfl;simp only[F.f2,aW,hlv,hms,AM.aQ,hls,aC];have hn1:H.next+1=(H.new (.cells [vi 0,vi 0] none)).next:=rfl;rw[hn1];clear hn1;generalize (H.new (.cells [vi 0,vi 0] none)).new (.cells (rG (List.replicate c.length 0#16)) none)=H2 at *;generalize (H.new (.cells [vi 0,vi 0] none)).next=sb at *;generalize H.next=wb at *;rw[i0];refine aZ.count c.length (λk ls H'=>ls=[v,ptr wb 0,slc sb 0 c.length c.length,vi c.length,vi k]/\∃ ws:List (BitVec 16),ws.length=c.length/\Has H H H' [bF wb [vi 0,vi 0],bF sb (rG ws)]) ?_ ⟨rfl,_,by simp,g⟩
 rintro k _ H3 X1 hk ih ⟨rfl,ws,hws,g3⟩;rcases Nat.lt_or_ge k c.length with hlt | hge
 ·have hlt':decide ((k:Int)<c.length)=true:=decide_eq_true (by omega)
  have hix:=aAV sb c.length c.length k hlt;have hinc:=bE (i:=k) (by omega)
  obtain⟨H4,s4,g4⟩:=g3.setW (k:=k) (by omega) 65535#16
  simp only[F.f2_l1,aF,hlt',hix,qf,s4,hinc,aC];exact ih hlt _ _ ⟨rfl,_,by simp[hws],g4⟩
 have hke:k=c.length:=by omega
 subst hke;have hlt':decide ((c.length:Int)<c.length)=false:=decide_eq_false (by omega)
 have hix0:aI 1 (slc sb 0 c.length c.length) (vi 0)=some (ptr sb 0):=aAV sb c.length c.length 0 h0;obtain⟨H4,s4,g4⟩:=g3.setW (k:=0) (by omega) 0#16
 simp only[F.f2_l1,aF,hlt',hix0,q0,s4,hlv,aC];have hw4:(ws.set 0 0#16).length=c.length:=by simp[hws]
 generalize ws.set 0 0#16=ws at *;rw[i0];refine aZ.count c.length (λk ls H'=>ls=[ptr wb 0,slc sb 0 c.length c.length,v,vi c.length,vi k]/\∃ ws:List (BitVec 16),ws.length=c.length/\Has H H H' [bF wb [vi 0,vi 0],bF sb (rG ws)]) ?_ ⟨rfl,ws,hw4,g4⟩;clear g4 g3 ih s4 hw4 hws ws;rintro k _ H5 X2 hk ih ⟨rfl,ws,hws,g5⟩;rcases Nat.lt_or_ge k c.length with hlt | hge
 rotate_left
 ·have hke:k=c.length:=by omega
  subst hke;have hb:=g5.box (k:=0) (b:=wb) (c:=[vi 0,vi 0]) rfl;have hbv:aK [(0,1),(1,1)] #[vi 0,vi 0] []=some (.agg #[vi 0,vi 0]):=rfl
  have hst:aH 2 (ptr wb 0) (.agg #[vi 0,vi 0]) H5=some (H5.put wb (.cells [vi 0,vi 0] none)):=by
   rw[cM,hb];rfl
  have g6:=g5.put (k:=0) (b:=wb) (c:=[vi 0,vi 0]) rfl [vi 0,vi 0];have hb6:=g6.box (k:=0) (b:=wb) (c:=[vi 0,vi 0]) rfl;have lo6:aE 2 (ptr wb 0) (H5.put wb (.cells [vi 0,vi 0] none))=some (.agg #[vi 0,vi 0]):=by rw[aJ,hb6];rfl
  simp only[F.f2_l2,aF,hlt',hbv,hst,lo6,aC];exact hQ _ g6.ext
 have hlt':decide ((k:Int)<c.length)=true:=decide_eq_true (by omega)
 obtain⟨bb,o,f1,f2⟩:=hv.ix (i:=k) (by omega)
 have hrow:(bV c)[k]'(by omega)=c[k].cells:=by simp[bV]
 rw[hrow]at f2
 have f2:(H5.get bb).row o 4=some c[k].cells:=by
  have:H5.get bb=H.get bb:=g5.ext.obj (o:=H.get bb) (λhd=>by rw[hd]at f2;cases f2) rfl
  rw[this];exact f2
 have lo:aE 4 (ptr bb o) H5=some c[k].v:=by rw[aJ,f2];rfl
 have hokx:=hok k hlt
 have hl6:c[k].code=6#16\/k+1<c.length:=by
  rcases Nat.lt_or_ge (k+1) c.length with h | h
  ·exact .inr h
  ·have:k=c.length - 1:=by omega
   subst this;exact .inl hend
 have hix:=aAV sb c.length c.length k hlt;have hinc:=bE (i:=k) (by omega)
 generalize c[k]=x at *;have hst:=aBy x H5;have g6:=g5.new (.cells x.cells none);have bx:=AH.get_new_self H5 (.cells x.cells none);have bs:=g6.box (k:=1) (b:=sb) (c:=rG ws) rfl;have cx:x.cells[0]? = some (u16 x.code):=rfl;have cs:(rG ws)[k]? = some (u16 (ws[k]'(by omega))):=by simp[rG,List.getElem?_eq_getElem (show k<ws.length by omega)]
 have k96:(.int .u16 96:Value)=u16 96#16:=rfl;have k97:(.int .u16 97:Value)=u16 97#16:=rfl;have k2:(.int .u16 2:Value)=u16 2#16:=rfl;have k3:(.int .u16 3:Value)=u16 3#16:=rfl;have e96:decide (x.code=96#16)=false:=by rcases hokx with ⟨h,_⟩ | h | ⟨h,_⟩ | ⟨h,_⟩ | ⟨h,_⟩ | ⟨h,_⟩ | h<;>rw[h]<;>decide
 have e97:decide (x.code=97#16)=false:=by rcases hokx with ⟨h,_⟩ | h | ⟨h,_⟩ | ⟨h,_⟩ | ⟨h,_⟩ | ⟨h,_⟩ | h<;>rw[h]<;>decide
 have e2:decide (x.code=2#16)=false:=by rcases hokx with ⟨h,_⟩ | h | ⟨h,_⟩ | ⟨h,_⟩ | ⟨h,_⟩ | ⟨h,_⟩ | h<;>rw[h]<;>decide
 have e3:decide (x.code=3#16)=false:=by rcases hokx with ⟨h,_⟩ | h | ⟨h,_⟩ | ⟨h,_⟩ | ⟨h,_⟩ | ⟨h,_⟩ | h<;>rw[h]<;>decide
 have lox:=uL bx;generalize ws[k]'(by omega)=w at *
 simp only[F.f2_l2,aF,hlt',f1,lo,aW,hst,hix,bs,cs,bx,cx,k96,k97,cE,e96,e97,F.f2_j2,F.f2_j3,F.f2_j1,k2,k3,e2,e3,lox,aC];generalize H5.new (.cells x.cells none)=H6 at *;refine S.f5 hE x hokx hlt hlen hl6 g6 λwv l H7 g7 hl hl2 =>?_;have hwl:=(g7.rows (k:=2) (sz:=1) (v:=wv) (rows:=aAS l) rfl).lenSlc;have hnl:(aAS l).length=l.length:=by simp[aAS]
 rw[hnl]at hwl;simp only[hwl,i0,aC];refine aZ.count l.length (λq ls H'=>ls=[ptr wb 0,slc sb 0 c.length c.length,u16 w,v,vi c.length,vi k,wv,vi l.length,vi q]/\∃ ws:List (BitVec 16),ws.length=c.length/\Has H H H' (bF wb [vi 0,vi 0] :: bF sb (rG ws) :: [aY 1 wv (aAS l)])) ?_ ⟨rfl,ws,hws,g7⟩;rintro q _ H8 X3 hq ih2 ⟨rfl,ws,hws,g8⟩;rcases Nat.lt_or_ge q l.length with hql | hqg
 ·have hql':decide ((q:Int)<l.length)=true:=decide_eq_true (by omega)
  obtain⟨b3,o3,n1,n2⟩:=(g8.rows (k:=2) (sz:=1) (v:=wv) (rows:=aAS l) rfl).ix (i:=q) (by omega)
  have hnr:(aAS l)[q]'(by omega)=[vi (l[q]:Nat)]:=by simp[aAS]
  rw[hnr]at n2;have hce:((H8.get b3).cell o3)=some (vi (l[q]:Nat)):=by have:=lD n2 (j:=0) (by omega);simpa using this
  have hlq:=hl l[q] (List.getElem_mem hql);have hqi:=bE (i:=q) (by omega)
  generalize l[q]=y at *;have hiy:=aAV sb c.length c.length y hlq;have bs:=g8.box (k:=1) (b:=sb) (c:=rG ws) rfl;have cs:(rG ws)[y]? = some (u16 (ws[y]'(by omega))):=by simp[rG,List.getElem?_eq_getElem (show y<ws.length by omega)]
  obtain⟨H9,s9,g9⟩:=Has.setW (X:=[aY 1 wv (aAS l)]) g8 (k:=y) (by omega) ((ws[y]'(by omega))&&&w)
  simp only[F.f2_l3,aF,hql',n1,hce,hiy,bs,cs,aHD,s9,hqi,aC];exact ih2 hql _ _ ⟨rfl,_,by simp[hws],g9⟩
 ·have hql':decide ((q:Int)<l.length)=false:=decide_eq_false (by omega)
  simp only[F.f2_l3,aF,hql',hinc,aC];exact ih hlt _ _ ⟨rfl,ws,hws,Has.dropLast (L:=[_,_]) g8⟩
theorem S.f0(hE:aX E){v:Value}{c:List bM}(hv:Rows H 4 v (bV c))(hok:iQ c)(hend:xV c)(hlen:c.length<=4096)(hQ:∀ H',Ext H H'->Q (.agg #[vi 0,vi 0]) H'):E.call 16 [v] H Q:=by
 apply hE.f0;have hend':=hend;obtain⟨h0,hend⟩:=hend;have hlv:=hv.lenSlc;have hil:(bV c).length=c.length:=by simp[bV]
 rw[hil]at hlv;have i0:vi 0=vi ((0:Nat):Int):=rfl;have i1:(.int .i64 1:Value)=vi 1:=rfl;have i4096:(.int .i64 4096:Value)=vi 4096:=rfl;have d0:decide ((c.length:Int)=((0:Nat):Int))=false:=decide_eq_false (by omega)
 have d1:decide ((4096:Int)<c.length)=false:=decide_eq_false (by omega)
 have g:=(Has.begin (Ext.refl H) (Sub.refl H)).newbox [vi 0,vi 0];simp only[F.f0,aW,hlv,i0,i4096,cZ,cI,d0,d1,aC];have g:Has H H (H.new (.cells [vi ((0:Nat):Int),vi ((0:Nat):Int)] none)) [bF H.next [vi 0,vi 0]]:=g;generalize H.new (.cells [vi ((0:Nat):Int),vi ((0:Nat):Int)] none)=H1 at *;generalize H.next=wb at *;refine aZ.count c.length (λk ls H'=>ls=[v,ptr wb 0,v,vi c.length,vi k]/\Has H H H' [bF wb [vi 0,vi 0]]) ?_ ⟨rfl,g⟩;clear g;rintro k _ H5 X2 hk ih ⟨rfl,g5⟩;have hv5:=hv.mono g5.ext
 have row:∀ j (hj:j<c.length),∃ bb o,aI 4 v (vi j)=some (ptr bb o)/\aE 4 (ptr bb o) H5=some c[j].v:=by
  intro j hj;obtain⟨bb,o,f1,f2⟩:=hv5.ix (i:=j) (by omega)
  have hrow:(bV c)[j]'(by omega)=c[j].cells:=by simp[bV]
  rw[hrow]at f2;exact⟨bb,o,f1,by rw[aJ,f2];rfl⟩
 have hw:∀ {H':AH},Has H H H' [bF wb [vi 0,vi 0]]->∃ H'',aH 2 (ptr wb 0) (.agg #[vi 0,vi 0]) H'=some H''/\aE 2 (ptr wb 0) H''=some (.agg #[vi 0,vi 0])/\Ext H H'':=by
  intro H' g';have hb:=g'.box (k:=0) (b:=wb) (c:=[vi 0,vi 0]) rfl;have g6:=g'.put (k:=0) (b:=wb) (c:=[vi 0,vi 0]) rfl [vi 0,vi 0];have hb6:=g6.box (k:=0) (b:=wb) (c:=[vi 0,vi 0]) rfl;exact⟨_,by rw[cM,hb];rfl,by rw[aJ,hb6];rfl,g6.ext⟩
 rcases Nat.lt_or_ge k c.length with hlt | hge
 ·have hlt':decide ((k:Int)<c.length)=true:=decide_eq_true (by omega)
  obtain⟨bb,o,f1,lo⟩:=row k hlt;have hokx:=hok k hlt;have hinc:=bE (i:=k) (by omega)
  generalize c[k]=x at *;have hst:=aBy x H5;have g6:=g5.new (.cells x.cells none);have lox:=uL (AH.get_new_self H5 (.cells x.cells none));simp only[F.f0_l1,aF,hlt',f1,lo,aW,hst,lox,hlv,aC];generalize H5.new (.cells x.cells none)=H6 at *;refine S.f3 hE x hokx hlt hlen λH7 e7 =>?_;have d7:decide (((0:Nat):Int)≠((0:Nat):Int))=false:=rfl;simp only[i0,eG,d7,hinc,aC];exact ih hlt _ _ ⟨rfl,g6.grow e7⟩
 ·have hke:k=c.length:=by omega
  subst hke;have hlt':decide ((c.length:Int)<c.length)=false:=decide_eq_false (by omega)
  obtain⟨bb,o,f1,lo⟩:=row (c.length - 1) (by omega)
  have hs:aA .sub (vi (c.length:Int)) (vi 1)=some (vi ((c.length - 1:Nat):Int)):=by rw[iF (by omega) (by omega)];congr 2;omega
  have he6:decide (bS (c[c.length - 1]'(by omega)).code=6#16)=true:=by rw[hend];decide
  simp only[F.f0_l1,aF,hlt',hlv,i1,hs,f1,lo,aC];refine S.f1 hE _ λH6 e6 =>?_;rw[he6];simp only[aC];have g6:=g5.grow e6;refine S.f2 hE (hv.mono g6.ext) hok hend' hlen λH7 e7 =>?_;obtain⟨H8,s8,l8,e8⟩:=hw (g6.grow e7);simp only[s8,l8,aC];exact hQ _ e8
theorem S.f145(hE:aX E){v:Value}{c:List bM}(hv:Rows H 4 v (bV c))(hok:iQ c)(hend:xV c)(hlen:c.length<=4096)(hQ:∀ fb H',Fil H H H' fb c []->Q (.tuple #[ptr fb 0,.agg #[vi 0,vi 0]]) H'):E.call 25 [v] H Q:=by
 apply hE.f145;have g1:=(Has.begin (Ext.refl H) (Sub.refl H)).newbox [vi 0,vi 0];have x1:Ext H (H.new (.cells [vi 0,vi 0] none)):=(Ext.refl H).new _;simp only[F.f145,aW,aC];generalize H.new (.cells [vi 0,vi 0] none)=H1 at *;generalize H.next=wb at *;refine S.f0 hE (hv.mono x1) hok hend hlen λH2 e2 =>?_;have g2:=g1.grow e2;have s2:aH 2 (ptr H2.next 0) (.agg #[vi 0,vi 0]) (H2.new (.cells [vi 0,vi 0] none))=some (H2.new (.cells [vi 0,vi 0] none)):=oB (z:=[vi 0,vi 0]) (c:=[vi 0,vi 0]) rfl rfl rfl;have l2:aE 2 (ptr H2.next 0) (H2.new (.cells [vi 0,vi 0] none))=some (.agg #[vi 0,vi 0]):=by rw[aJ,AH.get_new_self];rfl
 have hbv:aK [(0,1),(1,1)] #[vi 0,vi 0] []=some (.agg #[vi 0,vi 0]):=rfl;have hne:iE [0,0] .neq (.agg #[vi 0,vi 0]) (.agg #[vi 0,vi 0])=some (vb false):=rfl;have g3:=g2.new (.cells [vi 0,vi 0] none);simp only[aW,s2,l2,hbv,hne,aC];generalize H2.new (.cells [vi 0,vi 0] none)=H3 at *;have g4:=g3.newroom 4;have hbS:bO 0 4 #[(.int .u16 0),(.int .u8 0),(.int .u8 0),(.int .u32 0)] []=some (.cells [] none,fC 0 0):=aHh 4 [u16 0#16,u8 0#8,u8 0#8,u32 0#32] rfl;obtain⟨lv,H5,a1,a2,g5⟩:=g4.app (k:=1) (sz:=4) (v:=slc H3.next 0 0 0) (rows:=[]) (new:=bV c) (x:=v) (bytes:=8) rfl (hv.mono g4.ext) (by intro r hr;obtain⟨y,_,rfl⟩:=List.mem_map.1 hr;rfl) (by decide) (by decide) (by simp[bV];omega) (by simp[bV];omega)
 have hbv2:aK [(0,1),(1,1),(2,1)] #[(.slice none 0 0),vi 0,vi 0] [(0,lv)]=some (.agg #[lv,vi 0,vi 0]):=by
  have:=(g5.rows (k:=1) (sz:=4) (v:=lv) (rows:=[]++bV c) rfl).at_;rcases this with ⟨_,c',rfl⟩ | ⟨b,o,c',rfl,_⟩<;>rfl
 have g6:=g5.newbox [lv,vi 0,vi 0];simp only[hbS,AM.aQ,cL,a1,hbv2,aV,aR,List.toList_toArray,aC];generalize H5.new (.cells [lv,vi 0,vi 0] none)=H6 at *;generalize H5.next=fb at *;have hb6:=g6.box (k:=0) (b:=wb) (c:=[vi 0,vi 0]) rfl;have g7:=g6.put (k:=0) (b:=wb) (c:=[vi 0,vi 0]) rfl [vi 0,vi 0];have s7:aH 2 (ptr wb 0) (.agg #[vi 0,vi 0]) H6=some (H6.put wb (.cells [vi 0,vi 0] none)):=by rw[cM,hb6];rfl
 have b7:=g7.box (k:=0) (b:=wb) (c:=[vi 0,vi 0]) rfl;have l7:aE 2 (ptr wb 0) (H6.put wb (.cells [vi 0,vi 0] none))=some (.agg #[vi 0,vi 0]):=by rw[aJ,b7];rfl
 simp only[hbv,s7,l7,aC];exact hQ _ _ ⟨lv,0,0,(g7.drop 0).perm (List.Perm.swap _ _ _)⟩
end
end
section
set_option maxRecDepth 20000
abbrev Beh:=BitVec 32->BitVec 32
def aJG:Beh:=λ_=>2147483648#32
def mX(env:List (Int×Beh))(n:Int):Beh:=(bB n env).getD aJG
def nH(x:bM)(a:BitVec 32):Bool:=if x.code=21#16 then decide (a=x.k) else if x.code=37#16 then decide (x.k.toNat<a.toNat) else decide (x.k.toNat<=a.toNat)
def gD(r:aN)(p:aG)(d:List (Int×Beh)×Beh):List (Int×Beh)×Beh :=
 if p.kind=1#8 then((p.to,d.2) :: d.1,d.2)
 else if p.kind=4#8 then(d.1,mX d.1 p.to)
 else if p.kind=3#8 then(d.1,λa=>if nH p.insn a=true then mX d.1 p.to a else mX d.1 p.els a)
 else(d.1,λa=>match (cK r p.insn a).2.2 with
  | some o=>o
  | none=>d.2 (cK r p.insn a).1)
def den(r:aN)(l:List aG):List (Int×Beh)×Beh:=l.foldr (gD r) ([],aJG)
def dS(p:aG):Prop :=
 p.kind=1#8\/p.kind=4#8\/(p.kind=2#8/\((p.insn.code=32#16/\p.insn.k.toNat % 4=0/\p.insn.k.toNat<=60)\/p.insn.code=84#16\/p.insn.code=6#16)) \/
 (p.kind=3#8/\(p.insn.code=21#16\/p.insn.code=37#16\/p.insn.code=53#16))
theorem oA(r:aN)(f:Nat)(x:bM)(c:List bM)(a:BitVec 32):hO r (f+1) (x :: c) a=match (cK r x a).2.2 with
  | some o=>o
  | none=>hO r f (c.drop (cK r x a).2.1) (cK r x a).1:=rfl
theorem aKa(r:aN)(n:Nat)(hn:n<2 ^ 32)(a:BitVec 32):cK r (pS n) a=(a,n,none):=by
 have h:(pS (n:Int)).k.toNat=n:=by
  show(BitVec.ofInt 32 (n:Int)).toNat=n
  rw[BitVec.ofInt_natCast,BitVec.toNat_ofNat,Nat.mod_eq_of_lt hn]
 unfold cK;rw[h];rfl
theorem aKP(r:aN){x:bM}(hx:x.code=21#16\/x.code=37#16\/x.code=53#16)(a:BitVec 32):cK r x a=(a,if nH x a=true then x.jt.toNat else x.jf.toNat,none):=by
 unfold cK nH;rcases hx with h | h | h<;>rw[h]<;>simp
theorem uU(r:aN)(f n:Nat)(hn:n<2 ^ 32)(c:List bM)(a:BitVec 32):hO r (f+1) (pS n :: c) a=hO r f (c.drop n) a:=by
 rw[oA,aKa r n hn a]
theorem uB{x:bM}{c:List bM}(h:okI x c.length)(hc:iQ c):iQ (x :: c):=by
 intro k hk;cases k with
 | zero=>simpa using h
 | succ k =>
  have:=hc k (by simpa using hk)
  simp only[List.getElem_cons_succ,List.length_cons];have e:c.length+1 - (k+1) - 1=c.length - k - 1:=by omega
  rw[e];exact this
theorem aK8{x:bM}{c:List bM}(h:xV c):xV (x :: c):=by
 obtain⟨h0,h1⟩:=h;refine⟨by simp,?_⟩
 have:(x :: c)[(x :: c).length - 1]'(by simp)=c[c.length - 1]'(by omega):=by
  simp only[List.length_cons,Nat.add_sub_cancel];rw[List.getElem_cons,dif_neg (by omega)]
 rw[this];exact h1
theorem aLm{n m:Nat}(h:n<m)(hm:m<2 ^ 32):okI (pS n) m:=by
 refine .inr (.inr (.inl ⟨rfl,?_⟩))
 show(BitVec.ofInt 32 (n:Int)).toNat<m
 rw[BitVec.ofInt_natCast,BitVec.toNat_ofNat,Nat.mod_eq_of_lt (by omega)]
 exact h
structure sJ(r:aN)(s:MkD)(d:List (Int×Beh)×Beh):Prop where
 pos:0<s.out.length
 run:∀ f a,s.out.length<=f->hO r f s.out a=d.2 a
 places:∀ n k,bB n s.places=some k->0<k/\k<=s.out.length/\∀ f a,k<=f->hO r f (s.out.drop (s.out.length - k)) a=mX d.1 n a
 names:∀ n,(bB n s.places).isSome=(bB n d.1).isSome
 ok:iQ s.out
 end_ : xV s.out
theorem sJ.push{r:aN}{s:MkD}{d:List (Int×Beh)×Beh}(h:sJ r s d)(x:bM)(k:Beh)(hr:∀ f a,s.out.length<=f->hO r (f+1) (x :: s.out) a=k a)(hx:okI x s.out.length):sJ r ⟨x :: s.out,s.places⟩ (d.1,k):=by
 refine⟨by simp,λf a hf =>?_,λn j hj =>?_,h.names,uB hx h.ok,aK8 h.end_⟩
 ·simp only[List.length_cons]at hf
  obtain⟨f,rfl⟩:∃ g,f=g+1:=⟨f - 1,by omega⟩
  exact hr f a (by omega)
 ·obtain⟨h1,h2,h3⟩:=h.places n j hj
  refine⟨h1,by simp;omega,λf a hf =>?_⟩
  have:(x :: s.out).drop ((x :: s.out).length - j)=s.out.drop (s.out.length - j):=by
   simp only[List.length_cons];rw[show s.out.length+1 - j=(s.out.length - j)+1 by omega,List.drop_succ_cons]
  simp only[this];exact h3 f a hf
theorem sJ.away{r:aN}{s:MkD}{d:List (Int×Beh)×Beh}(h:sJ r s d){n:Int}(hs:(bB n s.places).isSome=true):∃ t:Nat,s.away n=t/\t<s.out.length/\∀ f a,s.out.length<=f+t->hO r f (s.out.drop t) a=mX d.1 n a:=by
 obtain⟨k,hk⟩:=Option.isSome_iff_exists.1 hs;obtain⟨h1,h2,h3⟩:=h.places n k hk;refine⟨s.out.length - k,?_,by omega,λf a hf=>h3 f a (by omega)⟩
 unfold MkD.away;rw[hk]
 show(s.out.length:Int) - (k:Int)=_
 omega
theorem sJ.cmp{r:aN}{s:MkD}{d:List (Int×Beh)×Beh}(h:sJ r s d)(hl:s.out.length<=4096){x:bM}(hx:x.code=21#16\/x.code=37#16\/x.code=53#16){t e:Nat}(ht:t<s.out.length)(he:e<s.out.length){kt ke:Beh}(rt:∀ f a,s.out.length<=f+t->hO r f (s.out.drop t) a=kt a)(re:∀ f a,s.out.length<=f+e->hO r f (s.out.drop e) a=ke a):
  sJ r (s.cmp0 x t e) (d.1,λa=>if nH x a=true then kt a else ke a):=by
 have hop:∀ (s:MkD) (d:List (Int×Beh)×Beh) (n:Nat),sJ r s d->n<s.out.length->s.out.length<=5000->sJ r (s.hop n) (d.1,λa=>hO r s.out.length (s.out.drop n) a):=by
  intro s d n h hn h5;refine h.push (pS n) _ (λf a hf =>?_) (aLm hn (by omega))
  rw[uU r f n (by omega)]
  have fuel:∀ (f g:Nat) (c:List bM) (a:BitVec 32),c.length<=f->c.length<=g->hO r f c a=hO r g c a:=by
   intro f
   induction f with
   | zero=>intro g c a h1 h2;have:c=[]:=List.eq_nil_of_length_eq_zero (by omega);subst this;rw[qI,qI]
   | succ f ih =>
    intro g c a h1 h2;cases c with
    | nil=>rw[qI,qI]
    | cons y c =>
     obtain⟨g,rfl⟩:∃ g',g=g'+1:=⟨g - 1,by simp at h2;omega⟩
     rw[oA,oA];cases (cK r y a).2.2 with
     | some o=>rfl
     | none=>exact ih g _ _ (by simp at h1 ⊢; omega) (by simp at h2 ⊢; omega)
  exact fuel _ _ _ _ (by rw[List.length_drop];omega) (by rw[List.length_drop];omega)
 have c8:∀ n:Nat,n<256->(BitVec.ofInt 8 (n:Int)).toNat=n:=λn hn=>by rw[BitVec.ofInt_natCast,BitVec.toNat_ofNat,Nat.mod_eq_of_lt hn]
 have near:∀ (s:MkD) (d:List (Int×Beh)×Beh) (t e:Nat) (kt ke:Beh),sJ r s d->t<256->e<256->t<s.out.length->e<s.out.length ->
   (∀ f a,s.out.length<=f->hO r f (s.out.drop t) a=kt a)->(∀ f a,s.out.length<=f->hO r f (s.out.drop e) a=ke a) ->
   sJ r (s.cmp2 x t e) (d.1,λa=>if nH x a=true then kt a else ke a):=by
  intro s d t e kt ke h t8 e8 ht he rt re;refine h.push ⟨x.code,BitVec.ofInt 8 (t:Int),BitVec.ofInt 8 (e:Int),x.k⟩ _ (λf a hf =>?_) ?_
  ·rw[oA,aKP r (x:=⟨x.code,BitVec.ofInt 8 (t:Int),BitVec.ofInt 8 (e:Int),x.k⟩) hx a]
   show hO r f (s.out.drop (if nH x a=true then(BitVec.ofInt 8 (t:Int)).toNat else(BitVec.ofInt 8 (e:Int)).toNat)) a=_
   rw[c8 t t8,c8 e e8]
   by_cases hb:nH x a=true
   ·rw[if_pos hb,if_pos hb];exact rt f a hf
   ·rw[if_neg hb,if_neg hb];exact re f a hf
  ·have j1:(BitVec.ofInt 8 (t:Int)).toNat<s.out.length:=by rw[c8 t t8];exact ht
   have j2:(BitVec.ofInt 8 (e:Int)).toNat<s.out.length:=by rw[c8 e e8];exact he
   rcases hx with h | h | h
   ·exact .inr (.inr (.inr (.inl ⟨h,j1,j2⟩)))
   ·exact .inr (.inr (.inr (.inr (.inl ⟨h,j1,j2⟩))))
   ·exact .inr (.inr (.inr (.inr (.inr (.inl ⟨h,j1,j2⟩)))))
 unfold MkD.cmp0
 by_cases h1:253<(e:Int)
 ·rw[if_pos h1]
  have s1:=hop s d e h he (by omega)
  have hlen:(s.hop e).out.length=s.out.length+1:=by simp[MkD.hop]
  unfold MkD.cmp1
  by_cases h2:253<(t:Int)+1
  ·rw[if_pos h2]
   have s2:=hop (s.hop e) _ (t+1) s1 (by omega) (by omega)
   have hlen2:((s.hop e).hop (t+1:Nat)).out.length=s.out.length+2:=by simp[MkD.hop]
   have:=near _ _ 0 1 kt ke s2 (by omega) (by omega) (by omega) (by omega)
    (λf a hf=>by
     obtain⟨f,rfl⟩:∃ g,f=g+1:=⟨f - 1,by omega⟩
     rw[List.drop_zero]
     show hO r (f+1) (pS ((t+1:Nat):Int) :: (pS (e:Int) :: s.out)) a=_
     rw[uU r f (t+1) (by omega),List.drop_succ_cons]
     exact rt f a (by omega))
    (λf a hf=>by
     obtain⟨f,rfl⟩:∃ g,f=g+1:=⟨f - 1,by omega⟩
     show hO r (f+1) (pS (e:Int) :: s.out) a=_
     rw[uU r f e (by omega)]
     exact re f a (by omega))
   exact this
  ·rw[if_neg h2]
   have:=near _ _ (t+1) 0 kt ke s1 (by omega) (by omega) (by omega) (by omega)
    (λf a hf=>by
     show hO r f ((pS (e:Int) :: s.out).drop (t+1)) a=_
     rw[List.drop_succ_cons];exact rt f a (by omega))
    (λf a hf=>by
     obtain⟨f,rfl⟩:∃ g,f=g+1:=⟨f - 1,by omega⟩
     rw[List.drop_zero]
     show hO r (f+1) (pS (e:Int) :: s.out) a=_
     rw[uU r f e (by omega)]
     exact re f a (by omega))
   exact this
 ·rw[if_neg h1]
  unfold MkD.cmp1
  by_cases h2:253<(t:Int)
  ·rw[if_pos h2]
   have s2:=hop s d t h ht (by omega)
   have hlen2:(s.hop (t:Nat)).out.length=s.out.length+1:=by simp[MkD.hop]
   have:=near _ _ 0 (e+1) kt ke s2 (by omega) (by omega) (by omega) (by omega)
    (λf a hf=>by
     obtain⟨f,rfl⟩:∃ g,f=g+1:=⟨f - 1,by omega⟩
     rw[List.drop_zero]
     show hO r (f+1) (pS (t:Int) :: s.out) a=_
     rw[uU r f t (by omega)]
     exact rt f a (by omega))
    (λf a hf=>by
     show hO r f ((pS (t:Int) :: s.out).drop (e+1)) a=_
     rw[List.drop_succ_cons];exact re f a (by omega))
   exact this
  ·rw[if_neg h2]
   exact near s d t e kt ke h (by omega) (by omega) ht he (λf a hf=>rt f a (by omega)) (λf a hf=>re f a (by omega))
end
section
set_option maxRecDepth 20000
def bT(l:List aG):List Int:=l.filterMap λp=>if p.kind=1#8 then some p.to else none
theorem fG(p:aG)(l:List aG):bT (p :: l)=if p.kind=1#8 then p.to :: bT l else bT l:=by
 unfold bT;rw[List.filterMap_cons]
 split<;>rename_i h
 ·split at h
  ·cases h
  ·rename_i h1;rw[if_neg h1]
 ·split at h
  ·rename_i h1;cases h;rw[if_pos h1]
  ·cases h
theorem mF(a b:List aG):bT (a++b)=bT a++bT b:=List.filterMap_append
theorem dZ(r:aN)(p:aG)(l:List aG):den r (p :: l)=gD r p (den r l):=rfl
theorem nV(r:aN):∀ (l:List aG) (n:Int),(bB n (den r l).1).isSome=decide (n∈bT l)
 | [],n=>by simp[den,bB,bT]
 | p :: l,n=>by
  rw[dZ,fG];unfold gD
  by_cases h1:p.kind=1#8
  ·rw[if_pos h1,if_pos h1]
   simp only[eL]
   by_cases hn:n=p.to
   ·rw[if_pos hn];simp[hn]
   ·rw[if_neg hn,nV r l n];simp[hn]
  ·rw[if_neg h1,if_neg h1]
   by_cases h4:p.kind=4#8
   ·rw[if_pos h4];exact nV r l n
   ·rw[if_neg h4]
    by_cases h3:p.kind=3#8
    ·rw[if_pos h3];exact nV r l n
    ·rw[if_neg h3];exact nV r l n
theorem aIl{r:aN}{s t:MkD}{d:List (Int×Beh)×Beh}(h:sJ r s d)(hl:s.out.length<=4096){p:aG}(hp:dS p)(e:s.part p = .inr t):sJ r t (gD r p d):=by
 unfold MkD.part at e;unfold gD
 by_cases h1:p.kind=1#8
 ·rw[if_pos h1]at e ⊢
  split at e
  ·cases e
  ·rename_i hs
   cases e;refine⟨h.pos,h.run,λn k hk =>?_,λn =>?_,h.ok,h.end_⟩
   ·simp only[dA]at hk
    unfold mX;simp only[eL]
    by_cases hn:n=p.to
    ·rw[if_pos hn]at hk ⊢
     cases hk;refine⟨h.pos,Nat.le_refl _,λf a hf =>?_⟩;rw[Nat.sub_self,List.drop_zero];exact h.run f a hf
    ·rw[if_neg hn]at hk ⊢
     exact h.places n k hk
   ·simp only[dA,eL]
    by_cases hn:n=p.to
    ·rw[if_pos hn,if_pos hn];rfl
    ·rw[if_neg hn,if_neg hn];exact h.names n
 rw[if_neg h1]at e ⊢
 by_cases h2:p.kind=2#8
 ·have h4:p.kind≠4#8:=by rw[h2];decide
  have h3:p.kind≠3#8:=by rw[h2];decide
  rw[if_pos h2]at e;rw[if_neg h4,if_neg h3]
  have hx:(p.insn.code=32#16/\p.insn.k.toNat % 4=0/\p.insn.k.toNat<=60)\/p.insn.code=84#16\/p.insn.code=6#16:=by
   rcases hp with h | h | ⟨_,h⟩ | ⟨h,_⟩
   ·exact absurd h h1
   ·exact absurd h h4
   ·exact h
   ·exact absurd h h3
  split at e
  ·cases e
  ·cases e
   have hs:∀ a,(cK r p.insn a).2.1=0:=λa=>by
    unfold cK;rcases hx with ⟨h,_⟩ | h | h<;>rw[h]<;>rfl
   refine h.push p.insn _ (λf a hf =>?_) ?_
   ·rw[oA,hs a,List.drop_zero]
    cases (cK r p.insn a).2.2 with
    | some o=>rfl
    | none=>exact h.run f _ hf
   ·rcases hx with h | h | h
    ·exact .inl h
    ·exact .inr (.inl h)
    ·exact .inr (.inr (.inr (.inr (.inr (.inr h)))))
 rw[if_neg h2]at e
 by_cases h4:p.kind=4#8
 ·rw[if_pos h4]at e ⊢
  split at e
  ·rename_i hs
   cases e;obtain⟨t,e1,e2,e3⟩:=h.away hs;rw[e1];refine h.push (pS t) _ (λf a hf =>?_) (aLm e2 (by omega))
   rw[uU r f t (by omega)]
   exact e3 f a (by omega)
  ·cases e
 rw[if_neg h4]at e ⊢
 by_cases h3:p.kind=3#8
 ·rw[if_pos h3]at e ⊢
  have hx:p.insn.code=21#16\/p.insn.code=37#16\/p.insn.code=53#16:=by
   rcases hp with h | h | ⟨h,_⟩ | ⟨_,h⟩
   ·exact absurd h h1
   ·exact absurd h h4
   ·exact absurd h h2
   ·exact h
  split at e
  ·cases e
  ·split at e
   ·cases e
   ·rename_i hs
    cases e;simp only[not_or,Bool.not_eq_false]at hs;obtain⟨t,a1,a2,a3⟩:=h.away hs.1;obtain⟨u,b1,b2,b3⟩:=h.away hs.2;rw[a1,b1];exact h.cmp hl hx a2 b2 a3 b3
 ·rw[if_neg h3]at e
  cases e
def aPJ(k:BitVec 32):aG:=bN (aMW k)
def wfL(l:List aG):Prop:=∀ a p b,l=a++p :: b->(p.kind=1#8->p.to ∉ bT b)/\(p.kind=4#8->p.to∈bT b)/\(p.kind=3#8->p.to∈bT b/\p.els∈bT b)
theorem wfL.tail{p:aG}{l:List aG}(h:wfL (p :: l)):wfL l:=λa q b e=>h (p :: a) q b (by rw[e];rfl)
theorem aF1{r:aN}{s:MkD}{d:List (Int×Beh)×Beh}(h:sJ r s d){p:aG}(hp:dS p){e:Int}(he:s.part p = .inl e){b:List aG}(hd:∀ n,(bB n d.1).isSome=decide (n∈bT b))(w:(p.kind=1#8->p.to ∉ bT b)/\(p.kind=4#8->p.to∈bT b)/\(p.kind=3#8->p.to∈bT b/\p.els∈bT b)):False:=by
 unfold MkD.part at he;rcases hp with h1 | h4 | ⟨h2,hx⟩ | ⟨h3,hx⟩
 ·rw[if_pos h1,h.names,hd]at he
  have:=w.1 h1;rw[if_neg (by simpa using this)]at he
  cases he
 ·rw[if_neg (by rw[h4];decide),if_neg (by rw[h4];decide),if_pos h4,h.names,hd,if_pos (by simpa using w.2.1 h4)]at he
  cases he
 ·rw[if_neg (by rw[h2];decide),if_pos h2,if_neg (by rcases hx with ⟨h,_⟩ | h | h<;>rw[h]<;>decide)]at he
  cases he
 ·have:=w.2.2 h3
  rw[if_neg (by rw[h3];decide),if_neg (by rw[h3];decide),if_neg (by rw[h3];decide),if_pos h3,if_neg (by rcases hx with h | h | h<;>rw[h]<;>decide),h.names,h.names,hd,hd,if_neg (by simp[this])]at he
  cases he
end
section
set_option maxRecDepth 20000
section
variable {E:Sy}{H H' H0 Z:AH}{Q:Value->AH->Prop}{X:List Res}{lw m:Nat}{s:LwD}
theorem cF(s:LwD)(p:aG):(s.put p).big=s.big+1:=by simp only[LwD.big,LwD.put,List.length_append,List.length_cons,List.length_nil];omega
theorem dY(s:LwD):s.new.big=s.big+1:=by simp only[LwD.big,LwD.new];omega
theorem aAW(s:LwD)(a:BitVec 32):(s.act a).1.big<=s.big+2:=by
 unfold LwD.act
 split
 ·exact Nat.le_add_right _ _
 ·simp only[LwD.big,List.length_append,List.length_cons,List.length_nil];omega
theorem Lw.cells(h:Lw H0 Z H lw m s X):∃ lv ov,H.get lw = .cells [lv,vi s.last,vi s.other,.map (some m),ov] none:=by
 obtain⟨lv,ov,h⟩:=h;exact⟨lv,ov,h.box (k:=0) rfl⟩
theorem eE.look_nat{r:Nat}{l:List (BitVec 32×Nat)}(h:eE u32 jT H r l)(a:BitVec 32)(ok:Bool):AM.look 0 (vi 0) ok (.map (some r)) (u32 a) H=some (if ok then .tuple #[vi ((bB a l).getD 0:Nat),.bool (bB a l).isSome] else vi ((bB a l).getD 0:Nat)):=by
 have:=h.look (kd:=0) lE a (vi 0) ok;cases hk:bB a l with
 | none=>unfold bB at hk;rw[hk]at this;rw[this];cases ok<;>rfl
 | some n=>unfold bB at hk;rw[hk]at this;rw[this];cases ok<;>rfl
theorem Lw.look(h:Lw H0 Z H lw m s X)(a:BitVec 32)(ok:Bool):AM.look 0 (vi 0) ok (.map (some m)) (u32 a) H=some (if ok then .tuple #[vi ((bB a s.acts).getD 0:Nat),.bool (bB a s.acts).isSome] else vi ((bB a s.acts).getD 0:Nat)):=by
 obtain⟨lv,ov,h⟩:=h;exact(h.mapAt (k:=2) (fk:=u32) (fv:=jT) (r:=m) (l:=s.acts) rfl).look_nat a ok
theorem S.f59(hE:aX E)(h:Lw H0 Z H lw m s X)(hb:s.big<2 ^ 29)(a:BitVec 32)(hQ:∀ H',Lw H0 Z H' lw m (s.act a).1 X->Q (vi ((s.act a).2:Nat)) H'):E.call 52 [ptr lw 0,u32 a] H Q:=by
 apply hE.f59;obtain⟨lv,ov,hbx⟩:=h.cells;have hl:=h.look a true;cases hf:bB a s.acts with
 | some n =>
  have hact:s.act a=(s,n):=by unfold LwD.act;rw[hf]
  rw[hf]at hl;rw[hact]at hQ;have hl:AM.look 0 (vi 0) true (.map (some m)) (u32 a) H=some (.tuple #[vi n,.bool true]):=hl;simp only[F.f59,hbx,hl,aC];exact hQ _ h
 | none =>
  have hact:s.act a=({ s with last:=s.last+1,acts:=fE a (s.last+1) s.acts,order:=s.order++[a] },s.last+1):=by unfold LwD.act;rw[hf]
  rw[hf]at hl;rw[hact]at hQ;have hl:AM.look 0 (vi 0) true (.map (some m)) (u32 a) H=some (.tuple #[vi (0:Nat),.bool false]):=hl;simp only[F.f59,hbx,hl,aC];refine S.f43 hE h (by omega) λH1 g =>?_
  obtain⟨lv,ov,g⟩:=g;have hb1:=g.box (k:=0) rfl;obtain⟨H2,m1,g2⟩:=g.mapset (n:=2) (r:=m) (l:=s.acts) (fk:=u32) (fv:=jT) rfl lE a (s.last+1);have m1:eO 0 (.map (some m)) (u32 a) (vi ((s.last+1:Nat):Int)) H1=some H2:=m1;have g2:Has H0 Z H2 ([bF lw [lv,vi ((s.last+1:Nat):Int),vi s.other,.map (some m),ov],aY 7 lv (bL s.parts),eU u32 jT m (fE a (s.last+1) s.acts),aY 1 ov (pC s.order)]++X):=g2;have hb2:=g2.box (k:=0) rfl;have hlen:(pC s.order).length<2 ^ 29:=by unfold LwD.big at hb;simp only[pC,List.length_map];omega
  obtain⟨v',H3,a1,a2,g3⟩:=g2.app1 (k:=3) (sz:=1) (v:=ov) (rows:=pC s.order) (bytes:=4) rfl [u32 a] rfl rfl (by decide) (by decide) (by omega)
  have hbS:bO 1 1 #[(.int .u32 0)] [(0,u32 a)]=some (.cells [u32 a] none,fC 1 1):=cX 1 [u32 0#32] [u32 a] rfl rfl;have g3:Has H0 Z H3 ([bF lw [lv,vi ((s.last+1:Nat):Int),vi s.other,.map (some m),ov],aY 7 lv (bL s.parts),eU u32 jT m (fE a (s.last+1) s.acts),aY 1 v' (pC s.order++[[u32 a]])]++X):=g3;have hb3:=g3.box (k:=0) rfl
  have hst:bD (ptr lw 4) v' H3=some (H3.put lw (.cells [lv,vi ((s.last+1:Nat):Int),vi s.other,.map (some m),v'] none)):=by
   rw[eK,if_pos a2,hb3];rfl
  have g4:=g3.put (k:=0) rfl [lv,vi ((s.last+1:Nat):Int),vi s.other,.map (some m),v'];simp only[hb1,m1,hb2,hbS,cL,AM.aQ,a1,hst,aC];refine hQ _ ⟨lv,v',?_⟩;have hr:pC (s.order++[a])=pC s.order++[[u32 a]]:=by simp[pC]
  show Has H0 Z _ (bF lw [lv,vi ((s.last+1:Nat):Int),vi s.other,.map (some m),v'] :: aY 7 lv (bL s.parts) :: eU u32 jT m (fE a (s.last+1) s.acts) :: aY 1 v' (pC (s.order++[a])) :: X)
  rw[hr];exact g4
theorem S.f65(hE:aX E)(h:Lw H0 Z H lw m s X)(hb:s.big<2 ^ 29)(c:bA)(n:Nat)(hQ:∀ H',Lw H0 Z H' lw m (s.second c n) X->Q (.tuple #[]) H'):E.call 112 [ptr lw 0,c.v,vi n] H Q:=by
 apply hE.f65;have h1:=h.newbox c.cells;simp only[F.f65,aV,AM.aQ,aR,List.toList_toArray,aC];generalize H.new (.cells c.cells none)=H1 at *;generalize H.next=t at *;refine S.f41 hE h1 (by omega) n λH2 h2 =>?_
 have hbx:=h2.box;have c0:c.cells[0]? = some (vi c.arg):=rfl;simp only[hbx,c0,aC];refine S.f100 hE c.arg false ?_;refine S.f19 hE _ λH3 e3 =>?_;have hv:∀ k,sE 32 0 0 k=(dV k).v:=λ_=>rfl;rw[hv];refine S.f45 hE (h2.grow e3) (by rw[cF];omega) _ λH4 h4 =>?_
 exact hQ _ h4.dropLast
theorem kJ(s:LwD)(c:bA)(n:Nat):(s.second c n).big=s.big+2:=by unfold LwD.second;rw[cF,cF]
end
end
section
set_option maxRecDepth 20000
section
variable {E:Sy}{H H' H0 Z:AH}{Q:Value->AH->Prop}{X:List Res}{lw m:Nat}{s:LwD}
theorem Lw.cload{t:Nat}{c:bA}(h:Lw H0 Z H lw m s (X++[bF t c.cells])):aE 4 (ptr t 0) H=some c.v:=by
 rw[aJ,h.box,cH _ _ 4 rfl];rfl
theorem S.f64(hE:aX E)(h:Lw H0 Z H lw m s X)(hb:s.big<2 ^ 28)(c:bA)(how:BitVec 16)(yes no:Nat)(hQ:∀ H',Lw H0 Z H' lw m (s.order64 c how yes no) X->Q (.tuple #[]) H'):E.call 113 [ptr lw 0,c.v,u16 how,vi yes,vi no] H Q:=by
 apply hE.f64;have h1:=h.newbox c.cells;have hb1:=AH.get_new_self H (.cells c.cells none);have c3:c.cells[3]? = some (u64 c.value):=rfl;have k32:(.int .u16 32:Value)=u16 32#16:=rfl;have k16:(.int .u16 16:Value)=u16 16#16:=rfl;have ks:aA .shr (u64 c.value) (.int .u64 32)=some (u64 (c.value >>> 32)):=aAy _ _ 32;have kh:aS .u32 (u64 (c.value >>> 32))=some (u32 (dD c.value)):=qS _;have kl:aS .u32 (u64 c.value)=some (u32 (fS c.value)):=qS _;simp only[F.f64,aV,AM.aQ,aR,List.toList_toArray,hb1,c3,ks,kh,kl,k32,k16,aC];generalize H.new (.cells c.cells none)=H1 at *;generalize H.next=t at *;refine S.f43 hE h1 (by omega) λH2 h2 =>?_
 refine S.f43 hE h2 (by rw[dY];omega) λH3 h3 =>?_
 refine S.f42 hE h3 (by simp only[dY];omega) 32#16 _ _ _ λH4 h4 =>?_
 refine S.f41 hE h4 (by simp only[dY,cF];omega) _ λH5 h5 =>?_
 refine S.f42 hE h5 (by simp only[dY,cF];omega) 16#16 _ _ _ λH6 h6 =>?_
 have b6:=h6.cload;simp only[b6,aC];refine S.f65 hE h6 (by simp only[dY,cF];omega) c _ λH7 h7 =>?_
 refine S.f42 hE h7 (by simp only[dY,cF,kJ];omega) how _ _ _ λH8 h8 =>?_
 exact hQ _ h8.dropLast
theorem aFj(s:LwD)(c:bA)(how:BitVec 16)(yes no:Nat):(s.order64 c how yes no).big=s.big+8:=by
 unfold LwD.order64;simp only[dY,cF,kJ]
theorem aGF(s:LwD)(c:bA)(next yes no:Nat):(s.condOn c next yes no).big<=s.big+8:=by
 unfold LwD.condOn
 repeat' split
 all_goals simp only[dY,cF,kJ,aFj]<;>omega
theorem aET(s:LwD)(c:bA)(yes no:Nat):(s.cond c yes no).big<=s.big+10:=by
 unfold LwD.cond;have:=aGF (s.new.put (bN (dV (eF c.arg true)))) c (s.last+1) yes no;simp only[dY,cF]at this;omega
theorem S.f62(hE:aX E)(h:Lw H0 Z H lw m s X)(hb:s.big<2 ^ 27)(c:bA)(yes no:Nat)(hQ:∀ H',Lw H0 Z H' lw m (s.cond c yes no) X->Q (.tuple #[]) H'):E.call 89 [ptr lw 0,c.v,vi yes,vi no] H Q:=by
 apply hE.f62;have h1:=h.newbox c.cells;have hb1:=AH.get_new_self H (.cells c.cells none);have c0:c.cells[0]? = some (vi c.arg):=rfl;have c1:c.cells[1]? = some (u8 c.op):=rfl;have c2:c.cells[2]? = some (u64 c.mask):=rfl;have c3:c.cells[3]? = some (u64 c.value):=rfl;have k16:(.int .u16 16:Value)=u16 16#16:=rfl;have k32:(.int .u16 32:Value)=u16 32#16:=rfl;have k48:(.int .u16 48:Value)=u16 48#16:=rfl;have q1:(.int .u8 1:Value)=u8 1#8:=rfl;have q2:(.int .u8 2:Value)=u8 2#8:=rfl;have q3:(.int .u8 3:Value)=u8 3#8:=rfl;have q4:(.int .u8 4:Value)=u8 4#8:=rfl;have q5:(.int .u8 5:Value)=u8 5#8:=rfl;have q6:(.int .u8 6:Value)=u8 6#8:=rfl;have q7:(.int .u8 7:Value)=u8 7#8:=rfl;have ks:∀ x:BitVec 64,aA .shr (u64 x) (.int .u64 32)=some (u64 (x >>> 32)):=λx=>aAy _ _ 32;have kh:∀ x:BitVec 64,aS .u32 (u64 (x >>> 32))=some (u32 (dD x)):=λx=>qS _;have kl:∀ x:BitVec 64,aS .u32 (u64 x)=some (u32 (fS x)):=λx=>qS _;simp only[F.f62,aV,AM.aQ,aR,List.toList_toArray,hb1,c3,ks,kh,kl,aC];generalize H.new (.cells c.cells none)=H1 at *;generalize H.next=t at *;refine S.f43 hE h1 (by omega) λH2 h2 =>?_
 have b2:=h2.box;simp only[b2,c0,aC];refine S.f100 hE c.arg true ?_;refine S.f19 hE _ λH3 e3 =>?_;have hv:∀ k,sE 32 0 0 k=(dV k).v:=λ_=>rfl;rw[hv];refine S.f45 hE (h2.grow e3) (by rw[dY];omega) _ λH5 h5 =>?_
 have b5:=h5.box;have l5:=h5.cload;have hbg:(s.new.put (bN (dV (eF c.arg true)))).big=s.big+2:=by simp only[dY,cF]
 have h5:Lw H0 Z H5 lw m (s.new.put (bN (dV (eF c.arg true)))) (X++[bF t c.cells]):=h5;unfold LwD.cond at hQ;generalize s.new.put (bN (dV (eF c.arg true)))=s5 at *;simp only[b5,c1,q1,eJ,aC]
 by_cases o1:c.op=1#8
 ·have hc:∀ n,s5.condOn c n yes no=((s5.put (pIf 16#16 (dD c.value) n no)).second c n).put (pIf 16#16 (fS c.value) yes no):=λn=>by unfold LwD.condOn;rw[if_pos o1]
  have hd:decide (c.op=1#8)=true:=by simpa using o1
  rw[hc]at hQ;simp only[hd,k16,aC];refine S.f42 hE h5 (by omega) 16#16 _ _ _ λH6 h6 =>?_
  have b6:=h6.cload;simp only[b6,aC];refine S.f65 hE h6 (by simp only[cF];omega) c _ λH7 h7 =>?_
  refine S.f42 hE h7 (by simp only[cF,kJ];omega) 16#16 _ _ _ λH8 h8 =>?_
  exact hQ _ h8.dropLast
 have hd1:decide (c.op=1#8)=false:=by simpa using o1
 simp only[hd1,q2,eJ,aC]
 by_cases o2:c.op=2#8
 ·have hc:∀ n,s5.condOn c n yes no=((s5.put (pIf 16#16 (dD c.value) n yes)).second c n).put (pIf 16#16 (fS c.value) no yes):=λn=>by unfold LwD.condOn;rw[if_neg o1,if_pos o2]
  have hd:decide (c.op=2#8)=true:=by simpa using o2
  rw[hc]at hQ;simp only[hd,k16,aC];refine S.f42 hE h5 (by omega) 16#16 _ _ _ λH6 h6 =>?_
  have b6:=h6.cload;simp only[b6,aC];refine S.f65 hE h6 (by simp only[cF];omega) c _ λH7 h7 =>?_
  refine S.f42 hE h7 (by simp only[cF,kJ];omega) 16#16 _ _ _ λH8 h8 =>?_
  exact hQ _ h8.dropLast
 have hd2:decide (c.op=2#8)=false:=by simpa using o2
 simp only[hd2,q5,eJ,aC]
 by_cases o5:c.op=5#8
 ·have hc:∀ n,s5.condOn c n yes no=s5.order64 c 32#16 yes no:=λn=>by unfold LwD.condOn;rw[if_neg o1,if_neg o2,if_pos o5]
  have hd:decide (c.op=5#8)=true:=by simpa using o5
  rw[hc]at hQ;simp only[hd,l5,k32,aC];exact S.f64 hE h5 (by omega) c 32#16 _ _ λH6 h6=>hQ _ h6.dropLast
 have hd5:decide (c.op=5#8)=false:=by simpa using o5
 simp only[hd5,q6,eJ,aC]
 by_cases o6:c.op=6#8
 ·have hc:∀ n,s5.condOn c n yes no=s5.order64 c 48#16 yes no:=λn=>by unfold LwD.condOn;rw[if_neg o1,if_neg o2,if_neg o5,if_pos o6]
  have hd:decide (c.op=6#8)=true:=by simpa using o6
  rw[hc]at hQ;simp only[hd,l5,k48,aC];exact S.f64 hE h5 (by omega) c 48#16 _ _ λH6 h6=>hQ _ h6.dropLast
 have hd6:decide (c.op=6#8)=false:=by simpa using o6
 simp only[hd6,q3,eJ,aC]
 by_cases o3:c.op=3#8
 ·have hc:∀ n,s5.condOn c n yes no=s5.order64 c 48#16 no yes:=λn=>by unfold LwD.condOn;rw[if_neg o1,if_neg o2,if_neg o5,if_neg o6,if_pos o3]
  have hd:decide (c.op=3#8)=true:=by simpa using o3
  rw[hc]at hQ;simp only[hd,l5,k48,aC];exact S.f64 hE h5 (by omega) c 48#16 _ _ λH6 h6=>hQ _ h6.dropLast
 have hd3:decide (c.op=3#8)=false:=by simpa using o3
 simp only[hd3,q4,eJ,aC]
 by_cases o4:c.op=4#8
 ·have hc:∀ n,s5.condOn c n yes no=s5.order64 c 32#16 no yes:=λn=>by unfold LwD.condOn;rw[if_neg o1,if_neg o2,if_neg o5,if_neg o6,if_neg o3,if_pos o4]
  have hd:decide (c.op=4#8)=true:=by simpa using o4
  rw[hc]at hQ;simp only[hd,l5,k32,aC];exact S.f64 hE h5 (by omega) c 32#16 _ _ λH6 h6=>hQ _ h6.dropLast
 have hd4:decide (c.op=4#8)=false:=by simpa using o4
 simp only[hd4,q7,eJ,aC]
 by_cases o7:c.op=7#8
 ·have hc:∀ n,s5.condOn c n yes no=((((s5.put (bN (rW (dD c.mask)))).put (pIf 16#16 (dD c.value) n no)).second c n).put (bN (rW (fS c.mask)))).put (pIf 16#16 (fS c.value) yes no):=λn=>by unfold LwD.condOn;rw[if_neg o1,if_neg o2,if_neg o5,if_neg o6,if_neg o3,if_neg o4,if_pos o7]
  have hd:decide (c.op=7#8)=true:=by simpa using o7
  have hm:∀ k,sE 84 0 0 k=(rW k).v:=λ_=>rfl;rw[hc]at hQ;simp only[hd,b5,c2,ks,kh,aC];refine S.f20 hE _ λH6 e6 =>?_;rw[hm];refine S.f45 hE (h5.grow e6) (by omega) _ λH7 h7 =>?_
  simp only[k16,aC];refine S.f42 hE h7 (by simp only[cF];omega) 16#16 _ _ _ λH8 h8 =>?_
  have b8:=h8.cload;simp only[b8,aC];refine S.f65 hE h8 (by simp only[cF];omega) c _ λH9 h9 =>?_
  have b9:=h9.box;simp only[b9,c2,kl,aC];refine S.f20 hE _ λH10 e10 =>?_;rw[hm];refine S.f45 hE (h9.grow e10) (by simp only[cF,kJ];omega) _ λH11 h11 =>?_
  simp only[k16,aC];refine S.f42 hE h11 (by simp only[cF,kJ];omega) 16#16 _ _ _ λH12 h12 =>?_
  exact hQ _ h12.dropLast
 have hd7:decide (c.op=7#8)=false:=by simpa using o7
 have hc:∀ n,s5.condOn c n yes no=s5.put (pN no):=λn=>by unfold LwD.condOn;rw[if_neg o1,if_neg o2,if_neg o5,if_neg o6,if_neg o3,if_neg o4,if_neg o7]
 rw[hc]at hQ;simp only[hd7,aC];exact S.f40 hE h5 (by omega) no λH6 h6=>hQ _ h6.dropLast
end
end
section
set_option maxRecDepth 20000
def wC(b:dK):Nat:=12*b.conds.length+5
def wB(l:List dK):Nat:=(l.map wC).sum+1
section
variable {E:Sy}{H H' H0 Z:AH}{Q:Value->AH->Prop}{X:List Res}{lw m:Nat}{s:LwD}
theorem Ext.row(e:Ext H H'){b o n:Nat}{c:List Value}(hr:(H.get b).row o n=some c):(H'.get b).row o n=some c:=by
 have:H'.get b=H.get b:=e.obj (o:=H.get b) (λhd=>by rw[hd]at hr;cases hr) rfl
 rw[this];exact hr
theorem aGX(no:Nat)(l:List bA)(s:LwD){j:Nat}(hj:j<l.length):LwD.conds no (l.take (j+1)) s=LwD.condStep no (LwD.conds no (l.take j) s) l[j]:=by
 unfold LwD.conds;rw[List.take_succ,List.getElem?_eq_getElem hj,List.foldl_append];rfl
theorem uT(no:Nat):∀ (l:List bA) (s:LwD),(LwD.conds no l s).big<=s.big+12*l.length
 | [],s=>by simp[LwD.conds]
 | c :: l,s=>by
  have h1:=uT no l (LwD.condStep no s c)
  have h2:(LwD.condStep no s c).big<=s.big+12:=by
   unfold LwD.condStep;have:=aET s.new c (s.last+1) no;simp only[cF,dY]at *;omega
  show(LwD.conds no l (LwD.condStep no s c)).big<=_
  simp only[List.length_cons];omega
theorem aB8(s:LwD)(b:dK):(s.branch b).big<=s.big+wC b:=by
 unfold LwD.branch wC;have h1:=uT (s.last+1) b.conds s.new;have h2:=aAW (LwD.conds (s.last+1) b.conds s.new) b.action;simp only[cF,dY]at *;omega
theorem zA:∀ (l:List dK) (s:LwD),(l.foldl LwD.branch s).big<=s.big+(l.map wC).sum
 | [],s=>by simp
 | b :: l,s=>by
  have h1:=zA l (s.branch b);have h2:=aB8 s b;simp only[List.foldl_cons,List.map_cons,List.sum_cons];omega
theorem aEE(l:List dK)(s:LwD):(LwD.branches l s).big<=s.big+wB l:=by
 unfold LwD.branches wB;have:=zA l s;simp only[cF];omega
theorem aFB(hE:aX E){b:dK}{cv:Value}(hv:Rows H0 4 cv (gI b.conds)){tb:Nat}(h:Lw H0 Z H lw m s (X++[bF tb [cv,u32 b.action]]))(hb:s.big+12*b.conds.length<2 ^ 25)(no:Nat)(hl:b.conds.length<2 ^ 30){t10:Value}{ln j:Nat}(hj:j<2 ^ 30){X0:List Value->AH->Prop}(next:∀ H',Lw H0 Z H' lw m ((((LwD.conds no b.conds s).act b.action).1.put (pN ((LwD.conds no b.conds s).act b.action).2)).put (cP no)) X->X0 [ptr lw 0,t10,vi ln,vi ((j+1:Nat):Int)] H'):
  lp9 (F.f60_l2 E Q X0) [ptr lw 0,ptr tb 0,vi no,t10,vi ln,vi j,cv,vi b.conds.length,vi 0] H:=by
 have i0:vi 0=vi ((0:Nat):Int):=rfl;rw[i0];refine aZ.count b.conds.length (λk ls H'=>ls=[ptr lw 0,ptr tb 0,vi no,t10,vi ln,vi j,cv,vi b.conds.length,vi k]/\Lw H0 Z H' lw m (LwD.conds no (b.conds.take k) s) (X++[bF tb [cv,u32 b.action]])) ?_ ⟨rfl,by simpa[LwD.conds] using h⟩
 rintro k _ H1 X1 hk ih ⟨rfl,g⟩;rcases Nat.lt_or_ge k b.conds.length with hlt | hge
 ·have hc:=hv.mono g.ext
  obtain⟨bb,o,f1,f2⟩:=hc.ix (i:=k) (by simpa[gI] using hlt)
  have hrow:(gI b.conds)[k]'(by simpa[gI] using hlt)=b.conds[k].cells:=by simp[gI]
  rw[hrow]at f2;have lo:aE 4 (ptr bb o) H1=some b.conds[k].v:=by rw[aJ,f2];rfl
  have hlt':(k:Int)<b.conds.length:=by omega
  have hbg:=uT no (b.conds.take k) s;have hln:(b.conds.take k).length=k:=by rw[List.length_take];omega
  rw[hln]at hbg;have hnext:=aGX no b.conds s hlt;have hinc:=bE (i:=k) (by omega)
  generalize b.conds[k]=c at *;generalize LwD.conds no (b.conds.take k) s=s1 at *;have g1:=g.newbox c.cells;have hst:=oC c H1;simp only[F.f60_l2,aF,hlt',decide_true,f1,lo,aW,hst,aC];generalize H1.new (.cells c.cells none)=H2 at *;generalize H1.next=t at *;refine S.f43 hE g1 (by omega) λH3 g2 =>?_
  have l2:=g2.cload;simp only[l2,aC];refine S.f62 hE g2 (by simp only[dY];omega) c _ _ λH4 g3 =>?_
  have hb4:=aET s1.new c (s1.last+1) no;simp only[dY]at hb4;simp only[aC];refine S.f41 hE g3 (by omega) _ λH5 g4 =>?_
  simp only[hinc,aC];refine ih hlt _ _ ⟨rfl,?_⟩;rw[hnext];exact g4.dropLast
 ·have hke:k=b.conds.length:=by omega
  subst hke;rw[List.take_length]at g;have hlt':¬ ((b.conds.length:Int)<b.conds.length):=by omega
  have hbg:=uT no b.conds s;have hbx:=g.box;have hinc:=bE (i:=j) (by omega)
  generalize LwD.conds no b.conds s=s1 at *;simp only[F.f60_l2,aF,hlt',decide_false,hbx,aC];refine S.f59 hE g (by omega) _ λH2 g2 =>?_
  have hb2:=aAW s1 b.action;refine S.f40 hE g2 (by omega) _ λH3 g3 =>?_
  simp only[aC];refine S.f41 hE g3 (by simp only[cF];omega) _ λH4 g4 =>?_
  simp only[hinc,aC];exact next _ g4.dropLast
theorem S.f60(hE:aX E){l:List dK}{v:Value}(hv:cO (gC 0) H0 2 v l)(h:Lw H0 Z H lw m s X)(hb:s.big+wB l<2 ^ 25)(hl:l.length<2 ^ 30)(hQ:∀ H',Lw H0 Z H' lw m (LwD.branches l s) X->Q (.tuple #[]) H'):E.call 59 [ptr lw 0,v] H Q:=by
 apply hE.f60;have i0:vi 0=vi ((0:Nat):Int):=rfl;have hlv:=hv.lenSlc;simp only[F.f60,hlv,i0,aC];refine aZ.count l.length (λk ls H'=>ls=[ptr lw 0,v,vi l.length,vi k]/\Lw H0 Z H' lw m ((l.take k).foldl LwD.branch s) X) ?_ ⟨rfl,by simpa using h⟩
 rintro k _ H1 X1 hk ih ⟨rfl,g⟩;have hbg:=zA (l.take k) s;rcases Nat.lt_or_ge k l.length with hlt | hge
 ·obtain⟨bb,o,cs,f1,f2,f3⟩:=hv.ix hlt
  have f2:=g.ext.row f2;obtain⟨f0,cv,rfl,f5,_⟩:=f3;have hcv:plain1 cv=true:=f5.plain;have lo:aE 2 (ptr bb o) H1=some (.agg [cv,u32 l[k].action].toArray):=by rw[aJ,f2];rfl
  have hlt':(k:Int)<l.length:=by omega
  have hsum:((l.take k).map wC).sum+wC l[k]<=(l.map wC).sum:=by
   have h1:l=l.take k++l[k] :: l.drop (k+1):=by rw[List.getElem_cons_drop,List.take_append_drop]
   conv=>rhs;rw[h1]
   simp only[List.map_append,List.map_cons,List.sum_append,List.sum_cons];omega
  have hstep:(l.take (k+1)).foldl LwD.branch s=((l.take k).foldl LwD.branch s).branch l[k]:=by
   rw[List.take_succ,List.getElem?_eq_getElem hlt,List.foldl_append];rfl
  have hbr:=aB8 ((l.take k).foldl LwD.branch s) l[k];unfold wB at hb;generalize l[k]=b at *;generalize (l.take k).foldl LwD.branch s=s1 at *;have hst:aH 2 (ptr H1.next 0) (.agg [cv,u32 b.action].toArray) (H1.new (.cells [(.slice none 0 0),(.int .u32 0)] none))=some (H1.new (.cells [cv,u32 b.action] none)):=oB rfl rfl (by simp[hcv])
  have g1:=g.newbox [cv,u32 b.action];simp only[F.f60_l1,aF,hlt',decide_true,f1,lo,aW,hst,aC];generalize H1.new (.cells [cv,u32 b.action] none)=H2 at *;generalize H1.next=t at *;have hwc:wC b=12*b.conds.length+5:=rfl;rw[hwc]at hsum hbr;refine S.f43 hE g1 (by omega) λH3 g2 =>?_
  have b3:=g2.box;have hcl:=f5.lenSlc;have hcl2:(gI b.conds).length=b.conds.length:=by simp[gI]
  rw[hcl2]at hcl;simp only[b3,hcl,aC];refine aFB hE f5 g2 (by simp only[dY];omega) _ f0 (by omega) λH4 g3 =>?_
  refine ih hlt _ _ ⟨rfl,?_⟩;rw[hstep];exact g3
 ·have hke:k=l.length:=by omega
  subst hke;rw[List.take_length]at g hbg;have hlt':¬ ((l.length:Int)<l.length):=by omega
  obtain⟨lv,ov,hbx⟩:=g.cells;unfold wB at hb;unfold LwD.branches at hQ;simp only[F.f60_l1,aF,hlt',decide_false,hbx,aC];exact S.f40 hE g (by omega) _ hQ
end
end
section
set_option maxRecDepth 20000
section
variable {E:Sy}{H H' H0 Z:AH}{Q:Value->AH->Prop}{X:List Res}{lw m:Nat}{s:LwD}
theorem cO.cut{α:Type}{R:AH->α->List Value->Prop}{sz:Nat}{v:Value}{l:List α}(h:cO R H sz v l){lo hi:Option Value}{i j:Nat}(hlo:lo=some (vi i)\/lo=none/\i=0)(hhi:hi=some (vi j)\/hi=none/\j=l.length)(hij:i<=j)(hj:j<=l.length):
  cO R H sz (oJ sz v i j) ((l.take j).drop i):=by
 obtain⟨rows,h1,h2,h3⟩:=h;obtain⟨a,b⟩:=h1.slice' (lo:=some (vi i)) (hi:=some (vi j)) (.inl rfl) (.inl rfl) hij (by omega)
 refine⟨_,b,by simp[h2],λk k1 k2 =>?_⟩
 simp only[List.getElem_drop,List.getElem_take];exact h3 _ _ _
theorem cO.sl{α:Type}{R:AH->α->List Value->Prop}{sz:Nat}{v:Value}{l:List α}(h:cO R H0 sz v l)(hm:∀ (H H':AH) (a:α) (c:List Value),R H a c->Sub H H'->R H' a c)(e:Ext H0 H){lo hi:Option Value}{i j:Nat}(hlo:lo=some (vi i)\/lo=none/\i=0)(hhi:hi=some (vi j)\/hi=none/\j=l.length)(hij:i<=j)(hj:j<=l.length):
  kV sz v lo hi none H=some (oJ sz v i j):=by
 obtain⟨rows,h1,h2,h3⟩:=h.sub hm e.sub;exact(h1.slice' hlo (by rw[h2];exact hhi) hij (by omega)).1
theorem gJ.sub':∀ (H H':AH) (a:cV) (c:List Value),gJ 0 H a c->Sub H H'->gJ 0 H' a c:=λ_ _ _ _ h e=>h.sub e
theorem yR{l:List cV}{k:Nat}(hk:k<l.length):rX l k=l[k].number:=by simp[rX,hk]
theorem oL(st:List (BitVec 32×Nat)):∀ (f:Nat) (l:List cV) (s:LwD),l.length<f->(LwD.choose st f l s).big+(if l.length=0 then 0 else 6)<=s.big+7*l.length+1
 | 0,l,s,h=>by omega
 | f+1,l,s,h=>by
  unfold LwD.choose
  split
  ·rename_i h0
   rw[cF];omega
  ·rename_i h0
   split
   ·rw[cF];omega
   ·have h1:=oL st f (l.take (l.length / 2)) ((s.new.new.put (pIf 48#16 (rX l (l.length / 2)) (s.last+2) (s.last+1))).put (cP (s.last+1))) (by rw[List.length_take];omega)
    have h2:=oL st f (l.drop (l.length / 2)) ((LwD.choose st f (l.take (l.length / 2)) ((s.new.new.put (pIf 48#16 (rX l (l.length / 2)) (s.last+2) (s.last+1))).put (cP (s.last+1)))).put (cP (s.last+2))) (by rw[List.length_drop];omega)
    rw[if_neg (by rw[List.length_take];omega),List.length_take]at h1
    rw[if_neg (by rw[List.length_drop];omega),List.length_drop]at h2
    simp only[cF,dY]at *;omega
theorem S.f61(hE:aX E){st:List (BitVec 32×Nat)}{sm:Nat}:∀ (f:Nat) {l:List cV} {v:Value} {s:LwD} {H:AH} {Q:Value->AH->Prop},l.length<f->cO (gJ 0) H0 2 v l->Lw H0 Z H lw m s (eU u32 jT sm st :: X)->s.big+7*l.length+1<2 ^ 25 ->
  (∀ H',Lw H0 Z H' lw m (LwD.choose st f l s) (eU u32 jT sm st :: X)->Q (.tuple #[]) H')->E.call 58 [ptr lw 0,v,.map (some sm)] H Q
 | 0,_,_,_,_,_,hf,_,_,_,_=>by omega
 | f+1,l,v,s,H,Q,hf,hv,h,hb,hQ=>by
  apply hE.f61;have hlv:=hv.lenSlc;have i0:vi 0=vi ((0:Nat):Int):=rfl;have i1:(.int .i64 1:Value)=vi ((1:Nat):Int):=rfl;obtain⟨lv,ov,hbx⟩:=h.cells;have k16:(.int .u16 16:Value)=u16 16#16:=rfl;have k48:(.int .u16 48:Value)=u16 48#16:=rfl;unfold LwD.choose at hQ;simp only[F.f61,hlv,i0,cZ,aC]
  by_cases h0:l.length=0
  ·have hd:decide ((l.length:Int)=((0:Nat):Int))=true:=decide_eq_true (by omega)
   rw[if_pos h0]at hQ;simp only[hd,hbx,aC];exact S.f40 hE h (by omega) _ hQ
  have hd0:decide ((l.length:Int)=((0:Nat):Int))=false:=decide_eq_false (by omega)
  rw[if_neg h0]at hQ;simp only[hd0,i1,cZ,aC]
  by_cases h1:l.length=1
  ·have hd:decide ((l.length:Int)=((1:Nat):Int))=true:=decide_eq_true (by omega)
   rw[if_pos h1,yR (by omega)]at hQ
   obtain⟨bb,o,cs,f1,f2,f3⟩:=hv.ix (i:=0) (by omega)
   have f2:=h.ext.row f2;have f1:aI 2 v (vi 0)=some (ptr bb o):=f1;obtain⟨bv,rfl,_⟩:=f3;have hce:((H.get bb).cell o)=some (u32 l[0].number):=by have:=lD f2 (j:=0) (by omega);simpa using this
   have hlk:AM.look 0 (vi 0) false (.map (some sm)) (u32 l[0].number) H=some (vi (jW l[0].number st:Nat)):=by
    obtain⟨lv,ov,h⟩:=h;exact(h.mapAt (k:=4) (fk:=u32) (fv:=jT) (r:=sm) (l:=st) rfl).look_nat l[0].number false
   simp only[hd,f1,hce,hlk,hbx,k16,aC];exact S.f42 hE h (by omega) 16#16 _ _ _ hQ
  have hd1:decide ((l.length:Int)=((1:Nat):Int))=false:=decide_eq_false (by omega)
  rw[if_neg h1]at hQ;have hq:=mQ l.length 2 (by decide) (by omega)
  have hhl:l.length / 2<l.length:=by omega
  have hcl:(l.take (l.length / 2)).length=l.length / 2:=by rw[List.length_take];omega
  have hcr:(l.drop (l.length / 2)).length=l.length - l.length / 2:=by rw[List.length_drop]
  rw[yR hhl]at hQ;obtain⟨bb,o,cs,f1,f2,f3⟩:=hv.ix (i:=l.length / 2) hhl;obtain⟨bv,rfl,_⟩:=f3;have hlow:=hv.cut (lo:=none) (hi:=some (vi (l.length / 2:Nat))) (i:=0) (j:=l.length / 2) (.inr ⟨rfl,rfl⟩) (.inl rfl) (Nat.zero_le _) (by omega)
  have hhigh:=hv.cut (lo:=some (vi (l.length / 2:Nat))) (hi:=none) (i:=l.length / 2) (j:=l.length) (.inl rfl) (.inr ⟨rfl,rfl⟩) (by omega) (Nat.le_refl _)
  have slow:∀ {H1:AH},Ext H0 H1->kV 2 v none (some (vi (l.length / 2:Nat))) none H1=some (oJ 2 v 0 (l.length / 2)):=λe=>hv.sl gJ.sub' e (.inr ⟨rfl,rfl⟩) (.inl rfl) (Nat.zero_le _) (by omega)
  have shigh:∀ {H1:AH},Ext H0 H1->kV 2 v (some (vi (l.length / 2:Nat))) none none H1=some (oJ 2 v (l.length / 2) l.length):=λe=>hv.sl gJ.sub' e (.inl rfl) (.inr ⟨rfl,rfl⟩) (by omega) (Nat.le_refl _)
  rw[List.drop_zero]at hlow;rw[List.take_length]at hhigh;have hbg:=oL st f (l.take (l.length / 2)) ((s.new.new.put (pIf 48#16 l[l.length / 2].number (s.last+2) (s.last+1))).put (cP (s.last+1))) (by omega)
  generalize hhf:l.length / 2=aBD at *;simp only[hd1,hlv,hq,aC];refine S.f43 hE h (by omega) λH3 g3 =>?_
  refine S.f43 hE g3 (by rw[dY];omega) λH4 g4 =>?_
  have f2:=g4.ext.row f2;have hce:((H4.get bb).cell o)=some (u32 l[aBD].number):=by have:=lD f2 (j:=0) (by omega);simpa using this
  simp only[f1,hce,k48,aC];refine S.f42 hE g4 (by simp only[dY];omega) 48#16 _ _ _ λH5 g5 =>?_
  refine S.f41 hE g5 (by simp only[dY,cF];omega) _ λH6 g6 =>?_
  have sl6:=slow g6.ext;simp only[sl6,aC];refine S.f61 hE f (by omega) hlow g6 (by simp only[dY,cF];omega) λH7 g7 =>?_
  simp only[aC];have hlow0:(l.take aBD).length≠0:=by omega
  rw[if_neg hlow0]at hbg;simp only[dY,cF]at hbg;refine S.f41 hE g7 (by show _<_;exact Nat.lt_of_le_of_lt (Nat.le_trans (Nat.le_add_right _ 6) hbg) (by omega)) _ λH8 g8 =>?_
  have sl8:=shigh g8.ext;simp only[sl8,aC];refine S.f61 hE f (by omega) hhigh g8 (by rw[cF];exact Nat.lt_of_le_of_lt (Nat.add_le_add_right (Nat.add_le_add_right (Nat.add_le_add_right (Nat.le_sub_of_add_le hbg) 1) _) 1) (by omega)) hQ
end
end
section
set_option maxRecDepth 20000
section
variable {E:Sy}{H H' H0 Z:AH}{Q:Value->AH->Prop}{X:List Res}{lw m:Nat}{s:LwD}
theorem yL:∀ (l:List (BitVec 32)) (A:List (BitVec 32×Nat)) (s:LwD),(l.foldl (LwD.end1 A) s).big=s.big+2*l.length
 | [],_,s=>by simp
 | a :: l,A,s=>by
  rw[List.foldl_cons,yL l A _];simp only[LwD.end1,cF,List.length_cons];omega
theorem S.f63(hE:aX E)(h:Lw H0 Z H lw m s X)(hb:s.big<2 ^ 26)(hQ:∀ H',Lw H0 Z H' lw m s.ends X->Q (.tuple #[]) H'):E.call 60 [ptr lw 0] H Q:=by
 apply hE.f63;obtain⟨lv,ov,h⟩:=h;have hbx:=h.box (k:=0) rfl;have hrw:=h.rows (k:=3) (sz:=1) (v:=ov) (rows:=pC s.order) rfl;have hlen:(pC s.order).length=s.order.length:=by simp[pC]
 have hlv:=hrw.lenSlc;rw[hlen]at hlv;have i0:vi 0=vi ((0:Nat):Int):=rfl;simp only[F.f63,hbx,hlv,i0,aC];refine aZ.count s.order.length (λk ls H'=>ls=[ptr lw 0,ov,vi s.order.length,vi k]/\∃ s1,s1=(s.order.take k).foldl (LwD.end1 s.acts) s/\s1.acts=s.acts/\s1.order=s.order/\LwO H0 Z H' lw m ov s1 X) ?_ ⟨rfl,s,by simp,rfl,rfl,lv,h⟩
 rintro k _ H1 X1 hk ih ⟨rfl,s1,hs1,ha,ho,lv1,g⟩;have hob:s.order.length<=s.big:=by unfold LwD.big;omega
 rcases Nat.lt_or_ge k s.order.length with hlt | hge
 ·have hlt':(k:Int)<s.order.length:=by omega
  have hbg:=yL (s.order.take k) s.acts s;rw[<- hs1,List.length_take]at hbg;have hrw:=g.rows (k:=3) (sz:=1) (v:=ov) (rows:=pC s1.order) rfl;rw[ho]at hrw;obtain⟨bb,o,f1,f2⟩:=hrw.ix (i:=k) (by omega)
  have hrow:(pC s.order)[k]'(by omega)=[u32 s.order[k]]:=by simp[pC]
  rw[hrow]at f2;have hce:((H1.get bb).cell o)=some (u32 s.order[k]):=by have:=lD f2 (j:=0) (by omega);simpa using this
  have hb1:=g.box (k:=0) rfl
  have hlk:AM.look 0 (vi 0) false (.map (some m)) (u32 s.order[k]) H1=some (vi (jW s.order[k] s.acts:Nat)):=by
   have:=(g.mapAt (k:=2) (fk:=u32) (fv:=jT) (r:=m) (l:=s1.acts) rfl).look_nat s.order[k] false;rw[ha]at this;exact this
  have hstep:(s.order.take (k+1)).foldl (LwD.end1 s.acts) s=LwD.end1 s.acts s1 s.order[k]:=by
   rw[List.take_succ,List.getElem?_eq_getElem hlt,List.foldl_append,<- hs1];rfl
  have hinc:=bE (i:=k) (by omega)
  generalize s.order[k]=a at *;simp only[F.f63_l1,aF,hlt',decide_true,f1,hce,hb1,hlk,aC];refine aON hE ⟨lv1,g⟩ (by omega) _ λH2 g2 =>?_
  simp only[aC];refine S.f21 hE a λH3 e3 =>?_;have hv:sE 6 0 0 a=(aMW a).v:=rfl;rw[hv];refine aM0 hE (g2.grow e3) (by rw[cF];omega) _ λH4 g4 =>?_
  simp only[hinc,aC];exact ih hlt _ _ ⟨rfl,_,hstep.symm,ha,ho,g4⟩
 ·have hke:k=s.order.length:=by omega
  subst hke;rw[List.take_length]at hs1;have hlt':¬ ((s.order.length:Int)<s.order.length):=by omega
  simp only[F.f63_l1,aF,hlt',decide_false,aC];refine hQ _ ⟨lv1,ov,?_⟩;unfold LwD.ends;rw[<- hs1];exact g
theorem S.f44(hE:aX E)(h:Lw H0 Z H lw m s X)(hb:s.big<2 ^ 30)(hQ:∀ v H',Ext H0 H'->Rows H' 7 v (bL s.parts)->Q v H'):E.call 61 [ptr lw 0] H Q:=by
 apply hE.f44;obtain⟨lv,ov,h⟩:=h;have g:=h.newroom 7;have hbx:=g.box (k:=0) (b:=lw) (c:=[lv,vi s.last,vi s.other,.map (some m),ov]) rfl;have hrw:=g.rows (k:=1) (sz:=7) (v:=lv) (rows:=bL s.parts) rfl;have hlen:(bL s.parts).length<2 ^ 30:=by unfold LwD.big at hb;simp only[bL,List.length_map];omega
 have hbS:bO 0 7 #[(.int .u8 0),vi 0,vi 0,(.int .u16 0),(.int .u8 0),(.int .u8 0),(.int .u32 0)] []=some (.cells [] none,fC 0 0):=aHh 7 [u8 0#8,vi 0,vi 0,u16 0#16,u8 0#8,u8 0#8,u32 0#32] rfl
 have hk:(lwL lw m lv ov s++X++[aY 7 (slc H.next 0 0 0) []])[4+X.length]? = some (aY 7 (slc H.next 0 0 0) []):=by
  have hll:(lwL lw m lv ov s++X).length=4+X.length:=by rw[List.length_append];rfl
  rw[List.getElem?_append_right (by omega),hll,Nat.sub_self];rfl
 obtain⟨v',H3,a1,a2,g2⟩:=g.app (k:=4+X.length) (bytes:=32) hk hrw (by simp[bL,aG.cells]) (by decide) (by decide) (by simp;omega) (by simp;omega)
 simp only[F.f44,iC,hbS,AM.aQ,cL,hbx,a1,aC]
 have hl4:4+X.length<(lwL lw m lv ov s++X++[aY 7 (slc H.next 0 0 0) []]).length:=by
  have hll:(lwL lw m lv ov s++X).length=4+X.length:=by rw[List.length_append];rfl
  rw[List.length_append,hll];simp
 refine hQ _ _ g2.ext (g2.rows (k:=4+X.length) (sz:=7) ?_);rw[List.getElem?_set_self hl4,List.nil_append]
end
end
section
set_option maxRecDepth 20000
def wK(c:cV):Nat:=wB c.branches+1
def wP(p:iJ):Nat:=20+8*p.cases.length+(p.cases.map wK).sum
section
variable {E:Sy}{H H' H0 Z:AH}{Q:Value->AH->Prop}{X:List Res}{lw m:Nat}{s:LwD}
theorem rD:∀ (l:List cV) (x:LwD×List (BitVec 32×Nat)),(LwD.starts l x).1.big=x.1.big+l.length
 | [],x=>by simp[LwD.starts]
 | c :: l,x=>by
  show(LwD.starts l (LwD.start1 x c)).1.big=_
  rw[rD l];simp only[LwD.start1,dY,List.length_cons];omega
theorem aIs(st:List (BitVec 32×Nat))(s:LwD)(c:cV):(LwD.case1 st s c).big<=s.big+wK c:=by
 unfold LwD.case1 wK;have:=aEE c.branches (s.put (cP (jW c.number st)));rw[cF]at this;omega
theorem uD(st:List (BitVec 32×Nat)):∀ (l:List cV) (s:LwD),(LwD.cases st l s).big<=s.big+(l.map wK).sum
 | [],s=>by simp[LwD.cases]
 | c :: l,s=>by
  have h1:=uD st l (LwD.case1 st s c);have h2:=aIs st s c
  show(LwD.cases st l (LwD.case1 st s c)).big<=_
  simp only[List.map_cons,List.sum_cons];omega
theorem aLp(s:LwD)(n:Nat):(s.setO n).big=s.big:=rfl
theorem aFH(d:BitVec 32):(uY d).big<=2:=by
 unfold uY;have h1:=aAW LwD.zero d;have h0:LwD.zero.big=0:=rfl;rw[aLp];omega
theorem aF2(d:BitVec 32):(low2 d).1.big<=4:=by
 unfold low2;have h1:=aAW (uY d) 2147483648#32;have h0:=aFH d;omega
theorem aBx(d:BitVec 32):(lower0 d).big<=8:=by
 unfold lower0;have h1:=aF2 d;simp only[cF,dY];omega
theorem Lw.mapset{st:List (BitVec 32×Nat)}{sm:Nat}(h:Lw H0 Z H lw m s (eU u32 jT sm st :: X))(k:BitVec 32)(v:Nat):∃ H',eO 0 (.map (some sm)) (u32 k) (vi v) H=some H'/\Lw H0 Z H' lw m s (eU u32 jT sm (fE k v st) :: X):=by
 obtain⟨lv,ov,h⟩:=h;obtain⟨H2,m1,g2⟩:=h.mapset (n:=4) (r:=sm) (l:=st) (fk:=u32) (fv:=jT) rfl lE k v;exact⟨H2,m1,lv,ov,g2⟩
theorem Lw.look2{st:List (BitVec 32×Nat)}{sm:Nat}(h:Lw H0 Z H lw m s (eU u32 jT sm st :: X))(k:BitVec 32):AM.look 0 (vi 0) false (.map (some sm)) (u32 k) H=some (vi (jW k st:Nat)):=by
 obtain⟨lv,ov,h⟩:=h;exact(h.mapAt (k:=4) (fk:=u32) (fv:=jT) (r:=sm) (l:=st) rfl).look_nat k false
theorem Lw.setOther(h:Lw H0 Z H lw m s X)(n:Nat):∃ H',bD (ptr lw 2) (vi n) H=some H'/\Lw H0 Z H' lw m (s.setO n) X:=by
 obtain⟨lv,ov,h⟩:=h;have hbx:=h.box (k:=0) rfl
 have hst:bD (ptr lw 2) (vi n) H=some (H.put lw (.cells [lv,vi s.last,vi n,.map (some m),ov] none)):=by
  rw[eK,if_pos (show plain1 (vi n)=true from rfl),hbx];rfl
 exact⟨_,hst,lv,ov,h.put (k:=0) rfl [lv,vi s.last,vi n,.map (some m),ov]⟩
theorem aE1{α:Type}(f:α->Nat){l:List α}{k:Nat}(hk:k<l.length):((l.take k).map f).sum+f l[k]<=(l.map f).sum:=by
 have h1:l=l.take k++l[k] :: l.drop (k+1):=by rw[List.getElem_cons_drop,List.take_append_drop]
 conv=>rhs;rw[h1]
 simp only[List.map_append,List.map_cons,List.sum_append,List.sum_cons];omega
theorem aKM(hE:aX E){l:List cV}{v:Value}(hv:cO (gJ 0) H0 2 v l)(hl:l.length<2 ^ 24)(hlb:∀ c∈l,c.branches.length<2 ^ 30){st:List (BitVec 32×Nat)}{sm:Nat}(h:Lw H0 Z H lw m s [eU u32 jT sm st])(hb:s.big+(l.map wK).sum<2 ^ 25)(hQ:∀ v H',Ext H0 H'->Rows H' 7 v (bL (LwD.cases st l s).ends.parts)->Q v H'):
  lp5 (F.f58_l2 E Q) [ptr lw 0,.map (some sm),v,vi l.length,vi 0] H:=by
 have i0:vi 0=vi ((0:Nat):Int):=rfl;rw[i0];refine aZ.count l.length (λk ls H'=>ls=[ptr lw 0,.map (some sm),v,vi l.length,vi k]/\Lw H0 Z H' lw m (LwD.cases st (l.take k) s) [eU u32 jT sm st]) ?_ ⟨rfl,by simpa[LwD.cases] using h⟩
 rintro k _ H1 X1 hk ih ⟨rfl,g⟩;have hbg:=uD st (l.take k) s;rcases Nat.lt_or_ge k l.length with hlt | hge
 ·obtain⟨bb,o,cs,f1,f2,f3⟩:=hv.ix hlt
  have f2:=g.ext.row f2;obtain⟨bv,rfl,f4⟩:=f3;have hbv:plain1 bv=true:=by obtain⟨rows,h1,_⟩:=f4;exact h1.plain
  have lo:aE 2 (ptr bb o) H1=some (.agg [u32 l[k].number,bv].toArray):=by rw[aJ,f2];rfl
  have hlt':(k:Int)<l.length:=by omega
  have hsum:=aE1 wK hlt
  have hstep:LwD.cases st (l.take (k+1)) s=LwD.case1 st (LwD.cases st (l.take k) s) l[k]:=by
   unfold LwD.cases;rw[List.take_succ,List.getElem?_eq_getElem hlt,List.foldl_append];rfl
  have hlk:=hlb l[k] (List.getElem_mem hlt);have hinc:=bE (i:=k) (by omega)
  generalize l[k]=c at *;generalize LwD.cases st (l.take k) s=s1 at *;have hst:aH 2 (ptr H1.next 0) (.agg [u32 c.number,bv].toArray) (H1.new (.cells [(.int .u32 0),(.slice none 0 0)] none))=some (H1.new (.cells [u32 c.number,bv] none)):=oB rfl rfl (by simp[hbv])
  have g1:=g.newbox [u32 c.number,bv];have b1:=g1.box;have k1:=g1.look2 c.number;have hw:wK c=wB c.branches+1:=rfl;simp only[F.f58_l2,aF,hlt',decide_true,f1,lo,aW,hst,b1,k1,aC];generalize H1.new (.cells [u32 c.number,bv] none)=H2 at *;generalize H1.next=t at *;refine S.f41 hE g1 (by omega) _ λH3 g2 =>?_
  have b3:=g2.box;simp only[b3,aC];refine S.f60 hE f4 g2 (by rw[cF];omega) hlk λH4 g3 =>?_
  simp only[hinc,aC];refine ih hlt _ _ ⟨rfl,?_⟩;rw[hstep];exact g3.dropLast (X:=[eU u32 jT sm st])
 ·have hke:k=l.length:=by omega
  subst hke;rw[List.take_length]at g hbg;have hlt':¬ ((l.length:Int)<l.length):=by omega
  simp only[F.f58_l2,aF,hlt',decide_false,aC];refine S.f63 hE g (by omega) λH2 g2 =>?_
  have hbe:=yL (LwD.cases st l s).order (LwD.cases st l s).acts (LwD.cases st l s);have hob:(LwD.cases st l s).order.length<=(LwD.cases st l s).big:=by unfold LwD.big;omega
  simp only[aC];refine S.f44 hE g2 ?_ hQ
  show((LwD.cases st l s).order.foldl (LwD.end1 (LwD.cases st l s).acts) (LwD.cases st l s)).big<_
  omega
theorem S.f58(hE:aX E)(p:iJ)(cs:List Value)(hp:oY H p cs)(hb:wP p<2 ^ 24)(hQ:∀ v H',Ext H H'->Rows H' 7 v (bL (iG p).parts)->Q v H'):E.call 29 [.agg cs.toArray] H Q:=by
 apply hE.f58;obtain⟨v,rfl,hv⟩:=hp;have x1:Ext H (H.new (.cells [v,u32 p.default] none)):=(Ext.refl _).new _;have hb1:=AH.get_new_self H (.cells [v,u32 p.default] none);have hlv:=hv.lenSlc;have hv1:=hv.sub (λ_ _ _ _ h e=>gJ.sub h e) x1.sub;have hmw:∀ (H:AH) (K:Value->AH->Prop),pD H K=K (.map (some H.next)) (H.new (.map [] 0 true)):=λ_ _=>rfl;simp only[F.f58,aV,AM.aQ,aR,List.toList_toArray,hmw,aC];have hn1:H.next+1=(H.new (.cells [v,u32 p.default] none)).next:=rfl;rw[hn1];generalize H.new (.cells [v,u32 p.default] none)=H1 at *;generalize H.next=t1 at *;clear hn1;have g1:=(Has.begin (Ext.refl H1) (Sub.refl H1)).newmap u32 jT;have hbv:∀ n:Nat,aK [(0,2),(2,1),(3,1),(4,1)] #[(.slice none 0 0),vi 0,vi 0,(.map none),(.slice none 0 0)] [(2,.map (some n))]=some (.agg [bY,vi ((0:Nat):Int),vi ((0:Nat):Int),.map (some n),bY].toArray):=λ_=>rfl;have x2:Ext H1 (H1.new (.map [] 0 true)):=(Ext.refl H1).new _;have hb2:=x2.cells hb1;simp only[hbv,aV,AM.aQ,aR,List.toList_toArray,aC];have hnx:(H1.new (.map [] 0 true)).next=H1.next+1:=rfl;generalize H1.new (.map [] 0 true)=H2 at *;generalize H1.next=m at *;have g2:=((g1.newbox [bY,vi ((0:Nat):Int),vi ((0:Nat):Int),.map (some m),bY]).nils 7).nils 1;have x3:=x2.new (.cells [bY,vi ((0:Nat):Int),vi ((0:Nat):Int),.map (some m),bY] none);generalize H2.new (.cells [bY,vi ((0:Nat):Int),vi ((0:Nat):Int),.map (some m),bY] none)=H3 at *;generalize H2.next=lw at *;have g3:Lw H1 H1 H3 lw m LwD.zero []:=⟨bY,bY,g2.perm ((List.Perm.swap _ _ _).trans ((List.Perm.swap _ _ _).cons _))⟩;have hb3:=x3.cells hb1;have kK:(.int .u32 2147483648:Value)=u32 2147483648#32:=rfl;have kA:(.int .u32 3221225534:Value)=u32 3221225534#32:=rfl;have k16:(.int .u16 16:Value)=u16 16#16:=rfl;have k4:(.int .u32 4:Value)=u32 4#32:=rfl;have k0:(.int .u32 0:Value)=u32 0#32:=rfl;have i0:vi 0=vi ((0:Nat):Int):=rfl;have hpc:wP p=20+8*p.cases.length+(p.cases.map wK).sum:=rfl;have hv4:∀ k,sE 32 0 0 k=(dV k).v:=λ_=>rfl;simp only[hb3,aC];refine S.f59 hE g3 (by decide) p.default λH4 g4 =>?_
 obtain⟨H5,st5,g5⟩:=g4.setOther (LwD.zero.act p.default).2;have g5:Lw H1 H1 H5 lw m (uY p.default) []:=g5;have hg1:=aFH p.default;have hg2:=aF2 p.default;simp only[st5,kK,aC];refine S.f59 hE g5 (by omega) 2147483648#32 λH6 g6 =>?_
 have g6:Lw H1 H1 H6 lw m (low2 p.default).1 []:=g6;simp only[aC];refine S.f43 hE g6 (by omega) λH7 g7 =>?_
 simp only[k4,aC];refine S.f19 hE 4#32 λH8 e8 =>?_;rw[hv4];refine S.f45 hE (g7.grow e8) (by simp only[dY];omega) _ λH9 g9 =>?_
 simp only[k16,kA,aC];refine S.f42 hE g9 (by simp only[dY,cF];omega) 16#16 _ _ _ λH10 g10 =>?_
 simp only[aC];refine S.f41 hE g10 (by simp only[dY,cF];omega) _ λH11 g11 =>?_
 have g11:Lw H1 H1 H11 lw m (lower0 p.default) []:=g11;have hg0:=aBx p.default;simp only[hmw,aC]
 have g12:Lw H1 H1 (H11.new (.map [] 0 true)) lw m (lower0 p.default) [eU u32 jT H11.next ([]:List (BitVec 32×Nat))]:=by
  obtain⟨lv,ov,g⟩:=g11;have:=g.newmap u32 jT;rw[List.append_assoc]at this;exact⟨lv,ov,this⟩
 have hb12:=g12.ext.cells hb1;generalize H11.new (.map [] 0 true)=H12 at *;generalize H11.next=sm at *;simp only[hb12,hlv,i0,aC];have hlow3:fI p=LwD.starts p.cases (lower0 p.default,[]):=rfl;have hbs:(LwD.starts p.cases (lower0 p.default,[])).1.big=(lower0 p.default).big+p.cases.length:=rD p.cases (lower0 p.default,[]);refine aZ.count p.cases.length (λk ls H'=>ls=[ptr t1 0,ptr lw 0,.map (some sm),v,vi p.cases.length,vi k]/\Lw H1 H1 H' lw m (LwD.starts (p.cases.take k) (lower0 p.default,[])).1 [eU u32 jT sm (LwD.starts (p.cases.take k) (lower0 p.default,[])).2]) ?_ ⟨rfl,by simpa[LwD.starts] using g12⟩
 rintro k _ H13 X1 hk ih ⟨rfl,g⟩;have hbg:(LwD.starts (p.cases.take k) (lower0 p.default,[])).1.big=(lower0 p.default).big+(p.cases.take k).length:=rD (p.cases.take k) (lower0 p.default,[]);rw[List.length_take]at hbg;rcases Nat.lt_or_ge k p.cases.length with hlt | hge
 ·obtain⟨bb,o,cs,f1,f2,f3⟩:=hv1.ix hlt
  have f2:=g.ext.row f2;obtain⟨bv,rfl,f4⟩:=f3;have hbv:plain1 bv=true:=by obtain⟨rows,h1,_⟩:=f4;exact h1.plain
  have lo:aE 2 (ptr bb o) H13=some (.agg [u32 p.cases[k].number,bv].toArray):=by rw[aJ,f2];rfl
  have hlt':(k:Int)<p.cases.length:=by omega
  have hstep:LwD.starts (p.cases.take (k+1)) (lower0 p.default,[])=LwD.start1 (LwD.starts (p.cases.take k) (lower0 p.default,[])) p.cases[k]:=by
   unfold LwD.starts;rw[List.take_succ,List.getElem?_eq_getElem hlt,List.foldl_append];rfl
  have hinc:=bE (i:=k) (by omega)
  generalize p.cases[k]=c at *;generalize LwD.starts (p.cases.take k) (lower0 p.default,[])=x1 at *;have hst:aH 2 (ptr H13.next 0) (.agg [u32 c.number,bv].toArray) (H13.new (.cells [(.int .u32 0),(.slice none 0 0)] none))=some (H13.new (.cells [u32 c.number,bv] none)):=oB rfl rfl (by simp[hbv])
  have g1:=g.newbox [u32 c.number,bv];have b1:=g1.box;simp only[F.f58_l1,aF,hlt',decide_true,f1,lo,aW,hst,b1,aC];generalize H13.new (.cells [u32 c.number,bv] none)=H14 at *;generalize H13.next=t at *;refine S.f43 hE g1 (by omega) λH15 g2 =>?_
  have b2:=g2.box;refine⟨by rw[eM,eM,b1,b2],?_⟩
  obtain⟨H16,m1,g3⟩:=g2.mapset (X:=[bF t [u32 c.number,bv]]) c.number (x1.1.last+1);simp only[m1,hinc,aC];refine ih hlt _ _ ⟨rfl,?_⟩;rw[hstep];exact g3.dropLast (X:=[eU u32 jT sm _])
 ·have hke:k=p.cases.length:=by omega
  subst hke;rw[List.take_length]at g hbg;have hlt':¬ ((p.cases.length:Int)<p.cases.length):=by omega
  simp only[F.f58_l1,aF,hlt',decide_false,k0,aC];have g:Lw H1 H1 H13 lw m (fI p).1 [eU u32 jT sm (fI p).2]:=g;refine S.f19 hE 0#32 λH14 e14 =>?_;rw[hv4];have hb3:(fI p).1.big<=8+p.cases.length:=by rw[hlow3,hbs];omega
  refine S.f45 hE (g.grow e14) (by omega) _ λH15 g2 =>?_
  have hb15:=g2.ext.cells hb1;simp only[hb15,aC];refine S.f61 hE (X:=[]) (p.cases.length+1) (Nat.lt_succ_self _) hv1 g2 (by rw[cF];omega) λH16 g3 =>?_
  have hbc:=oL (fI p).2 (p.cases.length+1) p.cases ((fI p).1.put (bN (dV 0#32))) (Nat.lt_succ_self _);rw[cF]at hbc;have g3:Lw H1 H1 H16 lw m (kN p) [eU u32 jT sm (fI p).2]:=g3;have hbc:(kN p).big+(if p.cases.length=0 then 0 else 6)<=(fI p).1.big+1+7*p.cases.length+1:=hbc;have hb16:=g3.ext.cells hb1;simp only[hb16,hlv,aC];refine aKM hE hv1 (by omega) (λc hc =>?_) g3 (by omega) λv' H' e' r'=>hQ v' H' (x1.trans e') r'
  have h1:wK c<=(p.cases.map wK).sum:=by
   obtain⟨j,hj,rfl⟩:=List.getElem_of_mem hc;have:=aE1 wK hj;omega
  have h2:c.branches.length<=(c.branches.map wC).sum:=by
   generalize c.branches=bs
   induction bs with
   | nil=>simp
   | cons b bs ih =>
    have:wC b=12*b.conds.length+5:=rfl;simp only[List.length_cons,List.map_cons,List.sum_cons];omega
  have h3:wK c=(c.branches.map wC).sum+1+1:=rfl;omega
end
end
section
set_option maxRecDepth 20000
def kU(R:List Nat):List Int:=R.map λ(n:Nat)=>(n:Int)
theorem qD{R:List Nat}{n:Nat}:(n:Int)∈kU R↔n∈R:=by
 unfold kU;simp only[List.mem_map];constructor
 ·rintro⟨m,h,e⟩
  have:m=n:=by omega
  rwa [<- this]
 ·exact λh=>⟨n,h,rfl⟩
structure LI(P:List aG)(last:Nat)(R:List Nat):Prop where
 nd:(bT P++kU R).Nodup
 le:∀ n∈R,n<=last
 hle:∀ n∈bT P,n<=(last:Int)
 fw:∀ a p b,P=a++p :: b->(p.kind=4#8->p.to∈bT b++kU R)/\(p.kind=3#8->p.to∈bT b++kU R/\p.els∈bT b++kU R)
 ok:∀ p∈P,dS p
theorem LI.nil:LI [] 0 []:=⟨by simp[bT,kU],by simp,by simp[bT],λa p b h=>by simp at h,by simp⟩
theorem LI.mono{P:List aG}{l l':Nat}{R R':List Nat}(h:LI P l R)(hn:(bT P++kU R').Nodup)(hl:l<=l')(hle:∀ n∈R',n<=l')(hs:∀ n∈R,n∈R'):LI P l' R':=by
 refine⟨hn,hle,λn h1 =>?_,λa p b e =>?_,h.ok⟩
 ·have:=h.hle n h1;omega
 ·have hsub:∀ x,x∈bT b++kU R->x∈bT b++kU R':=by
   intro x hx;rcases List.mem_append.1 hx with h1 | h1
   ·exact List.mem_append_left _ h1
   ·refine List.mem_append_right _ ?_
    obtain⟨m,hm,rfl⟩:=List.mem_map.1 h1;exact qD.2 (hs m hm)
  obtain⟨f1,f2⟩:=h.fw a p b e;exact⟨λk=>hsub _ (f1 k),λk=>⟨hsub _ (f2 k).1,hsub _ (f2 k).2⟩⟩
theorem LI.new{P:List aG}{l:Nat}{R:List Nat}(h:LI P l R):LI P (l+1) ((l+1) :: R):=by
 refine h.mono ?_ (by omega) (λn hn =>?_) λn hn=>List.mem_cons_of_mem _ hn
 ·show(bT P++((l+1:Nat):Int) :: kU R).Nodup
  refine(List.perm_middle.nodup_iff).2 ?_;refine List.nodup_cons.2 ⟨λhm =>?_,h.nd⟩;rcases List.mem_append.1 hm with h1 | h1
  ·have:=h.hle _ h1;omega
  ·have:=h.le _ (qD.1 h1);omega
 ·rcases List.mem_cons.1 hn with h1 | h1
  ·omega
  ·have:=h.le n h1;omega
theorem LI.skip{P:List aG}{l:Nat}{R:List Nat}(h:LI P l R):LI P (l+1) R :=
 h.mono h.nd (by omega) (λn hn=>by have:=h.le n hn;omega) λ_ hn=>hn
theorem LI.perm{P:List aG}{l:Nat}{R R':List Nat}(h:LI P l R)(p:R.Perm R'):LI P l R' :=
 h.mono (((List.Perm.refl _).append (p.map _)).nodup_iff.1 h.nd) (Nat.le_refl _) (λn hn=>h.le n (p.mem_iff.2 hn)) λn hn=>p.mem_iff.1 hn
theorem LI.put{P:List aG}{l:Nat}{R:List Nat}(h:LI P l R){p:aG}(hp:dS p)(h1:p.kind≠1#8)(h4:p.kind=4#8->p.to∈kU R)(h3:p.kind=3#8->p.to∈kU R/\p.els∈kU R):LI (P++[p]) l R:=by
 have hh:bT (P++[p])=bT P:=by rw[mF];simp[bT,h1]
 refine⟨by rw[hh];exact h.nd,h.le,by rw[hh];exact h.hle,λa q b e =>?_,λq hq =>?_⟩
 ·rcases List.append_eq_append_iff.1 e with ⟨c,e1,e2⟩ | ⟨c,e1,e2⟩
  ·
   cases c with
   | nil =>
    simp only[List.nil_append,List.cons.injEq]at e2;obtain⟨rfl,rfl⟩:=e2;exact⟨λk=>List.mem_append_right _ (h4 k),λk=>⟨List.mem_append_right _ (h3 k).1,List.mem_append_right _ (h3 k).2⟩⟩
   | cons x c =>
    have:=congrArg List.length e2;simp at this
  ·cases c with
   | nil =>
    simp only[List.nil_append,List.cons.injEq]at e2;obtain⟨rfl,rfl⟩:=e2;exact⟨λk=>List.mem_append_right _ (h4 k),λk=>⟨List.mem_append_right _ (h3 k).1,List.mem_append_right _ (h3 k).2⟩⟩
   | cons x c =>
    simp only[List.cons_append,List.cons.injEq]at e2;obtain⟨rfl,rfl⟩:=e2;have hb:bT (c++[p])=bT c:=by rw[mF];simp[bT,h1]
    rw[hb];exact h.fw a q c e1
 ·rcases List.mem_append.1 hq with h2 | h2
  ·exact h.ok q h2
  ·rw[List.mem_singleton.1 h2];exact hp
theorem LI.here{P:List aG}{l:Nat}{R:List Nat}{n:Nat}(h:LI P l (n :: R)):LI (P++[cP n]) l R:=by
 have hh:bT (P++[cP n])=bT P++[(n:Int)]:=by rw[mF];rfl
 refine⟨by rw[hh,List.append_assoc];exact h.nd,λm hm=>h.le m (List.mem_cons_of_mem _ hm),λm hm =>?_,λa q b e =>?_,λq hq =>?_⟩
 ·rw[hh]at hm
  rcases List.mem_append.1 hm with h2 | h2
  ·exact h.hle m h2
  ·rw[List.mem_singleton.1 h2]
   have:=h.le n (List.mem_cons_self ..);omega
 ·have last:q=cP n->(q.kind=4#8->q.to∈bT b++kU R)/\(q.kind=3#8->q.to∈bT b++kU R/\q.els∈bT b++kU R):=by
   rintro rfl;exact⟨λk=>absurd k (by simp[cP]),λk=>absurd k (by simp[cP])⟩
  rcases List.append_eq_append_iff.1 e with ⟨c,e1,e2⟩ | ⟨c,e1,e2⟩
  ·cases c with
   | nil =>
    simp only[List.nil_append,List.cons.injEq]at e2;exact last e2.1.symm
   | cons x c =>
    have:=congrArg List.length e2;simp at this
  ·cases c with
   | nil =>
    simp only[List.nil_append,List.cons.injEq]at e2;exact last e2.1
   | cons x c =>
    simp only[List.cons_append,List.cons.injEq]at e2;obtain⟨rfl,rfl⟩:=e2;have hb:bT (c++[cP n])=bT c++[(n:Int)]:=by rw[mF];rfl
    rw[hb];have hcn:kU (n :: R)=(n:Int) :: kU R:=rfl;have hf:=h.fw a q c e1;rw[hcn]at hf;simp only[List.append_assoc,List.singleton_append];exact hf
 ·rcases List.mem_append.1 hq with h2 | h2
  ·exact h.ok q h2
  ·rw[List.mem_singleton.1 h2];exact .inl rfl
theorem LI.wf{P:List aG}{l:Nat}(h:LI P l []):wfL P:=by
 intro a p b e;obtain⟨f1,f2⟩:=h.fw a p b e;have hc:kU []=[]:=rfl;rw[hc,List.append_nil]at f1 f2;refine⟨λk hm =>?_,f1,f2⟩;have hn:=h.nd;rw[hc,List.append_nil,e,mF,fG,if_pos k]at hn;have:=(List.nodup_append.1 hn).2.1;exact(List.nodup_cons.1 this).1 hm
def actN(s:LwD):List Nat:=s.acts.map Prod.snd
theorem aOI(n:Int)(b:Bool):(dV (eF n b)).k.toNat % 4=0/\(dV (eF n b)).k.toNat<=60:=by
 have hc:fY n<=5:=by
  unfold fY
  split<;>split<;>omega
 have:(dV (eF n b)).k.toNat=16+8*fY n+(if b then 4 else 0):=by
  show(BitVec.ofNat 32 _).toNat=_
  rw[BitVec.toNat_ofNat,Nat.mod_eq_of_lt]
  split<;>omega
 rw[this]
 split<;>omega
theorem aHQ{x:bM}(h:(x.code=32#16/\x.k.toNat % 4=0/\x.k.toNat<=60)\/x.code=84#16\/x.code=6#16):dS (bN x) := .inr (.inr (.inl ⟨rfl,h⟩))
theorem LI.load{P:List aG}{l:Nat}{R:List Nat}(h:LI P l R)(n:Int)(b:Bool):LI (P++[bN (dV (eF n b))]) l R :=
 h.put (aHQ (.inl ⟨rfl,aOI n b⟩)) (by simp[bN]) (λk=>absurd k (by simp[bN])) λk=>absurd k (by simp[bN])
theorem LI.plain{P:List aG}{l:Nat}{R:List Nat}(h:LI P l R){x:bM}(hx:(x.code=32#16/\x.k.toNat % 4=0/\x.k.toNat<=60)\/x.code=84#16\/x.code=6#16):LI (P++[bN x]) l R :=
 h.put (aHQ hx) (by simp[bN]) (λk=>absurd k (by simp[bN])) λk=>absurd k (by simp[bN])
theorem LI.mask{P:List aG}{l:Nat}{R:List Nat}(h:LI P l R)(k:BitVec 32):LI (P++[bN (rW k)]) l R:=h.plain (.inr (.inl rfl))
theorem LI.cmp{P:List aG}{l:Nat}{R:List Nat}(h:LI P l R){how:BitVec 16}(hh:how=16#16\/how=32#16\/how=48#16)(k:BitVec 32){t e:Nat}(ht:t∈R)(he:e∈R):LI (P++[pIf how k t e]) l R :=
 h.put (.inr (.inr (.inr ⟨rfl,by
  show(5#16|||how|||0#16)=21#16\/(5#16|||how|||0#16)=37#16\/(5#16|||how|||0#16)=53#16
  rcases hh with rfl | rfl | rfl<;>decide⟩))) (by simp[pIf]) (λk=>absurd k (by simp[pIf])) λ_=>⟨qD.2 ht,qD.2 he⟩
theorem LI.goto{P:List aG}{l:Nat}{R:List Nat}(h:LI P l R){t:Nat}(ht:t∈R):LI (P++[pN t]) l R :=
 h.put (.inr (.inl rfl)) (by simp[pN]) (λ_=>qD.2 ht) λk=>absurd k (by simp[pN])
theorem LI.second{s:LwD}{R:List Nat}{n:Nat}(h:LI s.parts s.last (n :: R))(c:bA):LI (s.second c n).parts (s.second c n).last R:=h.here.load c.arg false
theorem LI.order64{s:LwD}{R:List Nat}(h:LI s.parts s.last R)(c:bA){how:BitVec 16}(hh:how=16#16\/how=32#16\/how=48#16){yes no:Nat}(hy:yes∈R)(hn:no∈R):LI (s.order64 c how yes no).parts (s.order64 c how yes no).last R:=by
 have h1:=h.new.new;have h2:=h1.cmp (how:=32#16) (by simp) (dD c.value) (t:=yes) (e:=s.last+1) (by simp[hy]) (by simp)
 have h3:=(h2.perm (List.Perm.swap _ _ _)).here;have h4:=h3.cmp (how:=16#16) (by simp) (dD c.value) (t:=s.last+2) (e:=no) (by simp) (by simp[hn])
 have h5:=h4.here.load c.arg false;exact h5.cmp hh (fS c.value) hy hn
theorem LI.cond{s:LwD}{R:List Nat}(h:LI s.parts s.last R)(c:bA){yes no:Nat}(hy:yes∈R)(hn:no∈R):LI (s.cond c yes no).parts (s.cond c yes no).last R:=by
 unfold LwD.cond;have hnew:=h.new.load c.arg true;have hskip:LI (s.new.put (bN (dV (eF c.arg true)))).parts (s.new.put (bN (dV (eF c.arg true)))).last R:=h.skip.load c.arg true;have hnew:LI (s.new.put (bN (dV (eF c.arg true)))).parts (s.new.put (bN (dV (eF c.arg true)))).last ((s.last+1) :: R):=hnew;have hy':yes∈(s.last+1) :: R:=List.mem_cons_of_mem _ hy;have hn':no∈(s.last+1) :: R:=List.mem_cons_of_mem _ hn;have hm:s.last+1∈(s.last+1) :: R:=List.mem_cons_self ..;generalize s.new.put (bN (dV (eF c.arg true)))=s1 at *;generalize s.last+1=next at *;unfold LwD.condOn
 split
 ·have h2:LI (s1.put (pIf 16#16 (dD c.value) next no)).parts (s1.put (pIf 16#16 (dD c.value) next no)).last (next :: R):=hnew.cmp (how:=16#16) (by simp) (dD c.value) hm hn'
  exact(LI.second h2 c).cmp (how:=16#16) (by simp) (fS c.value) hy hn
 split
 ·have h2:LI (s1.put (pIf 16#16 (dD c.value) next yes)).parts (s1.put (pIf 16#16 (dD c.value) next yes)).last (next :: R):=hnew.cmp (how:=16#16) (by simp) (dD c.value) hm hy'
  exact(LI.second h2 c).cmp (how:=16#16) (by simp) (fS c.value) hn hy
 split
 ·exact LI.order64 hskip c (by simp) hy hn
 split
 ·exact LI.order64 hskip c (by simp) hy hn
 split
 ·exact LI.order64 hskip c (by simp) hn hy
 split
 ·exact LI.order64 hskip c (by simp) hn hy
 split
 ·have h2:LI ((s1.put (bN (rW (dD c.mask)))).put (pIf 16#16 (dD c.value) next no)).parts ((s1.put (bN (rW (dD c.mask)))).put (pIf 16#16 (dD c.value) next no)).last (next :: R):=(hnew.mask _).cmp (how:=16#16) (by simp) (dD c.value) hm hn'
  exact((LI.second h2 c).mask (fS c.mask)).cmp (how:=16#16) (by simp) (fS c.value) hy hn
 ·exact hskip.goto hn
end
section
set_option maxRecDepth 20000
def eZ(s t:LwD):Prop:=t.acts=s.acts/\t.other=s.other/\t.order=s.order
theorem eZ.trans{a b c:LwD}(h:eZ a b)(h':eZ b c):eZ a c:=⟨h'.1.trans h.1,h'.2.1.trans h.2.1,h'.2.2.trans h.2.2⟩
theorem eZ.put(s:LwD)(p:aG):eZ s (s.put p):=⟨rfl,rfl,rfl⟩
theorem eZ.new(s:LwD):eZ s s.new:=⟨rfl,rfl,rfl⟩
theorem eZ.cond(s:LwD)(c:bA)(y n:Nat):eZ s (s.cond c y n):=by
 unfold LwD.cond LwD.condOn
 repeat' split
 all_goals exact⟨rfl,rfl,rfl⟩
theorem eZ.condStep(s:LwD)(no:Nat)(c:bA):eZ s (LwD.condStep no s c):=(eZ.new s).trans ((eZ.cond s.new c _ _).trans (eZ.put _ _))
theorem eZ.conds(no:Nat):∀ (l:List bA) (s:LwD),eZ s (LwD.conds no l s)
 | [],_=>⟨rfl,rfl,rfl⟩
 | c :: l,s=>(eZ.condStep s no c).trans (eZ.conds no l _)
theorem eZ.actN{s t:LwD}(h:eZ s t):actN t=actN s:=by unfold Go.AM.actN;rw[h.1]
def LA(s:LwD):Prop:=s.order=s.acts.map Prod.fst/\(s.acts.map Prod.fst).Nodup
theorem eZ.la{s t:LwD}(h:eZ s t)(k:LA s):LA t:=by unfold LA;rw[h.1,h.2.2];exact k
structure LT(s:LwD)(pend:List Nat):Prop where
 li:LI s.parts s.last (pend++actN s)
 la:LA s
theorem aCN{K V:Type}[DecidableEq K]{l:List (K×V)}{k:K}(h:bB k l=none):k ∉ l.map Prod.fst:=by
 induction l with
 | nil=>simp
 | cons p l ih =>
  rw[eL]at h
  split at h
  ·cases h
  ·rename_i hn
   rw[List.map_cons,List.mem_cons,not_or];exact⟨hn,ih h⟩
theorem aGZ{K V:Type}[DecidableEq K]{l:List (K×V)}{k:K}{v:V}(h:bB k l=some v):(k,v)∈l:=by
 induction l with
 | nil=>simp[bB]at h
 | cons p l ih =>
  rw[eL]at h
  split at h
  ·rename_i hn;cases h;rw[hn];exact List.mem_cons_self ..
  ·exact List.mem_cons_of_mem _ (ih h)
theorem aCE{K V:Type}[DecidableEq K]{l:List (K×V)}(hn:(l.map Prod.fst).Nodup){k:K}{v:V}(h:(k,v)∈l):bB k l=some v:=by
 induction l with
 | nil=>cases h
 | cons p l ih =>
  rw[List.map_cons,List.nodup_cons]at hn;rw[eL];rcases List.mem_cons.1 h with h | h
  ·subst h;rw[if_pos rfl]
  ·rw[if_neg (λe=>hn.1 (by rw[<- e];exact List.mem_map.2 ⟨_,h,rfl⟩))]
   exact ih hn.2 h
theorem yO{s:LwD}{a:BitVec 32}{n:Nat}(h:bB a s.acts=some n):s.act a=(s,n):=by unfold LwD.act;rw[h]
theorem yW{s:LwD}{a:BitVec 32}(h:bB a s.acts=none):s.act a=(⟨s.parts,s.last+1,s.other,s.acts++[(a,s.last+1)],s.order++[a]⟩,s.last+1):=by
 unfold LwD.act;rw[h];simp only;rw[wW _ _ _ (aCN h)]
theorem qH(s:LwD)(a:BitVec 32):(a,(s.act a).2)∈(s.act a).1.acts:=by
 cases h:bB a s.acts with
 | some n=>rw[yO h];exact aGZ h
 | none=>rw[yW h];simp
theorem aEo(s:LwD)(a:BitVec 32):∀ x∈s.acts,x∈(s.act a).1.acts:=by
 intro x hx;cases h:bB a s.acts with
 | some n=>rw[yO h];exact hx
 | none=>rw[yW h];exact List.mem_append_left _ hx
theorem mH(s:LwD)(a:BitVec 32):(s.act a).1.parts=s.parts/\(s.act a).1.other=s.other:=by
 cases h:bB a s.acts with
 | some n=>rw[yO h];exact⟨rfl,rfl⟩
 | none=>rw[yW h];exact⟨rfl,rfl⟩
theorem LT.act{s:LwD}{pend:List Nat}(h:LT s pend)(a:BitVec 32):LT (s.act a).1 pend:=by
 cases hf:bB a s.acts with
 | some n=>rw[yO hf];exact h
 | none =>
  rw[yW hf];refine⟨?_,?_,?_⟩
  ·have h1:=h.li.new
   refine h1.perm ?_
   have:pend++Go.AM.actN ⟨s.parts,s.last+1,s.other,s.acts++[(a,s.last+1)],s.order++[a]⟩=(pend++Go.AM.actN s)++[s.last+1]:=by
    unfold Go.AM.actN;simp
   rw[this];exact(List.perm_append_singleton _ _).symm
  ·show s.order++[a]=(s.acts++[(a,s.last+1)]).map Prod.fst
   rw[h.la.1];simp
  ·show((s.acts++[(a,s.last+1)]).map Prod.fst).Nodup
   rw[List.map_append,List.nodup_append];refine⟨h.la.2,by simp,?_⟩
   intro x hx y hy e;simp only[List.map_cons,List.map_nil,List.mem_singleton]at hy;subst hy;subst e;exact aCN hf hx
theorem aCd{s:LwD}{a:BitVec 32}{n:Nat}(h:(a,n)∈s.acts):n∈actN s:=List.mem_map.2 ⟨_,h,rfl⟩
theorem LI.conds{no:Nat}{R:List Nat}(hn:no∈R):∀ (l:List bA) (s:LwD),LI s.parts s.last R->LI (LwD.conds no l s).parts (LwD.conds no l s).last R
 | [],s,h=>h
 | c :: l,s,h=>by
  have h1:LI s.new.parts s.new.last ((s.last+1) :: R):=h.new;have h2:=LI.cond h1 c (yes:=s.last+1) (no:=no) (List.mem_cons_self ..) (List.mem_cons_of_mem _ hn);exact LI.conds hn l (LwD.condStep no s c) h2.here
theorem LT.branch{s:LwD}{pend:List Nat}(h:LT s pend)(b:dK):LT (s.branch b) pend:=by
 have h1:LI s.new.parts s.new.last ((s.last+1) :: (pend++actN s)):=h.li.new;have h2:=LI.conds (List.mem_cons_self ..) b.conds s.new h1;have hk:=eZ.conds (s.last+1) b.conds s.new;have h3:LT (LwD.conds (s.last+1) b.conds s.new) ((s.last+1) :: pend):=⟨by rw[hk.actN];exact h2,hk.la ((eZ.new s).la h.la)⟩
 have h4:=h3.act b.action;have hm:=aCd (qH (LwD.conds (s.last+1) b.conds s.new) b.action);exact⟨(h4.li.goto (List.mem_append_right _ hm)).here,h4.la⟩
theorem rH(s:LwD)(b:dK):(s.branch b).other=s.other/\∀ x∈s.acts,x∈(s.branch b).acts:=by
 have hk:=eZ.conds (s.last+1) b.conds s.new;have h1:(s.branch b).other=((LwD.conds (s.last+1) b.conds s.new).act b.action).1.other:=rfl;have h2:(s.branch b).acts=((LwD.conds (s.last+1) b.conds s.new).act b.action).1.acts:=rfl;refine⟨by rw[h1,(mH _ _).2,hk.2.1];rfl,λx hx =>?_⟩
 rw[h2];refine aEo _ _ x ?_;rw[hk.1];exact hx
theorem aNS{pend:List Nat}:∀ (l:List dK) (s:LwD),LT s pend->LT (l.foldl LwD.branch s) pend/\(l.foldl LwD.branch s).other=s.other/\∀ x∈s.acts,x∈(l.foldl LwD.branch s).acts
 | [],s,h=>⟨h,rfl,λ_ hx=>hx⟩
 | b :: l,s,h=>by
  obtain⟨h1,h2,h3⟩:=aNS l (s.branch b) (h.branch b);obtain⟨k1,k2⟩:=rH s b;exact⟨h1,h2.trans k1,λx hx=>h3 x (k2 x hx)⟩
def LO(s:LwD)(pend:List Nat):Prop:=LT s pend/\s.other∈actN s
theorem aFt{s t:LwD}(h:∀ x∈s.acts,x∈t.acts):∀ n∈actN s,n∈actN t:=λn hn=>by
 obtain⟨x,hx,rfl⟩:=List.mem_map.1 hn;exact List.mem_map.2 ⟨x,h x hx,rfl⟩
theorem LO.branches{s:LwD}{pend:List Nat}(h:LO s pend)(l:List dK):LO (LwD.branches l s) pend:=by
 obtain⟨h1,h2,h3⟩:=aNS l s h.1;have ho:(l.foldl LwD.branch s).other∈actN (l.foldl LwD.branch s):=by rw[h2];exact aFt h3 _ h.2
 exact⟨⟨h1.li.goto (List.mem_append_right _ ho),h1.la⟩,ho⟩
theorem LO.put{s:LwD}{pend pend':List Nat}(h:LO s pend){p:aG}(hl:LI (s.parts++[p]) s.last (pend'++actN s)):LO (s.put p) pend':=⟨⟨hl,h.1.la⟩,h.2⟩
theorem LO.choose{st:List (BitVec 32×Nat)}:∀ (f:Nat) (l:List cV) (s:LwD) (pend:List Nat),(∀ c∈l,jW c.number st∈pend)->LO s pend->LO (LwD.choose st f l s) pend
 | 0,_,s,_,_,h=>h
 | f+1,l,s,pend,hs,h=>by
  unfold LwD.choose
  split
  ·exact h.put (h.1.li.goto (List.mem_append_right _ h.2))
  split
  ·rename_i h0 h1
   refine h.put (h.1.li.cmp (by simp) _ (List.mem_append_left _ ?_) (List.mem_append_right _ h.2))
   rw[yR (by omega)]
   exact hs _ (List.getElem_mem _)
  ·have hn:LI s.new.new.parts s.new.new.last ((s.last+2) :: (s.last+1) :: (pend++actN s)):=h.1.li.new.new
   have h1:=hn.cmp (how:=48#16) (by simp) (rX l (l.length / 2)) (t:=s.last+2) (e:=s.last+1) (by simp) (by simp)
   have h2:=(h1.perm (List.Perm.swap _ _ _)).here;have h3:LO ((s.new.new.put (pIf 48#16 (rX l (l.length / 2)) (s.last+2) (s.last+1))).put (cP (s.last+1))) ((s.last+2) :: pend):=⟨⟨h2,h.1.la⟩,h.2⟩;have h4:=LO.choose f (l.take (l.length / 2)) _ _ (λc hc=>List.mem_cons_of_mem _ (hs c (List.mem_of_mem_take hc))) h3;have h5:=h4.put (p:=cP (s.last+2)) (pend':=pend) h4.1.li.here;exact LO.choose f (l.drop (l.length / 2)) _ _ (λc hc=>hs c (List.mem_of_mem_drop hc)) h5
theorem LO.cases{st:List (BitVec 32×Nat)}{pend:List Nat}:∀ (l:List cV) (s:LwD),LO s (l.map (λc=>jW c.number st)++pend)->LO (LwD.cases st l s) pend
 | [],s,h=>h
 | c :: l,s,h=>by
  have h1:LO (s.put (cP (jW c.number st))) (l.map (λc=>jW c.number st)++pend):=h.put h.1.li.here;exact LO.cases l (LwD.case1 st s c) (h1.branches c.branches)
theorem LI.ends{A:List (BitVec 32×Nat)}:∀ (l:List (BitVec 32×Nat)) (s:LwD),(∀ x∈l,jW x.1 A=x.2)->LI s.parts s.last (l.map Prod.snd)->LI ((l.map Prod.fst).foldl (LwD.end1 A) s).parts ((l.map Prod.fst).foldl (LwD.end1 A) s).last []
 | [],s,_,h=>h
 | x :: l,s,hx,h=>by
  rw[List.map_cons,List.foldl_cons];refine LI.ends l _ (λy hy=>hx y (List.mem_cons_of_mem _ hy)) ?_;unfold LwD.end1;rw[hx x (List.mem_cons_self ..)];exact h.here.plain (.inr (.inr rfl))
theorem LT.low2(d:BitVec 32):LT (low2 d).1 []/\(low2 d).1.other∈actN (low2 d).1:=by
 have h0:LT LwD.zero []:=⟨LI.nil,rfl,by simp[LwD.zero]⟩
 have h1:=h0.act d;have h2:LT (uY d) []:=⟨h1.li,h1.la⟩;have ho:(uY d).other∈actN (uY d):=aCd (s:=(LwD.zero.act d).1) (qH LwD.zero d);refine⟨h2.act _,?_⟩
 show(((uY d).act _).1).other∈_
 rw[(mH _ _).2];exact aFt (aEo _ _) _ ho
theorem LO.lower0(d:BitVec 32):LO (lower0 d) []:=by
 obtain⟨h1,h2⟩:=LT.low2 d;have hn:LI (low2 d).1.new.parts (low2 d).1.new.last (((low2 d).1.last+1) :: ([]++actN (low2 d).1)):=h1.li.new;have hk:=aCd (qH (uY d) 2147483648#32);have h3:=hn.plain (x:=dV 4#32) (.inl ⟨rfl,by decide,by decide⟩)
 have h4:=h3.cmp (how:=16#16) (by simp) 3221225534#32 (t:=(low2 d).1.last+1) (e:=(low2 d).2) (List.mem_cons_self ..) (List.mem_cons_of_mem _ hk)
 exact⟨⟨h4.here,h1.la⟩,h2⟩
theorem zB:∀ (l:List cV) (x:LwD×List (BitVec 32×Nat)),(l.map cV.number).Nodup->(∀ c∈l,c.number ∉ x.2.map Prod.fst)->(x.2.map Prod.fst).Nodup->LO x.1 (x.2.map Prod.snd) ->
  LO (LwD.starts l x).1 ((LwD.starts l x).2.map Prod.snd)/\(LwD.starts l x).2.map Prod.fst=x.2.map Prod.fst++l.map cV.number/\((LwD.starts l x).2.map Prod.fst).Nodup/\(LwD.starts l x).1.parts=x.1.parts/\eZ x.1 (LwD.starts l x).1
 | [],x,_,_,h2,h3=>⟨h3,by simp[LwD.starts],h2,rfl,rfl,rfl,rfl⟩
 | c :: l,x,hn,hx,h2,h3=>by
  rw[List.map_cons,List.nodup_cons]at hn;have hf:=hx c (List.mem_cons_self ..);have ha:fE c.number (x.1.last+1) x.2=x.2++[(c.number,x.1.last+1)]:=wW _ _ _ hf
  have hnd:((x.2++[(c.number,x.1.last+1)]).map Prod.fst).Nodup:=by
   rw[List.map_append,List.nodup_append];refine⟨h2,by simp,?_⟩
   intro a h1 b h2 e;simp only[List.map_cons,List.map_nil,List.mem_singleton]at h2;subst h2;subst e;exact hf h1
  have hs:LwD.start1 x c=(x.1.new,x.2++[(c.number,x.1.last+1)]):=by unfold LwD.start1;rw[ha]
  have hlo:LO x.1.new ((x.2++[(c.number,x.1.last+1)]).map Prod.snd):=by
   refine⟨⟨?_,h3.1.la⟩,h3.2⟩;refine h3.1.li.new.perm ?_;have:(x.2++[(c.number,x.1.last+1)]).map Prod.snd=x.2.map Prod.snd++[x.1.last+1]:=by simp
   rw[this,List.append_assoc];exact(List.perm_middle).symm
  obtain⟨r1,r2,r3,r4,r5⟩:=zB l (LwD.start1 x c) hn.2 (by
   rw[hs];intro c' hc';simp only[List.map_append,List.map_cons,List.map_nil,List.mem_append,List.mem_singleton,not_or];exact⟨hx c' (List.mem_cons_of_mem _ hc'),λe=>hn.1 (by rw[<- e];exact List.mem_map.2 ⟨c',hc',rfl⟩)⟩) (by rw[hs];exact hnd) (by rw[hs];exact hlo)
  refine⟨r1,?_,r3,?_,?_⟩
  ·show(LwD.starts l (LwD.start1 x c)).2.map Prod.fst=_
   rw[r2,hs];simp
  ·show(LwD.starts l (LwD.start1 x c)).1.parts=_
   rw[r4,hs];rfl
  ·have:eZ x.1 (LwD.start1 x c).1:=by rw[hs];exact eZ.new _
   exact this.trans r5
theorem aBH{l:List (BitVec 32×Nat)}(hn:(l.map Prod.fst).Nodup){x:BitVec 32×Nat}(h:x∈l):jW x.1 l=x.2:=by
 unfold jW;rw[aCE hn (v:=x.2) h];rfl
theorem aEw{l:List cV}{st:List (BitVec 32×Nat)}(h:st.map Prod.fst=l.map cV.number)(hn:(st.map Prod.fst).Nodup):l.map (λc=>jW c.number st)=st.map Prod.snd:=by
 have:l.map (λc=>jW c.number st)=(l.map cV.number).map λn=>jW n st:=by rw[List.map_map];rfl
 rw[this,<- h,List.map_map];apply List.map_congr_left;intro x hx;exact aBH hn hx
structure Low(p:iJ):Prop where
 lo3:LO (fI p).1 ((fI p).2.map Prod.snd)
 names:(fI p).2.map Prod.fst=p.cases.map cV.number
 lo4:LO (kN p) (p.cases.map λc=>jW c.number (fI p).2)
 lo5:LO (LwD.cases (fI p).2 p.cases (kN p)) []
 fin:LI (iG p).parts (iG p).last []
theorem aKD(p:iJ)(hn:(p.cases.map cV.number).Nodup):Low p:=by
 obtain⟨r1,r2,r3,r4,r5⟩:=zB p.cases (lower0 p.default,[]) hn (by simp) (by simp) (LO.lower0 p.default)
 have hnames:(fI p).2.map Prod.fst=p.cases.map cV.number:=by
  exact r2
 have hst:=aEw hnames r3;have r1:LO (fI p).1 ((fI p).2.map Prod.snd):=r1
 have h4:LO (kN p) (p.cases.map λc=>jW c.number (fI p).2):=by
  refine LO.choose _ _ _ _ (λc hc=>List.mem_map.2 ⟨c,hc,rfl⟩) ?_;rw[hst];exact r1.put (r1.1.li.plain (.inl ⟨rfl,by decide,by decide⟩))
 have h5:LO (LwD.cases (fI p).2 p.cases (kN p)) []:=LO.cases p.cases (kN p) (by rw[List.append_nil];exact h4)
 refine⟨r1,hnames,h4,h5,?_⟩;unfold iG LwD.ends;rw[h5.1.la.1];refine LI.ends _ _ (λx hx=>aBH h5.1.la.2 hx) ?_;exact h5.1.li
end
section
set_option maxRecDepth 20000
theorem qB(x:BitVec 64):(dD x).toNat=x.toNat / 4294967296:=by
 unfold dD;have:=x.isLt;rw[BitVec.toNat_setWidth,BitVec.toNat_ushiftRight,Nat.shiftRight_eq_div_pow,Nat.mod_eq_of_lt (by omega)]
theorem qK(x:BitVec 64):(fS x).toNat=x.toNat % 4294967296:=by
 unfold fS;rw[BitVec.toNat_setWidth]
theorem yZ(x y:BitVec 64):x=y↔dD x=dD y/\fS x=fS y:=by
 constructor
 ·rintro rfl;exact⟨rfl,rfl⟩
 ·rintro⟨h1,h2⟩
  apply BitVec.eq_of_toNat_eq;have h1:=congrArg BitVec.toNat h1;have h2:=congrArg BitVec.toNat h2;rw[qB,qB]at h1;rw[qK,qK]at h2;omega
theorem aC3(x y:BitVec 64):y.toNat<x.toNat↔(dD y).toNat<(dD x).toNat\/(dD x=dD y/\(fS y).toNat<(fS x).toNat):=by
 rw[<- BitVec.toNat_inj,qB,qB,qK,qK];omega
theorem aCZ(x y:BitVec 64):y.toNat<=x.toNat↔(dD y).toNat<(dD x).toNat\/(dD x=dD y/\(fS y).toNat<=(fS x).toNat):=by
 rw[<- BitVec.toNat_inj,qB,qB,qK,qK];omega
theorem aOu(x y:BitVec 64):dD (x&&&y)=dD x&&&dD y:=by
 apply BitVec.eq_of_getLsbD_eq;intro i hi;simp[dD,BitVec.getLsbD_setWidth,BitVec.getLsbD_ushiftRight,hi]
theorem aOX(x y:BitVec 64):fS (x&&&y)=fS x&&&fS y:=by
 apply BitVec.eq_of_getLsbD_eq;intro i hi;simp[fS,BitVec.getLsbD_setWidth,hi]
section
variable {r:aN}{L:List aG}{s:LwD}
def KAt(r:aN)(L:List aG)(s:LwD):Beh:=(den r (L.drop s.parts.length)).2
def atN(r:aN)(L:List aG)(n:Nat):Beh:=mX (den r L).1 (n:Int)
def Pre(L:List aG)(s:LwD):Prop:=s.parts <+: L
theorem Pre.back{p:aG}(h:Pre L (s.put p)):Pre L s:=(List.prefix_append _ _).trans h
theorem Pre.drop{p:aG}(h:Pre L (s.put p)):L.drop s.parts.length=p :: L.drop (s.put p).parts.length:=by
 obtain⟨t,rfl⟩:=h;have e1:(s.put p).parts=s.parts++[p]:=rfl;rw[e1,List.append_assoc];simp[List.drop_append]
theorem aFq(r:aN){b:List aG}{n:Int}(hn:n∈bT b):∀ a:List aG,wfL (a++b)->bB n (den r (a++b)).1=bB n (den r b).1
 | [],_=>rfl
 | p :: a,w=>by
  have ih:=aFq r hn a w.tail
  show bB n (gD r p (den r (a++b))).1=_
  unfold gD
  by_cases h1:p.kind=1#8
  ·rw[if_pos h1]
   simp only[eL];have:=(w [] p (a++b) rfl).1 h1;rw[if_neg (λe=>this (by rw[<- e,mF];exact List.mem_append_right _ hn))]
   exact ih
  ·rw[if_neg h1]
   by_cases h4:p.kind=4#8
   ·rw[if_pos h4];exact ih
   ·rw[if_neg h4]
    by_cases h3:p.kind=3#8
    ·rw[if_pos h3];exact ih
    ·rw[if_neg h3];exact ih
theorem uX(w:wfL L){k:Nat}{n:Nat}(hn:(n:Int)∈bT (L.drop k)):mX (den r (L.drop k)).1 n=atN r L n:=by
 unfold atN mX;have:=aFq r hn (L.take k) (by rw[List.take_append_drop];exact w)
 rw[List.take_append_drop]at this;rw[this]
theorem aNN(w:wfL L){p:aG}(h:Pre L (s.put p)):(p.kind=1#8->p.to ∉ bT (L.drop (s.put p).parts.length))/\(p.kind=4#8->p.to∈bT (L.drop (s.put p).parts.length))/\(p.kind=3#8->p.to∈bT (L.drop (s.put p).parts.length)/\p.els∈bT (L.drop (s.put p).parts.length)):=by
 refine w (L.take s.parts.length) p _ ?_;rw[<- Pre.drop h,List.take_append_drop]
theorem rA(w:wfL L){n:Nat}(h:Pre L (s.put (cP n))):KAt r L s=KAt r L (s.put (cP n))/\atN r L n=KAt r L (s.put (cP n)):=by
 have hd:=Pre.drop h
 have hk:KAt r L s=KAt r L (s.put (cP n)):=by
  unfold KAt;rw[hd,dZ]
  rfl
 refine⟨hk,?_⟩;have hm:(n:Int)∈bT (L.drop s.parts.length):=by rw[hd,fG,if_pos (show(cP n).kind=1#8 from rfl)];exact List.mem_cons_self ..
 rw[<- uX w hm,hd,dZ];unfold mX gD;rw[if_pos (show(cP n).kind=1#8 from rfl)];simp only[eL];rw[if_pos (show(n:Int)=(cP n).to from rfl)]
 rfl
theorem yQ{x:bM}(h:Pre L (s.put (bN x)))(a:BitVec 32):KAt r L s a=match (cK r x a).2.2 with | some o=>o | none=>KAt r L (s.put (bN x)) (cK r x a).1:=by
 unfold KAt;rw[Pre.drop h,dZ]
 rfl
theorem aKq(hr:r.ok){n:Nat}(hn:n<6){b:Bool}{k:BitVec 32}(hk:k=BitVec.ofNat 32 (16+8*n+(if b then 4 else 0)))(h:Pre L (s.put (bN (dV k))))(a:BitVec 32):KAt r L s a=KAt r L (s.put (bN (dV k))) (if b then dD (gZ r.args n) else fS (gZ r.args n)):=by
 rw[yQ h a];have:cK r (dV k) a=((kZ r k).1,0,none):=rfl;rw[this];have h2:=aJf r hr n hn b;rw[<- hk]at h2;simp only[h2]
 rfl
theorem aMn{k:BitVec 32}(h:Pre L (s.put (bN (rW k))))(a:BitVec 32):KAt r L s a=KAt r L (s.put (bN (rW k))) (a&&&k):=by
 rw[yQ h a];rfl
theorem aEF(w:wfL L){n:Nat}(h:Pre L (s.put (pN n)))(a:BitVec 32):KAt r L s a=atN r L n a:=by
 have hm:=(aNN w h).2.1 rfl;have hg:=uX (r:=r) w (n:=n) hm;unfold KAt;rw[Pre.drop h,dZ,<- hg]
 rfl
theorem aAQ(w:wfL L){how:BitVec 16}{k:BitVec 32}{t e:Nat}(h:Pre L (s.put (pIf how k t e)))(a:BitVec 32):KAt r L s a=if nH (pIf how k t e).insn a=true then atN r L t a else atN r L e a:=by
 have hm:=(aNN w h).2.2 rfl;have h1:=uX (r:=r) w (n:=t) hm.1;have h2:=uX (r:=r) w (n:=e) hm.2;unfold KAt;rw[Pre.drop h,dZ,<- h1,<- h2]
 rfl
theorem nS(k a:BitVec 32)(t e:Nat):nH (pIf 16#16 k t e).insn a=decide (a=k):=rfl
theorem aDN(k a:BitVec 32)(t e:Nat):nH (pIf 32#16 k t e).insn a=decide (k.toNat<a.toNat):=rfl
theorem aEl(k a:BitVec 32)(t e:Nat):nH (pIf 48#16 k t e).insn a=decide (k.toNat<=a.toNat):=rfl
theorem aFr{n:Int}(h0:0<=n)(h5:n<=5):fY n=n.toNat:=by unfold fY;rw[if_neg (by omega),if_neg (by omega)]
theorem xW(w:wfL L)(hr:r.ok){c:bA}(h0:0<=c.arg)(h5:c.arg<=5){n:Nat}(h:Pre L (s.second c n)):∀ a,atN r L n a=KAt r L (s.second c n) (fS (gZ r.args c.arg.toNat)):=by
 intro a;have hb:Pre L (s.put (cP n)):=Pre.back (p:=bN (dV (eF c.arg false))) h;rw[(rA w hb).2];have:=aKq (b:=false) hr (n:=c.arg.toNat) (by omega) (k:=eF c.arg false) (by unfold eF;rw[aFr h0 h5]) h a
 rw[this];rfl
theorem uI(w:wfL L)(hr:r.ok){c:bA}(h0:0<=c.arg)(h5:c.arg<=5){how:BitVec 16}{yes no:Nat}(h:Pre L (s.order64 c how yes no)){vy vn:BitVec 32}(hy:∀ a,atN r L yes a=vy)(hn:∀ a,atN r L no a=vn):
  KAt r L s (dD (gZ r.args c.arg.toNat))=if(dD c.value).toNat<(dD (gZ r.args c.arg.toNat)).toNat\/(dD (gZ r.args c.arg.toNat)=dD c.value/\nH (pIf how (fS c.value) yes no).insn (fS (gZ r.args c.arg.toNat))=true) then vy else vn:=by
 unfold LwD.order64 at h;simp only at h;have h2:=Pre.back h;have h3:Pre L (((s.new.new.put (pIf 32#16 (dD c.value) yes (s.last+1))).put (cP (s.last+1))).put (pIf 16#16 (dD c.value) (s.last+2) no)):=Pre.back (p:=cP (s.last+2)) (Pre.back (p:=bN (dV (eF c.arg false))) h2);have h4:=Pre.back h3;have h5':=Pre.back h4;have e1:=aAQ (r:=r) w h5' (dD (gZ r.args c.arg.toNat));have e2:=(rA (r:=r) w h4).2;have e3:=aAQ (r:=r) w h3 (dD (gZ r.args c.arg.toNat));have e4:=xW (r:=r) w hr h0 h5 h2;have e5:=aAQ (r:=r) w h (fS (gZ r.args c.arg.toNat));have e0:KAt r L s (dD (gZ r.args c.arg.toNat))=KAt r L s.new.new (dD (gZ r.args c.arg.toNat)):=rfl;rw[e0,e1,aDN,e2,e3,nS,e4,e5,hy,hy,hn,hn];generalize dD (gZ r.args c.arg.toNat)=xh;generalize nH (pIf how (fS c.value) yes no).insn (fS (gZ r.args c.arg.toNat))=b
 by_cases c1:(dD c.value).toNat<xh.toNat
 ·simp[c1]
 ·by_cases c2:xh=dD c.value
  ·simp[c2]
  ·simp[c1,c2]
theorem aOA(w:wfL L)(hr:r.ok){c:bA}(h0:0<=c.arg)(h5:c.arg<=5){yes no:Nat}(h:Pre L (s.cond c yes no)){vy vn:BitVec 32}(hy:∀ a,atN r L yes a=vy)(hn:∀ a,atN r L no a=vn)(a:BitVec 32):
  KAt r L s a=if holds c r.args=true then vy else vn:=by
 unfold LwD.cond at h
 have hp:Pre L (s.new.put (bN (dV (eF c.arg true)))):=by
  unfold LwD.condOn at h
  split at h
  ·exact Pre.back (p:=pIf 16#16 (dD c.value) (s.last+1) no) (Pre.back (p:=cP (s.last+1)) (Pre.back (p:=bN (dV (eF c.arg false))) (Pre.back h)))
  split at h
  ·exact Pre.back (p:=pIf 16#16 (dD c.value) (s.last+1) yes) (Pre.back (p:=cP (s.last+1)) (Pre.back (p:=bN (dV (eF c.arg false))) (Pre.back h)))
  have o64:∀ (t:LwD) (how:BitVec 16) (y n:Nat),Pre L (t.order64 c how y n)->Pre L t:=λt how y n h=>by
   unfold LwD.order64 at h;exact Pre.back (s:=t.new.new) (Pre.back (Pre.back (Pre.back (p:=cP (t.last+2)) (Pre.back (p:=bN (dV (eF c.arg false))) (Pre.back h)))))
  split at h
  ·exact o64 _ _ _ _ h
  split at h
  ·exact o64 _ _ _ _ h
  split at h
  ·exact o64 _ _ _ _ h
  split at h
  ·exact o64 _ _ _ _ h
  split at h
  ·exact Pre.back (p:=bN (rW (dD c.mask))) (Pre.back (p:=pIf 16#16 (dD c.value) (s.last+1) no) (Pre.back (p:=cP (s.last+1)) (Pre.back (p:=bN (dV (eF c.arg false))) (Pre.back (Pre.back h)))))
  ·exact Pre.back h
 have e0:KAt r L s a=KAt r L s.new a:=rfl;have e1:=aKq (r:=r) (b:=true) hr (n:=c.arg.toNat) (by omega) (k:=eF c.arg true) (by unfold eF;rw[aFr h0 h5]) hp a
 rw[e0,e1];simp only[if_true];have hh:holds c r.args=nT c.op.toNat c.mask c.value (gZ r.args c.arg.toNat):=by unfold holds;rw[if_neg (by omega)]
 rw[hh];unfold nT;generalize s.new.put (bN (dV (eF c.arg true)))=t at *;generalize s.last+1=next at *;have opn:∀ k:BitVec 8,(c.op.toNat=k.toNat)↔c.op=k:=λk=>BitVec.toNat_inj;have n1:c.op.toNat=1↔c.op=1#8:=opn 1#8;have n2:c.op.toNat=2↔c.op=2#8:=opn 2#8;have n3:c.op.toNat=3↔c.op=3#8:=opn 3#8;have n4:c.op.toNat=4↔c.op=4#8:=opn 4#8;have n5:c.op.toNat=5↔c.op=5#8:=opn 5#8;have n6:c.op.toNat=6↔c.op=6#8:=opn 6#8;have n7:c.op.toNat=7↔c.op=7#8:=opn 7#8;simp only[n1,n2,n3,n4,n5,n6,n7];have hc:=h;unfold LwD.condOn at hc
 by_cases o1:c.op=1#8
 ·rw[if_pos o1]at hc ⊢
  have h2:=Pre.back hc;have h3:Pre L (t.put (pIf 16#16 (dD c.value) next no)):=Pre.back (p:=cP next) (Pre.back (p:=bN (dV (eF c.arg false))) h2);rw[aAQ w h3,nS,xW w hr h0 h5 h2,aAQ w hc,nS,hy,hn,hn];generalize gZ r.args c.arg.toNat=x;simp only[decide_eq_true_eq,yZ x c.value]
  by_cases c1:dD x=dD c.value<;>by_cases c2:fS x=fS c.value<;>simp[c1,c2]
 rw[if_neg o1]at hc ⊢
 by_cases o2:c.op=2#8
 ·rw[if_pos o2]at hc ⊢
  have h2:=Pre.back hc;have h3:Pre L (t.put (pIf 16#16 (dD c.value) next yes)):=Pre.back (p:=cP next) (Pre.back (p:=bN (dV (eF c.arg false))) h2);rw[aAQ w h3,nS,xW w hr h0 h5 h2,aAQ w hc,nS,hy,hy,hn];generalize gZ r.args c.arg.toNat=x;simp only[decide_eq_true_eq,ne_eq,yZ x c.value]
  by_cases c1:dD x=dD c.value<;>by_cases c2:fS x=fS c.value<;>simp[c1,c2]
 rw[if_neg o2]at hc ⊢
 by_cases o5:c.op=5#8
 ·rw[if_pos o5]at hc
  have o3:c.op≠3#8:=by rw[o5];decide
  have o4:c.op≠4#8:=by rw[o5];decide
  rw[if_neg o3,if_neg o4,if_pos o5,uI w hr h0 h5 hc hy hn,aDN];simp only[decide_eq_true_eq,aC3]
 rw[if_neg o5]at hc
 by_cases o6:c.op=6#8
 ·rw[if_pos o6]at hc
  have o3:c.op≠3#8:=by rw[o6];decide
  have o4:c.op≠4#8:=by rw[o6];decide
  rw[if_neg o3,if_neg o4,if_neg o5,if_pos o6,uI w hr h0 h5 hc hy hn,aEl];simp only[decide_eq_true_eq,aCZ]
 rw[if_neg o6]at hc
 by_cases o3:c.op=3#8
 ·rw[if_pos o3]at hc
  rw[if_pos o3,uI w hr h0 h5 hc hn hy,aEl];simp only[decide_eq_true_eq,<- aCZ];generalize gZ r.args c.arg.toNat=x
  by_cases hx:c.value.toNat<=x.toNat
  ·rw[if_pos hx,if_neg (by omega)]
  ·rw[if_neg hx,if_pos (by omega)]
 rw[if_neg o3]at hc ⊢
 by_cases o4:c.op=4#8
 ·rw[if_pos o4]at hc
  rw[if_pos o4,uI w hr h0 h5 hc hn hy,aDN];simp only[decide_eq_true_eq,<- aC3];generalize gZ r.args c.arg.toNat=x
  by_cases hx:c.value.toNat<x.toNat
  ·rw[if_pos hx,if_neg (by omega)]
  ·rw[if_neg hx,if_pos (by omega)]
 rw[if_neg o4]at hc ⊢;rw[if_neg o5,if_neg o6]
 by_cases o7:c.op=7#8
 ·rw[if_pos o7]at hc ⊢
  have h2:=Pre.back hc;have h3:=Pre.back h2;have h4:Pre L ((t.put (bN (rW (dD c.mask)))).put (pIf 16#16 (dD c.value) next no)):=Pre.back (p:=cP next) (Pre.back (p:=bN (dV (eF c.arg false))) h3);rw[aMn (Pre.back h4),aAQ w h4,nS,xW w hr h0 h5 h3,aMn h2,aAQ w hc,nS,hy,hn,hn];generalize gZ r.args c.arg.toNat=x;simp only[decide_eq_true_eq,yZ (x&&&c.mask) c.value,aOu,aOX]
  by_cases c1:dD x&&&dD c.mask=dD c.value<;>by_cases c2:fS x&&&fS c.mask=fS c.value<;>simp[c1,c2]
 ·rw[if_neg o7]at hc ⊢
  rw[aEF w hc,hn];simp
end
end
end Go.AM
