/- CONTRACTS ON THE PRINTED FUNCTIONS. -/
import Derived.Test.YtbpbjfemnpojoaaGreatDoorCb05cC1
set_option linter.all false
namespace Go.AM
section
set_option maxRecDepth 20000
section
variable {r:aN}{L:List aG}
theorem aD2(s:LwD)(p:aG):s.parts <+: (s.put p).parts:=List.prefix_append _ _
theorem pF(t:LwD)(c:bA)(how:BitVec 16)(y n:Nat):t.parts <+: (t.order64 c how y n).parts:=by
 unfold LwD.order64 LwD.second;simp only[LwD.put,LwD.new,List.append_assoc];exact List.prefix_append _ _
theorem aKx(s:LwD)(c:bA)(y n:Nat):s.parts <+: (s.cond c y n).parts:=by
 unfold LwD.cond;refine List.IsPrefix.trans (l₂:=(s.new.put (bN (dV (eF c.arg true)))).parts) (List.prefix_append _ _) ?_;generalize s.new.put (bN (dV (eF c.arg true)))=t;unfold LwD.condOn LwD.second
 split
 ·simp only[LwD.put,List.append_assoc];exact List.prefix_append _ _
 split
 ·simp only[LwD.put,List.append_assoc];exact List.prefix_append _ _
 split
 ·exact pF ..
 split
 ·exact pF ..
 split
 ·exact pF ..
 split
 ·exact pF ..
 split
 ·simp only[LwD.put,List.append_assoc];exact List.prefix_append _ _
 ·exact List.prefix_append _ _
theorem aMk(no:Nat)(s:LwD)(c:bA):s.parts <+: (LwD.condStep no s c).parts:=(aKx s.new c _ _).trans (List.prefix_append _ _)
theorem zO(no:Nat):∀ (l:List bA) (s:LwD),s.parts <+: (LwD.conds no l s).parts
 | [],_=>List.prefix_refl _
 | c :: l,s=>(aMk no s c).trans (zO no l _)
theorem aHm(s:LwD)(a:BitVec 32):s.parts <+: (s.act a).1.parts:=by rw[(mH s a).1];exact List.prefix_refl _
theorem aGY(s:LwD)(b:dK):s.parts <+: (s.branch b).parts:=by
 unfold LwD.branch;exact((zO _ b.conds s.new).trans (aHm _ _)).trans ((List.prefix_append _ _).trans (List.prefix_append _ _))
theorem zD:∀ (l:List dK) (s:LwD),s.parts <+: (l.foldl LwD.branch s).parts
 | [],_=>List.prefix_refl _
 | b :: l,s=>(aGY s b).trans (zD l _)
theorem xK(l:List dK)(s:LwD):s.parts <+: (LwD.branches l s).parts:=(zD l s).trans (List.prefix_append _ _)
theorem aIK(st:List (BitVec 32×Nat))(s:LwD)(c:cV):s.parts <+: (LwD.case1 st s c).parts:=(aD2 s (cP (jW c.number st))).trans (xK c.branches _)
theorem aAb(st:List (BitVec 32×Nat)):∀ (l:List cV) (s:LwD),s.parts <+: (LwD.cases st l s).parts
 | [],_=>List.prefix_refl _
 | c :: l,s=>(aIK st s c).trans (aAb st l _)
theorem oE(st:List (BitVec 32×Nat)):∀ (f:Nat) (l:List cV) (s:LwD),s.parts <+: (LwD.choose st f l s).parts
 | 0,_,_=>List.prefix_refl _
 | f+1,l,s=>by
  unfold LwD.choose
  split
  ·exact List.prefix_append _ _
  split
  ·exact List.prefix_append _ _
  ·refine List.IsPrefix.trans ?_ (oE st f _ _)
   refine List.IsPrefix.trans ?_ (List.prefix_append _ _);refine List.IsPrefix.trans ?_ (oE st f _ _);exact(List.prefix_append _ _).trans (List.prefix_append _ _)
theorem aD7(A:List (BitVec 32×Nat)):∀ (l:List (BitVec 32)) (s:LwD),s.parts <+: (l.foldl (LwD.end1 A) s).parts
 | [],_=>List.prefix_refl _
 | a :: l,s=>((aD2 s (cP (jW a A))).trans (aD2 _ (bN (aMW a)))).trans (aD7 A l (LwD.end1 A s a))
theorem eZ.choose(st:List (BitVec 32×Nat)):∀ (f:Nat) (l:List cV) (s:LwD),eZ s (LwD.choose st f l s)
 | 0,_,_=>⟨rfl,rfl,rfl⟩
 | f+1,l,s=>by
  unfold LwD.choose
  split
  ·exact⟨rfl,rfl,rfl⟩
  split
  ·exact⟨rfl,rfl,rfl⟩
  ·have k0:eZ s ((s.new.new.put (pIf 48#16 (rX l (l.length / 2)) (s.last+2) (s.last+1))).put (cP (s.last+1))):=⟨rfl,rfl,rfl⟩
   have k1:=eZ.choose st f (l.take (l.length / 2)) ((s.new.new.put (pIf 48#16 (rX l (l.length / 2)) (s.last+2) (s.last+1))).put (cP (s.last+1)));exact((k0.trans k1).trans (eZ.put _ (cP (s.last+2)))).trans (eZ.choose st f (l.drop (l.length / 2)) _)
def aEj(l:List bA):Prop:=∀ c∈l,0<=c.arg/\c.arg<=5
theorem aHO(w:wfL L)(hr:r.ok){no:Nat}{vn v:BitVec 32}(hn:∀ a,atN r L no a=vn):∀ (l:List bA) (s:LwD),aEj l->Pre L (LwD.conds no l s)->(∀ a,KAt r L (LwD.conds no l s) a=v)->∀ a,KAt r L s a=if bQ l r=true then v else vn
 | [],s,_,_,hv,a=>by
  have:bQ [] r=true:=rfl;rw[if_pos this];exact hv a
 | c :: l,s,hi,h,hv,a=>by
  have hp:Pre L (LwD.condStep no s c):=(zO no l _).trans h;have ih:=aHO w hr hn l (LwD.condStep no s c) (λx hx=>hi x (List.mem_cons_of_mem _ hx)) h hv;have hh:=(rA (r:=r) w (s:=s.new.cond c (s.last+1) no) (n:=s.last+1) hp).2;have hc:=hi c (List.mem_cons_self ..);have:=aOA w hr hc.1 hc.2 (s:=s.new) (yes:=s.last+1) (no:=no) (Pre.back hp) (vy:=if bQ l r=true then v else vn) (vn:=vn) (λa=>by rw[hh];exact ih a) hn a
  have e0:KAt r L s a=KAt r L s.new a:=rfl;rw[e0,this];have e1:bQ (c :: l) r=(holds c r.args&&bQ l r):=rfl;rw[e1];cases holds c r.args<;>simp
def AtA(r:aN)(L:List aG)(A:List (BitVec 32×Nat)):Prop:=∀ x∈A,∀ a,atN r L x.2 a=x.1
theorem aL9(w:wfL L)(hr:r.ok){A:List (BitVec 32×Nat)}(hA:AtA r L A){s:LwD}{b:dK}(hi:aEj b.conds)(h:Pre L (s.branch b))(hs:∀ x∈(s.branch b).acts,x∈A){v:BitVec 32}(hv:∀ a,KAt r L (s.branch b) a=v)(a:BitVec 32):
  KAt r L s a=if bQ b.conds r=true then b.action else v:=by
 have hm:=hs _ (qH (LwD.conds (s.last+1) b.conds s.new) b.action);have hact:=hA _ hm;have h1:=(rA (r:=r) w (s:=((LwD.conds (s.last+1) b.conds s.new).act b.action).1.put (pN ((LwD.conds (s.last+1) b.conds s.new).act b.action).2)) (n:=s.last+1) h).2;have h2:=aEF (r:=r) w (s:=((LwD.conds (s.last+1) b.conds s.new).act b.action).1) (n:=((LwD.conds (s.last+1) b.conds s.new).act b.action).2) (Pre.back h);have hp:Pre L (LwD.conds (s.last+1) b.conds s.new):=(aHm _ _).trans (Pre.back (Pre.back h))
 have e1:∀ a,KAt r L (LwD.conds (s.last+1) b.conds s.new) a=b.action:=λa=>by
  have:KAt r L (LwD.conds (s.last+1) b.conds s.new)=KAt r L ((LwD.conds (s.last+1) b.conds s.new).act b.action).1:=by unfold KAt;rw[(mH _ _).1]
  rw[this,h2 a,hact a]
 have:=aHO w hr (no:=s.last+1) (vn:=v) (v:=b.action) (λa=>by rw[h1];exact hv a) b.conds s.new hi hp e1 a
 exact this
theorem aDD(d:BitVec 32)(b:dK)(l:List dK)(r:aN):jK d (b :: l) r=if bQ b.conds r=true then b.action else jK d l r:=by
 unfold jK;rw[List.find?_cons];cases bQ b.conds r<;>rfl
theorem aHt(w:wfL L)(hr:r.ok){A:List (BitVec 32×Nat)}(hA:AtA r L A){d:BitVec 32}:∀ (l:List dK) (s:LwD),(∀ b∈l,aEj b.conds)->Pre L (l.foldl LwD.branch s)->(∀ x∈(l.foldl LwD.branch s).acts,x∈A)->(∀ a,KAt r L (l.foldl LwD.branch s) a=d)->∀ a,KAt r L s a=jK d l r
 | [],s,_,_,_,hv,a=>hv a
 | b :: l,s,hi,h,hs,hv,a=>by
  have hp:Pre L (s.branch b):=(zD l _).trans h
  have hsub:∀ x∈(s.branch b).acts,x∈A:=λx hx=>hs x (by
   have:∀ (l:List dK) (s:LwD),∀ x∈s.acts,x∈(l.foldl LwD.branch s).acts:=λl=>by
    induction l with
    | nil=>exact λs x hx=>hx
    | cons b l ih=>exact λs x hx=>ih _ x ((rH s b).2 x hx)
   exact this l _ x hx)
  have ih:=aHt w hr hA l (s.branch b) (λb hb=>hi b (List.mem_cons_of_mem _ hb)) h hs hv;rw[aL9 w hr hA (hi b (List.mem_cons_self ..)) hp hsub ih a,aDD]
theorem oU:∀ (l:List dK) (s:LwD),(l.foldl LwD.branch s).other=s.other/\∀ x∈s.acts,x∈(l.foldl LwD.branch s).acts
 | [],s=>⟨rfl,λ_ hx=>hx⟩
 | b :: l,s=>by
  obtain⟨h2,h3⟩:=oU l (s.branch b);obtain⟨k1,k2⟩:=rH s b;exact⟨h2.trans k1,λx hx=>h3 x (k2 x hx)⟩
theorem aNx(w:wfL L)(hr:r.ok){A:List (BitVec 32×Nat)}(hA:AtA r L A){st:List (BitVec 32×Nat)}{s:LwD}{c:cV}(hi:∀ b∈c.branches,aEj b.conds)(h:Pre L (LwD.case1 st s c))(hs:∀ x∈(LwD.case1 st s c).acts,x∈A){d:BitVec 32}(ho:∀ a,atN r L s.other a=d):
  ∀ a,atN r L (jW c.number st) a=jK d c.branches r:=by
 intro a;have hb:Pre L (s.put (cP (jW c.number st))):=(xK c.branches _).trans h;rw[(rA w hb).2];refine aHt w hr hA c.branches _ hi (Pre.back (p:=pN (c.branches.foldl LwD.branch (s.put (cP (jW c.number st)))).other) h) hs (λa =>?_) a;rw[aEF w (s:=c.branches.foldl LwD.branch (s.put (cP (jW c.number st)))) h,(oU c.branches _).1];exact ho a
theorem aHq(w:wfL L)(hr:r.ok){A:List (BitVec 32×Nat)}(hA:AtA r L A){st:List (BitVec 32×Nat)}{d:BitVec 32}:∀ (l:List cV) (s:LwD),(∀ c∈l,∀ b∈c.branches,aEj b.conds)->Pre L (LwD.cases st l s)->(∀ x∈(LwD.cases st l s).acts,x∈A)->(∀ a,atN r L s.other a=d) ->
  ∀ c∈l,∀ a,atN r L (jW c.number st) a=jK d c.branches r
 | [],_,_,_,_,_,c,hc,_=>by cases hc
 | x :: l,s,hi,h,hs,ho,c,hc,a=>by
  have hp:Pre L (LwD.case1 st s x):=(aAb st l _).trans h;have k1:(LwD.case1 st s x).other=s.other:=(oU x.branches (s.put (cP (jW x.number st)))).1
  have sub:∀ (l:List cV) (s:LwD),∀ y∈s.acts,y∈(LwD.cases st l s).acts:=λl=>by
   induction l with
   | nil=>exact λs y hy=>hy
   | cons z l ih=>exact λs y hy=>ih (LwD.case1 st s z) y ((oU z.branches (s.put (cP (jW z.number st)))).2 y hy)
  rcases List.mem_cons.1 hc with rfl | hc
  ·exact aNx w hr hA (hi c (List.mem_cons_self ..)) hp (λy hy=>hs y (sub l _ y hy)) ho a
  ·exact aHq w hr hA l (LwD.case1 st s x) (λc hc=>hi c (List.mem_cons_of_mem _ hc)) h hs (by rw[k1];exact ho) c hc a
theorem aLM(w:wfL L){A:List (BitVec 32×Nat)}:∀ (l:List (BitVec 32×Nat)) (s:LwD),(∀ x∈l,jW x.1 A=x.2)->Pre L ((l.map Prod.fst).foldl (LwD.end1 A) s)->AtA r L l
 | [],_,_,_=>λx hx=>by cases hx
 | y :: l,s,hx,h=>by
  rw[List.map_cons,List.foldl_cons]at h;have hp:Pre L (LwD.end1 A s y.1):=(aD7 A _ _).trans h;intro x hm a;rcases List.mem_cons.1 hm with rfl | hm
  ·unfold LwD.end1 at hp
   rw[hx x (List.mem_cons_self ..)]at hp;rw[(rA w (Pre.back hp)).2,yQ hp]
   rfl
  ·exact aLM w l _ (λz hz=>hx z (List.mem_cons_of_mem _ hz)) h x hm a
def aBf(F:cV->BitVec 32)(d:BitVec 32)(l:List cV)(n:BitVec 32):BitVec 32:=match l.find? λc=>decide (c.number=n) with
 | none=>d
 | some c=>F c
theorem aB7(w:wfL L){st:List (BitVec 32×Nat)}{F:cV->BitVec 32}{d n:BitVec 32}:∀ (f:Nat) (l:List cV) (s:LwD),l.length<f->Pre L (LwD.choose st f l s)->(l.Pairwise λa b=>a.number.toNat<b.number.toNat) ->
  (∀ c∈l,∀ a,atN r L (jW c.number st) a=F c)->(∀ a,atN r L s.other a=d)->KAt r L s n=aBf F d l n
 | 0,_,_,hf,_,_,_,_=>by omega
 | f+1,l,s,hf,h,hp,hF,ho=>by
  unfold LwD.choose at h
  by_cases h0:l.length=0
  ·rw[if_pos h0]at h
   have:l=[]:=List.eq_nil_of_length_eq_zero h0;subst this;rw[aEF w h,ho];rfl
  rw[if_neg h0]at h
  by_cases h1:l.length=1
  ·rw[if_pos h1]at h
   obtain⟨c,rfl⟩:=List.length_eq_one_iff.1 h1;have hn0:rX [c] 0=c.number:=rfl;rw[hn0]at h;rw[aAQ w h,nS,hF c (List.mem_singleton.2 rfl),ho];unfold aBf
   by_cases hc:n=c.number
   ·simp[hc]
   ·have hc':¬ c.number=n:=λe=>hc e.symm
    simp[hc,hc']
  rw[if_neg h1]at h;have hhalf:l.length / 2<l.length:=by omega
  rw[yR hhalf]at h;have p5:=(oE st f (l.drop (l.length / 2)) _).trans h;have p4:=Pre.back p5;have p3:=(oE st f (l.take (l.length / 2)) _).trans p4;have p2:=Pre.back p3;have k1:=aAQ (r:=r) w p2 n;have k2:=(rA (r:=r) w p3).2;have k3:=(rA (r:=r) w p5).2
  have oth:∀ a,atN r L ((LwD.choose st f (l.take (l.length / 2)) ((s.new.new.put (pIf 48#16 l[l.length / 2].number (s.last+2) (s.last+1))).put (cP (s.last+1)))).put (cP (s.last+2))).other a=d:=by
   have:((LwD.choose st f (l.take (l.length / 2)) ((s.new.new.put (pIf 48#16 l[l.length / 2].number (s.last+2) (s.last+1))).put (cP (s.last+1)))).put (cP (s.last+2))).other=s.other:=(eZ.choose st f (l.take (l.length / 2)) _).2.1;rw[this];exact ho
  have i1:=aB7 w (F:=F) (d:=d) (n:=n) f (l.take (l.length / 2)) _ (by rw[List.length_take];omega) p4 (hp.sublist (List.take_sublist _ _)) (λc hc=>hF c (List.mem_of_mem_take hc)) ho
  have i2:=aB7 w (F:=F) (d:=d) (n:=n) f (l.drop (l.length / 2)) _ (by rw[List.length_drop];omega) h (hp.sublist (List.drop_sublist _ _)) (λc hc=>hF c (List.mem_of_mem_drop hc)) oth
  have e0:KAt r L s n=KAt r L s.new.new n:=rfl;rw[e0,k1,aEl,k2,k3,i1,i2];have hsplit:l=l.take (l.length / 2)++l.drop (l.length / 2):=(List.take_append_drop _ _).symm
  have hlow:∀ c∈l.take (l.length / 2),c.number.toNat<l[l.length / 2].number.toNat:=by
   intro c hc;obtain⟨j,hj,rfl⟩:=List.getElem_of_mem hc;rw[List.length_take]at hj;rw[List.getElem_take];exact List.pairwise_iff_getElem.1 hp j (l.length / 2) (by omega) hhalf (by omega)
  have hhigh:∀ c∈l.drop (l.length / 2),l[l.length / 2].number.toNat<=c.number.toNat:=by
   intro c hc;obtain⟨j,hj,rfl⟩:=List.getElem_of_mem hc;rw[List.length_drop]at hj;rw[List.getElem_drop];rcases Nat.eq_zero_or_pos j with rfl | hj0
   ·exact Nat.le_refl _
   ·exact Nat.le_of_lt (List.pairwise_iff_getElem.1 hp (l.length / 2) (l.length / 2+j) hhalf (by omega) (by omega))
  have key:aBf F d l n=if l[l.length / 2].number.toNat<=n.toNat then aBf F d (l.drop (l.length / 2)) n else aBf F d (l.take (l.length / 2)) n:=by
   have hfd:l.find? (λc=>decide (c.number=n))=((l.take (l.length / 2)).find? (λc=>decide (c.number=n))).or ((l.drop (l.length / 2)).find? (λc=>decide (c.number=n))):=by
    conv=>lhs;rw[hsplit]
    rw[List.find?_append]
   by_cases hle:l[l.length / 2].number.toNat<=n.toNat
   ·rw[if_pos hle]
    unfold aBf
    have hnone:(l.take (l.length / 2)).find? (λc=>decide (c.number=n))=none:=by
     rw[List.find?_eq_none];intro c hc he;have:=hlow c hc;rw[of_decide_eq_true he]at this;omega
    rw[hfd,hnone,Option.none_or]
   ·rw[if_neg hle]
    unfold aBf
    have hnone:(l.drop (l.length / 2)).find? (λc=>decide (c.number=n))=none:=by
     rw[List.find?_eq_none];intro c hc he;have:=hhigh c hc;rw[of_decide_eq_true he]at this;omega
    rw[hfd,hnone,Option.or_none]
  rw[key]
  by_cases hc:l[l.length / 2].number.toNat<=n.toNat
  ·rw[if_pos (decide_eq_true hc),if_pos hc]
  ·rw[if_neg (by simpa using hc),if_neg hc]
end
theorem aJW(p:iJ)(hp:p.cases.Pairwise λa b=>a.number.toNat<b.number.toNat)(hi:∀ c∈p.cases,∀ b∈c.branches,aEj b.conds)(r:aN)(hr:r.ok)(a:BitVec 32):
  (den r (iG p).parts).2 a=iS p r:=by
 have hnd:(p.cases.map cV.number).Nodup:=by
  rw[List.nodup_iff_pairwise_ne,List.pairwise_map];exact hp.imp λh e=>by rw[e]at h;omega
 have hl:=aKD p hnd;have w:=hl.fin.wf;generalize hL:(iG p).parts=L at *
 have q5:Pre L (LwD.cases (fI p).2 p.cases (kN p)):=by
  show _ <+: L
  rw[<- hL];exact aD7 _ _ _
 have q4:Pre L (kN p):=(aAb _ _ _).trans q5;have q3:Pre L ((fI p).1.put (bN (dV 0#32))):=(oE _ _ _ _).trans q4;obtain⟨_,_,_,r4,r5⟩:=zB p.cases (lower0 p.default,[]) hnd (by simp) (by simp) (LO.lower0 p.default)
 have r4:(fI p).1.parts=(lower0 p.default).parts:=r4;have r5:eZ (lower0 p.default) (fI p).1:=r5
 have q2:Pre L (lower0 p.default):=by
  show _ <+: L
  rw[<- r4];exact Pre.back q3
 have hla:=hl.lo5.1.la
 have hA:AtA r L (LwD.cases (fI p).2 p.cases (kN p)).acts:=by
  refine aLM w (A:=(LwD.cases (fI p).2 p.cases (kN p)).acts) _ (LwD.cases (fI p).2 p.cases (kN p)) (λx hx=>aBH hla.2 hx) ?_
  show _ <+: L
  rw[<- hL,<- hla.1];exact List.prefix_refl _
 have hkc:=eZ.choose (fI p).2 (p.cases.length+1) p.cases ((fI p).1.put (bN (dV 0#32)));have acts4:(kN p).acts=(lower0 p.default).acts:=hkc.1.trans r5.1;have oth4:(kN p).other=(lower0 p.default).other:=hkc.2.1.trans r5.2.1
 have sub5:∀ x∈(lower0 p.default).acts,x∈(LwD.cases (fI p).2 p.cases (kN p)).acts:=by
  rw[<- acts4]
  have:∀ (l:List cV) (s:LwD),∀ y∈s.acts,y∈(LwD.cases (fI p).2 l s).acts:=λl=>by
   induction l with
   | nil=>exact λs y hy=>hy
   | cons z l ih=>exact λs y hy=>ih (LwD.case1 (fI p).2 s z) y ((oU z.branches (s.put (cP (jW z.number (fI p).2)))).2 y hy)
  exact this p.cases (kN p)
 have hother:∀ a,atN r L (lower0 p.default).other a=p.default:=by
  have h1:=qH LwD.zero p.default;have h2:(p.default,(uY p.default).other)∈(lower0 p.default).acts:=aEo (uY p.default) _ _ h1;have h3:(lower0 p.default).other=(uY p.default).other:=(mH (uY p.default) 2147483648#32).2;rw[h3];exact hA _ (sub5 _ h2)
 have hkill:∀ a,atN r L (low2 p.default).2 a=2147483648#32:=by
  have h1:=qH (uY p.default) 2147483648#32;exact hA _ (sub5 _ h1)
 have hcases:=aHq (r:=r) w hr hA (st:=(fI p).2) (d:=p.default) p.cases (kN p) hi q5 (λx hx=>hx) (by rw[oth4];exact hother)
 have w0:kZ r 0#32=(r.number,true):=rfl;have w4:kZ r 4#32=(r.arch,true):=rfl
 have hnum:∀ a,KAt r L (lower0 p.default) a=match p.cases.find? (λc=>decide (c.number=r.number)) with | none=>p.default | some c=>jK p.default c.branches r:=by
  intro a;have e1:KAt r L (lower0 p.default)=KAt r L (fI p).1:=by unfold KAt;rw[r4]
  rw[e1,yQ q3 a];have hs:cK r (dV 0#32) a=((kZ r 0#32).1,0,none):=rfl;rw[hs,w0];simp only;rw[aB7 w (F:=λc=>jK p.default c.branches r) (d:=p.default) (p.cases.length+1) p.cases _ (Nat.lt_succ_self _) q4 hp hcases (λa =>?_)]
  ·rfl
  ·show atN r L (fI p).1.other a=_
   rw[r5.2.1];exact hother a
 have hq1:=Pre.back (s:=((low2 p.default).1.new.put (bN (dV 4#32))).put (pIf 16#16 3221225534#32 ((low2 p.default).1.last+1) (low2 p.default).2)) (p:=cP ((low2 p.default).1.last+1)) q2;have hq0:=Pre.back hq1;have hown:=(rA (r:=r) w (s:=((low2 p.default).1.new.put (bN (dV 4#32))).put (pIf 16#16 3221225534#32 ((low2 p.default).1.last+1) (low2 p.default).2)) q2).2;have hown:atN r L ((low2 p.default).1.last+1)=KAt r L (lower0 p.default):=hown
 have hz:(low2 p.default).1.parts=[]:=by
  show((uY p.default).act _).1.parts=[]
  rw[(mH _ _).1]
  show(LwD.zero.act p.default).1.parts=[]
  rw[(mH _ _).1];rfl
 have hstart:(den r L).2 a=KAt r L (low2 p.default).1.new a:=by
  unfold KAt;have:(low2 p.default).1.new.parts=[]:=hz;rw[this];rfl
 rw[hstart,yQ hq0 a];have hs:cK r (dV 4#32) a=((kZ r 4#32).1,0,none):=rfl;rw[hs,w4];simp only;rw[aAQ w hq1,nS,hown,hnum,hkill];unfold iS
 by_cases ha:r.arch=3221225534#32
 ·rw[if_pos (decide_eq_true ha),if_pos ha]
  cases p.cases.find? (λc=>decide (c.number=r.number))<;>rfl
 ·rw[if_neg (by simpa using ha),if_neg ha]
end
section
set_option maxRecDepth 20000
section
variable {E:Sy}{H H' H0 Z:AH}{Q:Value->AH->Prop}
theorem xS:∀ l:List dI,(dX l).length<=l.length
 | []=>Nat.le_refl _
 | r :: l=>by
  have:=xS l;rw[dX]
  split
  ·simp;omega
  ·split
   ·simp
   ·simp;omega
theorem aMf(l:List dI):(sC l).length<=4*l.length:=by
 have h:∀ k,(oD l k).length<=l.length:=λk=>List.length_filter_le _ _;have h0:=h 0;have h1:=h 1;have h2:=h 2;have h3:=h 3;simp only[sC,List.length_append];omega
theorem pE.nodup{p:jS}{ns:List (BitVec 32)}(h:pE p ns):ns.Nodup:=h.up.imp fun {a b} hab e=>by subst e;omega
theorem pE.len{p:jS}{ns:List (BitVec 32)}(h:pE p ns):ns.length<=p.rules.length:=by
 have:=qJ ns (p.rules.map dI.number) h.nodup λn hn=>by
  obtain⟨r,hr,rfl⟩:=(h.mem n).1 hn;exact List.mem_map.2 ⟨r,hr,rfl⟩
 simpa using this
theorem xI{p:jS}{ns:List (BitVec 32)}(h:pE p ns):(eA p ns).cases.Pairwise λa b=>a.number.toNat<b.number.toNat:=by
 unfold eA;simp only;rw[List.pairwise_map];exact h.up
theorem vG{p:jS}{ns:List (BitVec 32)}:∀ c∈(eA p ns).cases,c.branches.length<=4*p.rules.length:=by
 intro c hc;unfold eA at hc;obtain⟨n,_,rfl⟩:=List.mem_map.1 hc;have h1:=xS (sC (lQ p.rules n));have h2:=aMf (lQ p.rules n);have h3:(lQ p.rules n).length<=p.rules.length:=List.length_filter_le _ _
 show(dX (sC (lQ p.rules n))).length<=_
 omega
end
end
section
set_option maxRecDepth 20000
theorem aFf(A:List (BitVec 32×Nat)):∀ (l:List (BitVec 32)) (s:LwD),l≠[]->∃ l0 k,(l.foldl (LwD.end1 A) s).parts=l0++[aPJ k]
 | [],_,h=>(h rfl).elim
 | [a],s,_=>⟨(s.put (cP (jW a A))).parts,a,rfl⟩
 | a :: b :: l,s,_=>aFf A (b :: l) (LwD.end1 A s a) (by simp)
theorem aGg{α:Type}(f:α->Nat)(m:Nat):∀ l:List α,(∀ x∈l,f x<=m)->(l.map f).sum<=l.length*m
 | [],_=>by simp
 | x :: l,h=>by
  have h1:=aGg f m l λy hy=>h y (List.mem_cons_of_mem _ hy);have h2:=h x (List.mem_cons_self ..);simp only[List.map_cons,List.sum_cons,List.length_cons];rw[Nat.add_mul,Nat.one_mul];omega
theorem aPN{p:iJ}{a b c:Nat}(h1:p.cases.length<=a)(h2:∀ x∈p.cases,x.branches.length<=b)(h3:∀ x∈p.cases,∀ y∈x.branches,y.conds.length<=c):wP p<=20+8*a+a*(b*(12*c+5)+2):=by
 have h4:∀ x∈p.cases,wK x<=b*(12*c+5)+2:=by
  intro x hx;have:wK x=(x.branches.map wC).sum+1+1:=rfl;rw[this]
  have h5:=aGg wC (12*c+5) x.branches λy hy=>by
   have:=h3 x hx y hy;unfold wC;omega
  have h6:=Nat.mul_le_mul_right (12*c+5) (h2 x hx);omega
 have h5:=aGg wK _ p.cases h4;have h6:=Nat.mul_le_mul_right (b*(12*c+5)+2) h1;unfold wP;omega
theorem xZ:∀ (l out:List bA) (c:bA),c∈fJ out l->c∈out\/c∈l
 | [],_,_,h => .inl h
 | x :: l,out,c,h=>by
  unfold fJ at h;rcases xZ l _ c h with h1 | h1
  ·split at h1
   ·rcases List.mem_append.1 h1 with h2 | h2
    ·exact .inl h2
    ·rw[List.mem_singleton]at h2;subst h2;exact .inr (List.mem_cons_self ..)
   ·exact .inl h1
  ·exact .inr (List.mem_cons_of_mem _ h1)
theorem yX:∀ (l out:List bA),(fJ out l).length<=out.length+l.length
 | [],_=>by simp[fJ]
 | x :: l,out=>by
  unfold fJ;have:=yX l (if mN x=false/\x ∉ out then out++[x] else out)
  split at this
  ·rename_i h;rw[if_pos h];simp at this ⊢; omega
  ·rename_i h;rw[if_neg h];simp at this ⊢; omega
theorem aAI:∀ (l:List dI) (b:dK),b∈dX l->∃ x∈l,(∀ c∈b.conds,c∈x.conds)/\b.conds.length<=x.conds.length
 | [],b,h=>by simp[dX]at h
 | x :: l,b,h=>by
  unfold dX at h
  have hrec:b∈dX l->∃ y∈x :: l,(∀ c∈b.conds,c∈y.conds)/\b.conds.length<=y.conds.length:=λh=>by
   obtain⟨y,h1,h2⟩:=aAI l b h;exact⟨y,List.mem_cons_of_mem _ h1,h2⟩
  split at h
  ·exact hrec h
  split at h
  ·rw[List.mem_singleton]at h
   subst h;exact⟨x,List.mem_cons_self ..,by simp,by simp⟩
  ·rcases List.mem_cons.1 h with h | h
   ·subst h
    refine⟨x,List.mem_cons_self ..,λc hc =>?_,?_⟩
    ·rcases xZ x.conds [] c hc with h | h
     ·cases h
     ·exact h
    ·have:=yX x.conds []
     show(fJ [] x.conds).length<=_
     simpa using this
   ·exact hrec h
theorem aAM{p:jS}{n:BitVec 32}{b:dK}(h:b∈(rC p n).branches):∃ x∈p.rules,(∀ c∈b.conds,c∈x.conds)/\b.conds.length<=x.conds.length:=by
 obtain⟨x,h1,h2⟩:=aAI _ b h;refine⟨x,?_,h2⟩;have h3:∀ k,x∈oD (lQ p.rules n) k->x∈lQ p.rules n:=λk hk=>(List.mem_filter.1 hk).1
 have:x∈lQ p.rules n:=by
  unfold sC at h1;simp only[List.mem_append]at h1;rcases h1 with ((h | h) | h) | h<;>exact h3 _ h
 exact(List.mem_filter.1 this).1
def aNP(p:jS):Prop:=∀ x∈p.rules,aEj x.conds
theorem aA1{p:jS}(h:aNP p)(ns:List (BitVec 32)):∀ c∈(eA p ns).cases,∀ b∈c.branches,aEj b.conds:=by
 intro c hc b hb x hx;obtain⟨n,_,rfl⟩:=List.mem_map.1 hc;obtain⟨y,h1,h2,_⟩:=aAM hb;exact h y h1 x (h2 x hx)
theorem aHj{p:jS}{ns:List (BitVec 32)}(hn:pE p ns){a c:Nat}(h1:p.rules.length<=a)(h2:∀ x∈p.rules,x.conds.length<=c):wP (eA p ns)<=20+8*a+a*(4*a*(12*c+5)+2):=by
 refine aPN ?_ (λx hx =>?_) λx hx y hy =>?_
 ·have:=hn.len
  show(ns.map (rC p)).length<=_
  rw[List.length_map];omega
 ·have:=vG x hx;omega
 ·obtain⟨n,_,rfl⟩:=List.mem_map.1 hx
  obtain⟨z,h3,_,h4⟩:=aAM hy;have:=h2 z h3;omega
theorem eR.pol_conds(s:eR):∀ x∈s.pol.pol.rules,x.conds.length<=4:=by
 intro x hx;simp only[eR.pol,List.mem_map]at hx;obtain⟨y,_,rfl⟩:=hx;simp only[xQ.rule,List.length_map,List.length_take];omega
end
section
set_option maxRecDepth 20000
def oR(p:aG):Bool:=decide (p.kind=2#8)&&decide (p.insn.code=32#16)
theorem zM{p:aG}(h:p.kind=1#8)(l:List aG)(now:Option (BitVec 32)):dN (p :: l) now=p :: dN l none:=by
 show(if p.kind=1#8 then _ else _)=_
 rw[if_pos h]
theorem aAe{p:aG}(h:oR p=true)(l:List aG)(now:Option (BitVec 32)):dN (p :: l) now=if now=some p.insn.k then dN l now else p :: dN l (some p.insn.k):=by
 simp only[oR,Bool.and_eq_true,decide_eq_true_eq]at h
 show(if p.kind=1#8 then _ else if p.kind=2#8/\p.insn.code=32#16 then _ else _)=_
 rw[if_neg (by rw[h.1];decide),if_pos h]
theorem rE{p:aG}(h2:p.kind=2#8)(h:oR p=false)(l:List aG)(now:Option (BitVec 32)):dN (p :: l) now=p :: dN l none:=by
 have hc:¬ (p.kind=2#8/\p.insn.code=32#16):=λhc=>by simp[oR,hc.1,hc.2]at h
 show(if p.kind=1#8 then _ else if p.kind=2#8/\p.insn.code=32#16 then _ else if p.kind=2#8 then _ else _)=_
 rw[if_neg (by rw[h2];decide),if_neg hc,if_pos h2]
theorem nW{p:aG}(h1:p.kind≠1#8)(h2:p.kind≠2#8)(l:List aG)(now:Option (BitVec 32)):dN (p :: l) now=p :: dN l now:=by
 show(if p.kind=1#8 then _ else if p.kind=2#8/\p.insn.code=32#16 then _ else if p.kind=2#8 then _ else _)=_
 rw[if_neg h1,if_neg (λh=>h2 h.1),if_neg h2]
theorem aFz{p:aG}(h:oR p=true):p.kind=2#8/\p.insn.code=32#16:=by
 simpa[oR] using h
theorem aBq(r:aN){p:aG}(h:oR p=true)(d:List (Int×Beh)×Beh):gD r p d=(d.1,λ_=>d.2 (kZ r p.insn.k).1):=by
 obtain⟨h2,hc⟩:=aFz h;unfold gD;rw[if_neg (by rw[h2];decide),if_neg (by rw[h2];decide),if_neg (by rw[h2];decide)]
 have:∀ a,cK r p.insn a=((kZ r p.insn.k).1,0,none):=λa=>by unfold cK;rw[if_pos hc]
 simp only[this]
theorem zF(r:aN){p:aG}(h1:p.kind≠1#8)(d d':List (Int×Beh)×Beh)(he:d'.1=d.1)(hb:p.kind=2#8->d'.2=d.2)(hk:p.kind=2#8\/p.kind=3#8\/p.kind=4#8):gD r p d'=gD r p d:=by
 unfold gD;rw[if_neg h1,if_neg h1];rcases hk with h | h | h
 ·rw[if_neg (by rw[h];decide),if_neg (by rw[h];decide),if_neg (by rw[h];decide),if_neg (by rw[h];decide),he,hb h]
 ·rw[if_neg (by rw[h];decide),if_pos h,if_neg (by rw[h];decide),if_pos h,he]
 ·rw[if_pos h,if_pos h,he]
theorem jM{p:aG}(h:dS p):p.kind=1#8\/p.kind=2#8\/p.kind=3#8\/p.kind=4#8:=by
 rcases h with h | h | ⟨h,_⟩ | ⟨h,_⟩
 ·exact .inl h
 ·exact .inr (.inr (.inr h))
 ·exact .inr (.inl h)
 ·exact .inr (.inr (.inl h))
theorem pZ(r:aN):∀ (l:List aG) (now:Option (BitVec 32)),(∀ p∈l,dS p)->(den r (dN l now)).1=(den r l).1/\∀ a,(∀ k,now=some k->a=(kZ r k).1)->(den r (dN l now)).2 a=(den r l).2 a
 | [],_,_=>⟨rfl,λ_ _=>rfl⟩
 | p :: l,now,hp=>by
  have hl:∀ q∈l,dS q:=λq hq=>hp q (List.mem_cons_of_mem _ hq);have i0:=pZ r l none hl;have e0:(den r (dN l none)).2=(den r l).2:=funext λa=>i0.2 a (λk h=>by cases h)
  rcases jM (hp p (List.mem_cons_self ..)) with h1 | h2 | h3 | h4
  ·rw[zM h1,dZ,dZ]
   unfold gD;rw[if_pos h1,if_pos h1,e0,i0.1];exact⟨rfl,λ_ _=>rfl⟩
  ·cases hld:oR p with
   | true =>
    rw[aAe hld]
    by_cases hn:now=some p.insn.k
    ·rw[if_pos hn]
     have i1:=pZ r l now hl;rw[dZ,aBq r hld];refine⟨i1.1,λa ha =>?_⟩;rw[i1.2 a ha]
     show _=(den r l).2 (kZ r p.insn.k).1
     rw[ha _ hn]
    ·rw[if_neg hn]
     have i1:=pZ r l (some p.insn.k) hl;rw[dZ,dZ,aBq r hld,aBq r hld];refine⟨i1.1,λa _ =>?_⟩;exact i1.2 _ λk hk=>by cases hk;rfl
   | false =>
    rw[rE h2 hld,dZ,dZ,zF r (by rw[h2];decide) (den r l) (den r (dN l none)) i0.1 (λ_=>e0) (.inl h2)]
    exact⟨rfl,λ_ _=>rfl⟩
  ·have i1:=pZ r l now hl
   rw[nW (by rw[h3];decide) (by rw[h3];decide),dZ,dZ,zF r (by rw[h3];decide) (den r l) (den r (dN l now)) i1.1 (λh=>by rw[h3]at h;exact absurd h (by decide)) (.inr (.inl h3))]
   exact⟨rfl,λ_ _=>rfl⟩
  ·have i1:=pZ r l now hl
   rw[nW (by rw[h4];decide) (by rw[h4];decide),dZ,dZ,zF r (by rw[h4];decide) (den r l) (den r (dN l now)) i1.1 (λh=>by rw[h4]at h;exact absurd h (by decide)) (.inr (.inr h4))]
   exact⟨rfl,λ_ _=>rfl⟩
end
section
set_option maxRecDepth 20000
theorem eR.rules_12(s:eR):s.pol.pol.rules.length<=12:=by simp[eR.pol];omega
theorem dJ.toZ{Z H:AH}{sz:Nat}{v:Value}{rows:List (List Value)}(h:dJ Z H sz v rows):dJ zH H sz v rows:=⟨h.1,h.2.imp id λ⟨b,f,c,cs,_,h2⟩=>⟨b,f,c,cs,nF _,h2⟩⟩
section
variable {E:Sy}{H H' H0 Z:AH}{Q:Value->AH->Prop}{X:List Res}{fb:Nat}{c:List bM}
theorem fL{H:AH}{z c:List Value}{n:Nat}(hz:z.length=n)(hc:c.length=n)(hp:c.all plain1=true):aH n (ptr H.next 0) (.agg c.toArray) (H.new (.cells z none))=some (H.new (.cells c none)):=by
 rw[cM,AH.get_new_self];have:AM.aT z 0 c=c:=by simp[aT,hz,hc]
 simp only[List.size_toArray,List.toList_toArray,hc,hz,hp,Nat.zero_add,Nat.le_refl,and_self,if_true,this,AH.new_put]
theorem lY{H:AH}{c:List Value}{n:Nat}(hc:c.length=n):aE n (ptr H.next 0) (H.new (.cells c none))=some (.agg c.toArray):=by rw[aJ,AH.get_new_self,cH _ _ n hc];rfl
theorem Fil.newbox(h:Fil H0 Z H fb c X)(cs:List Value):Fil H0 Z (H.new (.cells cs none)) fb c (X++[bF H.next cs]):=by
 obtain⟨lv,n1,n2,h⟩:=h;exact⟨lv,n1,n2,h.newbox cs⟩
theorem Fil.dropLast{r:Res}(h:Fil H0 Z H fb c (X++[r])):Fil H0 Z H fb c X:=by
 obtain⟨lv,n1,n2,h⟩:=h;exact⟨lv,n1,n2,Has.dropLast (L:=_ :: _ :: X) h⟩
theorem aHC(p:iJ):(iG p).parts.length<=3*wP p:=by
 have h3:(fI p).1.big=(lower0 p.default).big+p.cases.length:=rD p.cases (lower0 p.default,[]);have h0:=aBx p.default;have h4:(kN p).big+(if p.cases.length=0 then 0 else 6)<=((fI p).1.put (bN (dV 0#32))).big+7*p.cases.length+1:=oL (fI p).2 (p.cases.length+1) p.cases ((fI p).1.put (bN (dV 0#32))) (Nat.lt_succ_self _);rw[cF]at h4;have h5:=uD (fI p).2 p.cases (kN p);have hw:wP p=20+8*p.cases.length+(p.cases.map wK).sum:=rfl;have h6:=yL (LwD.cases (fI p).2 p.cases (kN p)).order (LwD.cases (fI p).2 p.cases (kN p)).acts (LwD.cases (fI p).2 p.cases (kN p));have h7:(LwD.cases (fI p).2 p.cases (kN p)).order.length<=(LwD.cases (fI p).2 p.cases (kN p)).big:=by unfold LwD.big;omega
 have h8:(iG p).parts.length<=(iG p).big:=by unfold LwD.big;omega
 have h9:(iG p).big=(LwD.cases (fI p).2 p.cases (kN p)).big+2*(LwD.cases (fI p).2 p.cases (kN p)).order.length:=h6;have h5:=uD (fI p).2 p.cases (kN p);omega
end
end
section
set_option maxRecDepth 20000
section
variable {E:Sy}{H H' H0 Z:AH}{Q:Value->AH->Prop}
theorem S.names_Word_p(hE:aX E)(hQ:∀ H',Ext H H'->Q (vb true) H'):E.call 33 [(.string ⟨#[112]⟩)] H Q:=by
 apply hE.f76;have k1:fV (.string ⟨#[112]⟩)=some (vi 1):=rfl;have k2:aA .lss (vi 1) (vi 1)=some (vb false):=rfl;have k3:aA .gtr (vi 1) (vi 14)=some (vb false):=rfl;have k4:iY (.string ⟨#[112]⟩) (vi 0)=some (.int .u8 112):=rfl;have k5:aA .lss (.int .u8 112) (.int .u8 97)=some (vb false):=rfl;have k6:aA .gtr (.int .u8 112) (.int .u8 122)=some (vb false):=rfl;have k7:aAa (.string ⟨#[112]⟩)=some (.siter ⟨#[112]⟩ 0,oP):=rfl;simp only[F.f76,k1,k2,k3,k4,k5,k6,k7,AM.aQ,aR,aC];have h1:(H.new (.siter ⟨#[112]⟩ 0)).get H.next = .siter ⟨#[112]⟩ 0:=AH.get_new_self _ _;have x1:Ext H (H.new (.siter ⟨#[112]⟩ 0)):=(Ext.refl _).new _;have hlt:H.next<(H.new (.siter ⟨#[112]⟩ 0)).next:=by rw[AH.next_new];omega
 generalize hH1:H.new (.siter ⟨#[112]⟩ 0)=H1 at *
 have n1:rV (ptr H.next 0) H1=some (.tuple #[.bool true,vi 0,.int .i32 112],H1.put H.next (.siter ⟨#[112]⟩ 1)):=by
  simp only[rV,ptr,h1];rfl
 have x2:Ext H (H1.put H.next (.siter ⟨#[112]⟩ 1)):=x1.put (Nat.le_refl _) _;have h2:(H1.put H.next (.siter ⟨#[112]⟩ 1)).get H.next = .siter ⟨#[112]⟩ 1:=AH.get_put_self _ _ hlt
 have n2:rV (ptr H.next 0) (H1.put H.next (.siter ⟨#[112]⟩ 1))=some (.tuple #[.bool false],H1.put H.next (.siter ⟨#[112]⟩ 1)):=by
  simp only[rV,ptr,h2];rfl
 refine aZ.step λX hX =>?_;have e0:ext (.tuple #[.bool true,vi 0,.int .i32 112]) 0=some (.bool true):=rfl;have e2:ext (.tuple #[.bool true,vi 0,.int .i32 112]) 2=some (.int .i32 112):=rfl;have e3:ext (.tuple #[.bool false]) 0=some (.bool false):=rfl;have c1:aA .lss (.int .i32 112) (.int .i32 97)=some (vb false):=rfl;have c2:aA .gtr (.int .i32 112) (.int .i32 122)=some (vb false):=rfl;simp only[F.f76_l1,n1,nZ,e0,e2,c1,c2,aC];refine hX _ _ ?_;refine aZ.step λX' hX' =>?_;simp only[F.f76_l1,n2,nZ,e3,aC];exact hQ _ x2
theorem S.policy_action_allow(hE:aX E)(hQ:Q (vb true) H):E.call 34 [u32 2147418112#32] H Q:=by
 apply hE.f96;have k1:(.int .u32 2147483648:Value)=u32 2147483648#32:=rfl;have k2:(.int .u32 2147221504:Value)=u32 2147221504#32:=rfl;have k3:(.int .u32 2147418112:Value)=u32 2147418112#32:=rfl;have d1:decide (2147418112#32=2147483648#32)=false:=by decide
 have d2:decide (2147418112#32=2147221504#32)=false:=by decide
 have d3:decide (2147418112#32=2147418112#32)=true:=by decide
 simp only[F.f96,F.f96_j1,k1,k2,k3,pL,d1,d2,d3,aC];exact hQ
def pc0:List Value:=[(.string ⟨#[112]⟩),u32 2147418112#32,bY,u16 0#16,bY,bY]
theorem S.policy_Policy_Check_0(hE:aX E)(t:Nat)(hQ:∀ H',Ext H H'->Q (vi 0) H'):E.call 14 [.agg pc0.toArray,ptr t 0] H Q:=by
 apply hE.f91;have b1:=AH.get_new_self H (.cells pc0 none);have x1:Ext H (H.new (.cells pc0 none)):=(Ext.refl _).new _;have c0:pc0[0]? = some (.string ⟨#[112]⟩):=rfl;have c1:pc0[1]? = some (u32 2147418112#32):=rfl;have c2:pc0[2]? = some bY:=rfl;have c3:pc0[3]? = some (u16 0#16):=rfl;have c4:pc0[4]? = some bY:=rfl;have c5:pc0[5]? = some bY:=rfl;have ln:lenSlc bY=some (vi 0):=rfl;have g1:aA .gtr (vi 0) (vi 64)=some (vb false):=rfl;have g2:aA .gtr (vi 0) (vi 32)=some (vb false):=rfl;have g3:aA .lss (vi 0) (vi 0)=some (vb false):=rfl;have g4:aA .neq (vi 0) (vi 0)=some (vb false):=rfl;simp only[F.f91,aV,AM.aQ,aR,List.toList_toArray,iC,b1,c0,aC];generalize H.new (.cells pc0 none)=H1 at *;generalize H.next=t1 at *;refine S.names_Word_p hE λH2 e2 =>?_;have b2:=e2.cells b1;have x2:=x1.trans e2;simp only[b2,c1,aC];refine S.policy_action_allow hE ?_;simp only[b2,c2,c4,c5,ln,g1,g2,c3,aC];apply hE.f107;have v1:aA .andNot (u16 0#16) (.int .u16 51199)=some (u16 0#16):=rfl;have v2:aA .eql (u16 0#16) (.int .u16 0)=some (vb true):=rfl;simp only[F.f107,v1,v2,b2,c2,ln,aC];refine aZ.step λX hX =>?_;have lo:∀ {K:AH},Ext H2 K->aE 6 (ptr t1 0) K=some (.agg pc0.toArray):=λe=>by rw[aJ,e.cells b2];rfl
 simp only[F.f91_l1,g3,lo (Ext.refl _),aC];apply hE.f93;have hmw:∀ (H:AH) (K:Value->AH->Prop),pD H K=K (.map (some H.next)) (H.new (.map [] 0 true)):=λ_ _=>rfl;have y1:Ext H2 ((H2.new (.cells pc0 none)).new (.map [] 0 true)):=((Ext.refl _).new _).new _;have b3:((H2.new (.cells pc0 none)).new (.map [] 0 true)).get H2.next = .cells pc0 none:=by rw[AH.get_new_ne _ _ (by rw[AH.next_new];omega),AH.get_new_self]
 simp only[F.f93,aV,AM.aQ,aR,List.toList_toArray,hmw,b3,c4,ln,aC];generalize (H2.new (.cells pc0 none)).new (.map [] 0 true)=H3 at *;refine aZ.step λX2 hX2 =>?_;simp only[F.f93_l1,g3,g4,lo y1,aC];apply hE.f94;have y2:Ext H3 ((H3.new (.cells pc0 none)).new (.map [] 0 true)):=((Ext.refl _).new _).new _;have b4:((H3.new (.cells pc0 none)).new (.map [] 0 true)).get H3.next = .cells pc0 none:=by rw[AH.get_new_ne _ _ (by rw[AH.next_new];omega),AH.get_new_self]
 simp only[F.f94,aV,AM.aQ,aR,List.toList_toArray,hmw,b4,c5,ln,aC];generalize (H3.new (.cells pc0 none)).new (.map [] 0 true)=H4 at *;refine aZ.step λX3 hX3 =>?_;simp only[F.f94_l1,g3,aC];exact hQ _ ((x2.trans y1).trans y2)
end
end
section
set_option maxRecDepth 20000
def aNh:jS:=⟨2147418112#32,[]⟩
def aHi:iJ:=⟨[],2147418112#32⟩
def aB9:List aG:=dN (iG aHi).parts none
def aJB:List aG:=qM (aB9.length+1) aB9
def aAs:List bM:=[⟨32#16,0#8,0#8,4#32⟩,⟨21#16,0#8,2#8,3221225534#32⟩,⟨32#16,0#8,0#8,0#32⟩,⟨6#16,0#8,0#8,2147418112#32⟩,⟨6#16,0#8,0#8,2147483648#32⟩]
def aNL:List bM:=[⟨32#16,0#8,0#8,4#32⟩,⟨21#16,0#8,3#8,3221225534#32⟩,⟨32#16,0#8,0#8,0#32⟩,⟨5#16,0#8,0#8,0#32⟩,⟨6#16,0#8,0#8,2147418112#32⟩,⟨6#16,0#8,0#8,2147483648#32⟩]
def aLu(x:Int ⊕ MkD)(c:List bM):Bool:=match x with
 | .inl _=>false
 | .inr s=>decide (s.out=c)
theorem aCR{x:Int ⊕ MkD}{c:List bM}(h:aLu x c=true):∃ s,x = .inr s/\s.out=c:=by
 cases x with
 | inl e=>cases h
 | inr s=>exact⟨s,rfl,of_decide_eq_true h⟩
theorem aPQ:aLu (cY aJB) aAs=true:=by decide +kernel
theorem aPy:aLu (cY aB9) aNL=true:=by decide +kernel
theorem aQo:(iG aHi).parts.length<100:=by decide +kernel
theorem aQA:aB9.length<100:=by decide +kernel
theorem aQu:aJB.length<100:=by decide +kernel
theorem aMg:iQ aAs:=by
 have h0:iQ []:=λk hk=>by simp at hk
 have h1:=uB (x:=⟨6#16,0#8,0#8,2147483648#32⟩) (.inr (.inr (.inr (.inr (.inr (.inr rfl)))))) h0;have h2:=uB (x:=⟨6#16,0#8,0#8,2147418112#32⟩) (.inr (.inr (.inr (.inr (.inr (.inr rfl)))))) h1;have h3:=uB (x:=⟨32#16,0#8,0#8,0#32⟩) (.inl ⟨rfl,by decide,by decide⟩) h2
 have h4:=uB (x:=⟨21#16,0#8,2#8,3221225534#32⟩) (.inr (.inr (.inr (.inl ⟨rfl,by decide,by decide⟩)))) h3
 exact uB (x:=⟨32#16,0#8,0#8,4#32⟩) (.inl ⟨rfl,by decide,by decide⟩) h4
theorem aI8:xV aAs:=⟨by decide,rfl⟩
section
variable {E:Sy}{H H' H0 Z:AH}{Q:Value->AH->Prop}
theorem aOc:sB H aNh pc0:=⟨(by decide:(0:Nat)<2 ^ 63),_,_,_,_,_,rfl,[],Rows.nil _ _ none,rfl,λi h=>by simp[aNh]at h⟩
theorem aPt{ns:List (BitVec 32)}(h:pE aNh ns):ns=[]:=by
 apply List.eq_nil_iff_forall_not_mem.2;intro n hn;obtain⟨r,hr,_⟩:=(h.mem n).1 hn;cases hr
theorem S.compile_Insns_0(hE:aX E)(t:Nat)(hQ:∀ w H',Ext H H'->Rows H' 4 w (bV aAs)->Q (.tuple #[w,vi 0]) H'):E.call 12 [.agg pc0.toArray,ptr t 0] H Q:=by
 apply hE.f13;have b1:=AH.get_new_self H (.cells pc0 none);have x1:Ext H (H.new (.cells pc0 none)):=(Ext.refl _).new _;have lo:∀ {K:AH},Ext (H.new (.cells pc0 none)) K->aE 6 (ptr H.next 0) K=some (.agg pc0.toArray):=λe=>by rw[aJ,e.cells b1];rfl
 have g4:aA .neq (vi 0) (vi 0)=some (vb false):=rfl;have g5:aA .eql (vi 0) (vi 0)=some (vb true):=rfl;simp only[F.f13,aV,AM.aQ,aR,List.toList_toArray,lo (Ext.refl _),aC];generalize H.new (.cells pc0 none)=H1 at *;generalize H.next=t1 at *;refine S.policy_Policy_Check_0 hE t λH2 e2 =>?_;have lo2:=lo e2;simp only[g4,lo2,aC];have hSC:kI E 12:=aG2 hE;have hSR:jP E 12:=λhg hm hQ=>aGc hE hg (by omega) hQ
 refine S.f30 hE (sm:=12) (by decide) hSC hSR aNh pc0 aOc (by decide) (λr hr=>by cases hr) λns pl H3 e3 hns hpl =>?_
 have hn:=aPt hns;subst hn;have hpl:oY H3 aHi pl:=hpl;refine S.f58 hE aHi pl hpl (by decide) λpv H4 e4 hpv =>?_
 have l0:=aQo;refine S.f14 hE hpv (by omega) λpw H5 e5 hpw =>?_
 have hpw:Rows H5 7 pw (bL aB9):=hpw;have lp:=aQA;refine S.f48 hE hpw (by omega) λtw H6 e6 htw =>?_
 have htw:Rows H6 7 tw (bL aJB):=htw;have lt:=aQu;obtain⟨s5,m5,o5⟩:=aCR aPQ;obtain⟨s6,m6,o6⟩:=aCR aPy;refine S.f47 hE htw (by omega) λH7 e7=>⟨λe he=>(by rw[m5]at he;cases he),λs w hs hw =>?_⟩
 rw[m5]at hs;cases hs;rw[o5]at hw;simp only[aC];refine S.f47 hE (hpw.mono (e6.trans e7)) (by omega) λH8 e8=>⟨λe he=>(by rw[m6]at he;cases he),λs w6 hs hw6 =>?_⟩
 rw[m6]at hs;cases hs;rw[o6]at hw6;have hl5:=(hw.mono e8).lenSlc;have hl6:=hw6.lenSlc;have n5:(bV aAs).length=5:=rfl;have n6:(bV aNL).length=6:=rfl;rw[n5]at hl5;rw[n6]at hl6;have hlt:aA .lss (vi ((6:Nat):Int)) (vi ((5:Nat):Int))=some (vb false):=rfl;simp only[g4,g5,hl5,hl6,hlt,aC];exact hQ w _ ((((((((x1.trans e2).trans e3).trans e4).trans e5).trans e6).trans e7).trans e8)) (hw.mono e8)
theorem S.compile_Filter_0(hE:aX E)(t:Nat)(hQ:∀ fb H0 H',Ext H H0->Fil H0 H0 H' fb aAs []->Q (.tuple #[ptr fb 0,vi 0]) H'):E.call 8 [.agg pc0.toArray,ptr t 0] H Q:=by
 apply hE.f12;have b1:=AH.get_new_self H (.cells pc0 none);have x1:Ext H (H.new (.cells pc0 none)):=(Ext.refl _).new _;have lo:aE 6 (ptr H.next 0) (H.new (.cells pc0 none))=some (.agg pc0.toArray):=by rw[aJ,b1];rfl
 have g4:aA .neq (vi 0) (vi 0)=some (vb false):=rfl;simp only[F.f12,aV,AM.aQ,aR,List.toList_toArray,lo,aC];generalize H.new (.cells pc0 none)=H1 at *;refine S.compile_Insns_0 hE t λw H2 e2 hw =>?_;simp only[g4,aC];refine S.f145 hE hw aMg aI8 (by decide) λfb H3 g3 =>?_
 have s3:aH 2 (ptr H3.next 0) (.agg #[vi 0,vi 0]) (H3.new (.cells [vi 0,vi 0] none))=some (H3.new (.cells [vi 0,vi 0] none)):=fL (n:=2) rfl rfl rfl;have l3:aE 2 (ptr H3.next 0) (H3.new (.cells [vi 0,vi 0] none))=some (.agg #[vi 0,vi 0]):=lY (c:=[vi 0,vi 0]) rfl;have hbv0:aK [(0,1),(1,1)] #[vi 0,vi 0] []=some (.agg #[vi 0,vi 0]):=rfl;have hne:iE [0,0] .neq (.agg #[vi 0,vi 0]) (.agg #[vi 0,vi 0])=some (vb false):=rfl;simp only[aW,s3,l3,hbv0,hne,aC];exact hQ fb H2 _ (x1.trans e2) (g3.grow ((Ext.refl H3).new _))
theorem S.f86(hE:aX E)(hQ:∀ H',Ext H H'->Q (vb true) H'):E.call 5 [] H Q:=by
 apply hE.f86;have hbv:aK [(0,1),(1,1),(2,1),(3,1),(4,1),(5,1)] #[(.string ⟨#[]⟩),(.int .u32 0),(.slice none 0 0),(.int .u16 0),(.slice none 0 0),(.slice none 0 0)] [(0,(.string ⟨#[112]⟩)),(1,(.int .u32 2147418112))]=some (.agg pc0.toArray):=rfl;simp only[F.f86,hbv,aC];apply hE.f72;have hbv2:aK [(0,3),(3,1),(4,1),(5,1),(6,1)] #[(.int .u32 0),(.int .i32 0),(.int .u32 0),(.map none),(.map none),vi 0,vi 0] []=some (.agg [(.int .u32 0),(.int .i32 0),(.int .u32 0),(.map none),(.map none),vi 0,vi 0].toArray):=rfl;simp only[F.f72,hbv2,aV,AM.aQ,aR,List.toList_toArray,aC];have x1:Ext H (H.new (.cells [(.int .u32 0),(.int .i32 0),(.int .u32 0),(.map none),(.map none),vi 0,vi 0] none)):=(Ext.refl _).new _;generalize H.new (.cells [(.int .u32 0),(.int .i32 0),(.int .u32 0),(.map none),(.map none),vi 0,vi 0] none)=H1 at *;refine S.compile_Filter_0 hE _ λfb H0 H2 e0 g2 =>?_;have g5:aA .eql (vi 0) (vi 0)=some (vb true):=rfl;simp only[g5,aC];apply hE.f143;obtain⟨lv,n1,n2,g⟩:=id g2;have hb:=g.box (k:=0) (b:=fb) (c:=[lv,vi n1,vi n2]) rfl;have hl:=(g.rows (k:=1) (sz:=4) (v:=lv) (rows:=bV aAs) rfl).lenSlc;have n5:(bV aAs).length=5:=rfl;rw[n5]at hl;have g6:aA .eql (vi ((5:Nat):Int)) (vi 5)=some (vb true):=rfl;simp only[F.f143,iC,hb,hl,g6,aC];exact hQ _ ((x1.trans e0).trans g2.ext)
end
end
section
set_option maxRecDepth 20000
def wf1(p:aG)(h:List Int):Prop:=(p.kind=1#8->p.to ∉ h)/\(p.kind=4#8->p.to∈h)/\(p.kind=3#8->p.to∈h/\p.els∈h)
theorem qN{p:aG}{l:List aG}:wfL (p :: l)↔wf1 p (bT l)/\wfL l:=by
 constructor
 ·exact λh=>⟨h [] p l rfl,h.tail⟩
 ·rintro⟨h1,h2⟩ a q b e
  cases a with
  | nil =>
   simp only[List.nil_append,List.cons.injEq]at e;obtain⟨rfl,rfl⟩:=e;exact h1
  | cons x a =>
   simp only[List.cons_append,List.cons.injEq]at e;exact h2 a q b e.2
theorem aDt{p:aG}(h:p.kind=2#8)(l:List Int):wf1 p l:=⟨λk=>by rw[h]at k;exact absurd k (by decide),λk=>by rw[h]at k;exact absurd k (by decide),λk=>by rw[h]at k;exact absurd k (by decide)⟩
theorem tP{p:aG}(h:p.kind=2#8)(l:List aG):bT (p :: l)=bT l:=by rw[fG,if_neg (by rw[h];decide)]
theorem rR:∀ (l:List aG) (now:Option (BitVec 32)),(∀ p∈l,dS p)->bT (dN l now)=bT l
 | [],_,_=>rfl
 | p :: l,now,hp=>by
  have ih:=λn=>rR l n λq hq=>hp q (List.mem_cons_of_mem _ hq);rcases jM (hp p (List.mem_cons_self ..)) with h1 | h2 | h3 | h4
  ·rw[zM h1,fG,fG,ih]
  ·rw[tP h2]
   cases hld:oR p with
   | true =>
    rw[aAe hld]
    split
    ·exact ih _
    ·rw[tP h2];exact ih _
   | false=>rw[rE h2 hld,tP h2];exact ih _
  ·rw[nW (by rw[h3];decide) (by rw[h3];decide),fG,fG,ih]
  ·rw[nW (by rw[h4];decide) (by rw[h4];decide),fG,fG,ih]
theorem aHN:∀ {l:List aG} (now:Option (BitVec 32)),(∀ p∈l,dS p)->wfL l->wfL (dN l now)
 | [],_,_,h=>h
 | p :: l,now,hp,h=>by
  have hl:∀ q∈l,dS q:=λq hq=>hp q (List.mem_cons_of_mem _ hq);have h1:=qN.1 h;have ih:=λn=>aHN (l:=l) n hl h1.2;rcases jM (hp p (List.mem_cons_self ..)) with k1 | k2 | k3 | k4
  ·rw[zM k1];exact qN.2 ⟨by rw[rR _ _ hl];exact h1.1,ih _⟩
  ·cases hld:oR p with
   | true =>
    rw[aAe hld]
    split
    ·exact ih _
    ·exact qN.2 ⟨aDt k2 _,ih _⟩
   | false=>rw[rE k2 hld];exact qN.2 ⟨aDt k2 _,ih _⟩
  ·rw[nW (by rw[k3];decide) (by rw[k3];decide)];exact qN.2 ⟨by rw[rR _ _ hl];exact h1.1,ih _⟩
  ·rw[nW (by rw[k4];decide) (by rw[k4];decide)];exact qN.2 ⟨by rw[rR _ _ hl];exact h1.1,ih _⟩
theorem aBV:∀ {l:List aG} {now:Option (BitVec 32)} {p:aG},p∈dN l now->p∈l
 | [],_,_,h=>by cases h
 | q :: l,now,p,h=>by
  unfold dN at h
  have key:∀ {n},p∈q :: dN l n->p∈q :: l:=λh=>by
   rcases List.mem_cons.1 h with h | h
   ·rw[h];exact List.mem_cons_self ..
   ·exact List.mem_cons_of_mem _ (aBV h)
  split at h
  ·exact key h
  ·split at h
   ·split at h
    ·exact List.mem_cons_of_mem _ (aBV h)
    ·exact key h
   ·split at h
    ·exact key h
    ·exact key h
end
section
set_option maxRecDepth 20000
def iX(b:Int->Beh)(r:aN):List aG->Beh
 | []=>aJG
 | p :: l=>if p.kind=1#8 then iX b r l
  else if p.kind=4#8 then b p.to
  else if p.kind=3#8 then λa=>if nH p.insn a=true then b p.to a else b p.els a
  else λa=>match (cK r p.insn a).2.2 with
   | some o=>o
   | none=>iX b r l (cK r p.insn a).1
def AtB(b:Int->Beh)(r:aN)(L:List aG):Prop:=∀ a p c,L=a++p :: c->p.kind=1#8->b p.to=iX b r c
theorem AtB.tail{b:Int->Beh}{r:aN}{p:aG}{L:List aG}(h:AtB b r (p :: L)):AtB b r L:=λa q c e=>h (p :: a) q c (by rw[e];rfl)
theorem AtB.drop{b:Int->Beh}{r:aN}:∀ (a:List aG) {L:List aG},AtB b r (a++L)->AtB b r L
 | [],_,h=>h
 | p :: a,_,h=>AtB.drop a (AtB.tail (p:=p) h)
theorem iV{b:Int->Beh}{r:aN}{p:aG}(h:p.kind=1#8)(l:List aG):iX b r (p :: l)=iX b r l:=by
 simp only[iX];rw[if_pos h]
theorem kH{b:Int->Beh}{r:aN}{p:aG}(h:p.kind=4#8)(l:List aG):iX b r (p :: l)=b p.to:=by
 simp only[iX];rw[if_neg (by rw[h];decide),if_pos h]
theorem qP{b:Int->Beh}{r:aN}{p:aG}(h:p.kind=3#8)(l:List aG):iX b r (p :: l)=λa=>if nH p.insn a=true then b p.to a else b p.els a:=by
 simp only[iX];rw[if_neg (by rw[h];decide),if_neg (by rw[h];decide),if_pos h]
theorem kP{b:Int->Beh}{r:aN}{p:aG}(h:p.kind=2#8)(l:List aG):iX b r (p :: l)=λa=>match (cK r p.insn a).2.2 with
   | some o=>o
   | none=>iX b r l (cK r p.insn a).1:=by
 simp only[iX];rw[if_neg (by rw[h];decide),if_neg (by rw[h];decide),if_neg (by rw[h];decide)]
theorem xL{r:aN}{p:aG}(h:p.kind=1#8)(l:List aG):den r (p :: l)=((p.to,(den r l).2) :: (den r l).1,(den r l).2):=by
 rw[dZ];unfold gD;rw[if_pos h]
theorem aBO{r:aN}{p:aG}(h:p.kind=4#8)(l:List aG):den r (p :: l)=((den r l).1,mX (den r l).1 p.to):=by
 rw[dZ];unfold gD;rw[if_neg (by rw[h];decide),if_pos h]
theorem aGf{r:aN}{p:aG}(h:p.kind=3#8)(l:List aG):den r (p :: l)=((den r l).1,λa=>if nH p.insn a=true then mX (den r l).1 p.to a else mX (den r l).1 p.els a):=by
 rw[dZ];unfold gD;rw[if_neg (by rw[h];decide),if_neg (by rw[h];decide),if_pos h]
theorem oH{r:aN}{p:aG}(h:p.kind=2#8)(l:List aG):den r (p :: l)=((den r l).1,λa=>match (cK r p.insn a).2.2 with
  | some o=>o
  | none=>(den r l).2 (cK r p.insn a).1):=by
 rw[dZ];unfold gD;rw[if_neg (by rw[h];decide),if_neg (by rw[h];decide),if_neg (by rw[h];decide)];rfl
theorem mB{p:aG}(h:p.kind=1#8)(l:List aG):bT (p :: l)=p.to :: bT l:=by rw[fG,if_pos h]
theorem mE{p:aG}(h:p.kind≠1#8)(l:List aG):bT (p :: l)=bT l:=by rw[fG,if_neg h]
theorem zL(n m:Int)(k:Beh)(e:List (Int×Beh)):mX ((m,k) :: e) n=if n=m then k else mX e n:=by
 unfold mX;rw[eL]
 by_cases h:n=m
 ·rw[if_pos h,if_pos h];rfl
 ·rw[if_neg h,if_neg h]
theorem aEO{b:Int->Beh}{r:aN}:∀ {l:List aG},(∀ p∈l,dS p)->wfL l->AtB b r l->(den r l).2=iX b r l/\∀ n∈bT l,mX (den r l).1 n=b n
 | [],_,_,_=>⟨rfl,λn hn=>by simp[bT]at hn⟩
 | p :: l,ho,w,hb=>by
  obtain⟨i1,i2⟩:=aEO (λq hq=>ho q (List.mem_cons_of_mem _ hq)) w.tail hb.tail;have w0:=w [] p l rfl;rcases jM (ho p (List.mem_cons_self ..)) with h | h | h | h
  ·rw[xL h,mB h,iV h]
   refine⟨i1,λn hn =>?_⟩;rw[zL]
   by_cases e:n=p.to
   ·rw[if_pos e,e,hb [] p l rfl h];exact i1
   ·rw[if_neg e]
    exact i2 n ((List.mem_cons.1 hn).resolve_left e)
  ·rw[oH h,mE (by rw[h];decide),kP h]
   exact⟨by simp only[i1],i2⟩
  ·rw[aGf h,mE (by rw[h];decide),qP h]
   exact⟨by simp only[i2 _ (w0.2.2 h).1,i2 _ (w0.2.2 h).2],i2⟩
  ·rw[aBO h,mE (by rw[h];decide),kH h]
   exact⟨i2 _ (w0.2.1 h),i2⟩
theorem uN{l:List aG}{n:Int}:n∈bT l↔∃ a p c,l=a++p :: c/\p.kind=1#8/\p.to=n:=by
 induction l with
 | nil=>simp[bT]
 | cons q l ih =>
  rw[fG];constructor
  ·intro h
   by_cases hq:q.kind=1#8
   ·rw[if_pos hq]at h
    rcases List.mem_cons.1 h with h | h
    ·exact⟨[],q,l,rfl,hq,h.symm⟩
    ·obtain⟨a,p,c,e,h1,h2⟩:=ih.1 h
     exact⟨q :: a,p,c,by rw[e];rfl,h1,h2⟩
   ·rw[if_neg hq]at h
    obtain⟨a,p,c,e,h1,h2⟩:=ih.1 h;exact⟨q :: a,p,c,by rw[e];rfl,h1,h2⟩
  ·rintro⟨a,p,c,e,h1,h2⟩
   cases a with
   | nil =>
    simp only[List.nil_append,List.cons.injEq]at e;rw[e.1,if_pos h1];exact List.mem_cons.2 (.inl h2.symm)
   | cons x a =>
    simp only[List.cons_append,List.cons.injEq]at e;have:=ih.2 ⟨a,p,c,e.2,h1,h2⟩
    split
    ·exact List.mem_cons_of_mem _ this
    ·exact this
theorem wD(r:aN):∀ (a:List aG) {l:List aG},(∀ p∈a++l,dS p)->wfL (a++l)->∀ n∈bT l,mX (den r (a++l)).1 n=mX (den r l).1 n
 | [],_,_,_,_,_=>rfl
 | p :: a,l,ho,w,n,hn=>by
  have ih:=wD r a (λq hq=>ho q (List.mem_cons_of_mem _ hq)) w.tail n hn;have hn':n∈bT (a++l):=by rw[mF];exact List.mem_append_right _ hn
  have w0:=w [] p (a++l) rfl;rw[List.cons_append];rcases jM (ho p (List.mem_cons_self ..)) with h | h | h | h
  ·rw[xL h,zL,if_neg (λ(e:n=p.to)=>w0.1 h (e▸hn'))];exact ih
  ·rw[oH h];exact ih
  ·rw[aGf h];exact ih
  ·rw[aBO h];exact ih
theorem aLH{α:Type}{P:α->Prop}{a b:List α}(h:∀ p∈a++b,P p):∀ p∈b,P p:=λp hp=>h p (List.mem_append_right _ hp)
theorem wfL.drop:∀ (a:List aG) {l:List aG},wfL (a++l)->wfL l
 | [],_,h=>h
 | _ :: a,_,h=>wfL.drop a (wfL.tail h)
theorem aCh{r:aN}{L:List aG}(ho:∀ p∈L,dS p)(w:wfL L):∀ {l a:List aG},L=a++l->(den r l).2=iX (mX (den r L).1) r l
 | [],_,_=>rfl
 | p :: l,a,e=>by
  have ih:=aCh (r:=r) ho w (l:=l) (a:=a++[p]) (by rw[e];simp)
  subst e;have ho':=aLH ho;have w':=wfL.drop a w;have w0:=w' [] p l rfl
  have st:∀ n∈bT l,mX (den r (a++p :: l)).1 n=mX (den r l).1 n:=λn hn=>by
   have:=wD r (a++[p]) (l:=l) (by simpa using ho) (by simpa using w) n hn
   simpa using this
  rcases jM (ho' p (List.mem_cons_self ..)) with h | h | h | h
  ·rw[xL h,iV h];exact ih
  ·rw[oH h,kP h];simp only[ih]
  ·rw[aGf h,qP h];simp only[st _ (w0.2.2 h).1,st _ (w0.2.2 h).2]
  ·rw[aBO h,kH h];exact(st _ (w0.2.1 h)).symm
theorem aM1{r:aN}{L:List aG}(ho:∀ p∈L,dS p)(w:wfL L):AtB (mX (den r L).1) r L:=λa p c e h=>by
 rw[<- aCh (r:=r) ho w (l:=c) (a:=a++[p]) (by rw[e];simp)]
 have:=wD r a (l:=p :: c) (by rw[<- e];exact ho) (by rw[<- e];exact w) p.to (by rw[mB h];exact List.mem_cons_self ..)
 rw[<- e]at this;rw[this,xL h,zL,if_pos rfl]
theorem aDv{b:Int->Beh}{r:aN}:∀ l:List aG,iX b r (nI l)=iX b r l
 | []=>rfl
 | p :: l=>by
  unfold nI
  split
  ·rename_i h;rw[aDv l,iV h]
  ·rfl
theorem aFe:∀ l:List aG,∃ a,l=a++nI l
 | []=>⟨[],rfl⟩
 | p :: l=>by
  unfold nI
  split
  ·obtain⟨a,e⟩:=aFe l
   exact⟨p :: a,by rw[List.cons_append,<- e]⟩
  ·exact⟨[],rfl⟩
def Way(L:List aG)(n t:Int):Prop:=∃ a p c q d,L=a++p :: c/\p.kind=1#8/\p.to=n/\nI c=q :: d/\q.kind=4#8/\q.to=t
theorem tJ:∀ {l:List aG} {m:List (Int×Int)} {n t:Int},bB n (cQ l m)=some t->bB n m=some t\/Way l n t
 | [],_,_,_,h => .inl h
 | p :: l,m,n,t,h=>by
  have h:bB n (cQ l (gQ p l m))=some t:=h;rcases tJ h with h1 | ⟨a,q,c,x,d,e,h2⟩
  ·unfold gQ at h1
   split at h1
   ·rename_i hp
    split at h1
    ·rename_i q hq
     split at h1
     ·rename_i hq4
      rw[dA]at h1
      split at h1
      ·rename_i hn
       cases h1
       obtain⟨d,hd⟩:∃ d,nI l=q :: d:=by
        cases hs:nI l with
        | nil=>rw[hs]at hq;cases hq
        | cons y d=>rw[hs]at hq;cases hq;exact⟨d,rfl⟩
       exact .inr ⟨[],p,l,q,d,rfl,hp,hn.symm,hd,hq4,rfl⟩
      ·exact .inl h1
     ·exact .inl h1
    ·exact .inl h1
   ·exact .inl h1
  ·exact .inr ⟨p :: a,q,c,x,d,by rw[e];rfl,h2⟩
theorem aEC{β:Type}{b:Int->β}{w:List (Int×Int)}(hw:∀ n t,bB n w=some t->b n=b t):∀ (f:Nat) (n:Int),b (bP w f n)=b n
 | 0,_=>rfl
 | f+1,n=>by
  unfold bP
  split
  ·rfl
  ·rename_i t h;rw[aEC hw f t,hw n t h]
theorem aF6{S:Int->Prop}{w:List (Int×Int)}(hw:∀ n t,bB n w=some t->S n->S t):∀ (f:Nat) (n:Int),S n->S (bP w f n)
 | 0,_,h=>h
 | f+1,n,h=>by
  unfold bP
  split
  ·exact h
  ·rename_i t ht;exact aF6 hw f t (hw n t ht h)
theorem iW(w:List (Int×Int))(p:aG):(cG w p).kind=p.kind/\(cG w p).insn=p.insn:=by
 unfold cG
 split
 ·exact⟨rfl,rfl⟩
 ·split<;>exact⟨rfl,rfl⟩
theorem lV{w:List (Int×Int)}{p:aG}(h:p.kind=1#8\/p.kind=2#8):cG w p=p:=by
 unfold cG;rw[if_neg (by rcases h with h | h<;>rw[h]<;>decide),if_neg (by rcases h with h | h<;>rw[h]<;>decide)]
theorem aMb{w:List (Int×Int)}{p:aG}(h:dS p):dS (cG w p):=by
 unfold dS at h ⊢;rw[(iW w p).1,(iW w p).2];exact h
theorem wM{b:Int->Beh}{r:aN}{w:List (Int×Int)}(hw:∀ n t,bB n w=some t->b n=b t):∀ {l:List aG},(∀ p∈l,dS p)->iX b r (l.map (cG w))=iX b r l
 | [],_=>rfl
 | p :: l,ho=>by
  have ih:=wM (b:=b) (r:=r) hw (l:=l) (λq hq=>ho q (List.mem_cons_of_mem _ hq));rw[List.map_cons];rcases jM (ho p (List.mem_cons_self ..)) with h | h | h | h
  ·rw[lV (.inl h),iV h,iV h];exact ih
  ·rw[lV (.inr h),kP h,kP h,ih]
  ·rw[qP (by rw[(iW w p).1];exact h),qP h,(iW w p).2]
   have e:cG w p={ p with to:=bP w w.length p.to,els:=bP w w.length p.els }:=by
    unfold cG;rw[if_neg (by rw[h];decide),if_pos h]
   rw[e];simp only[aEC hw]
  ·rw[kH (by rw[(iW w p).1];exact h),kH h]
   have e:cG w p={ p with to:=bP w w.length p.to }:=by
    unfold cG;rw[if_pos h]
   rw[e];exact aEC hw _ _
theorem aAk(w:List (Int×Int)):∀ {l:List aG},(∀ p∈l,dS p)->bT (l.map (cG w))=bT l
 | [],_=>rfl
 | p :: l,ho=>by
  have ih:=aAk w (l:=l) (λq hq=>ho q (List.mem_cons_of_mem _ hq));rw[List.map_cons]
  by_cases h:p.kind=1#8
  ·rw[lV (.inl h),mB h,mB h,ih]
  ·rw[mE (by rw[(iW w p).1];exact h),mE h,ih]
theorem aIv{b:Int->Beh}{r:aN}{w:List (Int×Int)}(hw:∀ n t,bB n w=some t->b n=b t){L:List aG}(ho:∀ p∈L,dS p)(hb:AtB b r L):AtB b r (L.map (cG w)):=λa p c e h=>by
 obtain⟨a0,l1,e0,e1,e2⟩:=List.map_eq_append_iff.1 e;obtain⟨p0,c0,e3,e4,e5⟩:=List.map_eq_cons_iff.1 e2;subst e0 e3;have hk:p0.kind=1#8:=by rw[<- (iW w p0).1,e4];exact h
 rw[lV (.inl hk)]at e4;rw[<- e4,<- e5,wM hw (λq hq=>ho q (by simp[hq]))]
 exact hb a0 p0 c0 rfl hk
theorem aLs{L:List aG}(w:wfL L){a a' c c':List aG}{p p':aG}(e:L=a++p :: c)(e':L=a'++p' :: c')(h:p.kind=1#8)(h':p'.kind=1#8)(hn:p.to=p'.to):c=c':=by
 have key:∀ {a a' c c':List aG} {p p':aG},L=a++p :: c->p.kind=1#8->p'.kind=1#8->p.to=p'.to->∀ x,a'=a++x->p :: c=x++p' :: c'->c=c':=by
  intro a a' c c' p p' e h h' hn x _ ex;cases x with
  | nil=>simp only[List.nil_append,List.cons.injEq]at ex;exact ex.2
  | cons y x =>
   simp only[List.cons_append,List.cons.injEq]at ex;exact absurd (uN.2 ⟨x,p',c',ex.2,h',hn.symm⟩) ((w a p c e).1 h)
 rw[e]at e';rcases List.append_eq_append_iff.1 e' with ⟨x,h1,h2⟩ | ⟨x,h1,h2⟩
 ·exact key e h h' hn x h1 h2
 ·have e2:L=a'++p' :: c':=by rw[e,e']
  exact(key e2 h' h hn.symm x h1 h2).symm
theorem aOl{L:List aG}(w:wfL L){n t:Int}(h:Way L n t){a c:List aG}(e:L=a++c)(hn:n∈bT c):t∈bT c:=by
 obtain⟨a0,p,c0,q,d,e0,h1,h2,h3,h4,h5⟩:=h;obtain⟨x,p',y,e1,k1,k2⟩:=uN.1 hn;have ec:c0=y:=aLs w e0 (by rw[e,e1,<- List.append_assoc]) h1 k1 (by rw[h2,k2])
 obtain⟨z,hz⟩:=aFe c0;rw[h3]at hz
 have hd:t∈bT d:=by
  rw[<- h5];exact(w (a0++p :: z) q d (by rw[e0,hz];simp)).2.1 h4
 rw[e1,<- ec,hz];obtain⟨u,s,v,e6,e7,e8⟩:=uN.1 hd;exact uN.2 ⟨x++p' :: z++q :: u,s,v,by rw[e6];simp,e7,e8⟩
theorem aJY{L:List aG}(ho:∀ p∈L,dS p)(w:wfL L):wfL (L.map (cG (cQ L []))):=λa p c e=>by
 obtain⟨a0,l1,e0,e1,e2⟩:=List.map_eq_append_iff.1 e;obtain⟨p0,c0,e3,e4,e5⟩:=List.map_eq_cons_iff.1 e2;have e6:L=a0++p0 :: c0:=by rw[e0,e3]
 have ho0:∀ q∈c0,dS q:=λq hq=>ho q (by rw[e6];simp[hq])
 have hh:bT c=bT c0:=by rw[<- e5,aAk _ ho0]
 have st:∀ n,n∈bT c0->bP (cQ L []) (cQ L []).length n∈bT c0:=λn hn =>
  aF6 (S:=λn=>n∈bT c0) (λn t ht hs=>by
   rcases tJ ht with h | h
   ·cases h
   ·exact aOl w h (a:=a0++[p0]) (by rw[e6];simp) hs) _ n hn
 have w0:=w a0 p0 c0 e6;have hk:=(iW (cQ L []) p0).1;rw[e4]at hk;rw[hh,<- e4];refine⟨λh =>?_,λh =>?_,λh =>?_⟩
 ·rw[e4,hk]at h
  rw[lV (.inl h)];exact w0.1 h
 ·rw[e4,hk]at h
  unfold cG;rw[if_pos h];exact st _ (w0.2.1 h)
 ·rw[e4,hk]at h
  unfold cG;rw[if_neg (by rw[h];decide),if_pos h];exact⟨st _ (w0.2.2 h).1,st _ (w0.2.2 h).2⟩
end
section
set_option maxRecDepth 20000
theorem qG{u:List (Int×Bool)}{p:aG}(h:p.kind=1#8)(l:List aG)(d:Bool):dQ u (p :: l) d=if(bB p.to u).getD false=true then p :: dQ u l false else dQ u l d:=by
 simp only[dQ];rw[if_pos h]
theorem mO{u:List (Int×Bool)}{p:aG}(h:p.kind≠1#8)(l:List aG)(d:Bool):dQ u (p :: l) d=if d=true\/(p.kind=4#8/\gA l p.to=true) then dQ u l d
  else p :: dQ u l (decide (p.kind=4#8)||(decide (p.kind=2#8)&&decide (bS p.insn.code=6#16))):=by
 simp only[dQ];rw[if_neg h]
theorem aDk{b:Int->Beh}{r:aN}{n:Int}:∀ {l:List aG},AtB b r l->gA l n=true->b n=iX b r l
 | [],_,h=>by cases h
 | p :: l,hb,h=>by
  unfold gA at h
  split at h
  ·rename_i h1
   rw[iV h1]
   split at h
   ·rename_i hn
    rw[<- hn];exact hb [] p l rfl h1
   ·exact aDk hb.tail h
  ·cases h
theorem aJZ{p:aG}(ho:dS p)(h:p.kind=2#8)(hc:bS p.insn.code=6#16):p.insn.code=6#16:=by
 rcases ho with k | k | ⟨_,⟨k,_⟩ | k | k⟩ | ⟨k,_⟩
 ·rw[h]at k;exact absurd k (by decide)
 ·rw[h]at k;exact absurd k (by decide)
 ·rw[k]at hc;exact absurd hc (by decide)
 ·rw[k]at hc;exact absurd hc (by decide)
 ·exact k
 ·rw[h]at k;exact absurd k (by decide)
theorem zP{b:Int->Beh}{r:aN}(u:List (Int×Bool)):∀ {l:List aG},(∀ p∈l,dS p)->AtB b r l->iX b r (dQ u l false)=iX b r l
 | [],_,_=>rfl
 | p :: l,ho,hb=>by
  have ih:=zP u (l:=l) (λq hq=>ho q (List.mem_cons_of_mem _ hq)) hb.tail;rcases jM (ho p (List.mem_cons_self ..)) with h | h | h | h
  ·rw[qG h,iV h]
   split
   ·rw[iV h];exact ih
   ·exact ih
  ·rw[mO (by rw[h];decide),if_neg (by rw[h];simp)]
   have e4:decide (p.kind=4#8)=false:=decide_eq_false (by rw[h];decide)
   rw[e4,Bool.false_or,decide_eq_true h,Bool.true_and,kP h,kP h]
   by_cases hc:bS p.insn.code=6#16
   ·have h6:=aJZ (ho p (List.mem_cons_self ..)) h hc
    funext a
    have hs:∃ o,(cK r p.insn a).2.2=some o:=by unfold cK;rw[h6];exact⟨_,rfl⟩
    obtain⟨o,hs⟩:=hs;simp only[hs]
   ·rw[decide_eq_false hc,ih]
  ·rw[mO (by rw[h];decide),if_neg (by rw[h];simp),qP h,qP h]
  ·rw[mO (by rw[h];decide),kH h]
   by_cases hf:gA l p.to=true
   ·rw[if_pos (.inr ⟨h,hf⟩),ih,aDk hb.tail hf]
   ·rw[if_neg (by simp[hf]),kH h]
theorem qZ(u:List (Int×Bool)):∀ {l:List aG} {d:Bool} {a c:List aG} {p:aG},dQ u l d=a++p :: c->∃ a' c' d',l=a'++p :: c'/\c=dQ u c' d'/\(p.kind=1#8->d'=false/\(bB p.to u).getD false=true)
 | [],_,a,_,_,e=>by simp[dQ]at e
 | q :: l,d,a,c,p,e=>by
  have step:∀ d1,dQ u l d1=a++p :: c->∃ a' c' d',q :: l=a'++p :: c'/\c=dQ u c' d'/\(p.kind=1#8->d'=false/\(bB p.to u).getD false=true):=λd1 e1=>by
   obtain⟨a',c',d',h1,h2,h3⟩:=qZ u e1;exact⟨q :: a',c',d',by rw[h1];rfl,h2,h3⟩
  have step2:∀ d1,(q.kind=1#8->d1=false/\(bB q.to u).getD false=true)->q :: dQ u l d1=a++p :: c->∃ a' c' d',q :: l=a'++p :: c'/\c=dQ u c' d'/\(p.kind=1#8->d'=false/\(bB p.to u).getD false=true):=λd1 hd e1=>by
   cases a with
   | nil =>
    simp only[List.nil_append,List.cons.injEq]at e1;obtain⟨rfl,rfl⟩:=e1;exact⟨[],l,d1,rfl,rfl,hd⟩
   | cons x a =>
    simp only[List.cons_append,List.cons.injEq]at e1;obtain⟨a',c',d',h1,h2,h3⟩:=qZ u e1.2;exact⟨q :: a',c',d',by rw[h1];rfl,h2,h3⟩
  by_cases h:q.kind=1#8
  ·rw[qG h]at e
   split at e
   ·rename_i hu;exact step2 false (λ_=>⟨rfl,hu⟩) e
   ·exact step d e
  ·rw[mO h]at e
   split at e
   ·exact step d e
   ·exact step2 _ (λk=>absurd k h) e
theorem oM(u:List (Int×Bool)):∀ (l:List aG) (d:Bool),bT (dQ u l d)=(bT l).filter λn=>(bB n u).getD false
 | [],_=>rfl
 | p :: l,d=>by
  by_cases h:p.kind=1#8
  ·rw[qG h,mB h,List.filter_cons]
   split
   ·rw[mB h,oM u l false]
   ·exact oM u l d
  ·rw[mO h,mE h]
   split
   ·exact oM u l d
   ·rw[mE h];exact oM u l _
theorem aLU{b:Int->Beh}{r:aN}{u:List (Int×Bool)}{l:List aG}{d:Bool}(ho:∀ p∈l,dS p)(hb:AtB b r l):AtB b r (dQ u l d):=λa p c e h=>by
 obtain⟨a',c',d',h1,h2,h3⟩:=qZ u e;obtain⟨rfl,_⟩:=h3 h;have hb':AtB b r c':=AtB.tail (p:=p) (AtB.drop a' (by rw[<- h1];exact hb))
 rw[h2,zP u (λq hq=>ho q (by rw[h1];simp[hq])) hb']
 exact hb a' p c' h1 h
theorem rO(n:Int):∀ (l:List aG) (u:List (Int×Bool)),bB n u=some true->bB n (l.foldl iB u)=some true
 | [],_,h=>h
 | p :: l,u,h=>by
  rw[List.foldl_cons];refine rO n l _ ?_;unfold iB
  split
  ·rw[dA];split
   ·rfl
   ·exact h
  ·split
   ·rw[dA];split
    ·rfl
    ·rw[dA];split
     ·rfl
     ·exact h
   ·exact h
theorem aFa:∀ {l:List aG} {u:List (Int×Bool)} {p:aG},p∈l->(p.kind=4#8->bB p.to (l.foldl iB u)=some true)/\(p.kind=3#8->bB p.to (l.foldl iB u)=some true/\bB p.els (l.foldl iB u)=some true)
 | q :: l,u,p,hm=>by
  rw[List.foldl_cons];rcases List.mem_cons.1 hm with rfl | hm
  ·refine⟨λh=>rO _ _ _ ?_,λh=>⟨rO _ _ _ ?_,rO _ _ _ ?_⟩⟩
   ·unfold iB;rw[if_pos h,dA,if_pos rfl]
   ·unfold iB;rw[if_neg (by rw[h];decide),if_pos h,dA];split
    ·rfl
    ·rw[dA,if_pos rfl]
   ·unfold iB;rw[if_neg (by rw[h];decide),if_pos h,dA,if_pos rfl]
  ·exact aFa hm
theorem aNm{l:List aG}(w:wfL l)(d:Bool):wfL (dQ (l.foldl iB []) l d):=λa p c e=>by
 obtain⟨a',c',d',h1,h2,_⟩:=qZ _ e;have w0:=w a' p c' h1;have hm:p∈l:=by rw[h1];simp
 obtain⟨u4,u3⟩:=aFa (u:=[]) hm;rw[h2,oM];simp only[List.mem_filter];refine⟨λh k=>w0.1 h k.1,λh=>⟨w0.2.1 h,by rw[u4 h];rfl⟩,λh=>⟨⟨(w0.2.2 h).1,by rw[(u3 h).1];rfl⟩,⟨(w0.2.2 h).2,by rw[(u3 h).2];rfl⟩⟩⟩
theorem tV(u:List (Int×Bool)):∀ {l:List aG} {d:Bool} {p:aG},p∈dQ u l d->p∈l
 | [],_,_,h=>by simp[dQ]at h
 | q :: l,d,p,h=>by
  by_cases h1:q.kind=1#8
  ·rw[qG h1]at h
   split at h
   ·rcases List.mem_cons.1 h with h | h
    ·exact List.mem_cons.2 (.inl h)
    ·exact List.mem_cons_of_mem _ (tV u h)
   ·exact List.mem_cons_of_mem _ (tV u h)
  ·rw[mO h1]at h
   split at h
   ·exact List.mem_cons_of_mem _ (tV u h)
   ·rcases List.mem_cons.1 h with h | h
    ·exact List.mem_cons.2 (.inl h)
    ·exact List.mem_cons_of_mem _ (tV u h)
def rL(e:aG):Prop:=e.kind=2#8/\e.insn.code=6#16
theorem aDl(u:List (Int×Bool)){e:aG}(he:rL e):∀ (l:List aG) (d:Bool),(∀ p∈l,dS p)->(dQ u (l++[e]) d=[]/\d=true)\/∃ l' x,dQ u (l++[e]) d=l'++[x]/\(rL x\/x.kind=4#8)
 | [],d,_=>by
  rw[List.nil_append,mO (by rw[he.1];decide)]
  cases d with
  | true=>exact .inl ⟨by rw[if_pos (.inl rfl)];rfl,rfl⟩
  | false=>exact .inr ⟨[],e,by rw[if_neg (by rw[he.1];simp)];rfl,.inl he⟩
 | p :: l,d,ho=>by
  have ih:=λd=>aDl u he l d (λq hq=>ho q (List.mem_cons_of_mem _ hq))
  have put:∀ d',(d'=true->rL p\/p.kind=4#8)->∃ l' x,p :: dQ u (l++[e]) d'=l'++[x]/\(rL x\/x.kind=4#8):=λd' hd=>by
   rcases ih d' with ⟨h1,h2⟩ | ⟨l',x,h1,h2⟩
   ·exact⟨[],p,by rw[h1];rfl,hd h2⟩
   ·exact⟨p :: l',x,by rw[h1];rfl,h2⟩
  rw[List.cons_append]
  by_cases h:p.kind=1#8
  ·rw[qG h]
   split
   ·exact .inr (put false (λk=>by cases k))
   ·exact ih d
  ·rw[mO h]
   split
   ·exact ih d
   ·refine .inr (put _ λk =>?_)
    rw[Bool.or_eq_true,Bool.and_eq_true,decide_eq_true_eq,decide_eq_true_eq,decide_eq_true_eq]at k;rcases k with k | ⟨k1,k2⟩
    ·exact .inr k
    ·exact .inl ⟨k1,aJZ (ho p (List.mem_cons_self ..)) k1 k2⟩
structure Fit(L:List aG):Prop where
 ok:∀ p∈L,dS p
 wf:wfL L
 end_ : ∃ l e, L = l ++ [e] /\ rL e
theorem aLD{L:List aG}(h:Fit L):Fit (lB L)/\∀ r,(den r (lB L)).2=(den r L).2:=by
 obtain⟨l,e,hL,he⟩:=h.end_
 have ho:∀ p∈L.map (cG (cQ L [])),dS p:=λp hp=>by
  obtain⟨q,hq,rfl⟩:=List.mem_map.1 hp;exact aMb (h.ok q hq)
 have w1:=aJY h.ok h.wf;have w2:wfL (lB L):=aNm w1 false;have ho2:∀ p∈lB L,dS p:=λp hp=>ho p (tV _ hp);refine⟨⟨ho2,w2,?_⟩,λr =>?_⟩
 ·have e1:L.map (cG (cQ L []))=l.map (cG (cQ L []))++[e]:=by
   conv=>lhs;arg 2;rw[hL]
   rw[List.map_append,List.map_cons,List.map_nil,lV (.inr he.1)]
  have hm:∀ p∈l.map (cG (cQ L [])),dS p:=λp hp=>ho p (by rw[e1];exact List.mem_append_left _ hp)
  have e2:lB L=dQ ((L.map (cG (cQ L []))).foldl iB []) (l.map (cG (cQ L []))++[e]) false:=by
   rw[<- e1];rfl
  rcases aDl ((L.map (cG (cQ L []))).foldl iB []) he _ false hm with ⟨_,k⟩ | ⟨l',x,k1,k2⟩
  ·cases k
  ·rw[<- e2]at k1
   refine⟨l',x,k1,k2.resolve_right λk4 =>?_⟩;have:=(w2 l' x [] k1).2.1 k4;simp[bT]at this
 ·have hb:=aM1 (r:=r) h.ok h.wf
  have hw:∀ n t,bB n (cQ L [])=some t->mX (den r L).1 n=mX (den r L).1 t:=λn t ht=>by
   rcases tJ ht with k | ⟨a,p,c,q,d,h1,h2,h3,h4,h5,h6⟩
   ·cases k
   ·rw[<- h3,hb a p c h1 h2,<- aDv c,h4,kH h5,h6]
  have hb1:=aIv hw h.ok hb;have hb2:=aLU (u:=(L.map (cG (cQ L []))).foldl iB []) (d:=false) ho hb1;rw[(aEO ho2 w2 hb2).1]
  show iX _ r (dQ _ _ false)=_
  rw[zP _ ho hb1,wM hw h.ok];exact(aCh h.ok h.wf (a:=[]) rfl).symm
theorem aFx:∀ (f:Nat) {L:List aG},Fit L->Fit (qM f L)/\∀ r,(den r (qM f L)).2=(den r L).2
 | 0,_,h=>⟨h,λ_=>rfl⟩
 | f+1,L,h=>by
  obtain⟨h1,h2⟩:=aLD h;unfold qM
  split
  ·exact⟨h1,h2⟩
  ·obtain⟨h3,h4⟩:=aFx f h1
   exact⟨h3,λr=>by rw[h4,h2]⟩
theorem aLT{L:List aG}(h:Fit L):Fit (dN L none):=by
 refine⟨λp hp=>h.ok p (aBV hp),aHN none h.ok h.wf,?_⟩;obtain⟨l,e,rfl,he⟩:=h.end_
 have:∀ (l:List aG) (now:Option (BitVec 32)),∃ l0,dN (l++[e]) now=l0++[e]:=by
  intro l
  induction l with
  | nil =>
   intro now;refine⟨[],?_⟩;rw[List.nil_append,rE he.1 (by unfold oR;rw[he.2];simp)];rfl
  | cons p l ih =>
   intro now;rw[List.cons_append];unfold dN
   split
   ·obtain⟨l0,h0⟩:=ih none;exact⟨p :: l0,by rw[h0];rfl⟩
   ·split
    ·split
     ·exact ih now
     ·obtain⟨l0,h0⟩:=ih (some p.insn.k);exact⟨p :: l0,by rw[h0];rfl⟩
    ·split
     ·obtain⟨l0,h0⟩:=ih none;exact⟨p :: l0,by rw[h0];rfl⟩
     ·obtain⟨l0,h0⟩:=ih now;exact⟨p :: l0,by rw[h0];rfl⟩
 obtain⟨l0,h0⟩:=this l none;exact⟨l0,e,h0,he⟩
theorem zN{e:aG}(he:rL e):cY [e] = .inr ⟨[e.insn],[]⟩:=by
 have h1:¬ e.kind=1#8:=by rw[he.1];decide
 simp[cY,MkD.part,he.1,he.2,bS]
theorem pP{r:aN}{e:aG}(he:rL e):∀ {l:List aG} {s:MkD},(∀ p∈l,dS p)->cY (l++[e]) = .inr s->sJ r s (den r (l++[e]))
 | [],s,_,h=>by
  rw[List.nil_append,zN he]at h;cases h;have hs:∀ a,(cK r e.insn a).2.2=some e.insn.k:=λa=>by unfold cK;rw[he.2];rfl
  refine⟨by simp,λf a hf =>?_,λn j hj=>by simp[bB]at hj,λn =>?_,λj hj =>?_,⟨by simp,he.2⟩⟩
  ·obtain⟨f,rfl⟩:∃ g,f=g+1:=⟨f - 1,by simp at hf;omega⟩
   rw[List.nil_append,oH he.1,oA];simp only[hs]
  ·rw[List.nil_append,oH he.1];rfl
  ·have:j=0:=by simpa using hj
   subst this;exact .inr (.inr (.inr (.inr (.inr (.inr he.2)))))
 | p :: l,s,hp,h=>by
  rw[List.cons_append]at h ⊢;unfold cY at h
  split at h
  ·cases h
  ·rename_i s1 h1
   have ih:=pP (r:=r) he (λq hq=>hp q (List.mem_cons_of_mem _ hq)) h1;have hl:=(tY h1).2
   split at h
   ·cases h
   ·rename_i t h2
    split at h
    ·cases h
    ·cases h
     rw[dZ];exact aIl ih hl (hp p (List.mem_cons_self ..)) h2
theorem aDe{e:aG}(he:rL e):∀ {l:List aG} {n:Int},(∀ p∈l,dS p)->wfL (l++[e])->cY (l++[e]) = .inl n->n=205
 | [],n,_,_,h=>by
  rw[List.nil_append,zN he]at h;cases h
 | p :: l,n,hp,w,h=>by
  rw[List.cons_append]at h w;unfold cY at h
  split at h
  ·rename_i e1 h1
   cases h;exact aDe he (λq hq=>hp q (List.mem_cons_of_mem _ hq)) w.tail h1
  ·rename_i s1 h1
   have ih:=pP (r:=⟨0#32,0#32,0#64,[]⟩) he (λq hq=>hp q (List.mem_cons_of_mem _ hq)) h1
   split at h
   ·rename_i e2 h2
    exact(aF1 ih (hp p (List.mem_cons_self ..)) h2 (nV _ _) (w [] p _ rfl)).elim
   ·split at h
    ·cases h;rfl
    ·cases h
def wPt(p:aG):Nat:=if p.kind=1#8 then 0 else if p.kind=3#8 then 3 else 1
def wPs(l:List aG):Nat:=(l.map wPt).sum
theorem yM{e:aG}(he:rL e):∀ {l:List aG},(∀ p∈l,dS p)->wfL (l++[e])->wPs l+1<=4096->∃ s,cY (l++[e]) = .inr s/\s.out.length<=wPs l+1
 | [],_,_,_=>⟨_,zN he,by simp⟩
 | p :: l,hp,w,hl=>by
  rw[List.cons_append]at w ⊢;have hw:wPs (p :: l)=wPt p+wPs l:=rfl;rw[hw]at hl ⊢;obtain⟨s1,h1,hlen⟩:=yM he (λq hq=>hp q (List.mem_cons_of_mem _ hq)) w.tail (by omega)
  have ih:=pP (r:=⟨0#32,0#32,0#64,[]⟩) he (λq hq=>hp q (List.mem_cons_of_mem _ hq)) h1;unfold cY;rw[h1];simp only;cases h2:s1.part p with
  | inl e=>exact(aF1 ih (hp p (List.mem_cons_self ..)) h2 (nV _ _) (w [] p _ rfl)).elim
  | inr t =>
   have h3:t.out.length<=s1.out.length+wPt p:=by
    have h4:=(aHw (tY h1).1 h2).2.2;unfold MkD.part at h2;unfold wPt;rcases jM (hp p (List.mem_cons_self ..)) with k | k | k | k
    ·rw[if_pos k]at h2 ⊢
     split at h2
     ·cases h2
     ·cases h2;exact Nat.le_refl _
    ·rw[if_neg (by rw[k];decide),if_pos k]at h2
     rw[if_neg (by rw[k];decide),if_neg (by rw[k];decide)]
     split at h2
     ·cases h2
     ·cases h2;simp
    ·rw[if_neg (by rw[k];decide),if_pos k];omega
    ·rw[if_neg (by rw[k];decide),if_neg (by rw[k];decide),if_pos k]at h2
     rw[if_neg (by rw[k];decide),if_neg (by rw[k];decide)]
     split at h2
     ·cases h2;simp[MkD.hop]
     ·cases h2
   simp only;rw[if_neg (by omega)]
   exact⟨t,rfl,by omega⟩
theorem aBv{L:List aG}(h:Fit L):(∀ e,cY L = .inl e->e=205)/\(∀ s,cY L = .inr s->∀ r,sJ r s (den r L))/\(wPs L<=4096->∃ s,cY L = .inr s):=by
 obtain⟨l,e,rfl,he⟩:=h.end_;have ho:∀ p∈l,dS p:=λp hp=>h.ok p (List.mem_append_left _ hp);refine⟨λn hn=>aDe he ho h.wf hn,λs hs r=>pP he ho hs,λhw =>?_⟩
 have e1:wPs (l++[e])=wPs l+1:=by
  unfold wPs;rw[List.map_append,List.sum_append];have:wPt e=1:=by unfold wPt;rw[if_neg (by rw[he.1];decide),if_neg (by rw[he.1];decide)]
  simp[this]
 obtain⟨s,hs,_⟩:=yM he ho h.wf (by omega)
 exact⟨s,hs⟩
end
section
set_option maxRecDepth 20000
def fR(c:Nat×List UInt8×Nat):List Value:=[u32 (BitVec.ofNat 32 c.1),str c.2.1,vi c.2.2]
def jB:List (BitVec 32×Value):=bJ.map λc=>(BitVec.ofNat 32 c.1,.agg (fR c).toArray)
def pJ:List (List UInt8×Value):=bJ.map λc=>(c.2.1,.agg (fR c).toArray)
theorem aDB:(jB.map Prod.fst).Nodup:=by decide +kernel
theorem aCF:(pJ.map Prod.fst).Nodup:=by decide +kernel
def aB1(n:BitVec 32):Bool:=(jB.lookup n).isSome
section
variable {K V:Type}[DecidableEq K]{fk:K->Value}{fv:V->Value}{H:AH}{r kd:Nat}
theorem eE.entry{l:List (K×V)}(h:eE fk fv H r l)(hk:∀ a b,cA kd (fk a) (fk b)=some (decide (a=b)))(k:K)(hn:k ∉ l.map Prod.fst)(zero:Value)(v:V):
  ∃ s o o',o ≠ .dead/\o' ≠ .dead/\oW kd zero (.map (some r)) (fk k) H=some (.tuple #[zero,s],H.put r o)/\(∀ H':AH,H'.get r=o->lJ (.map (some r)) s (fv v) H'=some (H'.put r o') )/\∀ H':AH,r<H'.next->eE fk fv (H'.put r o') r (l++[(k,v)]):=by
 obtain⟨es,clock,h1,h2,h3,h4,h5⟩:=h
 have hf:(l.findIdx? λp=>decide (k=p.1))=none:=by
  rw[List.findIdx?_eq_none_iff];intro p hp;exact decide_eq_false λe=>hn (by rw[e];exact List.mem_map_of_mem hp)
 have hfi:(es++[{ key:=fk k,val:=zero,born:=clock:MapEntry }]).findIdx? (λe=>(e.born:Int) == ((clock:Nat):Int))=some es.length:=by
  rw[List.findIdx?_eq_some_iff_getElem];refine⟨by simp,by simp,λj hj =>?_⟩
  rw[List.getElem_append_left hj];have:=h4 _ (List.getElem_mem hj);simp;omega
 refine⟨.int .i64 clock,.map (es++[{ key:=fk k,val:=zero,born:=clock }]) (clock+1) true,.map (es++[{ key:=fk k,val:=fv v,born:=clock }]) (clock+1) true,by simp,by simp,?_,λH' hg =>?_,λH' hr =>?_⟩
 ·simp only[oW,h1]
  rw[rQ hk k es l h2,hf]
  rfl
 ·simp only[lJ,hg,hfi,Option.map_some]
  congr 2
  have:(es++[{ key:=fk k,val:=zero,born:=clock:MapEntry }]).modify es.length (λe=>{ e with val:=fv v })=es++[{ key:=fk k,val:=fv v,born:=clock }]:=by
   rw[List.modify_eq_take_cons_drop (by simp)]
   simp
  rw[this]
 ·refine⟨_,_,AH.get_put_self _ _ hr,?_,?_,?_,?_⟩
  ·rw[List.map_append,List.map_append,h2];rfl
  ·rw[List.map_append,List.nodup_append]
   refine⟨h3,by simp,λa ha b hb =>?_⟩
   obtain⟨e,he,rfl⟩:=List.mem_map.1 ha;have:=h4 e he;simp at hb;omega
  ·intro e he
   rcases List.mem_append.1 he with he | he
   ·exact Nat.lt_succ_of_lt (h4 e he)
   ·simp at he;subst he;exact Nat.lt_succ_self _
  ·rw[List.map_append,List.nodup_append]
   exact⟨h5,by simp,λa ha b hb=>by simp at hb;subst hb;rintro rfl;exact hn ha⟩
end
section
variable {E:Sy}{H H':AH}{Q:Value->AH->Prop}{tb:Nat}
theorem S.f77(hE:aX E)(hQ:Q (slc H.next 0 30 30) (H.new (.cells (bJ.map fR).flatten none))):E.call 143 [] H Q:=by
 apply hE.f77;unfold F.f77
 repeat rw[bv3 _ _ _ _ _ _ rfl rfl rfl rfl rfl rfl,aP]
 rw[iZ 30 3 _ _ (bJ.map λc => .agg (fR c).toArray) rfl ?_ rfl rfl ?_,aQ]
 ·exact hQ
 ·rfl
 ·intro r hr
  obtain⟨c,_,rfl⟩:=List.mem_map.1 hr
  rfl
def iM(d s:Int)(q m1 m2:Value)(a m:Int):List Value:=[.int .u32 d,.int .i32 s,q,m1,m2,.int .i64 a,.int .i64 m]
theorem S.add64(hE:aX E){d s:Int}{q m1 m2:Value}{a m:Int}{f:Option Nat}(hb:H.get tb = .cells (iM d s q m1 m2 a m) f){k:Nat}(hk:k=5\/k=6)(hQ:∀ v a' m',Q v (H.put tb (.cells (iM d s q m1 m2 a' m') f))):E.call 27 [ptr tb k,vi 1] H Q:=by
 apply hE.f141;simp only[F.f141,aEd,hU,aP];rw[rS,aP];apply hE.f140;rcases hk with rfl | rfl
 ·simp only[mG,ptr,vi,hb,iM,List.getElem?_cons_succ,List.getElem?_cons_zero,List.set_cons_succ,List.set_cons_zero,Nat.add_zero]
  exact hQ _ _ _
 ·simp only[mG,ptr,vi,hb,iM,List.getElem?_cons_succ,List.getElem?_cons_zero,List.set_cons_succ,List.set_cons_zero,Nat.add_zero]
  exact hQ _ _ _
structure aFA(tb r1 r2 B:Nat)(q:Value)(a m:Int)(j:Nat)(H0 H:AH):Prop where
 only:dU [tb] H0 H
 box:H.get tb = .cells (iM 0 1 q (.map (some r1)) (.map (some r2)) a m) none
 m1:eE str id H r1 (pJ.take j)
 m2:eE u32 id H r2 (jB.take j)
 rows:H.get B = .cells (bJ.map fR).flatten none
 n0:tb<H0.next
 n1:H0.next<=r1
 n2:r1<r2
 n3:r2<B
theorem aFA.new{r1 r2 B:Nat}{q:Value}{a m:Int}{j:Nat}{H0:AH}(h:aFA tb r1 r2 B q a m j H0 H)(o:cT):aFA tb r1 r2 B q a m j H0 (H.new o):=by
 have l1:=h.m1.lt;have l2:=h.m2.lt;have l3:=AH.lt_cells h.rows;have l0:=AH.lt_cells h.box;exact⟨h.only.new o,by rw[AH.get_new_lt _ _ l0];exact h.box,h.m1.keep (AH.get_new_lt _ _ l1),h.m2.keep (AH.get_new_lt _ _ l2),by rw[AH.get_new_lt _ _ l3];exact h.rows,h.n0,h.n1,h.n2,h.n3⟩
end
end
section
set_option maxRecDepth 20000
section
variable {E:Sy}{H H':AH}{Q:Value->AH->Prop}{tb:Nat}
theorem aFo{α:Type}{l:List α}(h:l.Nodup){j:Nat}(hj:j<l.length):l[j] ∉ l.take j:=by
 have h1:(l.take (j+1)).Nodup:=h.sublist (List.take_sublist _ _);rw[List.take_succ_eq_append_getElem hj,List.nodup_append]at h1;exact λhm=>h1.2.2 _ hm _ (by simp) rfl
theorem aFA.step{r1 r2 B:Nat}{q:Value}{a m:Int}{j:Nat}{H0:AH}(h:aFA tb r1 r2 B q a m j H0 H)(hj:j<bJ.length)(zero:Value):
  ∃ s o o' s2 p p',oW 1 zero (.map (some r1)) (str bJ[j].2.1) H=some (.tuple #[zero,s],H.put r1 o)/\lJ (.map (some r1)) s (.agg (fR bJ[j]).toArray) (H.put r1 o)=some (H.put r1 o') /\
   oW 0 zero (.map (some r2)) (u32 (BitVec.ofNat 32 bJ[j].1)) (H.put r1 o')=some (.tuple #[zero,s2],(H.put r1 o').put r2 p) /\
   lJ (.map (some r2)) s2 (.agg (fR bJ[j]).toArray) ((H.put r1 o').put r2 p)=some ((H.put r1 o').put r2 p')/\aFA tb r1 r2 B q a m (j+1) H0 ((H.put r1 o').put r2 p'):=by
 have l1:=h.m1.lt;have l2:=h.m2.lt;have:=h.n0;have:=h.n1;have:=h.n2;have:=h.n3;have hn1:(pJ.map Prod.fst).length=bJ.length:=rfl;have hn2:(jB.map Prod.fst).length=bJ.length:=rfl;have k1:=aFo aCF (j:=j) (by rw[hn1];exact hj)
 have k2:=aFo aDB (j:=j) (by rw[hn2];exact hj)
 have e1:(pJ.map Prod.fst)[j]'(by rw[hn1];exact hj)=bJ[j].2.1:=by simp[pJ]
 have e2:(jB.map Prod.fst)[j]'(by rw[hn2];exact hj)=BitVec.ofNat 32 bJ[j].1:=by simp[jB]
 rw[e1,<- List.map_take]at k1;rw[e2,<- List.map_take]at k2;obtain⟨s,o,o',d1,d2,x1,x2,x3⟩:=h.m1.entry (kd:=1) (λa b=>tU a b) _ k1 zero (.agg (fR bJ[j]).toArray);have y2:=x2 (H.put r1 o) (AH.get_put_self _ _ l1);have y3:=x3 H l1;simp only[AH.put_put,id]at y2;have m2':eE u32 id (H.put r1 o') r2 (jB.take j):=h.m2.keep (AH.get_put_ne _ _ (by omega))
 obtain⟨s2,p,p',d3,d4,z1,z2,z3⟩:=m2'.entry (kd:=0) (λa b=>lE a b) _ k2 zero (.agg (fR bJ[j]).toArray);have l2':r2<(H.put r1 o').next:=l2;have w2:=z2 ((H.put r1 o').put r2 p) (AH.get_put_self _ _ l2');have w3:=z3 (H.put r1 o') l2';simp only[AH.put_put,id]at w2;refine⟨s,o,o',s2,p,p',x1,y2,z1,w2,?_⟩
 have t1:pJ.take (j+1)=pJ.take j++[(bJ[j].2.1,.agg (fR bJ[j]).toArray)]:=by
  rw[List.take_succ_eq_append_getElem (by show j<bJ.length;exact hj)];simp[pJ]
 have t2:jB.take (j+1)=jB.take j++[(BitVec.ofNat 32 bJ[j].1,.agg (fR bJ[j]).toArray)]:=by
  rw[List.take_succ_eq_append_getElem (by show j<bJ.length;exact hj)];simp[jB]
 refine⟨(h.only.put (.inr (by omega)) _).put (.inr (by omega)) _,?_,?_,?_,?_,h.n0,h.n1,h.n2,h.n3⟩
 ·rw[AH.get_put_ne _ _ (by omega),AH.get_put_ne _ _ (by omega)];exact h.box
 ·rw[t1];exact y3.keep (AH.get_put_ne _ _ (by omega))
 ·rw[t2];exact w3
 ·rw[AH.get_put_ne _ _ (by omega),AH.get_put_ne _ _ (by omega)];exact h.rows
theorem aKB(c:Nat×List UInt8×Nat)(H:AH):aH 3 (ptr H.next 0) (.agg (fR c).toArray) (H.new (.cells [(.int .u32 0),(.string ⟨#[]⟩),vi 0] none))=some (H.new (.cells (fR c) none)):=by
 rw[cM,AH.get_new_self];have h3:AM.aT [(.int .u32 0),(.string ⟨#[]⟩),vi 0] 0 (fR c)=fR c:=rfl;have h4:(fR c).all plain1=true:=rfl;have h5:(fR c).length=3:=rfl;simp only[List.size_toArray,List.toList_toArray,h4,h5,List.length_cons,List.length_nil,Nat.zero_add,Nat.le_refl,and_self,if_true,h3,AH.new_put]
theorem aPY(H:AH){cs:List Value}(q3:cs.length=3)(qp:cs.all plain1=true):aH 3 (ptr H.next 0) (.agg cs.toArray) (H.new (.cells [(.int .u32 0),(.string ⟨#[]⟩),vi 0] none))=some (H.new (.cells cs none)):=by
 rw[cM,AH.get_new_self]
 have h3:AM.aT [(.int .u32 0),(.string ⟨#[]⟩),vi 0] 0 cs=cs:=by
  match cs,q3 with
  | [a,b,c],_=>rfl
 simp only[List.size_toArray,List.toList_toArray,qp,q3,List.length_cons,List.length_nil,Nat.zero_add,Nat.le_refl,and_self,if_true,h3,AH.new_put]
theorem st1{c:List Value}{f:Option Nat}(hb:H.get tb = .cells c f){k:Nat}(hk:k<c.length){v:Value}(hp:plain1 v=true):bD (ptr tb k) v H=some (H.put tb (.cells (c.set k v) f)):=by
 rw[eK,if_pos hp,hb];simp only[if_pos hk]
theorem aJo(hE:aX E){r1 r2 B:Nat}{q:Value}{a m:Int}{H0:AH}(h:aFA tb r1 r2 B q a m 0 H0 H)(hQ:∀ v H' a' m',dU [tb] H0 H'->H'.get tb = .cells (iM 0 1 q (.map (some r1)) (.map (some r2)) a' m') none->eE u32 id H' r2 jB->Q v H'):
  lp4 (F.f75_l1 E Q) [ptr tb 0,slc B 0 30 30,vi 30,vi 0] H:=by
 have i0:vi 0=vi ((0:Nat):Int):=rfl;rw[i0];refine aZ.count 30 (λj ls H'=>ls=[ptr tb 0,slc B 0 30 30,vi 30,vi j]/\aFA tb r1 r2 B q a m j H0 H') ?_ ⟨rfl,h⟩;rintro j _ H1 X1 hj ih ⟨rfl,g⟩;have z3:(vi 30:Value)=vi ((30:Nat):Int):=rfl;rcases Nat.lt_or_ge j 30 with hlt | hge
 rotate_left
 ·have hj0:j=30:=by omega
  subst hj0;have hlt':decide (((30:Nat):Int)<((30:Nat):Int))=false:=rfl;simp only[F.f75_l1,z3,aF,hlt',aC];refine S.add64 hE g.box (.inr rfl) λv a' m' =>?_;have:=g.n0;have:=g.n1;have:=g.n2;have hm:=g.m2;rw[show jB.take 30=jB from rfl]at hm;exact hQ _ _ a' m' (g.only.put (.inl (by simp)) _) (AH.get_put_self _ _ (AH.lt_cells g.box)) (hm.keep (AH.get_put_ne _ _ (by omega)))
 have hlt':decide ((j:Int)<((30:Nat):Int))=true:=decide_eq_true (by omega)
 have hjl:j<bJ.length:=hlt;have hR:Rows H1 3 (slc B 0 30 30) (bJ.map fR):=Rows.made g.rows (.inl rfl) rfl (λr hr=>by obtain⟨c,_,rfl⟩:=List.mem_map.1 hr;rfl)
 obtain⟨b,o,f1,f2⟩:=hR.ix (i:=j) (by simpa using hjl)
 have hrow:(bJ.map fR)[j]'(by simpa using hjl)=fR bJ[j]:=by simp
 rw[hrow]at f2;have lo:aE 3 (ptr b o) H1=some (.agg (fR bJ[j]).toArray):=by rw[aJ,f2];rfl
 have hinc:=bE (i:=j) (by omega)
 have hst:=aKB bJ[j] H1;have bp:=AH.get_new_self H1 (.cells (fR bJ[j]) none);have g1:=g.new (.cells (fR bJ[j]) none);have hBt:B<H1.next:=AH.lt_cells g.rows;obtain⟨s,p,p',s2,w,w',x1,x2,x3,x4,g2⟩:=g1.step hjl (.agg #[(.int .u32 0),(.string ⟨#[]⟩),vi 0]);have ih:=ih hlt;have bx:=g1.box;have t3:(iM 0 1 q (.map (some r1)) (.map (some r2)) a m)[3]? = some (.map (some r1)):=rfl;have t4:(iM 0 1 q (.map (some r1)) (.map (some r2)) a m)[4]? = some (.map (some r2)):=rfl;simp only[F.f75_l1,z3,aF,hlt',f1,lo,aW,hst,bx,t3,t4,bp,aC];generalize bJ[j]=c at *;have:=g1.n0;have:=g1.n1;have:=g1.n2;have:=g1.n3;generalize H1.new (.cells (fR c) none)=H2 at *;generalize H1.next=t at *;have c0:(fR c)[0]? = some (u32 (BitVec.ofNat 32 c.1)):=rfl;have c1:(fR c)[1]? = some (str c.2.1):=rfl;have lt:∀ {K:AH},K.get t = .cells (fR c) none->aE 3 (ptr t 0) K=some (.agg (fR c).toArray):=λhk=>by rw[aJ,hk];rfl
 have l1:∀ {K:AH},K.get t = .cells (fR c) none->aD (ptr t 0) K=some (u32 (BitVec.ofNat 32 c.1)):=λhk=>by rw[eM,hk];rfl
 have b3:(H2.put r1 p).get t = .cells (fR c) none:=by rw[AH.get_put_ne _ _ (by omega)];exact bp
 have b4:(H2.put r1 p').get t = .cells (fR c) none:=by rw[AH.get_put_ne _ _ (by omega)];exact bp
 have b5:((H2.put r1 p').put r2 w).get t = .cells (fR c) none:=by rw[AH.get_put_ne _ _ (by omega)];exact b4
 simp only[bx,t3,t4,bp,c0,c1,lt bp,x1,lt b3,l1 b3,l1 bp,x2,lt b4,l1 b4,x3,lt b5,x4,hinc,aC];exact⟨trivial,trivial,trivial,trivial,trivial,trivial,ih _ _ ⟨rfl,g2⟩⟩
theorem S.names_fill(hE:aX E){q:Value}{a m:Int}(hb:H.get tb = .cells (iM 0 1 q (.map none) (.map none) a m) none)(hQ:∀ v H' r1 r2 a' m',dU [tb] H H'->H'.get tb = .cells (iM 0 1 q (.map (some r1)) (.map (some r2)) a' m') none->eE u32 id H' r2 jB->H.next<=r2->Q v H'):E.call 131 [ptr tb 0] H Q:=by
 apply hE.f75;have hmw:∀ (H:AH) (K:Value->AH->Prop),pD H K=K (.map (some H.next)) (H.new (.map [] 0 true)):=λ_ _=>rfl;have hlt:=AH.lt_cells hb;have o2:dU [tb] H ((H.new (.map [] 0 true)).new (.map [] 0 true)):=((dU.refl _ _).new _).new _;have b2:((H.new (.map [] 0 true)).new (.map [] 0 true)).get tb = .cells (iM 0 1 q (.map none) (.map none) a m) none:=by rw[AH.get_new_lt _ _ (by rw[AH.next_new];omega),AH.get_new_lt _ _ hlt];exact hb
 have m1:eE str id ((H.new (.map [] 0 true)).new (.map [] 0 true)) H.next ([]:List (List UInt8×Value)):=(eE.new H).keep (AH.get_new_lt _ _ (by rw[AH.next_new];omega))
 have m2:eE u32 id ((H.new (.map [] 0 true)).new (.map [] 0 true)) (H.next+1) ([]:List (BitVec 32×Value)):=by
  have:=eE.new (fk:=u32) (fv:=(id:Value->Value)) (H.new (.map [] 0 true));rw[AH.next_new]at this;exact this
 have n2:((H.new (.map [] 0 true)).new (.map [] 0 true)).next=H.next+2:=rfl;have s1:=st1 b2 (k:=3) (by simp[iM]) (v := .map (some H.next)) rfl
 have hl2:tb<((H.new (.map [] 0 true)).new (.map [] 0 true)).next:=by rw[n2];omega
 have b3:=AH.get_put_self ((H.new (.map [] 0 true)).new (.map [] 0 true)) (b:=tb) (.cells ((iM 0 1 q (.map none) (.map none) a m).set 3 (.map (some H.next))) none) hl2;have s2:=st1 b3 (k:=4) (by simp[iM]) (v := .map (some (H.next+1))) rfl
 simp only[AH.put_put]at s2;simp only[F.f75,hmw,s1,s2,aC];have c4:(((iM 0 1 q (.map none) (.map none) a m).set 3 (.map (some H.next))).set 4 (.map (some (H.next+1))))=iM 0 1 q (.map (some H.next)) (.map (some (H.next+1))) a m:=rfl;rw[c4];have o3:dU [tb] H (((H.new (.map [] 0 true)).new (.map [] 0 true)).put tb (.cells (iM 0 1 q (.map (some H.next)) (.map (some (H.next+1))) a m) none)):=o2.put (.inl (by simp)) _
 have b4:=AH.get_put_self ((H.new (.map [] 0 true)).new (.map [] 0 true)) (b:=tb) (.cells (iM 0 1 q (.map (some H.next)) (.map (some (H.next+1))) a m) none) hl2;have m1':=m1.keep (H':=((H.new (.map [] 0 true)).new (.map [] 0 true)).put tb (.cells (iM 0 1 q (.map (some H.next)) (.map (some (H.next+1))) a m) none)) (AH.get_put_ne _ _ (by omega))
 have m2':=m2.keep (H':=((H.new (.map [] 0 true)).new (.map [] 0 true)).put tb (.cells (iM 0 1 q (.map (some H.next)) (.map (some (H.next+1))) a m) none)) (AH.get_put_ne _ _ (by omega))
 have n3:(((H.new (.map [] 0 true)).new (.map [] 0 true)).put tb (.cells (iM 0 1 q (.map (some H.next)) (.map (some (H.next+1))) a m) none)).next=H.next+2:=rfl;generalize ((H.new (.map [] 0 true)).new (.map [] 0 true)).put tb (.cells (iM 0 1 q (.map (some H.next)) (.map (some (H.next+1))) a m) none)=H3 at *;refine S.f77 hE ?_;have ln:lenSlc (slc H3.next 0 30 30)=some (vi 30):=rfl;simp only[ln,aC];refine aJo hE (r1:=H.next) (r2:=H.next+1) (B:=H3.next) (q:=q) (a:=a) (m:=m) (H0:=H) ⟨o3.new _,?_,?_,?_,AH.get_new_self _ _,hlt,Nat.le_refl _,by omega,by omega⟩ λv H' a' m' p1 p2 p3=>hQ v H' _ _ a' m' p1 p2 p3 (by omega)
 ·rw[AH.get_new_lt _ _ (by omega)];exact b4
 ·exact m1'.keep (AH.get_new_lt _ _ (by omega))
 ·exact m2'.keep (AH.get_new_lt _ _ (by omega))
def cR(tb:Nat):Option Nat->Res
 | none=>⟨[tb],λH=>∃ q a m,H.get tb = .cells (iM 0 0 q (.map none) (.map none) a m) none,λ⟨q,a,m,h⟩ e=>⟨q,a,m,by rw[e tb (by simp)];exact h⟩⟩
 | some r=>⟨[tb,r],λH=>tb≠r/\eE u32 id H r jB/\∃ q m1 a m,H.get tb = .cells (iM 1 0 q m1 (.map (some r)) a m) none,λ⟨k,h1,q,m1,a,m,h⟩ e=>⟨k,h1.keep (e r (by simp)),q,m1,a,m,by rw[e tb (by simp)];exact h⟩⟩
theorem wU{s:Option Nat}(h:(cR tb s).P H):∀ b∈(cR tb s).fp,b<H.next:=by
 cases s with
 | none =>
  obtain⟨q,a,m,h⟩:=h;intro b hb;obtain rfl:b=tb:=by simpa[cR] using hb
  exact AH.lt_cells h
 | some r =>
  obtain⟨k,h1,q,m1,a,m,h⟩:=h;intro b hb;have hb:b=tb\/b=r:=by simpa[cR] using hb
  rcases hb with rfl | rfl
  ·exact AH.lt_cells h
  ·exact h1.lt
theorem S.names_ask(hE:aX E){s:Option Nat}(h:(cR tb s).P H)(hQ:∀ r H',Upd (cR tb s) (cR tb (some r)) H H'->Q (vb true) H'):E.call 105 [ptr tb 0] H Q:=by
 apply hE.f74;have pe:eW iU .eql (ptr tb 0) (.pointer none)=some (vb false):=rfl;simp only[F.f74,pe,aC];apply hE.f139;cases s with
 | some r =>
  obtain⟨k,h1,q,m1,a,m,hb⟩:=h;refine⟨tb,0,ptr tb 0,_,none,1,0,rfl,rfl,hb,rfl,rfl,.inl ⟨by decide,?_⟩⟩
  simp only[aC];refine S.add64 hE hb (.inl rfl) λv a' m' =>?_;have hlt:=AH.lt_cells hb;have h2:=h1.lt
  exact hQ r _ ⟨(dU.refl _ _).put (.inl (by simp[cR])) _,⟨k,h1.keep (AH.get_put_ne _ _ (λe=>k e.symm)),q,m1,a',m',AH.get_put_self _ _ hlt⟩,λb hb'=>⟨.inl hb',by
   have:b=tb\/b=r:=by simpa[cR] using hb'
   rcases this with rfl | rfl
   ·exact hlt
   ·exact h2⟩,by simp[cR,k]⟩
 | none =>
  obtain⟨q,a,m,hb⟩:=h;have hlt:=AH.lt_cells hb;refine⟨tb,0,ptr tb 0,_,none,0,0,rfl,rfl,hb,rfl,rfl,.inr ⟨rfl,rfl,?_⟩⟩;have hb1:(H.put tb (.cells ((iM 0 0 q (.map none) (.map none) a m).set (0+1) (.int .i32 1)) none)).get tb = .cells (iM 0 1 q (.map none) (.map none) a m) none:=AH.get_put_self _ _ hlt;refine S.names_fill hE hb1 λv H' r1 r2 a' m' p1 p2 p3 p4 =>?_;unfold aA0;rw[p2];refine⟨rfl,rfl,?_⟩;have hl':=AH.lt_cells p2;have c5:((iM 0 1 q (.map (some r1)) (.map (some r2)) a' m').set 0 (.int .u32 1)).set (0+1) (.int .i32 0)=iM 1 0 q (.map (some r1)) (.map (some r2)) a' m':=rfl;rw[c5];have hb2:=AH.get_put_self H' (b:=tb) (.cells (iM 1 0 q (.map (some r1)) (.map (some r2)) a' m') none) hl';simp only[aC];refine S.add64 hE hb2 (.inl rfl) λv2 a2 m2 =>?_
  have hne:tb≠r2:=by
   have:(H.put tb (.cells ((iM 0 0 q (.map none) (.map none) a m).set (0+1) (.int .i32 1)) none)).next=H.next:=rfl;omega
  have hr:=p3.lt;refine hQ r2 _ ⟨?_,⟨hne,(p3.keep (AH.get_put_ne _ _ (λe=>hne e.symm))).keep (AH.get_put_ne _ _ (λe=>hne e.symm)),q,_,a2,m2,AH.get_put_self _ _ hl'⟩,λb hb' =>?_,by simp[cR,hne]⟩
  ·exact((((dU.refl [tb] H).put (.inl (by simp)) _).trans' p1).put (.inl (by simp)) _).put (.inl (by simp)) _
  ·have:b=tb\/b=r2:=by simpa[cR] using hb'
   rcases this with rfl | rfl
   ·exact⟨.inl (by simp[cR]),hl'⟩
   ·exact⟨.inr p4,hr⟩
theorem S.names_Numbered(hE:aX E){s:Option Nat}(h:(cR tb s).P H)(n:BitVec 32)(hQ:∀ (cs:List Value) r H',cs.length=3->cs.all plain1=true->Upd (cR tb s) (cR tb (some r)) H H'->Q (.tuple #[.agg cs.toArray,vb (aB1 n)]) H'):E.call 73 [ptr tb 0,u32 n] H Q:=by
 apply hE.f73;have hl:=wU h;have hn:(cR tb s).P (H.new (.cells [(.int .u32 0),(.string ⟨#[]⟩),vi 0] none)):=(cR tb s).keep h λb hb=>AH.get_new_lt _ _ (hl b hb);simp only[F.f73,aW,aC];refine S.names_ask hE hn λr H2 u =>?_;obtain⟨k,h1,q,m1,a,m,hb⟩:=u.holds;have c4:(iM 1 0 q m1 (.map (some r)) a m)[4]? = some (.map (some r)):=rfl;have hlk:=h1.look (kd:=0) (λa b=>lE a b) n (.agg #[(.int .u32 0),(.string ⟨#[]⟩),vi 0]) true
 have hlen:∀ v,jB.lookup n=some v->∃ cs:List Value,v = .agg cs.toArray/\cs.length=3/\cs.all plain1=true:=λv hv=>by
  have hm:∀ {l:List (BitVec 32×Value)},l.lookup n=some v->∃ p∈l,p.2=v:=by
   intro l
   induction l with
   | nil=>intro h;cases h
   | cons p l ih =>
    intro h;rw[List.lookup]at h
    split at h
    ·cases h;exact⟨p,List.mem_cons_self ..,rfl⟩
    ·obtain⟨q,hq,e⟩:=ih h;exact⟨q,List.mem_cons_of_mem _ hq,e⟩
  obtain⟨p,hp,rfl⟩:=hm hv;obtain⟨c,_,rfl⟩:=List.mem_map.1 hp;exact⟨fR c,rfl,rfl,rfl⟩
 obtain⟨cs,z,q3,qp,e0,e1⟩:∃ (cs:List Value) (z:Bool),cs.length=3/\cs.all plain1=true/\AM.look 0 (.agg #[(.int .u32 0),(.string ⟨#[]⟩),vi 0]) true (.map (some r)) (u32 n) H2=some (.tuple #[.agg cs.toArray,vb z])/\z=aB1 n:=by
  rw[hlk];unfold aB1;cases hk:jB.lookup n with
  | none=>exact⟨[(.int .u32 0),(.string ⟨#[]⟩),vi 0],false,rfl,rfl,rfl,rfl⟩
  | some v =>
   obtain⟨cs,rfl,a1,a2⟩:=hlen v hk;exact⟨cs,true,a1,a2,rfl,rfl⟩
 subst e1;have hnew:=aPY H2 q3 qp;have b3:=AH.get_new_self H2 (.cells cs none);have n1:(H.new (.cells [(.int .u32 0),(.string ⟨#[]⟩),vi 0] none)).next=H.next+1:=rfl;have ho:H.next ∉ (cR tb s).fp:=λhm=>by have:=hl _ hm;omega
 have bv:H2.get H.next = .cells [(.int .u32 0),(.string ⟨#[]⟩),vi 0] none:=u.only.cells (AH.get_new_self _ _) ho;have hv2:=AH.lt_cells bv;have bv3:(H2.new (.cells cs none)).get H.next = .cells [(.int .u32 0),(.string ⟨#[]⟩),vi 0] none:=by rw[AH.get_new_lt _ _ hv2];exact bv
 have l3:aE 3 (ptr H2.next 0) (H2.new (.cells cs none))=some (.agg cs.toArray):=by rw[aJ,b3,<- q3,cH _ _ _ rfl];rfl
 have hst:aH 3 (ptr H.next 0) (.agg cs.toArray) (H2.new (.cells cs none))=some ((H2.new (.cells cs none)).put H.next (.cells cs none)):=by
  rw[cM,bv3]
  have h3:AM.aT [(.int .u32 0),(.string ⟨#[]⟩),vi 0] 0 cs=cs:=by
   match cs,q3 with
   | [a,b,c],_=>rfl
  simp only[List.size_toArray,List.toList_toArray,qp,q3,List.length_cons,List.length_nil,Nat.zero_add,Nat.le_refl,and_self,if_true,h3]
 have hv3:H.next<(H2.new (.cells cs none)).next:=by rw[AH.next_new];omega
 have b4:=AH.get_put_self (H2.new (.cells cs none)) (b:=H.next) (.cells cs none) hv3;have l4:aE 3 (ptr H.next 0) ((H2.new (.cells cs none)).put H.next (.cells cs none))=some (.agg cs.toArray):=by rw[aJ,b4,<- q3,cH _ _ _ rfl];rfl
 simp only[bX,hb,c4,e0,hnew,l3,hst,l4,aW,aC]
 have hf:∀ b∈(cR tb (some r)).fp,b≠H.next/\b<H2.next:=λb hm=>by
  obtain⟨f1,f2⟩:=u.fp b hm;refine⟨?_,f2⟩;rcases f1 with f1 | f1
  ·have:=hl b f1;omega
  ·omega
 refine hQ cs r _ q3 qp ⟨?_,(cR tb (some r)).keep u.holds λb hm =>?_,λb hm =>?_,u.nd⟩
 ·refine dU.put (dU.new ?_ _) (.inr (Nat.le_refl _)) _
  exact((dU.refl _ _).new _).trans' u.only
 ·rw[AH.get_put_ne _ _ (hf b hm).1,AH.get_new_lt _ _ (hf b hm).2]
 ·obtain⟨f1,f2⟩:=u.fp b hm
  exact⟨f1.imp id (λk=>by omega),by show b<H2.next+1;omega⟩
end
end
section
set_option maxRecDepth 20000
def kF(c:bA):Int :=
 if c.arg<0\/5<c.arg then 204
 else if c.op.toNat<1\/7<c.op.toNat then 210
 else if c.op≠7#8/\c.mask≠0#64 then 203
 else if c.op=7#8/\(c.mask=0#64\/c.value &&& ~~~c.mask≠0#64) then 204
 else 0
def aDd(a:BitVec 32):Bool :=
 decide (a=2147483648#32)||decide (a=2147221504#32)||decide (a=2147418112#32)||(decide (qE a=327680#32)&&(decide (1<=(a&&&65535#32).toNat)&&decide ((a&&&65535#32).toNat<=4095)))
section
variable {E:Sy}{H H':AH}{Q:Value->AH->Prop}
theorem S.f89(hE:aX E)(c:bA)(hQ:∀ H',Ext H H'->Q (vi (kF c)) H'):E.call 74 [c.v] H Q:=by
 apply hE.f89;have b1:=AH.get_new_self H (.cells c.cells none);have x1:Ext H (H.new (.cells c.cells none)):=(Ext.refl H).new _;have c0:c.cells[0]? = some (vi c.arg):=rfl;have c1:c.cells[1]? = some (u8 c.op):=rfl;have c2:c.cells[2]? = some (u64 c.mask):=rfl;have c3:c.cells[3]? = some (u64 c.value):=rfl;have q1:(.int .u8 1:Value)=u8 1#8:=rfl;have q7:(.int .u8 7:Value)=u8 7#8:=rfl;have q0:(.int .u64 0:Value)=u64 0#64:=rfl;have n1:(1#8).toNat=1:=rfl;have n7:(7#8).toNat=7:=rfl;have hQ:=hQ _ x1;unfold kF at hQ;simp only[F.f89,aV,AM.aQ,aR,List.toList_toArray,b1,c0,aF,aC];generalize H.new (.cells c.cells none)=H1 at *
 by_cases a1:c.arg<0
 ·rw[if_pos (.inl a1)]at hQ
  simp only[decide_eq_true a1,aC];exact hQ
 simp only[decide_eq_false a1,b1,c0,cI,aC]
 by_cases a2:5<c.arg
 ·rw[if_pos (.inr a2)]at hQ
  simp only[decide_eq_true a2,aC];exact hQ
 rw[if_neg (by omega)]at hQ
 simp only[decide_eq_false a2,b1,c1,q1,aG5,n1,aC]
 by_cases o1:c.op.toNat<1
 ·rw[if_pos (.inl o1)]at hQ
  simp only[decide_eq_true o1,aC];exact hQ
 simp only[decide_eq_false o1,b1,c1,q7,aGv,n7,aC]
 by_cases o2:7<c.op.toNat
 ·rw[if_pos (.inr o2)]at hQ
  simp only[decide_eq_true o2,aC];exact hQ
 rw[if_neg (by omega)]at hQ
 simp only[decide_eq_false o2,b1,c1,q7,aCj,aC]
 by_cases o3:c.op=7#8
 ·have d1:decide (c.op≠7#8)=false:=decide_eq_false (by simpa using o3)
  rw[if_neg (λh=>h.1 o3)]at hQ;simp only[d1,b1,c1,q7,eJ,decide_eq_true o3,c2,q0,yG,aC]
  by_cases m0:c.mask=0#64
  ·rw[if_pos ⟨o3,.inl m0⟩]at hQ
   simp only[decide_eq_true m0,aC];exact hQ
  simp only[decide_eq_false m0,b1,c2,c3,aHd,q0,aDC,aC]
  by_cases mv:c.value &&& ~~~c.mask=0#64
  ·have d2:decide (c.value &&& ~~~c.mask≠0#64)=false:=decide_eq_false (by simpa using mv)
   rw[if_neg (λh=>h.2.elim m0 (λk=>k mv))]at hQ;simp only[d2,aC];exact hQ
  ·have d2:decide (c.value &&& ~~~c.mask≠0#64)=true:=decide_eq_true mv
   rw[if_pos ⟨o3,.inr mv⟩]at hQ;simp only[d2,aC];exact hQ
 ·have d1:decide (c.op≠7#8)=true:=decide_eq_true o3
  simp only[d1,b1,c2,q0,aDC,aC]
  by_cases m0:c.mask=0#64
  ·have d2:decide (c.mask≠0#64)=false:=decide_eq_false (by simpa using m0)
   rw[if_neg (λh=>h.2 m0),if_neg (λh=>o3 h.1)]at hQ;simp only[d2,b1,c1,q7,eJ,decide_eq_false o3,aC];exact hQ
  ·have d2:decide (c.mask≠0#64)=true:=decide_eq_true m0
   rw[if_pos ⟨o3,m0⟩]at hQ;simp only[d2,aC];exact hQ
theorem S.f96(hE:aX E)(a:BitVec 32)(hQ:Q (vb (aDd a)) H):E.call 34 [u32 a] H Q:=by
 apply hE.f96;have k1:(.int .u32 2147483648:Value)=u32 2147483648#32:=rfl;have k2:(.int .u32 2147221504:Value)=u32 2147221504#32:=rfl;have k3:(.int .u32 2147418112:Value)=u32 2147418112#32:=rfl;have k4:(.int .u32 65535:Value)=u32 65535#32:=rfl;have k5:(.int .u32 327680:Value)=u32 327680#32:=rfl;have k6:(.int .u32 1:Value)=u32 1#32:=rfl;have k7:(.int .u32 4095:Value)=u32 4095#32:=rfl;have n1:(1#32).toNat=1:=rfl;have n2:(4095#32).toNat=4095:=rfl;unfold aDd at hQ;simp only[F.f96,k1,pL,aC]
 by_cases d1:a=2147483648#32
 ·simp only[decide_eq_true d1,Bool.true_or,F.f96_j1,aC]at hQ ⊢
  exact hQ
 simp only[decide_eq_false d1,k2,pL,Bool.false_or,aC]at hQ ⊢
 by_cases d2:a=2147221504#32
 ·simp only[decide_eq_true d2,Bool.true_or,F.f96_j1,aC]at hQ ⊢
  exact hQ
 simp only[decide_eq_false d2,k3,pL,Bool.false_or,aC]at hQ ⊢
 by_cases d3:a=2147418112#32
 ·simp only[decide_eq_true d3,Bool.true_or,F.f96_j1,aC]at hQ ⊢
  exact hQ
 simp only[decide_eq_false d3,Bool.false_or,F.f96_j1,k4,aHg,aC]at hQ ⊢;refine S.f97 hE a ?_;simp only[k5,pL,aC]
 by_cases d4:qE a=327680#32
 ·simp only[decide_eq_true d4,Bool.true_and,k6,aHu,n1,aC]at hQ ⊢
  by_cases d5:1<=(a&&&65535#32).toNat
  ·simp only[decide_eq_true d5,Bool.true_and,k7,aNe,n2,aC]at hQ ⊢
   exact hQ
  ·simp only[decide_eq_false d5,Bool.false_and,aC]at hQ ⊢
   exact hQ
 ·simp only[decide_eq_false d4,Bool.false_and,aC]at hQ ⊢
  exact hQ
end
end
section
set_option maxRecDepth 20000
def aNk(a b:BitVec 16):Bool:=decide (b &&& ~~~ a=0#16)
section
variable {X:List Res}{E:Sy}{H0 H H' H'':AH}{Q:Value->AH->Prop}{w t s:Nat}{M M':List wH}{nx nx' k:Int}{v dv:Value}
theorem S.f106(hE:aX E)(a b:BitVec 16)(hQ:Q (vb (aNk a b)) H):E.call 108 [u16 a,u16 b] H Q:=by
 apply hE.f106;have n0:(.int .u16 0:Value)=u16 0#16:=rfl;simp only[F.f106,jD,n0,cE,aC];exact hQ
end
end
section
set_option maxRecDepth 20000
structure uZ(Z H:AH)(tb:Nat)(s:Option Nat):Prop where
 sub:Sub Z H
 tab:(cR tb s).P H
 dead:∀ b∈(cR tb s).fp,Z.get b = .dead
theorem uZ.upd{Z H H':AH}{tb:Nat}{s s':Option Nat}(h:uZ Z H tb s)(u:Upd (cR tb s) (cR tb s') H H'):uZ Z H' tb s' :=
 ⟨h.sub.only u.only h.dead,u.holds,λb hb=>((u.fp b hb).1).elim (h.dead b) λk=>AH.get_ge _ (Nat.le_trans h.sub.1 k)⟩
theorem uZ.ext{Z H H':AH}{tb:Nat}{s:Option Nat}(h:uZ Z H tb s)(e:Ext H H'):uZ Z H' tb s :=
 ⟨h.sub.ext e,(cR tb s).keep h.tab λb hb=>e.get (wU h.tab b hb),h.dead⟩
theorem aOm(tb:Nat)(s:Option Nat){H:AH}(h:(cR tb s).P H):(cR tb s).fp.Nodup:=by
 cases s with
 | none=>simp[cR]
 | some r =>
  obtain⟨k,_⟩:=h;simp[cR,k]
theorem uZ.same{Z H H':AH}{tb:Nat}{s:Option Nat}(h:uZ Z H tb s)(e:Ext H H'):Upd (cR tb s) (cR tb s) H H' :=
 (Upd.refl h.tab (wU h.tab) (aOm tb s h.tab)).ext e
def jA:List bA->Int
 | []=>0
 | c :: l=>if kF c=0 then jA l else kF c
def kE(x:dI):Int:=if aB1 x.number=false then 38 else if aDd x.action=false then 210 else if 6<x.conds.length then 205 else jA x.conds
section
variable {E:Sy}{H H' Z:AH}{Q:Value->AH->Prop}{tb:Nat}{s:Option Nat}
theorem aHU(c:bA)(H:AH):aH 4 (ptr H.next 0) c.v (H.new (.cells [vi 0,(.int .u8 0),(.int .u64 0),(.int .u64 0)] none))=some (H.new (.cells c.cells none)):=by
 rw[cM,AH.get_new_self];have h3:AM.aT [vi 0,(.int .u8 0),(.int .u64 0),(.int .u64 0)] 0 c.cells=c.cells:=rfl;have h4:c.cells.all plain1=true:=rfl;have h5:c.cells.length=4:=rfl;simp only[List.size_toArray,List.toList_toArray,h4,h5,List.length_cons,List.length_nil,Nat.zero_add,Nat.le_refl,and_self,if_true,h3,AH.new_put]
theorem aDU(hE:aX E){v:Value}{l:List bA}(hv:Rows H 4 v (l.map bA.cells))(hl:l.length<2 ^ 62)(hQ:∀ H',Ext H H'->Q (vi (jA l)) H'):
  lp3 (F.f95_l1 E Q) [v,vi l.length,vi 0] H:=by
 have i0:vi 0=vi ((0:Nat):Int):=rfl;rw[i0];refine aZ.count l.length (λj ls H'=>ls=[v,vi l.length,vi j]/\Ext H H'/\jA l=jA (l.drop j)) ?_ ⟨rfl,Ext.refl _,rfl⟩;rintro j _ H1 X1 hj ih ⟨rfl,e1,hc⟩;rcases Nat.lt_or_ge j l.length with hlt | hge
 rotate_left
 ·have hlt':decide ((j:Int)<l.length)=false:=decide_eq_false (by omega)
  rw[List.drop_eq_nil_of_le hge]at hc;have hc:jA l=0:=hc;rw[hc]at hQ;simp only[F.f95_l1,aF,hlt',aC];exact hQ _ e1
 have hlt':decide ((j:Int)<l.length)=true:=decide_eq_true (by omega)
 obtain⟨b,o,f1,f2⟩:=(hv.mono e1).ix (i:=j) (by simpa using hlt)
 have hrow:(l.map bA.cells)[j]'(by simpa using hlt)=l[j].cells:=by simp
 rw[hrow]at f2;have lo:aE 4 (ptr b o) H1=some l[j].v:=by rw[aJ,f2];rfl
 have hinc:=bE (i:=j) (by omega)
 have ih:=ih hlt;rw[List.drop_eq_getElem_cons hlt]at hc;generalize l[j]=c at *;have hcons:jA (c :: l.drop (j+1))=if kF c=0 then jA (l.drop (j+1)) else kF c:=rfl;rw[hcons]at hc;have hst:=aHU c H1;have x1:Ext H1 (H1.new (.cells c.cells none)):=(Ext.refl _).new _;have bp:=AH.get_new_self H1 (.cells c.cells none);simp only[F.f95_l1,aF,hlt',f1,lo,aW,hst,aC];generalize H1.new (.cells c.cells none)=H2 at *;have l2:aE 4 (ptr H1.next 0) H2=some c.v:=by rw[aJ,bp];rfl
 simp only[l2,aC];refine S.f89 hE c λH3 e3 =>?_;have z0:(.int .i64 0:Value)=vi 0:=rfl;simp only[z0,eG,aC]
 by_cases h0:kF c=0
 ·have hd:decide (kF c≠0)=false:=decide_eq_false (by simpa using h0)
  rw[if_pos h0]at hc;simp only[hd,hinc,aC];exact ih _ _ ⟨rfl,(e1.trans x1).trans e3,hc⟩
 ·have hd:decide (kF c≠0)=true:=decide_eq_true h0
  rw[if_neg h0]at hc;rw[hc]at hQ;simp only[hd,aC];exact hQ _ ((e1.trans x1).trans e3)
theorem S.f95(hE:aX E)(ht:uZ Z H tb s)(x:dI){cs:List Value}(hx:dM Z x cs)(hl:x.conds.length<2 ^ 62)(hQ:∀ s' H',Upd (cR tb s) (cR tb s') H H'->Q (vi (kE x)) H'):E.call 36 [.agg cs.toArray,ptr tb 0] H Q:=by
 apply hE.f95;obtain⟨_,v,rfl,hv⟩:=hx;have b1:=AH.get_new_self H (.cells [u32 x.number,u32 x.action,v] none);have x1:Ext H (H.new (.cells [u32 x.number,u32 x.action,v] none)):=(Ext.refl H).new _;have ht1:=ht.ext x1;have hlt:=wU ht.tab;have u0:=ht.same x1;simp only[F.f95,aV,AM.aQ,aR,List.toList_toArray,b1,aC];have hb1:=AH.lt_cells b1;have hn:H.next ∉ (cR tb s).fp:=λhm=>Nat.lt_irrefl _ (hlt _ hm);generalize H.new (.cells [u32 x.number,u32 x.action,v] none)=H1 at *;generalize H.next=t at *;refine S.names_Numbered hE ht1.tab x.number λc4 r H2 q3 qp u =>?_;have ht2:=ht1.upd u;have b2:=u.only.cells b1 hn;have hv2:=hv.sub ht2.sub;have u2:=u0.trans u;have hnew:=aPY H2 q3 qp;have x3:Ext H2 (H2.new (.cells c4 none)):=(Ext.refl _).new _;have b3:=x3.cells b2;unfold kE at hQ;simp only[aW,hnew,bX,aC];generalize H2.new (.cells c4 none)=H3 at *;have u3:=u2.ext x3;cases hc:aB1 x.number with
 | false =>
  simp only[hc,if_true]at hQ;simp only[aC];exact hQ _ _ u3
 | true =>
  simp only[hc,Bool.true_eq_false,if_false]at hQ;simp only[b3,aC];refine S.f96 hE x.action ?_;simp only[bX,aC];cases ha:aDd x.action with
  | false =>
   simp only[ha,if_true]at hQ;simp only[aC];exact hQ _ _ u3
  | true =>
   simp only[ha,Bool.true_eq_false,if_false]at hQ;have hv3:=hv2.mono x3;have lv:=hv3.lenSlc;rw[List.length_map]at lv;have z6:(.int .i64 6:Value)=vi ((6:Nat):Int):=rfl;simp only[b3,lv,z6,cI,aC]
   by_cases h6:6<x.conds.length
   ·rw[if_pos h6]at hQ
    have hd:decide (((6:Nat):Int)<(x.conds.length:Int))=true:=decide_eq_true (by omega)
    simp only[hd,aC];exact hQ _ _ u3
   ·rw[if_neg h6]at hQ
    have hd:decide (((6:Nat):Int)<(x.conds.length:Int))=false:=decide_eq_false (by omega)
    simp only[hd,b3,lv,aC];exact aDU hE hv3 hl λH' e=>hQ _ _ (u3.ext e)
end
end
section
set_option maxRecDepth 20000
theorem aGQ(s:ByteArray)(i:Nat):1<=(Utf8.decode s i).2:=by
 unfold Utf8.decode;simp only[]
 repeat' split
 all_goals simp
def aGU(r:Int):Bool := !(((decide (r<97)||decide (122<r))&&(decide (r<48)||decide (57<r)))&&decide (r≠45)&&decide (r≠95))
def sD(s:ByteArray):Nat->Nat->Bool
 | 0,_=>true
 | f+1,pos=>if pos<s.size then aGU ((Utf8.decode s pos).1:Int)&&sD s f (pos+(Utf8.decode s pos).2) else true
theorem aII(s:ByteArray){pos:Nat}(h:¬ pos<s.size):∀ f,sD s f pos=true
 | 0=>rfl
 | f+1=>by unfold sD;rw[if_neg h]
def aHo(s:List UInt8):Bool:=decide (0<s.length)&&(decide (s.length<=14)&&((s.head?.any λc=>decide (97<=c.toNat)&&decide (c.toNat<=122))&&sD ⟨s.toArray⟩ s.length 0))
section
variable {E:Sy}{H H':AH}{Q:Value->AH->Prop}
theorem aNc(hE:aX E){s:ByteArray}{r:Nat}(hb:H.get r = .siter s 0)(h0:AH)(hr:h0.next<=r)(e0:Ext h0 H){f:Nat}(hf:s.size<=f)(hQ:∀ H',Ext h0 H'->Q (vb (sD s f 0)) H'):
  lp1 (F.f76_l1 E Q) [ptr r 0] H:=by
 refine aZ.ind (λm ls H'=>∃ pos,ls=[ptr r 0]/\H'.get r = .siter s pos/\Ext h0 H'/\s.size - pos<=m/\sD s f 0=sD s m pos) ?_ f ⟨0,rfl,hb,e0,by omega,rfl⟩
 rintro m _ H1 X1 hX ⟨pos,rfl,hg,e1,hm,hw⟩
 by_cases hp:pos<s.size
 ·obtain⟨k,rfl⟩:∃ k,m=k+1:=⟨m - 1,by omega⟩
  have hn:rV (ptr r 0) H1=some (.tuple #[.bool true,.int .i64 pos,.int .i32 (Utf8.decode s pos).1],H1.put r (.siter s (pos+(Utf8.decode s pos).2))):=by
   simp only[rV,ptr,hg,if_pos hp]
  have hw1:=aGQ s pos
  have hst:sD s (k+1) pos=(aGU ((Utf8.decode s pos).1:Int)&&sD s k (pos+(Utf8.decode s pos).2)):=by
   show(if pos<s.size then _ else _)=_
   rw[if_pos hp]
  rw[hst]at hw;have hlt:r<H1.next:=AH.lt_of_get (by rw[hg];simp)
  have hg2:=AH.get_put_self H1 (b:=r) (.siter s (pos+(Utf8.decode s pos).2)) hlt;have e2:Ext h0 (H1.put r (.siter s (pos+(Utf8.decode s pos).2))):=e1.put hr _;generalize (Utf8.decode s pos).2=w at *;generalize (Utf8.decode s pos).1=c at *;generalize H1.put r (.siter s (pos+w))=H2 at *;have t0:ext (.tuple #[.bool true,.int .i64 pos,.int .i32 c]) 0=some (.bool true):=rfl;have t2:ext (.tuple #[.bool true,.int .i64 pos,.int .i32 c]) 2=some (.int .i32 c):=rfl;have i1:aA .lss (.int .i32 c) (.int .i32 97)=some (vb (decide ((c:Int)<97))):=lU ..;have i2:aA .gtr (.int .i32 c) (.int .i32 122)=some (vb (decide (122<(c:Int)))):=lS ..;have i3:aA .lss (.int .i32 c) (.int .i32 48)=some (vb (decide ((c:Int)<48))):=lU ..;have i4:aA .gtr (.int .i32 c) (.int .i32 57)=some (vb (decide (57<(c:Int)))):=lS ..;have i5:aA .neq (.int .i32 c) (.int .i32 45)=some (vb (decide ((c:Int)≠45))):=kO ..;have i6:aA .neq (.int .i32 c) (.int .i32 95)=some (vb (decide ((c:Int)≠95))):=kO ..;unfold aGU at hw;simp only[F.f76_l1,hn,t0,t2,i1,aC];have good:sD s f 0=sD s k (pos+w)->X1 [ptr r 0] H2:=λe=>hX k (by omega) _ _ ⟨pos+w,rfl,hg2,e2,by omega,e⟩
  have bad:sD s f 0=false->Q (vb false) H2:=λe=>by
   have:=hQ _ e2;rw[e]at this;exact this
  generalize decide ((c:Int)<97)=d1 at *;generalize decide (122<(c:Int))=d2 at *;generalize decide ((c:Int)<48)=d3 at *;generalize decide (57<(c:Int))=d4 at *;generalize decide ((c:Int)≠45)=d5 at *;generalize decide ((c:Int)≠95)=d6 at *
  cases d1<;>cases d2<;>cases d3<;>cases d4<;>cases d5<;>cases d6<;>simp only[i2,i3,i4,i5,i6,aC]<;>first
   | exact good (hw.trans (by simp))
   | exact bad (hw.trans (by simp))
 ·have hn:rV (ptr r 0) H1=some (.tuple #[.bool false],H1):=by
   simp only[rV,ptr,hg,if_neg hp]
  have t0:ext (.tuple #[.bool false]) 0=some (.bool false):=rfl;have:=hQ _ e1;rw[hw,aII s hp]at this;simp only[F.f76_l1,hn,t0,aC];exact this
theorem S.f76(hE:aX E)(s:List UInt8)(hQ:∀ H',Ext H H'->Q (vb (aHo s)) H'):E.call 33 [str s] H Q:=by
 apply hE.f76;have z1:(.int .i64 1:Value)=vi ((1:Nat):Int):=rfl;have z14:(.int .i64 14:Value)=vi ((14:Nat):Int):=rfl;have z0:vi 0=vi ((0:Nat):Int):=rfl;have q97:(.int .u8 97:Value)=u8 97#8:=rfl;have q122:(.int .u8 122:Value)=u8 122#8:=rfl;have hr0:aAa (str s)=some (.siter ⟨s.toArray⟩ 0,oP):=rfl;have x0:Ext H (H.new (.siter ⟨s.toArray⟩ 0)):=(Ext.refl _).new _;have hb:=AH.get_new_self H (.siter ⟨s.toArray⟩ 0);unfold aHo at hQ;simp only[F.f76,oT,z1,aF,aC]
 by_cases h1:0<s.length
 rotate_left
 ·have d:decide ((s.length:Int)<((1:Nat):Int))=true:=decide_eq_true (by omega)
  simp only[decide_eq_false h1,Bool.false_and]at hQ;simp only[d,aC];exact hQ _ (Ext.refl _)
 have d:decide ((s.length:Int)<((1:Nat):Int))=false:=decide_eq_false (by omega)
 simp only[d,oT,z14,cI,aC];simp only[decide_eq_true h1,Bool.true_and]at hQ
 by_cases h2:s.length<=14
 rotate_left
 ·have d:decide (((14:Nat):Int)<(s.length:Int))=true:=decide_eq_true (by omega)
  simp only[decide_eq_false h2,Bool.false_and]at hQ;simp only[d,aC];exact hQ _ (Ext.refl _)
 have d:decide (((14:Nat):Int)<(s.length:Int))=false:=decide_eq_false (by omega)
 have hix:=aAU s 0 h1;simp only[decide_eq_true h2,Bool.true_and]at hQ
 have hh:s.head? = some s[0]:=by
  cases s with
  | nil=>simp at h1
  | cons c l=>rfl
 rw[hh]at hQ;have hn:(s[0].toBitVec).toNat=s[0].toNat:=rfl;have n97:(97#8).toNat=97:=rfl;have n122:(122#8).toNat=122:=rfl;simp only[Option.any_some]at hQ;simp only[d,z0,hix,q97,aG5,hn,n97,aC]
 by_cases h3:97<=s[0].toNat
 rotate_left
 ·have d:decide (s[0].toNat<97)=true:=decide_eq_true (by omega)
  simp only[decide_eq_false h3,Bool.false_and]at hQ;simp only[d,aC];exact hQ _ (Ext.refl _)
 have d:decide (s[0].toNat<97)=false:=decide_eq_false (by omega)
 simp only[decide_eq_true h3,Bool.true_and]at hQ;simp only[d,z0,hix,q122,aGv,hn,n122,aC]
 by_cases h4:s[0].toNat<=122
 rotate_left
 ·have d:decide (122<s[0].toNat)=true:=decide_eq_true (by omega)
  simp only[decide_eq_false h4,Bool.false_and]at hQ;simp only[d,aC];exact hQ _ (Ext.refl _)
 have d:decide (122<s[0].toNat)=false:=decide_eq_false (by omega)
 simp only[decide_eq_true h4,Bool.true_and]at hQ;simp only[d,hr0,AM.aQ,aR,aC];exact aNc hE hb H (Nat.le_refl _) x0 (f:=s.length) (by simp[ByteArray.size]) hQ
def sN(c:UInt8):Bool:=decide (32<c.toNat)&&(decide (c.toNat<127)&&decide (c.toNat≠35))
theorem S.f57(hE:aX E)(c:UInt8)(hQ:Q (vb (sN c)) H):E.call 106 [u8 c.toBitVec] H Q:=by
 apply hE.f57;have q32:(.int .u8 32:Value)=u8 32#8:=rfl;have q127:(.int .u8 127:Value)=u8 127#8:=rfl;have q35:(.int .u8 35:Value)=u8 35#8:=rfl;have hn:(c.toBitVec).toNat=c.toNat:=rfl;have n32:(32#8).toNat=32:=rfl;have n127:(127#8).toNat=127:=rfl;unfold sN at hQ;simp only[F.f57,q32,aGv,hn,n32,aC]
 by_cases h1:32<c.toNat
 rotate_left
 ·simp only[decide_eq_false h1,Bool.false_and,aC]at hQ ⊢; exact hQ
 simp only[decide_eq_true h1,Bool.true_and,q127,aG5,hn,n127,aC]at hQ ⊢
 by_cases h2:c.toNat<127
 rotate_left
 ·simp only[decide_eq_false h2,Bool.false_and,aC]at hQ ⊢; exact hQ
 simp only[decide_eq_true h2,Bool.true_and,q35,aCj,aC]at hQ ⊢
 have e:decide (c.toBitVec≠35#8)=decide (c.toNat≠35):=by
  rw[decide_eq_decide];exact not_congr ⟨λh=>by rw[<- hn,h];rfl,λh=>BitVec.eq_of_toNat_eq (by rw[hn,h];rfl)⟩
 rw[e];exact hQ
def xD(p:List UInt8):Bool:=decide (p≠[])&&(decide (p≠[46])&&(decide (p≠[46,46])&&decide (p.length<=14)))
def aE2(s:List UInt8):Bool:=decide (0<s.length)&&(decide (s.length<=120)&&((s.head?.any λc=>decide (c.toNat=47))&&(decide (s=[47])||(s.all sN&&(gF [] s.tail).all xD))))
theorem aMF(hE:aX E){v:Value}{l:List (List UInt8)}(hv:Rows H 1 v (pX l))(hl:l.length<2 ^ 62)(hQ:Q (vb (l.all xD)) H):
  lp3 (F.f90_l2 E Q) [v,vi l.length,vi 0] H:=by
 have i0:vi 0=vi ((0:Nat):Int):=rfl;rw[i0];refine aZ.count l.length (λj ls H'=>ls=[v,vi l.length,vi j]/\H=H'/\l.all xD=(l.drop j).all xD) ?_ ⟨rfl,rfl,rfl⟩;rintro j _ _ X1 hj ih ⟨rfl,rfl,hc⟩;have z14:(.int .i64 14:Value)=vi ((14:Nat):Int):=rfl;rcases Nat.lt_or_ge j l.length with hlt | hge
 rotate_left
 ·have hlt':decide ((j:Int)<l.length)=false:=decide_eq_false (by omega)
  rw[List.drop_eq_nil_of_le hge]at hc;have hc:l.all xD=true:=hc;rw[hc]at hQ;simp only[F.f90_l2,aF,hlt',aC];exact hQ
 have hlt':decide ((j:Int)<l.length)=true:=decide_eq_true (by omega)
 have hsl:(pX l).length=l.length:=by simp[pX]
 obtain⟨b,o,f1,f2⟩:=hv.ix (i:=j) (by rw[hsl];exact hlt)
 have hrow:(pX l)[j]'(by rw[hsl];exact hlt)=[str l[j]]:=by simp[pX]
 rw[hrow]at f2
 have lo:aD (ptr b o) H=some (str l[j]):=by
  rw[eM];exact(lD f2 (j:=0) (by omega)).trans rfl
 have hinc:=bE (i:=j) (by omega)
 have ih:=ih hlt;rw[List.drop_eq_getElem_cons hlt,List.all_cons]at hc;generalize l[j]=p at *;have e0:(.string ⟨#[]⟩:Value)=str []:=rfl;have e1:(.string ⟨#[46]⟩:Value)=str [46]:=rfl;have e2:(.string ⟨#[46,46]⟩:Value)=str [46,46]:=rfl
 have bad:xD p=false->Q (vb false) H:=λh=>by
  rw[hc,h]at hQ;exact hQ
 have hp:xD p=(decide (p≠[])&&(decide (p≠[46])&&(decide (p≠[46,46])&&decide (p.length<=14)))):=rfl;simp only[F.f90_l2,aF,hlt',f1,lo,e0,rT,aC]
 by_cases h1:p=[]
 ·simp only[decide_eq_true h1,aC]
  exact bad (by rw[hp];simp[h1])
 simp only[decide_eq_false h1,e1,rT,aC]
 by_cases h2:p=[46]
 ·simp only[decide_eq_true h2,aC]
  exact bad (by rw[hp];simp[h2])
 simp only[decide_eq_false h2,e2,rT,aC]
 by_cases h3:p=[46,46]
 ·simp only[decide_eq_true h3,aC]
  exact bad (by rw[hp];simp[h3])
 simp only[decide_eq_false h3,oT,z14,cI,aC]
 by_cases h4:p.length<=14
 ·have d:decide (((14:Nat):Int)<(p.length:Int))=false:=decide_eq_false (by omega)
  simp only[d,hinc,aC];have hpt:xD p=true:=by rw[hp];simp[h1,h2,h3,h4]
  rw[hpt,Bool.true_and]at hc;exact ih _ _ ⟨rfl,rfl,hc⟩
 ·have d:decide (((14:Nat):Int)<(p.length:Int))=true:=decide_eq_true (by omega)
  simp only[d,aC];exact bad (by rw[hp];simp[h4])
theorem aMN(hE:aX E)(s:List UInt8)(h0:0<s.length)(hl:s.length<2 ^ 40)(hQ:∀ H',Ext H H'->Q (vb (s.all sN&&(gF [] s.tail).all xD)) H')(hsp:(gF [] s.tail).length<2 ^ 62):
  lp3 (F.f90_l1 E Q) [str s,vi s.length,vi 0] H:=by
 have i0:vi 0=vi ((0:Nat):Int):=rfl;rw[i0];refine aZ.count s.length (λj ls H'=>ls=[str s,vi s.length,vi j]/\H=H'/\s.all sN=(s.drop j).all sN) ?_ ⟨rfl,rfl,rfl⟩;rintro j _ _ X1 hj ih ⟨rfl,rfl,hc⟩;rcases Nat.lt_or_ge j s.length with hlt | hge
 rotate_left
 ·have hlt':decide ((j:Int)<s.length)=false:=decide_eq_false (by omega)
  rw[List.drop_eq_nil_of_le hge]at hc;have hc:s.all sN=true:=hc;simp only[hc,Bool.true_and]at hQ
  have sl:lN (str s) (some (vi 1)) none=some (str s.tail):=by
   have:=aCg s 1 (by omega)
   rw[List.drop_one]at this;exact this
  have e47:(.string ⟨#[47]⟩:Value)=str [47]:=rfl;simp only[F.f90_l1,aF,hlt',sl,e47,aC];refine S.f136 hE _ (by rw[List.length_tail];omega) λv H' e hv =>?_
  have hlv:=hv.lenSlc;have hsl:(pX (gF [] s.tail)).length=(gF [] s.tail).length:=by simp[pX]
  rw[hsl]at hlv;simp only[hlv,aC];exact aMF hE hv hsp (hQ _ e)
 have hlt':decide ((j:Int)<s.length)=true:=decide_eq_true (by omega)
 have hix:=aAU s j hlt;have hinc:=bE (i:=j) (by omega)
 have ih:=ih hlt;rw[List.drop_eq_getElem_cons hlt,List.all_cons]at hc;generalize s[j]=c at *;simp only[F.f90_l1,aF,hlt',hix,aC];refine S.f57 hE c ?_;simp only[bX,aC];cases hp:sN c with
 | false =>
  rw[hp,Bool.false_and]at hc;have:=hQ _ (Ext.refl _);rw[hc,Bool.false_and]at this;simp only[aC];exact this
 | true =>
  rw[hp,Bool.true_and]at hc;simp only[hinc,aC];exact ih _ _ ⟨rfl,rfl,hc⟩
theorem S.f90(hE:aX E)(s:List UInt8)(hl:s.length<2 ^ 40)(hQ:∀ H',Ext H H'->Q (vb (aE2 s)) H'):E.call 75 [str s] H Q:=by
 apply hE.f90;have z1:(.int .i64 1:Value)=vi ((1:Nat):Int):=rfl;have z120:(.int .i64 120:Value)=vi ((120:Nat):Int):=rfl;have z0:vi 0=vi ((0:Nat):Int):=rfl;have q47:(.int .u8 47:Value)=u8 47#8:=rfl;have e47:(.string ⟨#[47]⟩:Value)=str [47]:=rfl;unfold aE2 at hQ;simp only[F.f90,oT,z1,aF,aC]
 by_cases h1:0<s.length
 rotate_left
 ·have d:decide ((s.length:Int)<((1:Nat):Int))=true:=decide_eq_true (by omega)
  simp only[decide_eq_false h1,Bool.false_and]at hQ;simp only[d,aC];exact hQ _ (Ext.refl _)
 have d:decide ((s.length:Int)<((1:Nat):Int))=false:=decide_eq_false (by omega)
 simp only[d,oT,z120,cI,aC];simp only[decide_eq_true h1,Bool.true_and]at hQ
 by_cases h2:s.length<=120
 rotate_left
 ·have d:decide (((120:Nat):Int)<(s.length:Int))=true:=decide_eq_true (by omega)
  simp only[decide_eq_false h2,Bool.false_and]at hQ;simp only[d,aC];exact hQ _ (Ext.refl _)
 have d:decide (((120:Nat):Int)<(s.length:Int))=false:=decide_eq_false (by omega)
 have hix:=aAU s 0 h1;simp only[decide_eq_true h2,Bool.true_and]at hQ
 have hh:s.head? = some s[0]:=by
  cases s with
  | nil=>simp at h1
  | cons c l=>rfl
 rw[hh]at hQ
 have en:decide (s[0].toBitVec≠47#8) = !decide (s[0].toNat=47):=by
  rw[<- decide_not,decide_eq_decide];exact not_congr ⟨λh=>by show(s[0].toBitVec).toNat=47;rw[h];rfl,λh=>BitVec.eq_of_toNat_eq h⟩
 simp only[Option.any_some]at hQ;simp only[d,z0,hix,q47,aCj,en,aC]
 by_cases h3:s[0].toNat=47
 rotate_left
 ·simp only[decide_eq_false h3,Bool.false_and,Bool.not_false,aC]at hQ ⊢
  exact hQ _ (Ext.refl _)
 simp only[decide_eq_true h3,Bool.true_and,Bool.not_true,e47,rT,aC]at hQ ⊢
 by_cases h4:s=[47]
 ·simp only[decide_eq_true h4,Bool.true_or,aC]at hQ ⊢
  exact hQ _ (Ext.refl _)
 simp only[decide_eq_false h4,Bool.false_or,oT,aC]at hQ ⊢;exact aMN hE s h1 hl hQ (by have:=aGI s.tail;rw[List.length_tail]at this;omega)
theorem S.f107(hE:aX E)(a:BitVec 16)(hQ:Q (vb (decide (a &&& ~~~51199#16=0#16))) H):E.call 35 [u16 a] H Q:=by
 apply hE.f107;have q1:(.int .u16 51199:Value)=u16 51199#16:=rfl;have q0:(.int .u16 0:Value)=u16 0#16:=rfl;simp only[F.f107,q1,q0,jD,cE,aC];exact hQ
def iO(x:iL)(v pv qv:Value):List Value:=[str x.name,u32 x.pol.default,v,u16 x.handled,pv,qv]
def tR(h r kind:BitVec 16):Bool:=decide (r≠0#16)&&(aNk h r&&aNk kind r)
theorem S.policy_granted(hE:aX E)(x:iL)(v pv qv:Value)(r kind:BitVec 16)(hQ:∀ H',Ext H H'->Q (vb (tR x.handled r kind)) H'):E.call 76 [.agg (iO x v pv qv).toArray,u16 r,u16 kind] H Q:=by
 apply hE.f92;have b1:=AH.get_new_self H (.cells (iO x v pv qv) none);have x1:Ext H (H.new (.cells (iO x v pv qv) none)):=(Ext.refl H).new _;have c3:(iO x v pv qv)[3]? = some (u16 x.handled):=rfl;have q0:(.int .u16 0:Value)=u16 0#16:=rfl;have hQ:=hQ _ x1;unfold tR at hQ;simp only[F.f92,aV,AM.aQ,aR,List.toList_toArray,q0,yH,aC];generalize H.new (.cells (iO x v pv qv) none)=H1 at *
 by_cases h1:r=0#16
 ·have d:decide (r≠0#16)=false:=decide_eq_false (by simpa using h1)
  simp only[d,Bool.false_and,aC]at hQ ⊢;exact hQ
 have d:decide (r≠0#16)=true:=decide_eq_true h1;simp only[d,Bool.true_and,b1,c3,aC]at hQ ⊢;refine S.f106 hE _ _ ?_;cases h2:aNk x.handled r with
 | false =>
  simp only[h2,Bool.false_and]at hQ;simp only[d,aC];exact hQ
 | true =>
  simp only[h2,Bool.true_and]at hQ;simp only[d,aC];refine S.f106 hE _ _ ?_;simp only[aC];exact hQ
end
end
section
set_option maxRecDepth 20000
def fZ(h:BitVec 16):List (List UInt8)->List (List UInt8×BitVec 16)->Int
 | _,[]=>0
 | eC,p :: l=>if aE2 p.1=false then 203 else if tR h p.2 2047#16=false then 204 else if p.1∈eC then 206 else fZ h (eC++[p.1]) l
def kC(h:BitVec 16):List (BitVec 16)->List (BitVec 16×BitVec 16)->Int
 | _,[]=>0
 | eC,p :: l=>if tR h p.2 49152#16=false then 204 else if p.1∈eC then 206 else kC h (eC++[p.1]) l
def gS:List dI->Int
 | []=>0
 | x :: l=>if kE x=0 then gS l else kE x
def fM(x:iL):Int :=
 if aHo x.name=false then 202 else if aDd x.pol.default=false then 210
 else if 64<x.pol.rules.length\/32<x.paths.length\/32<x.ports.length then 205
 else if x.handled &&& ~~~51199#16≠0#16 then 204
 else if gS x.pol.rules≠0 then gS x.pol.rules
 else if fZ x.handled [] x.paths≠0 then fZ x.handled [] x.paths
 else kC x.handled [] x.ports
section
variable {E:Sy}{H H' H0 Z:AH}{Q:Value->AH->Prop}{tb:Nat}{s:Option Nat}
theorem aDm{K:Type}[DecidableEq K]{fk:K->Value}{r kd:Nat}{l:List K}(h:eE fk vb H r (l.map λk=>(k,true)))(hk:∀ a b,cA kd (fk a) (fk b)=some (decide (a=b)))(k:K){z:Bool}(hz:z=true↔k∈l):
  AM.look kd (.bool false) false (.map (some r)) (fk k) H=some (vb z):=by
 have:=h.look hk k (.bool false) false;rw[this]
 have e:∀ l:List K,(l.map λk=>(k,true)).lookup k=if k∈l then some true else none:=by
  intro l
  induction l with
  | nil=>rfl
  | cons a l ih =>
   rw[List.map_cons,List.lookup]
   by_cases ha:k=a
   ·subst ha;simp
   ·have:(k == a)=false:=by simpa using ha
    simp only[this,ih,List.mem_cons,ha,false_or]
 rw[e]
 by_cases hm:k∈l
 ·rw[if_pos hm,hz.2 hm];rfl
 ·have:z=false:=by
   cases z with
   | false=>rfl
   | true=>exact absurd (hz.1 rfl) hm
  rw[if_neg hm,this];rfl
theorem aAd{K:Type}[DecidableEq K](k:K):∀ l:List K,k ∉ l->fE k true (l.map λk=>(k,true))=(l++[k]).map λk=>(k,true)
 | [],_=>rfl
 | a :: l,h=>by
  have h1:a≠k:=λe=>h (by simp[e])
  have h2:k ∉ l:=λm=>h (List.mem_cons_of_mem _ m);rw[List.map_cons,fE,if_neg h1,aAd k l h2];rfl
theorem aHf{a b z0 z1:Value}(hp:[a,b].all plain1=true)(H:AH):aH 2 (ptr H.next 0) (.agg #[a,b]) (H.new (.cells [z0,z1] none))=some (H.new (.cells [a,b] none)):=by
 rw[cM,AH.get_new_self];have h3:AM.aT [z0,z1] 0 [a,b]=[a,b]:=rfl;simp only[hp,List.length_cons,List.length_nil,Nat.zero_add,Nat.le_refl,and_self,if_true,h3,AH.new_put,Nat.reduceAdd,List.size_toArray]
theorem aKQ(hE:aX E){x:iL}{v pv qv:Value}{tp r:Nat}(hv:Rows H0 2 pv (x.paths.map λp=>[str p.1,u16 p.2]))(hl:x.paths.length<2 ^ 62)(hln:∀ p∈x.paths,p.1.length<2 ^ 40)(hs:Has H0 Z H [bF tp (iO x v pv qv),eU str vb r ([]:List (List UInt8×Bool))])(hQ:∀ H',Ext H0 H'->Q (vi (fZ x.handled [] x.paths)) H'):
  lp5 (F.f93_l1 E Q) [ptr tp 0,.map (some r),pv,vi x.paths.length,vi 0] H:=by
 have i0:vi 0=vi ((0:Nat):Int):=rfl;rw[i0];refine aZ.count x.paths.length (λj ls H'=>∃ eC:List (List UInt8),ls=[ptr tp 0,.map (some r),pv,vi x.paths.length,vi j]/\Has H0 Z H' [bF tp (iO x v pv qv),eU str vb r (eC.map λk=>(k,true))]/\fZ x.handled [] x.paths=fZ x.handled eC (x.paths.drop j)) ?_ ⟨[],rfl,hs,rfl⟩;rintro j _ H1 X1 hj ih ⟨eC,rfl,g,hc⟩;rcases Nat.lt_or_ge j x.paths.length with hlt | hge
 rotate_left
 ·have hlt':decide ((j:Int)<x.paths.length)=false:=decide_eq_false (by omega)
  rw[List.drop_eq_nil_of_le hge]at hc;have hc:fZ x.handled [] x.paths=0:=hc;rw[hc]at hQ;simp only[F.f93_l1,aF,hlt',aC];exact hQ _ g.ext
 have hlt':decide ((j:Int)<x.paths.length)=true:=decide_eq_true (by omega)
 obtain⟨b,o,f1,f2⟩:=(hv.mono g.ext).ix (i:=j) (by simpa using hlt)
 have hrow:(x.paths.map λp=>[str p.1,u16 p.2])[j]'(by simpa using hlt)=[str x.paths[j].1,u16 x.paths[j].2]:=by simp
 rw[hrow]at f2;have lo:aE 2 (ptr b o) H1=some (.agg #[str x.paths[j].1,u16 x.paths[j].2]):=by rw[aJ,f2];rfl
 have hinc:=bE (i:=j) (by omega)
 have ih:=ih hlt;have hln:=hln _ (List.getElem_mem hlt);rw[List.drop_eq_getElem_cons hlt]at hc;generalize x.paths[j]=p at *;have hcons:fZ x.handled eC (p :: x.paths.drop (j+1))=if aE2 p.1=false then 203 else if tR x.handled p.2 2047#16=false then 204 else if p.1∈eC then 206 else fZ x.handled (eC++[p.1]) (x.paths.drop (j+1)):=rfl;rw[hcons]at hc;have hst:=aHf (a:=str p.1) (b:=u16 p.2) (z0 := .string ⟨#[]⟩) (z1 := .int .u16 0) rfl H1;have g1:=g.newbox [str p.1,u16 p.2];simp only[F.f93_l1,aF,hlt',f1,lo,aW,hst,aC];generalize H1.new (.cells [str p.1,u16 p.2] none)=H2 at *;generalize H1.next=t at *;have bt:=g1.box (k:=2) (b:=t) (c:=[str p.1,u16 p.2]) rfl;have c0:([str p.1,u16 p.2]:List Value)[0]? = some (str p.1):=rfl;have c1:([str p.1,u16 p.2]:List Value)[1]? = some (u16 p.2):=rfl;simp only[bt,c0,aC];refine S.f90 hE p.1 hln λH3 e3 =>?_;have g3:=g1.refreeze e3 (Fz.refl _ _) (g1.sub.ext e3);simp only[bX,aC];cases hp:aE2 p.1 with
 | false =>
  rw[hp,if_pos rfl]at hc;rw[hc]at hQ;simp only[aC];exact hQ _ g3.ext
 | true =>
 rw[hp,if_neg (by simp)]at hc
 have bp:=g3.box (k:=0) (b:=tp) (c:=iO x v pv qv) rfl;have bt3:=g3.box (k:=2) (b:=t) (c:=[str p.1,u16 p.2]) rfl;have l6:aE 6 (ptr tp 0) H3=some (.agg (iO x v pv qv).toArray):=by rw[aJ,bp];rfl
 have q2:(.int .u16 2047:Value)=u16 2047#16:=rfl;simp only[l6,bt3,c1,q2,aC];refine S.policy_granted hE x v pv qv p.2 2047#16 λH4 e4 =>?_;have g4:=g3.refreeze e4 (Fz.refl _ _) (g3.sub.ext e4);simp only[bX,aC];cases hg:tR x.handled p.2 2047#16 with
 | false =>
  rw[hg,if_pos rfl]at hc;rw[hc]at hQ;simp only[aC];exact hQ _ g4.ext
 | true =>
 rw[hg,if_neg (by simp)]at hc
 have bt4:=g4.box (k:=2) (b:=t) (c:=[str p.1,u16 p.2]) rfl;have hlk:=λz hz=>aDm (g4.mapAt (k:=1) (fk:=str) (fv:=vb) (r:=r) (l:=eC.map λk=>(k,true)) rfl) (kd:=1) (λa b=>tU a b) p.1 (z:=z) hz
 by_cases hm:p.1∈eC
 ·rw[if_pos hm]at hc
  rw[hc]at hQ;simp only[bt4,c0,hlk true (by simp[hm]),aC]
  exact hQ _ g4.ext
 ·rw[if_neg hm]at hc
  obtain⟨H5,s1,g5⟩:=g4.mapset (n:=1) (kd:=1) (fk:=str) (fv:=vb) (r:=r) (l:=eC.map λk=>(k,true)) rfl (λa b=>tU a b) p.1 true;rw[aAd _ _ hm]at g5;simp only[bt4,c0,hlk false (by simp[hm]),s1,hinc,aC]
  exact ih _ _ ⟨eC++[p.1],rfl,Has.dropLast (L:=[bF tp (iO x v pv qv),eU str vb r ((eC++[p.1]).map λk=>(k,true))]) g5,hc⟩
theorem aJU(hE:aX E){x:iL}{v pv qv:Value}{tp r:Nat}(hv:Rows H0 2 qv (x.ports.map λp=>[u16 p.1,u16 p.2]))(hl:x.ports.length<2 ^ 62)(hs:Has H0 Z H [bF tp (iO x v pv qv),eU u16 vb r ([]:List (BitVec 16×Bool))])(hQ:∀ H',Ext H0 H'->Q (vi (kC x.handled [] x.ports)) H'):
  lp5 (F.f94_l1 E Q) [ptr tp 0,.map (some r),qv,vi x.ports.length,vi 0] H:=by
 have i0:vi 0=vi ((0:Nat):Int):=rfl;rw[i0];refine aZ.count x.ports.length (λj ls H'=>∃ eC:List (BitVec 16),ls=[ptr tp 0,.map (some r),qv,vi x.ports.length,vi j]/\Has H0 Z H' [bF tp (iO x v pv qv),eU u16 vb r (eC.map λk=>(k,true))]/\kC x.handled [] x.ports=kC x.handled eC (x.ports.drop j)) ?_ ⟨[],rfl,hs,rfl⟩;rintro j _ H1 X1 hj ih ⟨eC,rfl,g,hc⟩;rcases Nat.lt_or_ge j x.ports.length with hlt | hge
 rotate_left
 ·have hlt':decide ((j:Int)<x.ports.length)=false:=decide_eq_false (by omega)
  rw[List.drop_eq_nil_of_le hge]at hc;have hc:kC x.handled [] x.ports=0:=hc;rw[hc]at hQ;simp only[F.f94_l1,aF,hlt',aC];exact hQ _ g.ext
 have hlt':decide ((j:Int)<x.ports.length)=true:=decide_eq_true (by omega)
 obtain⟨b,o,f1,f2⟩:=(hv.mono g.ext).ix (i:=j) (by simpa using hlt)
 have hrow:(x.ports.map λp=>[u16 p.1,u16 p.2])[j]'(by simpa using hlt)=[u16 x.ports[j].1,u16 x.ports[j].2]:=by simp
 rw[hrow]at f2;have lo:aE 2 (ptr b o) H1=some (.agg #[u16 x.ports[j].1,u16 x.ports[j].2]):=by rw[aJ,f2];rfl
 have hinc:=bE (i:=j) (by omega)
 have ih:=ih hlt;rw[List.drop_eq_getElem_cons hlt]at hc;generalize x.ports[j]=p at *;have hcons:kC x.handled eC (p :: x.ports.drop (j+1))=if tR x.handled p.2 49152#16=false then 204 else if p.1∈eC then 206 else kC x.handled (eC++[p.1]) (x.ports.drop (j+1)):=rfl;rw[hcons]at hc;have hst:=aHf (a:=u16 p.1) (b:=u16 p.2) (z0 := .int .u16 0) (z1 := .int .u16 0) rfl H1;have g1:=g.newbox [u16 p.1,u16 p.2];simp only[F.f94_l1,aF,hlt',f1,lo,aW,hst,aC];generalize H1.new (.cells [u16 p.1,u16 p.2] none)=H2 at *;generalize H1.next=t at *;have bt:=g1.box (k:=2) (b:=t) (c:=[u16 p.1,u16 p.2]) rfl;have c0:([u16 p.1,u16 p.2]:List Value)[0]? = some (u16 p.1):=rfl;have c1:([u16 p.1,u16 p.2]:List Value)[1]? = some (u16 p.2):=rfl;have bp:=g1.box (k:=0) (b:=tp) (c:=iO x v pv qv) rfl;have bt3:=g1.box (k:=2) (b:=t) (c:=[u16 p.1,u16 p.2]) rfl;have l6:aE 6 (ptr tp 0) H2=some (.agg (iO x v pv qv).toArray):=by rw[aJ,bp];rfl
 have q2:(.int .u16 49152:Value)=u16 49152#16:=rfl;simp only[l6,bt3,c1,q2,aC];refine S.policy_granted hE x v pv qv p.2 49152#16 λH4 e4 =>?_;have g4:=g1.refreeze e4 (Fz.refl _ _) (g1.sub.ext e4);simp only[bX,aC];cases hg:tR x.handled p.2 49152#16 with
 | false =>
  rw[hg,if_pos rfl]at hc;rw[hc]at hQ;simp only[aC];exact hQ _ g4.ext
 | true =>
 rw[hg,if_neg (by simp)]at hc
 have bt4:=g4.box (k:=2) (b:=t) (c:=[u16 p.1,u16 p.2]) rfl;have hlk:=λz hz=>aDm (g4.mapAt (k:=1) (fk:=u16) (fv:=vb) (r:=r) (l:=eC.map λk=>(k,true)) rfl) (kd:=0) (λa b=>xG a b) p.1 (z:=z) hz
 by_cases hm:p.1∈eC
 ·rw[if_pos hm]at hc
  rw[hc]at hQ;simp only[bt4,c0,hlk true (by simp[hm]),aC]
  exact hQ _ g4.ext
 ·rw[if_neg hm]at hc
  obtain⟨H5,s1,g5⟩:=g4.mapset (n:=1) (kd:=0) (fk:=u16) (fv:=vb) (r:=r) (l:=eC.map λk=>(k,true)) rfl (λa b=>xG a b) p.1 true;rw[aAd _ _ hm]at g5;simp only[bt4,c0,hlk false (by simp[hm]),s1,hinc,aC]
  exact ih _ _ ⟨eC++[p.1],rfl,Has.dropLast (L:=[bF tp (iO x v pv qv),eU u16 vb r ((eC++[p.1]).map λk=>(k,true))]) g5,hc⟩
theorem S.policy_paths(hE:aX E){x:iL}{v pv qv:Value}(hv:Rows H 2 pv (x.paths.map λp=>[str p.1,u16 p.2]))(hl:x.paths.length<2 ^ 62)(hln:∀ p∈x.paths,p.1.length<2 ^ 40)(hQ:∀ H',Ext H H'->Q (vi (fZ x.handled [] x.paths)) H'):E.call 37 [.agg (iO x v pv qv).toArray] H Q:=by
 apply hE.f93;have hmw:∀ (H:AH) (K:Value->AH->Prop),pD H K=K (.map (some H.next)) (H.new (.map [] 0 true)):=λ_ _=>rfl;have g1:=(Has.begin (Ext.refl H) (Sub.refl H)).newbox (iO x v pv qv);have g2:=g1.newmap str vb;have lv:=hv.lenSlc;rw[List.length_map]at lv;have c4:(iO x v pv qv)[4]? = some pv:=rfl;have b1:=g2.box (k:=0) (b:=H.next) (c:=iO x v pv qv) rfl;simp only[F.f93,aV,AM.aQ,aR,List.toList_toArray,hmw,b1,c4,lv,aC];exact aKQ hE hv hl hln g2 hQ
theorem S.policy_ports(hE:aX E){x:iL}{v pv qv:Value}(hv:Rows H 2 qv (x.ports.map λp=>[u16 p.1,u16 p.2]))(hl:x.ports.length<2 ^ 62)(hQ:∀ H',Ext H H'->Q (vi (kC x.handled [] x.ports)) H'):E.call 38 [.agg (iO x v pv qv).toArray] H Q:=by
 apply hE.f94;have hmw:∀ (H:AH) (K:Value->AH->Prop),pD H K=K (.map (some H.next)) (H.new (.map [] 0 true)):=λ_ _=>rfl;have g1:=(Has.begin (Ext.refl H) (Sub.refl H)).newbox (iO x v pv qv);have g2:=g1.newmap u16 vb;have lv:=hv.lenSlc;rw[List.length_map]at lv;have c5:(iO x v pv qv)[5]? = some qv:=rfl;have b1:=g2.box (k:=0) (b:=H.next) (c:=iO x v pv qv) rfl;simp only[F.f94,aV,AM.aQ,aR,List.toList_toArray,hmw,b1,c5,lv,aC];exact aJU hE hv hl g2 hQ
end
end
section
set_option maxRecDepth 20000
structure iL.soon(x:iL):Prop where
 rules:x.pol.rules.length<2 ^ 62
 conds:∀ r∈x.pol.rules,r.conds.length<2 ^ 62
 paths:x.paths.length<2 ^ 62
 names:∀ p∈x.paths,p.1.length<2 ^ 40
 ports:x.ports.length<2 ^ 62
section
variable {E:Sy}{H H' H0 Z:AH}{Q:Value->AH->Prop}{tb:Nat}{s:Option Nat}
theorem Upd.not_in{s s':Option Nat}(u:Upd (cR tb s) (cR tb s') H H'){t:Nat}(ht:t<H.next)(hn:t ∉ (cR tb s).fp):t ∉ (cR tb s').fp:=λh=>by
 rcases(u.fp t h).1 with k | k
 ·exact hn k
 ·omega
theorem aKY(cs:List Value)(h3:cs.length=3)(hp:cs.all plain1=true)(H:AH):aH 3 (ptr H.next 0) (.agg cs.toArray) (H.new (.cells [(.int .u32 0),(.int .u32 0),(.slice none 0 0)] none))=some (H.new (.cells cs none)):=by
 rw[cM,AH.get_new_self]
 have h4:AM.aT [(.int .u32 0),(.int .u32 0),(.slice none 0 0)] 0 cs=cs:=by
  match cs,h3 with
  | [a,b,c],_=>rfl
 simp only[List.size_toArray,List.toList_toArray,hp,h3,List.length_cons,List.length_nil,Nat.zero_add,Nat.le_refl,and_self,if_true,h4,AH.new_put]
theorem aK1(hE:aX E)(x:iL){v pv qv:Value}{t:Nat}{H0:AH}{s0:Option Nat}(hv:cO dM Z 3 v x.pol.rules)(hp:Rows Z 2 pv (x.paths.map λp=>[str p.1,u16 p.2]))(hq:Rows Z 2 qv (x.ports.map λp=>[u16 p.1,u16 p.2]))(hs:x.soon)(ht:uZ Z H tb s)(u0:Upd (cR tb s0) (cR tb s) H0 H)(hb:H.get t = .cells (iO x v pv qv) none)(hn:t ∉ (cR tb s).fp)(hQ:∀ s' H',Upd (cR tb s0) (cR tb s') H0 H'->Q (vi (if gS x.pol.rules≠0 then gS x.pol.rules else if fZ x.handled [] x.paths≠0 then fZ x.handled [] x.paths else kC x.handled [] x.ports)) H'):
  lp5 (F.f91_l1 E Q) [ptr tb 0,ptr t 0,v,vi x.pol.rules.length,vi 0] H:=by
 have i0:vi 0=vi ((0:Nat):Int):=rfl;rw[i0];refine aZ.count x.pol.rules.length (λj ls H'=>∃ s',ls=[ptr tb 0,ptr t 0,v,vi x.pol.rules.length,vi j]/\uZ Z H' tb s'/\Upd (cR tb s0) (cR tb s') H0 H'/\H'.get t = .cells (iO x v pv qv) none/\t ∉ (cR tb s').fp/\gS x.pol.rules=gS (x.pol.rules.drop j)) ?_ ⟨s,rfl,ht,u0,hb,hn,rfl⟩;rintro j _ H1 X1 hj ih ⟨s1,rfl,t1,u1,b1,n1,hc⟩;have z0:(.int .i64 0:Value)=vi 0:=rfl;rcases Nat.lt_or_ge j x.pol.rules.length with hlt | hge
 rotate_left
 ·have hlt':decide ((j:Int)<x.pol.rules.length)=false:=decide_eq_false (by omega)
  rw[List.drop_eq_nil_of_le hge]at hc;have hc:gS x.pol.rules=0:=hc;simp only[hc,ne_eq,not_true,if_false]at hQ;have l6:∀ {K:AH},K.get t = .cells (iO x v pv qv) none->aE 6 (ptr t 0) K=some (.agg (iO x v pv qv).toArray):=λh=>by rw[aJ,h];rfl
  simp only[F.f91_l1,aF,hlt',l6 b1,aC];refine S.policy_paths hE (hp.sub t1.sub) hs.paths hs.names λH2 e2 =>?_;simp only[z0,eG,aC]
  by_cases h1:fZ x.handled [] x.paths=0
  ·have d:decide (fZ x.handled [] x.paths≠0)=false:=decide_eq_false (by simpa using h1)
   rw[h1]at d;simp only[h1,not_true,if_false]at hQ;simp only[h1,d,l6 (e2.cells b1),aC];refine S.policy_ports hE (hq.sub (t1.sub.ext e2)) hs.ports λH3 e3 =>?_;exact hQ _ _ (u1.ext (e2.trans e3))
  ·have d:decide (fZ x.handled [] x.paths≠0)=true:=decide_eq_true h1
   simp only[h1,not_false_eq_true,if_true]at hQ;simp only[d,aC];exact hQ _ _ (u1.ext e2)
 have hlt':decide ((j:Int)<x.pol.rules.length)=true:=decide_eq_true (by omega)
 obtain⟨rows,r1,r2,r3⟩:=hv;obtain⟨b,o,f1,f2⟩:=(r1.sub t1.sub).ix (i:=j) (by rw[r2];exact hlt)
 have hr:=r3 j hlt (by rw[r2];exact hlt)
 have hcd:=hs.conds _ (List.getElem_mem hlt);rw[List.drop_eq_getElem_cons hlt]at hc;have hinc:=bE (i:=j) (by have:=hs.rules;omega)
 have ih:=ih hlt;generalize x.pol.rules[j]=y at *;generalize rows[j]'(by rw[r2];exact hlt)=cs at *
 have hcons:gS (y :: x.pol.rules.drop (j+1))=if kE y=0 then gS (x.pol.rules.drop (j+1)) else kE y:=rfl;rw[hcons]at hc;have hr':=hr;obtain⟨_,cv,rfl,hrows⟩:=hr'
 have hcp:([u32 y.number,u32 y.action,cv]:List Value).all plain1=true:=by
  have:=hrows.plain;simp[this]
 have lo:aE 3 (ptr b o) H1=some (.agg #[u32 y.number,u32 y.action,cv]):=by rw[aJ,f2];rfl
 have hst:=aKY [u32 y.number,u32 y.action,cv] rfl hcp H1;have x1:Ext H1 (H1.new (.cells [u32 y.number,u32 y.action,cv] none)):=(Ext.refl _).new _;have bp:=AH.get_new_self H1 (.cells [u32 y.number,u32 y.action,cv] none);simp only[F.f91_l1,aF,hlt',f1,lo,aW,hst,aC];have l3:aE 3 (ptr H1.next 0) (H1.new (.cells [u32 y.number,u32 y.action,cv] none))=some (.agg #[u32 y.number,u32 y.action,cv]):=by rw[aJ,bp];rfl
 have hlt1:=AH.lt_cells b1;have n1':H1.next=H1.next:=rfl;have t2:=t1.ext x1;have b2:=x1.cells b1;have u2:=u1.ext x1;generalize H1.new (.cells [u32 y.number,u32 y.action,cv] none)=H2 at *;simp only[l3,aC];refine S.f95 hE t2 y (cs:=[u32 y.number,u32 y.action,cv]) hr hcd λs' H3 u3 =>?_;have t3:=t2.upd u3;have b3:=u3.only.cells b2 n1;have n3:=u3.not_in (AH.lt_cells b2) n1;simp only[z0,eG,aC]
 by_cases h1:kE y=0
 ·have d:decide (kE y≠0)=false:=decide_eq_false (by simpa using h1)
  rw[if_pos h1]at hc;simp only[d,hinc,aC];exact ih _ _ ⟨s',rfl,t3,u2.trans u3,b3,n3,hc⟩
 ·have d:decide (kE y≠0)=true:=decide_eq_true h1
  rw[if_neg h1]at hc;simp only[hc,ne_eq,h1,not_false_eq_true,if_true]at hQ;simp only[d,aC];exact hQ _ _ (u2.trans u3)
theorem S.f91(hE:aX E)(ht:uZ Z H tb s)(x:iL){cs:List Value}(hx:eS Z x cs)(hs:x.soon)(hQ:∀ s' H',Upd (cR tb s) (cR tb s') H H'->Q (vi (fM x)) H'):E.call 14 [.agg cs.toArray,ptr tb 0] H Q:=by
 apply hE.f91;obtain⟨v,pv,qv,rfl,hv,hp,hq⟩:=hx;have pe:eW iU .eql (ptr tb 0) (.pointer none)=some (vb false):=rfl;have c0:(iO x v pv qv)[0]? = some (str x.name):=rfl;have c1:(iO x v pv qv)[1]? = some (u32 x.pol.default):=rfl;have c2:(iO x v pv qv)[2]? = some v:=rfl;have c3:(iO x v pv qv)[3]? = some (u16 x.handled):=rfl;have c4:(iO x v pv qv)[4]? = some pv:=rfl;have c5:(iO x v pv qv)[5]? = some qv:=rfl;have b1:=AH.get_new_self H (.cells (iO x v pv qv) none);have x1:Ext H (H.new (.cells (iO x v pv qv) none)):=(Ext.refl H).new _;have u1:=ht.same x1;have t1:=ht.ext x1;have n1:H.next ∉ (cR tb s).fp:=λh=>Nat.lt_irrefl _ (wU ht.tab _ h);have hlr:=hv.lenSlc;have hlp:=hp.lenSlc;have hlq:=hq.lenSlc;rw[List.length_map]at hlp hlq;have hpc:([str x.name,u32 x.pol.default,v,u16 x.handled,pv,qv]:List Value)=iO x v pv qv:=rfl;rw[hpc];unfold fM at hQ;simp only[F.f91,aV,AM.aQ,aR,List.toList_toArray,pe,b1,c0,aC];generalize H.new (.cells (iO x v pv qv) none)=H1 at *;generalize H.next=t at *;refine S.f76 hE x.name λH2 e2 =>?_;have b2:=e2.cells b1;have u2:=u1.ext e2;have t2:=t1.ext e2;simp only[bX,aC];cases hw:aHo x.name with
 | false =>
  simp only[hw,if_true]at hQ;simp only[aC];exact hQ _ _ u2
 | true =>
 simp only[hw,Bool.true_eq_false,if_false]at hQ;simp only[b2,c1,aC];refine S.f96 hE _ ?_;simp only[bX,aC];cases ha:aDd x.pol.default with
 | false =>
  simp only[ha,if_true]at hQ;simp only[aC];exact hQ _ _ u2
 | true =>
 simp only[ha,Bool.true_eq_false,if_false]at hQ;have z64:(.int .i64 64:Value)=vi ((64:Nat):Int):=rfl;have z32:(.int .i64 32:Value)=vi ((32:Nat):Int):=rfl;simp only[b2,c2,hlr,z64,cI,aC]
 by_cases k1:64<x.pol.rules.length
 ·have d:decide (((64:Nat):Int)<(x.pol.rules.length:Int))=true:=decide_eq_true (by omega)
  rw[if_pos (.inl k1)]at hQ;simp only[d,aC];exact hQ _ _ u2
 have d1:decide (((64:Nat):Int)<(x.pol.rules.length:Int))=false:=decide_eq_false (by omega)
 simp only[d1,b2,c4,hlp,z32,cI,aC]
 by_cases k2:32<x.paths.length
 ·have d:decide (((32:Nat):Int)<(x.paths.length:Int))=true:=decide_eq_true (by omega)
  rw[if_pos (.inr (.inl k2))]at hQ;simp only[d,aC];exact hQ _ _ u2
 have d2:decide (((32:Nat):Int)<(x.paths.length:Int))=false:=decide_eq_false (by omega)
 simp only[d2,b2,c5,hlq,z32,cI,aC]
 by_cases k3:32<x.ports.length
 ·have d:decide (((32:Nat):Int)<(x.ports.length:Int))=true:=decide_eq_true (by omega)
  rw[if_pos (.inr (.inr k3))]at hQ;simp only[d,aC];exact hQ _ _ u2
 have d3:decide (((32:Nat):Int)<(x.ports.length:Int))=false:=decide_eq_false (by omega)
 rw[if_neg (by omega)]at hQ
 simp only[d3,b2,c3,aC];refine S.f107 hE _ ?_;simp only[bX,aC]
 by_cases k4:x.handled &&& ~~~51199#16=0#16
 rotate_left
 ·rw[if_pos k4]at hQ
  simp only[decide_eq_false k4,Bool.not_false,aC];exact hQ _ _ u2
 rw[if_neg (λh=>h k4)]at hQ;simp only[decide_eq_true k4,Bool.not_true,b2,c2,hlr,aC];exact aK1 hE x hv hp hq hs t2 u2 b2 n1 hQ
end
end
section
set_option maxRecDepth 20000
theorem aF5(p:iJ)(hp:p.cases.Pairwise λa b=>a.number.toNat<b.number.toNat):Fit (iG p).parts:=by
 have hnd:(p.cases.map cV.number).Nodup:=by
  rw[List.nodup_iff_pairwise_ne,List.pairwise_map];exact hp.imp λh e=>by rw[e]at h;omega
 have hl:=aKD p hnd
 have hne:(LwD.cases (fI p).2 p.cases (kN p)).order≠[]:=by
  rw[hl.lo5.1.la.1];intro h;have ho:=hl.lo5.2;unfold actN at ho;rw[List.map_eq_nil_iff]at h;rw[h]at ho;simp at ho
 obtain⟨l0,k,hl0⟩:=aFf (LwD.cases (fI p).2 p.cases (kN p)).acts _ (LwD.cases (fI p).2 p.cases (kN p)) hne;exact⟨hl.fin.ok,hl.fin.wf,l0,aPJ k,hl0,rfl,rfl⟩
def iN(p:iJ):List aG:=dN (iG p).parts none
def oG(p:iJ):List aG:=qM ((iN p).length+1) (iN p)
def rN(p:iJ):Int ⊕ List bM :=
 match cY (oG p),cY (iN p) with
 | .inl _,.inl e => .inl e
 | .inl _,.inr q => .inr q.out
 | .inr t,.inl _ => .inr t.out
 | .inr t,.inr q=>if q.out.length<t.out.length then .inr q.out else .inr t.out
theorem aAZ(p:iJ)(hp:p.cases.Pairwise λa b=>a.number.toNat<b.number.toNat)(hi:∀ c∈p.cases,∀ b∈c.branches,aEj b.conds):
  (∀ e,rN p = .inl e->e=205)/\(∀ c,rN p = .inr c->iQ c/\xV c/\c.length<=4096/\∀ r,r.ok->hO r c.length c 0#32=iS p r)/\(wPs (iN p)<=4096->∃ c,rN p = .inr c):=by
 have f0:=aF5 p hp;have fP:Fit (iN p):=aLT f0;obtain⟨fT,dT⟩:=aFx ((iN p).length+1) fP;have fT:Fit (oG p):=fT;obtain⟨eP,sP,wP⟩:=aBv fP;obtain⟨eT,sT,_⟩:=aBv fT
 have den0:∀ r,r.ok->(den r (iN p)).2 0#32=iS p r:=λr hr=>by
  have:=(pZ r (iG p).parts none f0.ok).2 0#32 (λk h=>by cases h)
  rw[show(den r (iN p)).2 0#32=_ from this];exact aJW p hp hi r hr 0#32
 have good:∀ (L:List aG) (s:MkD),(∀ r,r.ok->(den r L).2 0#32=iS p r)->cY L = .inr s->(∀ r,sJ r s (den r L))->iQ s.out/\xV s.out/\s.out.length<=4096/\∀ r,r.ok->hO r s.out.length s.out 0#32=iS p r:=λL s hd hm hs =>
  ⟨(hs ⟨0#32,0#32,0#64,[]⟩).ok,(hs ⟨0#32,0#32,0#64,[]⟩).end_,(tY hm).2,λr hr=>by rw[(hs r).run _ _ (Nat.le_refl _),hd r hr]⟩
 have gP:∀ s,cY (iN p) = .inr s->_:=λs hs=>good _ s den0 hs (sP s hs);have gT:∀ s,cY (oG p) = .inr s->_:=λs hs=>good _ s (λr hr=>by rw[show(den r (oG p)).2=_ from dT r,den0 r hr]) hs (sT s hs)
 refine⟨λe h =>?_,λc h =>?_,λh =>?_⟩
 ·unfold rN at h
  cases hT:cY (oG p) with
  | inl e1 =>
   cases hP:cY (iN p) with
   | inl e2=>rw[hT,hP]at h;cases h;exact eP _ hP
   | inr q=>rw[hT,hP]at h;cases h
  | inr t =>
   cases hP:cY (iN p) with
   | inl e2=>rw[hT,hP]at h;cases h
   | inr q=>rw[hT,hP]at h;simp only at h;split at h<;>cases h
 ·unfold rN at h
  cases hT:cY (oG p) with
  | inl e1 =>
   cases hP:cY (iN p) with
   | inl e2=>rw[hT,hP]at h;cases h
   | inr q=>rw[hT,hP]at h;cases h;exact gP _ hP
  | inr t =>
   cases hP:cY (iN p) with
   | inl e2=>rw[hT,hP]at h;cases h;exact gT _ hT
   | inr q =>
    rw[hT,hP]at h;simp only at h
    split at h<;>cases h
    ·exact gP _ hP
    ·exact gT _ hT
 ·obtain⟨q,hq⟩:=wP h
  unfold rN;rw[hq];cases hT:cY (oG p) with
  | inl e1=>exact⟨_,rfl⟩
  | inr t=>simp only;split<;>exact⟨_,rfl⟩
theorem aHe:∀ (l:List aG) (now:Option (BitVec 32)),(dN l now).length<=l.length
 | [],_=>Nat.le_refl _
 | p :: l,now=>by
  have ih:=aHe l;unfold dN
  split
  ·have:=ih none;simp only[List.length_cons];omega
  split
  ·split
   ·have:=ih now;simp only[List.length_cons];omega
   ·have:=ih (some p.insn.k);simp only[List.length_cons];omega
  split
  ·have:=ih none;simp only[List.length_cons];omega
  ·have:=ih now;simp only[List.length_cons];omega
theorem aHF:∀ (f:Nat) (l:List aG),(qM f l).length<=l.length
 | 0,_=>Nat.le_refl _
 | f+1,l=>by
  have h:=aDa l;unfold qM
  split
  ·exact h
  ·exact Nat.le_trans (aHF f _) h
theorem aBJ:∀ {l:List dI},gS l=0->∀ x∈l,kE x=0
 | [],_,x,hx=>by cases hx
 | y :: l,h,x,hx=>by
  unfold gS at h
  by_cases h0:kE y=0
  ·rw[if_pos h0]at h
   rcases List.mem_cons.1 hx with rfl | hx
   ·exact h0
   ·exact aBJ h x hx
  ·rw[if_neg h0]at h;exact absurd h h0
theorem aA5:∀ {l:List bA},jA l=0->∀ x∈l,kF x=0
 | [],_,x,hx=>by cases hx
 | y :: l,h,x,hx=>by
  unfold jA at h
  by_cases h0:kF y=0
  ·rw[if_pos h0]at h
   rcases List.mem_cons.1 hx with rfl | hx
   ·exact h0
   ·exact aA5 h x hx
  ·rw[if_neg h0]at h;exact absurd h h0
theorem sX{x:iL}(h:fM x=0):x.pol.rules.length<=64/\(∀ r∈x.pol.rules,r.conds.length<=6)/\aNP x.pol:=by
 unfold fM at h
 split at h
 ·cases h
 split at h
 ·cases h
 split at h
 ·cases h
 split at h
 ·cases h
 rename_i h3 _
 have hr:gS x.pol.rules=0:=by
  split at h
  ·exact h
  ·rename_i k;simpa using k
 have hx:=aBJ hr
 have hb:∀ r∈x.pol.rules,r.conds.length<=6/\jA r.conds=0:=λr hm=>by
  have:=hx r hm;unfold kE at this
  split at this
  ·cases this
  split at this
  ·cases this
  split at this
  ·cases this
  ·exact⟨by omega,this⟩
 refine⟨by omega,λr hm=>(hb r hm).1,λr hm c hc =>?_⟩
 have:=aA5 (hb r hm).2 c hc;unfold kF at this
 split at this
 ·cases this
 ·omega
section
variable {E:Sy}{H H' H0 Z:AH}{Q:Value->AH->Prop}{tb:Nat}{s:Option Nat}
theorem nB{x:iL}{cs:List Value}(h:eS H x cs):cs.length=6/\cs.all plain1=true:=by
 obtain⟨v,pv,qv,rfl,⟨rows,h1,_⟩,h2,h3⟩:=h;exact⟨rfl,by simp[h1.plain,h2.plain,h3.plain]⟩
theorem eS.sub'{x:iL}{cs:List Value}(h:eS H x cs)(e:Sub H H'):eS H' x cs:=by
 obtain⟨v,pv,qv,rfl,h1,h2,h3⟩:=h;exact⟨v,pv,qv,rfl,h1.sub (λ_ _ _ _ h e=>dM.sub h e) e,h2.sub e,h3.sub e⟩
theorem S.f13(hE:aX E)(hSC:kI E 80)(hSR:jP E 80)(ht:uZ Z H tb s)(x:iL){cs:List Value}(hx:eS Z x cs)(hs:x.soon)(hQ:∀ s' H',Upd (cR tb s) (cR tb s') H H'->(fM x≠0->Q (.tuple #[bY,vi (fM x)]) H') /\
   (fM x=0->∀ ns,pE x.pol ns->(∀ e,rN (eA x.pol ns) = .inl e->Q (.tuple #[bY,vi e]) H')/\∀ c w,rN (eA x.pol ns) = .inr c->Rows H' 4 w (bV c)->Q (.tuple #[w,vi 0]) H')):
  E.call 12 [.agg cs.toArray,ptr tb 0] H Q:=by
 apply hE.f13;obtain⟨h6,_⟩:=nB hx;have b1:=AH.get_new_self H (.cells cs none);have x1:Ext H (H.new (.cells cs none)):=(Ext.refl _).new _;have lo:∀ {K:AH},K.get H.next = .cells cs none->aE 6 (ptr H.next 0) K=some (.agg cs.toArray):=λe=>by rw[aJ,e,cH _ _ 6 h6];rfl
 have n1:H.next ∉ (cR tb s).fp:=λh=>Nat.lt_irrefl _ (wU ht.tab _ h);have u1:=ht.same x1;have t1:=ht.ext x1;simp only[F.f13,aV,AM.aQ,aR,List.toList_toArray,lo b1,aC];generalize H.new (.cells cs none)=H1 at *;generalize H.next=t at *;refine S.f91 hE t1 x hx hs λs' H2 u2 =>?_;have b2:=u2.only.cells b1 n1;have t2:=t1.upd u2;have u:=u1.trans u2;have z0:(.int .i64 0:Value)=vi 0:=rfl;simp only[z0,eG,aC]
 by_cases h0:fM x=0
 rotate_left
 ·have d:decide (fM x≠0)=true:=decide_eq_true h0
  simp only[d,aC];exact(hQ _ _ u).1 h0
 have d:decide (fM x≠0)=false:=decide_eq_false (by simpa using h0)
 have hQ:=λK e ns hns=>(hQ s' K (u.ext (H'':=K) e)).2 h0 ns hns;obtain⟨p1,p2,p3⟩:=sX h0;simp only[d,lo b2,aC];have hx2:eS H2 x cs:=hx.sub' t2.sub;refine S.f30 hE (sm:=80) (Nat.le_refl _) hSC hSR x.pol cs (hx2.at_ (by omega)) (by omega) (λr hr=>by have:=p2 r hr;omega) λns pl H3 e3 hns hpl =>?_
 have hQ:=λK e=>hQ K e ns hns;have hw:=aHj hns (a:=64) (c:=6) p1 p2;have hup:=xI hns;have hin:=aA1 p3 ns;have hll:=aHC (eA x.pol ns);have hmm:=(aAZ (eA x.pol ns) hup hin).1;generalize eA x.pol ns=p at *;refine S.f58 hE p pl hpl (by omega) λpv H4 e4 hpv =>?_
 have hpl1:(iN p).length<=(iG p).parts.length:=aHe _ _;refine S.f14 hE hpv (by omega) λpw H5 e5 hpw =>?_
 have hpw:Rows H5 7 pw (bL (iN p)):=hpw;refine S.f48 hE hpw (by omega) λtw H6 e6 htw =>?_
 have htw:Rows H6 7 tw (bL (oG p)):=htw;have hTl:(oG p).length<=(iN p).length:=aHF _ _;have x6:=((e3.trans e4).trans e5).trans e6;have q1:∀ n:Int,n≠0->decide (n≠0)=true:=λn h=>decide_eq_true h;have q2:∀ n:Int,n≠0->decide (n=0)=false:=λn h=>decide_eq_false h;have q3:decide ((0:Int)≠0)=false:=rfl;have q4:decide ((0:Int)=0)=true:=rfl;refine S.f47 hE htw (by omega) λH7 e7=>⟨λe he hne =>?_,λs w hs hw =>?_⟩
 ·simp only[aC]
  refine S.f47 hE (hpw.mono (e6.trans e7)) (by omega) λH8 e8=>⟨λe2 he2 hne2 =>?_,λq wq hq hwq =>?_⟩
  ·simp only[z0,eG,q1 e hne,aC]
   exact(hQ _ ((x6.trans e7).trans e8)).1 e2 (by unfold rN;rw[he,he2])
  ·simp only[z0,eG,q1 e hne,aC]
   exact(hQ _ ((x6.trans e7).trans e8)).2 q.out wq (by unfold rN;rw[he,hq]) hwq
 ·simp only[aC]
  refine S.f47 hE (hpw.mono (e6.trans e7)) (by omega) λH8 e8=>⟨λe2 he2 hne2 =>?_,λq wq hq hwq =>?_⟩
  ·simp only[z0,eG,cZ,q3,q2 e2 hne2,aC]
   exact(hQ _ ((x6.trans e7).trans e8)).2 s.out w (by unfold rN;rw[hs,he2]) (hw.mono e8)
  ·have hl5:=(hw.mono e8).lenSlc
   have hl6:=hwq.lenSlc;have ni:∀ c:List bM,(bV c).length=c.length:=λc=>by simp[bV]
   rw[ni]at hl5 hl6;simp only[z0,eG,cZ,q3,decide_true,hl5,hl6,aF,aC];have hi:rN p=if q.out.length<s.out.length then .inr q.out else .inr s.out:=by unfold rN;rw[hs,hq]
   by_cases hlt:q.out.length<s.out.length
   ·have dl:decide ((q.out.length:Int)<(s.out.length:Int))=true:=decide_eq_true (by omega)
    rw[if_pos hlt]at hi;simp only[dl,aC];exact(hQ _ ((x6.trans e7).trans e8)).2 q.out wq hi hwq
   ·have dl:decide ((q.out.length:Int)<(s.out.length:Int))=false:=decide_eq_false (by omega)
    rw[if_neg hlt]at hi;simp only[dl,aC];exact(hQ _ ((x6.trans e7).trans e8)).2 s.out w hi (hw.mono e8)
theorem S.f12(hE:aX E)(hSC:kI E 80)(hSR:jP E 80)(ht:uZ Z H tb s)(x:iL){cs:List Value}(hx:eS Z x cs)(hs:x.soon)(hQ:∀ s' H2 H',Upd (cR tb s) (cR tb s') H H2->Ext H2 H'->(fM x≠0->Q (.tuple #[.pointer none,vi (fM x)]) H') /\
   (fM x=0->∀ ns,pE x.pol ns->(∀ e,rN (eA x.pol ns) = .inl e->Q (.tuple #[.pointer none,vi 205]) H')/\∀ c fb,rN (eA x.pol ns) = .inr c->Fil H2 H2 H' fb c []->Q (.tuple #[ptr fb 0,vi 0]) H')):
  E.call 8 [.agg cs.toArray,ptr tb 0] H Q:=by
 apply hE.f12;obtain⟨h6,_⟩:=nB hx;have b1:=AH.get_new_self H (.cells cs none);have x1:Ext H (H.new (.cells cs none)):=(Ext.refl _).new _;have lo:aE 6 (ptr H.next 0) (H.new (.cells cs none))=some (.agg cs.toArray):=by rw[aJ,b1,cH _ _ 6 h6];rfl
 have u1:=ht.same x1;have t1:=ht.ext x1;simp only[F.f12,aV,AM.aQ,aR,List.toList_toArray,lo,aC];generalize H.new (.cells cs none)=H1 at *;refine S.f13 hE hSC hSR t1 x hx hs λs' H2 u2=>⟨λh0 =>?_,λh0 ns hns =>?_⟩
 ·have z0:(.int .i64 0:Value)=vi 0:=rfl
  have d:decide (fM x≠0)=true:=decide_eq_true h0;simp only[z0,eG,d,aC];exact(hQ _ _ _ (u1.trans u2) (Ext.refl _)).1 h0
 obtain⟨p1,p2,p3⟩:=sX h0;obtain⟨m1,m2,_⟩:=aAZ (eA x.pol ns) (xI hns) (aA1 p3 ns);refine⟨λe he =>?_,λc w hc hw =>?_⟩
 ·obtain rfl:=m1 e he
  have d:decide ((205:Int)≠0)=true:=rfl;have z0:(.int .i64 0:Value)=vi 0:=rfl;simp only[z0,eG,d,aC];exact((hQ _ _ _ (u1.trans u2) (Ext.refl _)).2 h0 ns hns).1 _ he
 ·obtain⟨o1,o2,o3,_⟩:=m2 c hc
  have d:decide ((0:Int)≠0)=false:=rfl;have z0:(.int .i64 0:Value)=vi 0:=rfl;simp only[z0,eG,d,aC];refine S.f145 hE hw o1 o2 o3 λfb H3 g3 =>?_;have s3:aH 2 (ptr H3.next 0) (.agg #[vi 0,vi 0]) (H3.new (.cells [vi 0,vi 0] none))=some (H3.new (.cells [vi 0,vi 0] none)):=fL (n:=2) rfl rfl rfl;have l3:aE 2 (ptr H3.next 0) (H3.new (.cells [vi 0,vi 0] none))=some (.agg #[vi 0,vi 0]):=lY (c:=[vi 0,vi 0]) rfl;have hbv0:aK [(0,1),(1,1)] #[vi 0,vi 0] []=some (.agg #[vi 0,vi 0]):=rfl;have hne:iE [0,0] .neq (.agg #[vi 0,vi 0]) (.agg #[vi 0,vi 0])=some (vb false):=rfl;simp only[aW,s3,l3,hbv0,hne,aC];have x3:Ext H3 (H3.new (.cells [vi 0,vi 0] none)):=(Ext.refl _).new _;exact((hQ _ H2 _ (u1.trans u2) (g3.ext.trans x3)).2 h0 ns hns).2 c fb hc (g3.grow x3)
end
end
section
set_option maxRecDepth 20000
structure aBa(s t:MkD):Prop where
 len:s.out.length<=t.out.length
 is:∀ n,(bB n s.places).isSome=(bB n t.places).isSome
 away:∀ n,(bB n t.places).isSome=true->s.away n<=t.away n
def thN(to els:Int):Nat:=if 253<els then(if 253<to+1 then 3 else 2) else if 253<to then 2 else 1
theorem aHH(s:MkD)(i:bM)(to els:Int):(s.cmp1 i to els).out.length=s.out.length+if 253<to then 2 else 1:=by
 unfold MkD.cmp1;split<;>rfl
theorem aHr(s:MkD)(i:bM)(to els:Int):(s.cmp0 i to els).out.length=s.out.length+thN to els:=by
 unfold MkD.cmp0 thN
 split
 ·rw[aHH]
  show s.out.length+1+_=_
  split<;>omega
 ·rw[aHH]
theorem aKd{to els to' els':Int}(h1:to<=to')(h2:els<=els'):thN to els<=thN to' els':=by
 unfold thN
 repeat' split
 all_goals omega
theorem aG8(s:MkD)(i:bM)(to els:Int):(s.cmp1 i to els).places=s.places:=by
 unfold MkD.cmp1;split<;>rfl
theorem aBF(s:MkD)(i:bM)(to els:Int):(s.cmp0 i to els).places=s.places:=by
 unfold MkD.cmp0;split<;>rw[aG8];rfl
theorem aBa.more{s t s' t':MkD}(h:aBa s t)(p1:s'.places=s.places)(p2:t'.places=t.places)(h1:s'.out.length+t.out.length<=t'.out.length+s.out.length):aBa s' t' where
 len:=by have:=h.len;omega
 is:=λn=>by rw[p1,p2];exact h.is n
 away:=λn hn=>by
  rw[p2]at hn;have:=h.away n hn;unfold MkD.away at this ⊢;rw[p1,p2];omega
theorem aBa.part{s t t':MkD}(h:aBa s t){p:aG}(e:t.part p = .inr t'):∃ s',s.part p = .inr s'/\aBa s' t':=by
 unfold MkD.part at e ⊢
 by_cases k1:p.kind=1#8
 ·rw[if_pos k1]at e ⊢
  by_cases hi:(bB p.to t.places).isSome=true
  ·rw[if_pos hi]at e;cases e
  ·rw[if_neg hi]at e
   rw[if_neg (by rw[h.is];exact hi)]
   cases e;refine⟨_,rfl,h.len,λn =>?_,λn hn =>?_⟩
   ·show(bB n (fE p.to s.out.length s.places)).isSome=(bB n (fE p.to t.out.length t.places)).isSome
    rw[dA,dA]
    by_cases hk:n=p.to
    ·rw[if_pos hk,if_pos hk];rfl
    ·rw[if_neg hk,if_neg hk];exact h.is n
   ·replace hn:(bB n (fE p.to t.out.length t.places)).isSome=true:=hn
    show(s.out.length:Int) - ((bB n (fE p.to s.out.length s.places)).getD 0:Nat)<=(t.out.length:Int) - ((bB n (fE p.to t.out.length t.places)).getD 0:Nat)
    rw[dA]at hn;rw[dA,dA]
    by_cases hk:n=p.to
    ·rw[if_pos hk,if_pos hk,Option.getD_some,Option.getD_some];omega
    ·rw[if_neg hk]at hn
     rw[if_neg hk,if_neg hk];exact h.away n hn
 rw[if_neg k1]at e ⊢
 by_cases k2:p.kind=2#8
 ·rw[if_pos k2]at e ⊢
  by_cases hc:bS p.insn.code=5#16
  ·rw[if_pos hc]at e;cases e
  ·rw[if_neg hc]at e ⊢
   cases e;exact⟨_,rfl,h.more rfl rfl (by show s.out.length+1+_<=t.out.length+1+_;omega)⟩
 rw[if_neg k2]at e ⊢
 by_cases k4:p.kind=4#8
 ·rw[if_pos k4]at e ⊢
  by_cases hi:(bB p.to t.places).isSome=true
  ·rw[if_pos hi]at e
   rw[if_pos (by rw[h.is];exact hi)]
   cases e;exact⟨_,rfl,h.more rfl rfl (by show s.out.length+1+_<=t.out.length+1+_;omega)⟩
  ·rw[if_neg hi]at e;cases e
 rw[if_neg k4]at e ⊢
 by_cases k3:p.kind=3#8
 ·rw[if_pos k3]at e ⊢
  by_cases hc:bS p.insn.code≠5#16\/p.insn.code=5#16
  ·rw[if_pos hc]at e;cases e
  rw[if_neg hc]at e ⊢
  by_cases hi:(bB p.to t.places).isSome=false\/(bB p.els t.places).isSome=false
  ·rw[if_pos hi]at e;cases e
  rw[if_neg hi]at e;rw[if_neg (by rw[h.is,h.is];exact hi)]
  cases e;have hi1:(bB p.to t.places).isSome=true:=by simpa using λh=>hi (Or.inl h)
  have hi2:(bB p.els t.places).isSome=true:=by simpa using λh=>hi (Or.inr h)
  refine⟨_,rfl,h.more (aBF ..) (aBF ..) ?_⟩;rw[aHr,aHr];have:=aKd (h.away p.to hi1) (h.away p.els hi2);omega
 ·rw[if_neg k3]at e;cases e
theorem aBa.skip{s t t':MkD}(h:aBa s t){p:aG}(k2:p.kind=2#8)(e:t.part p = .inr t'):aBa s t':=by
 unfold MkD.part at e;rw[if_neg (by rw[k2];decide),if_pos k2]at e
 by_cases hc:bS p.insn.code=5#16
 ·rw[if_pos hc]at e;cases e
 ·rw[if_neg hc]at e
  cases e;exact h.more rfl rfl (by show s.out.length+_<=t.out.length+1+_;omega)
theorem aGm{p:aG}{l:List aG}{t:MkD}(h:cY (p :: l) = .inr t):∃ t0,cY l = .inr t0/\t0.part p = .inr t/\t.out.length<=4096:=by
 unfold cY at h
 split at h
 ·cases h
 ·rename_i t0 h0
  split at h
  ·cases h
  ·rename_i t1 h1
   split at h
   ·cases h
   ·cases h
    exact⟨t0,h0,h1,by omega⟩
theorem aIJ{p:aG}{l:List aG}{s0 s:MkD}(h0:cY l = .inr s0)(h:s0.part p = .inr s)(hl:s.out.length<=4096):cY (p :: l) = .inr s:=by
 simp only[cY,h0,h];rw[if_neg (by omega)]
theorem uO:∀ (l:List aG) (now:Option (BitVec 32)) {t:MkD},cY l = .inr t->∃ s,cY (dN l now) = .inr s/\aBa s t
 | [],_,t,h=>⟨t,h,Nat.le_refl _,λ_=>rfl,λ_ _=>Int.le_refl _⟩
 | p :: l,now,t,h=>by
  obtain⟨t0,h0,h1,h2⟩:=aGm h
  have both:∀ now',∃ s,cY (p :: dN l now') = .inr s/\aBa s t:=λnow'=>by
   obtain⟨s0,g0,th⟩:=uO l now' h0;obtain⟨s,g1,th1⟩:=th.part h1;exact⟨s,aIJ g0 g1 (Nat.le_trans th1.len h2),th1⟩
  unfold dN
  split
  ·exact both _
  ·split
   ·rename_i _ hk
    split
    ·obtain⟨s0,g0,th⟩:=uO l now h0
     exact⟨s0,g0,th.skip hk.1 h1⟩
    ·exact both _
   ·split
    ·exact both _
    ·exact both _
end
section
set_option maxRecDepth 20000
def aI3(p:iJ):Int ⊕ MkD:=cY (iG p).parts
theorem aHG(p:iJ)(hp:p.cases.Pairwise λa b=>a.number.toNat<b.number.toNat):∀ e,aI3 p = .inl e->e=205 :=
 λe h=>(aBv (aF5 p hp)).1 e h
theorem aM4(p:iJ){e:Int}(h:rN p = .inl e):∃ e',aI3 p = .inl e':=by
 cases hm:aI3 p with
 | inl e'=>exact⟨e',rfl⟩
 | inr t =>
  obtain⟨s,hs,_⟩:=uO (iG p).parts none hm;have hs:cY (iN p) = .inr s:=hs;unfold rN at h;rw[hs]at h;cases hT:cY (oG p) with
  | inl e1=>rw[hT]at h;cases h
  | inr q=>rw[hT]at h;simp only at h;split at h<;>cases h
theorem aJC(p:iJ){c:List bM}{t:MkD}(h:rN p = .inr c)(hm:aI3 p = .inr t):c.length<=t.out.length:=by
 obtain⟨s,hs,th⟩:=uO (iG p).parts none hm;have hs:cY (iN p) = .inr s:=hs;have hl:=th.len;unfold rN at h;rw[hs]at h;cases hT:cY (oG p) with
 | inl e1=>rw[hT]at h;cases h;exact hl
 | inr q =>
  rw[hT]at h;simp only at h
  split at h
  ·cases h;exact hl
  ·cases h;omega
section
variable {E:Sy}{H H' H0 Z:AH}{Q:Value->AH->Prop}{tb:Nat}{s:Option Nat}
theorem S.f15(hE:aX E)(hSC:kI E 80)(hSR:jP E 80)(ht:uZ Z H tb s)(x:iL){cs:List Value}(hx:eS Z x cs)(hs:x.soon)(hQ:∀ s' H',Upd (cR tb s) (cR tb s') H H'->(fM x≠0->Q (.tuple #[bY,vi (fM x)]) H') /\
   (fM x=0->∀ ns,pE x.pol ns->(∀ e,aI3 (eA x.pol ns) = .inl e->Q (.tuple #[bY,vi e]) H')/\∀ c w,aI3 (eA x.pol ns) = .inr c->Rows H' 4 w (bV c.out)->Q (.tuple #[w,vi 0]) H')):
  E.call 13 [.agg cs.toArray,ptr tb 0] H Q:=by
 apply hE.f15;obtain⟨h6,_⟩:=nB hx;have b1:=AH.get_new_self H (.cells cs none);have x1:Ext H (H.new (.cells cs none)):=(Ext.refl _).new _;have lo:∀ {K:AH},K.get H.next = .cells cs none->aE 6 (ptr H.next 0) K=some (.agg cs.toArray):=λe=>by rw[aJ,e,cH _ _ 6 h6];rfl
 have n1:H.next ∉ (cR tb s).fp:=λh=>Nat.lt_irrefl _ (wU ht.tab _ h);have u1:=ht.same x1;have t1:=ht.ext x1;simp only[F.f15,aV,AM.aQ,aR,List.toList_toArray,lo b1,aC];generalize H.new (.cells cs none)=H1 at *;generalize H.next=t at *;refine S.f91 hE t1 x hx hs λs' H2 u2 =>?_;have b2:=u2.only.cells b1 n1;have t2:=t1.upd u2;have u:=u1.trans u2;have z0:(.int .i64 0:Value)=vi 0:=rfl;simp only[z0,eG,aC]
 by_cases h0:fM x=0
 rotate_left
 ·have d:decide (fM x≠0)=true:=decide_eq_true h0
  simp only[d,aC];exact(hQ _ _ u).1 h0
 have d:decide (fM x≠0)=false:=decide_eq_false (by simpa using h0)
 have hQ:=λK e ns hns=>(hQ s' K (u.ext (H'':=K) e)).2 h0 ns hns;obtain⟨p1,p2,p3⟩:=sX h0;simp only[d,lo b2,aC];have hx2:eS H2 x cs:=hx.sub' t2.sub;refine S.f30 hE (sm:=80) (Nat.le_refl _) hSC hSR x.pol cs (hx2.at_ (by omega)) (by omega) (λr hr=>by have:=p2 r hr;omega) λns pl H3 e3 hns hpl =>?_
 have hQ:=λK e=>hQ K e ns hns;have hw:=aHj hns (a:=64) (c:=6) p1 p2;have hll:=aHC (eA x.pol ns);generalize eA x.pol ns=p at *;refine S.f58 hE p pl hpl (by omega) λpv H4 e4 hpv =>?_
 refine S.f47 hE hpv (by omega) λH5 e5=>⟨λe he hne =>?_,λq w hq hw =>?_⟩
 ·simp only[aC]
  exact(hQ _ ((e3.trans e4).trans e5)).1 e he
 ·simp only[aC]
  exact(hQ _ ((e3.trans e4).trans e5)).2 q w hq hw
end
end
section
set_option maxRecDepth 20000
def setArg(b:aN)(k:Nat)(n:BitVec 64):aN:=⟨b.number,b.arch,b.at_,b.args.set k n⟩
theorem setArg_ok{b:aN}(h:b.ok)(k:Nat)(n:BitVec 64):(setArg b k n).ok:=by simpa[setArg,aN.ok] using h
def mP(c:bA):List (BitVec 64):=[c.value - 1#64,c.value+1#64,c.value ^^^ 4294967296#64,c.value ||| ~~~c.mask,0#64]
def dH(b:aN)(c:bA):List aN:=if 0<=c.arg/\c.arg<=5 then(mP c).map (setArg b c.arg.toNat) else[]
def gB(b:aN)(c:bA):aN:=if 0<=c.arg/\c.arg<=5 then setArg b c.arg.toNat c.value else b
def mI(x:dI):aN:=x.conds.foldl gB ⟨x.number,3221225534#32,0#64,[0#64,0#64,0#64,0#64,0#64,0#64]⟩
def fW(x:dI):List aN:=mI x :: x.conds.flatMap (dH (mI x))
def nG(p:jS):List aN:=[⟨0#32,3221225534#32,0#64,[0#64,0#64,0#64,0#64,0#64,0#64]⟩,⟨0#32,3221225535#32,0#64,[0#64,0#64,0#64,0#64,0#64,0#64]⟩]++p.rules.flatMap fW
def fD(l:List aN):List (List Value):=l.map aN.cells
theorem aFN{b:aN}(h:b.ok)(c:bA):(gB b c).ok:=by
 unfold gB
 split
 ·exact setArg_ok h _ _
 ·exact h
theorem zZ:∀ (l:List bA) {b:aN},b.ok->(l.foldl gB b).ok
 | [],_,h=>h
 | c :: l,_,h=>zZ l (aFN h c)
theorem aHS(x:dI):(mI x).ok:=zZ x.conds rfl
theorem vF(b:aN)(c:bA):(dH b c).length<=5:=by
 unfold dH
 split
 ·simp[mP]
 ·simp
theorem aHR{b:aN}(h:b.ok){k:Nat}(hk:k<6)(n:BitVec 64):b.cells.set (3+k*1) (u64 n)=(setArg b k n).cells/\3+k*1<b.cells.length:=by
 refine⟨?_,?_⟩
 ·rw[show 3+k*1=k+1+1+1 by omega]
  simp[aN.cells,setArg,List.map_set]
 ·have:=dB h
  omega
end
section
set_option maxRecDepth 20000
section
variable {E:Sy}{H H' H0 Z:AH}{Q:Value->AH->Prop}
def egL(t6 tc:Nat)(ov:Value)(out:List aN)(b:aN)(c:bA)(nv:Value)(vals:List (BitVec 64)):List Res:=[aY 9 ov (fD out),bF t6 b.cells,bF tc c.cells,aY 1 nv (vals.map λn=>[u64 n])]
theorem aLB(hE:aX E){t6 tc:Nat}{ov:Value}{out:List aN}{b:aN}(hb:b.ok){c:bA}(h0:0<=c.arg)(h5:c.arg<=5){nv:Value}{vals:List (BitVec 64)}(hvl:vals.length<=10)(hol:out.length<2 ^ 30)(g0:Has H0 Z H (egL t6 tc ov out b c nv vals)){t18 t19 t20 t54 t55:Value}{q:Nat}(hq:q<2 ^ 30){X0 X1:List Value->AH->Prop}(next:∀ ov' H',Has H0 Z H' (egL t6 tc ov' (out++vals.map (setArg b c.arg.toNat)) b c nv vals)->X1 [ov',ptr t6 0,t18,t19,t20,t54,t55,vi ((q+1:Nat):Int)] H'):
  aP4 (F.f11_l4 E Q X0 X1) [ov,ptr t6 0,ptr tc 0,t18,t19,t20,t54,t55,vi q,nv,vi vals.length,vi 0] H:=by
 have i0:vi 0=vi ((0:Nat):Int):=rfl;rw[i0];refine aZ.count vals.length (λk ls H'=>∃ ov,ls=[ov,ptr t6 0,ptr tc 0,t18,t19,t20,t54,t55,vi q,nv,vi vals.length,vi k]/\Has H0 Z H' (egL t6 tc ov (out++(vals.take k).map (setArg b c.arg.toNat)) b c nv vals)) ?_ ⟨ov,rfl,by simpa using g0⟩
 rintro k _ H1 X2 hk ih ⟨ov,rfl,g⟩;rcases Nat.lt_or_ge k vals.length with hlt | hge
 rotate_left
 ·have hke:k=vals.length:=by omega
  subst hke;have hlt':decide ((vals.length:Int)<vals.length)=false:=decide_eq_false (by omega)
  have hinc:=bE (i:=q) (by omega)
  rw[List.take_length]at g;simp only[F.f11_l4,aF,hlt',hinc,aC];exact next _ _ g
 have hlt':decide ((k:Int)<vals.length)=true:=decide_eq_true (by omega)
 obtain⟨bb,o,f1,f2⟩:=(g.rows (k:=3) (sz:=1) (v:=nv) (rows:=vals.map λn=>[u64 n]) rfl).ix (i:=k) (by simpa using hlt)
 have hrow:(vals.map λn=>[u64 n])[k]'(by simpa using hlt)=[u64 vals[k]]:=by simp
 rw[hrow]at f2;have hce:((H1.get bb).cell o)=some (u64 vals[k]):=by have:=lD f2 (j:=0) (by omega);simpa using this
 have hinc:=bE (i:=k) (by omega)
 have htk:(vals.take (k+1)).map (setArg b c.arg.toNat)=(vals.take k).map (setArg b c.arg.toNat)++[setArg b c.arg.toNat vals[k]]:=by
  rw[List.take_succ,List.getElem?_eq_getElem hlt,List.map_append];rfl
 have hl2:((vals.take k).map (setArg b c.arg.toNat)).length<=10:=by rw[List.length_map,List.length_take];omega
 have ih:=ih hlt;rw[htk,<- List.append_assoc]at ih;generalize vals[k]=n at *;have hout:(out++(vals.take k).map (setArg b c.arg.toNat)).length<2 ^ 31:=by rw[List.length_append];omega
 generalize out++(vals.take k).map (setArg b c.arg.toNat)=out1 at *;have hb6:=g.box (k:=1) (b:=t6) (c:=b.cells) rfl;have lo6:aE 9 (ptr t6 0) H1=some b.v:=by rw[aJ,hb6,cH _ _ 9 (dB hb)];rfl
 have hst:aH 9 (ptr H1.next 0) b.v (H1.new (.cells [(.int .u32 0),(.int .u32 0),(.int .u64 0),(.int .u64 0),(.int .u64 0),(.int .u64 0),(.int .u64 0),(.int .u64 0),(.int .u64 0)] none))=some (H1.new (.cells b.cells none)):=fL rfl (dB hb) (by simp[aN.cells])
 have g2:=g.newbox b.cells;have hbc:=g2.box (k:=2) (b:=tc) (c:=c.cells) rfl;have c0:c.cells[0]? = some (vi c.arg):=rfl;have hk6:c.arg.toNat<6:=by omega
 have hix:∀ t,oQ 6 1 (ptr t 3) (vi c.arg)=some (ptr t (3+c.arg.toNat*1)):=λt=>zX 6 1 t 3 c.arg.toNat _ (by omega) hk6
 simp only[F.f11_l4,aF,hlt',f1,hce,lo6,aW,hst,hbc,c0,hix,aC];generalize H1.new (.cells b.cells none)=H2 at *;generalize H1.next=t at *;obtain⟨hset,hlt3⟩:=aHR hb hk6 n;have hbt:=g2.box (k:=4) (b:=t) (c:=b.cells) rfl
 have hs:bD (ptr t (3+c.arg.toNat*1)) (u64 n) H2=some (H2.put t (.cells (setArg b c.arg.toNat n).cells none)):=by
  rw[eK,if_pos (show plain1 (u64 n)=true from rfl),hbt];simp only[hlt3,if_true,hset]
 have g3:=g2.put (k:=4) (b:=t) (c:=b.cells) rfl (setArg b c.arg.toNat n).cells;have hok:=setArg_ok hb c.arg.toNat n;generalize setArg b c.arg.toNat n=r at *;have hb3:=g3.box (k:=4) (b:=t) (c:=r.cells) rfl;simp only[hs,aC];generalize H2.put t (.cells r.cells none)=H3 at *;have lo3:aE 9 (ptr t 0) H3=some r.v:=by rw[aJ,hb3,cH _ _ 9 (dB hok)];rfl
 have hbS:bO 1 9 #[(.int .u32 0),(.int .u32 0),(.int .u64 0),(.int .u64 0),(.int .u64 0),(.int .u64 0),(.int .u64 0),(.int .u64 0),(.int .u64 0)] [(0,r.v)]=some (.cells r.cells none,fC 1 1):=cX 9 [u32 0#32,u32 0#32,u64 0#64,u64 0#64,u64 0#64,u64 0#64,u64 0#64,u64 0#64,u64 0#64] r.cells rfl (dB hok);obtain⟨w,H4,a1,p1,g4⟩:=g3.app1 (k:=0) (sz:=9) (v:=ov) (rows:=fD out1) (bytes:=64) rfl r.cells (dB hok) (by simp[aN.cells]) (by decide) (by decide) (by simp only[fD,List.length_map];omega)
 have hr:fD (out1++[r])=fD out1++[r.cells]:=by simp[fD]
 simp only[lo3,hbS,AM.aQ,cL,a1,hinc,aC];refine ih _ _ ⟨w,rfl,?_⟩
 show Has H0 Z H4 [aY 9 w (fD (out1++[r])),bF t6 b.cells,bF tc c.cells,aY 1 nv (vals.map λn=>[u64 n])]
 rw[hr];exact g4.drop 4
end
end
section
set_option maxRecDepth 20000
section
variable {E:Sy}{H H' H0 Z:AH}{Q:Value->AH->Prop}
theorem aIy(x:BitVec 64):un .xor (u64 x)=some (u64 (~~~x)):=by
 have h:(BitVec.ofInt 64 (18446744073709551615:Int) ^^^ BitVec.ofInt 64 (x.toNat:Int)) = ~~~x:=by
  have h1:BitVec.ofInt 64 (18446744073709551615:Int)=BitVec.allOnes 64:=by decide
  have h2:BitVec.ofInt 64 (x.toNat:Int)=x:=by rw[BitVec.ofInt_natCast,BitVec.ofNat_toNat,BitVec.setWidth_eq]
  rw[h1,h2,BitVec.allOnes_xor]
 have h3:un .xor (.int .u64 (x.toNat:Int))=some (.int .u64 (IntKind.u64.wrap ((BitVec.ofInt 64 (18446744073709551615:Int) ^^^ BitVec.ofInt 64 (x.toNat:Int)).toNat:Nat))):=rfl;rw[dP,dP,h3,h]
 have h4:IntKind.u64.wrap ((~~~x).toNat:Int)=((~~~x).toNat:Int):=by
  have:=(~~~x).isLt;simp only[IntKind.wrap,IntKind.bits,IntKind.signed]
  first
   | omega
   | simp;omega
 rw[h4]
def aOZ(t6:Nat)(ov:Value)(out:List aN)(b:aN):List Res:=[aY 9 ov (fD out),bF t6 b.cells]
theorem aBB(b:aN):∀ l:List bA,(l.flatMap (dH b)).length<=5*l.length
 | []=>Nat.le_refl _
 | c :: l=>by
  have h1:=aBB b l;have h2:=vF b c;simp only[List.flatMap_cons,List.length_append,List.length_cons];omega
theorem aMd(hE:aX E){t6:Nat}{ov:Value}{out:List aN}{b:aN}(hb:b.ok){cv:Value}{cs:List bA}(hv:Rows H0 4 cv (gI cs))(hcl:cs.length<=1000)(hol:out.length<2 ^ 28)(g0:Has H0 Z H (aOZ t6 ov out b)){t18 t19:Value}{q:Nat}(hq:q<2 ^ 30){X0:List Value->AH->Prop}(next:∀ ov' H',Has H0 Z H' [aY 9 ov' (fD (out++cs.flatMap (dH b)))]->X0 [ov',t18,t19,vi ((q+1:Nat):Int)] H'):
  lp8 (F.f11_l3 E Q X0) [ov,ptr t6 0,t18,t19,vi q,cv,vi cs.length,vi 0] H:=by
 have i0:vi 0=vi ((0:Nat):Int):=rfl;rw[i0];refine aZ.count cs.length (λk ls H'=>∃ ov,ls=[ov,ptr t6 0,t18,t19,vi q,cv,vi cs.length,vi k]/\Has H0 Z H' (aOZ t6 ov (out++(cs.take k).flatMap (dH b)) b)) ?_ ⟨ov,rfl,by simpa using g0⟩
 rintro k _ H1 X1 hk ih ⟨ov,rfl,g⟩;rcases Nat.lt_or_ge k cs.length with hlt | hge
 rotate_left
 ·have hke:k=cs.length:=by omega
  subst hke;have hlt':decide ((cs.length:Int)<cs.length)=false:=decide_eq_false (by omega)
  have hinc:=bE (i:=q) (by omega)
  rw[List.take_length]at g;simp only[F.f11_l3,aF,hlt',hinc,aC];exact next _ _ (g.drop 1)
 have hlt':decide ((k:Int)<cs.length)=true:=decide_eq_true (by omega)
 obtain⟨bb,o,f1,f2⟩:=qY hv hlt;have lo:=f2 H1 g.ext;have hinc:=bE (i:=k) (by omega)
 have htk:(cs.take (k+1)).flatMap (dH b)=(cs.take k).flatMap (dH b)++dH b cs[k]:=by
  rw[List.take_succ,List.getElem?_eq_getElem hlt,List.flatMap_append];simp
 have hfl:=aBB b (cs.take k);rw[List.length_take]at hfl;have hol2:(out++(cs.take k).flatMap (dH b)).length<2 ^ 29:=by rw[List.length_append];omega
 have ih:=ih hlt;rw[htk,<- List.append_assoc]at ih;generalize cs[k]=c at *;generalize out++(cs.take k).flatMap (dH b)=out1 at *;have hst:=oC c H1;have g2:=g.newbox c.cells;have bx:=AH.get_new_self H1 (.cells c.cells none);have c0:c.cells[0]? = some (vi c.arg):=rfl;have c2:c.cells[2]? = some (u64 c.mask):=rfl;have c3:c.cells[3]? = some (u64 c.value):=rfl;have z0:(.int .i64 0:Value)=vi 0:=rfl;have z5:(.int .i64 5:Value)=vi 5:=rfl;simp only[F.f11_l3,aF,hlt',f1,lo,aW,hst,bx,c0,z0,aC];generalize H1.new (.cells c.cells none)=H2 at *;generalize H1.next=tc at *
 have skip:¬ (0<=c.arg/\c.arg<=5)->X1 [ov,ptr t6 0,t18,t19,vi q,cv,vi cs.length,vi ((k+1:Nat):Int)] H2:=λhn=>by
  have:dH b c=[]:=by unfold dH;rw[if_neg hn]
  rw[this,List.append_nil]at ih;exact ih _ _ ⟨ov,rfl,Has.dropLast (L:=aOZ t6 ov out1 b) g2⟩
 by_cases h0:c.arg<0
 ·have d0:decide (c.arg<0)=true:=decide_eq_true h0
  simp only[d0,hinc,aC];exact skip (by omega)
 have d0:decide (c.arg<0)=false:=decide_eq_false h0;simp only[d0,bx,c0,z5,cI,aC]
 by_cases h5:5<c.arg
 ·have d5:decide (5<c.arg)=true:=decide_eq_true h5
  simp only[d5,hinc,aC];exact skip (by omega)
 have d5:decide (5<c.arg)=false:=decide_eq_false h5;have h0:0<=c.arg:=by omega
 have h5:c.arg<=5:=by omega
 have hce:dH b c=(mP c).map (setArg b c.arg.toNat):=by unfold dH;rw[if_pos ⟨h0,h5⟩]
 rw[hce]at ih;have w1:(.int .u64 1:Value)=u64 1#64:=rfl;have w32:(.int .u64 4294967296:Value)=u64 4294967296#64:=rfl;have hxor:un .xor (u64 c.mask)=some (u64 (~~~c.mask)):=aIy c.mask;have hbS:bO 5 1 #[(.int .u64 0)] [(0,u64 (c.value - 1#64)),(1,u64 (c.value+1#64)),(2,u64 (c.value ^^^ 4294967296#64)),(3,u64 (c.value ||| ~~~c.mask)),(4,(.int .u64 0))]=some (.cells ((mP c).map u64) none,fC 5 5):=iZ 5 1 [u64 0#64] [(0,u64 (c.value - 1#64)),(1,u64 (c.value+1#64)),(2,u64 (c.value ^^^ 4294967296#64)),(3,u64 (c.value ||| ~~~c.mask)),(4,u64 0#64)] [u64 (c.value - 1#64),u64 (c.value+1#64),u64 (c.value ^^^ 4294967296#64),u64 (c.value ||| ~~~c.mask),u64 0#64] rfl rfl rfl rfl (by simp)
 have hls:∀ b n m,lenSlc (slc b 0 n m)=some (vi n):=λ_ _ _=>rfl;have g3:=g2.add (aY 1 (slc H2.next 0 5 5) ((mP c).map λn=>[u64 n])) ((Ext.refl H2).new (.cells ((mP c).map u64) none)) (dJ.made (f:=none) (nF _) (by rw[AH.get_new_self];rfl) (.inl rfl) rfl (by intro r hr;obtain⟨y,_,rfl⟩:=List.mem_map.1 hr;exact⟨rfl,rfl⟩)) (by simp[aY,lM,blk]) (by simp[aY,lM,blk])
 simp only[d5,bx,c2,c3,w1,w32,aHI,aNz,aND,hxor,aKH,hbS,AM.aQ,cL,hls,aC];exact aLB hE hb h0 h5 (vals:=mP c) (by simp[mP]) (by omega) g3 (by omega) λov' H' g'=>ih _ _ ⟨ov',rfl,(g'.drop 3).drop 2⟩
end
end
section
set_option maxRecDepth 20000
section
variable {E:Sy}{H H' H0 Z:AH}{Q:Value->AH->Prop}
def mW(n:BitVec 32):aN:=⟨n,3221225534#32,0#64,[0#64,0#64,0#64,0#64,0#64,0#64]⟩
def aO1(t5 t6:Nat)(rc:List Value)(ov:Value)(out:List aN)(b:aN):List Res:=[aY 9 ov (fD out),bF t5 rc,bF t6 b.cells]
theorem aJE(hE:aX E){x:dI}{cv:Value}(hv:Rows H0 4 cv (gI x.conds))(hcl:x.conds.length<=1000){t5 t6:Nat}{ov:Value}{out:List aN}(hol:out.length<2 ^ 27)(g0:Has H0 Z H (aO1 t5 t6 [u32 x.number,u32 x.action,cv] ov out (mW x.number))){t18 t19:Value}{q:Nat}(hq:q<2 ^ 30){X0:List Value->AH->Prop}(next:∀ ov' H',Has H0 Z H' [aY 9 ov' (fD (out++fW x))]->X0 [ov',t18,t19,vi ((q+1:Nat):Int)] H'):
  lp9 (F.f11_l2 E Q X0) [ov,ptr t5 0,ptr t6 0,t18,t19,vi q,cv,vi x.conds.length,vi 0] H:=by
 have i0:vi 0=vi ((0:Nat):Int):=rfl;rw[i0];refine aZ.count x.conds.length (λk ls H'=>ls=[ov,ptr t5 0,ptr t6 0,t18,t19,vi q,cv,vi x.conds.length,vi k]/\Has H0 Z H' (aO1 t5 t6 [u32 x.number,u32 x.action,cv] ov out ((x.conds.take k).foldl gB (mW x.number)))) ?_ ⟨rfl,g0⟩;rintro k _ H1 X1 hk ih ⟨rfl,g⟩;have hbo:((x.conds.take k).foldl gB (mW x.number)).ok:=zZ _ rfl;rcases Nat.lt_or_ge k x.conds.length with hlt | hge
 rotate_left
 ·have hke:k=x.conds.length:=by omega
  subst hke;have hlt':decide ((x.conds.length:Int)<x.conds.length)=false:=decide_eq_false (by omega)
  rw[List.take_length]at g hbo;have hbe:x.conds.foldl gB (mW x.number)=mI x:=rfl;rw[hbe]at g hbo;have hre:fW x=mI x :: x.conds.flatMap (dH (mI x)):=rfl;rw[hre,show out++mI x :: x.conds.flatMap (dH (mI x))=(out++[mI x])++x.conds.flatMap (dH (mI x)) by simp]at next
  generalize mI x=r at *;have hb6:=g.box (k:=2) (b:=t6) (c:=r.cells) rfl;have lo6:aE 9 (ptr t6 0) H1=some r.v:=by rw[aJ,hb6,cH _ _ 9 (dB hbo)];rfl
  have hbS:bO 1 9 #[(.int .u32 0),(.int .u32 0),(.int .u64 0),(.int .u64 0),(.int .u64 0),(.int .u64 0),(.int .u64 0),(.int .u64 0),(.int .u64 0)] [(0,r.v)]=some (.cells r.cells none,fC 1 1):=cX 9 [u32 0#32,u32 0#32,u64 0#64,u64 0#64,u64 0#64,u64 0#64,u64 0#64,u64 0#64,u64 0#64] r.cells rfl (dB hbo);obtain⟨w,H4,a1,p1,g4⟩:=g.app1 (k:=0) (sz:=9) (v:=ov) (rows:=fD out) (bytes:=64) rfl r.cells (dB hbo) (by simp[aN.cells]) (by decide) (by decide) (by simp only[fD,List.length_map];omega)
  have hr:fD (out++[r])=fD out++[r.cells]:=by simp[fD]
  have g5:Has H0 Z H4 [aY 9 w (fD (out++[r])),bF t5 [u32 x.number,u32 x.action,cv],bF t6 r.cells]:=by rw[hr];exact g4.drop 3
  have hb5:=g5.box (k:=1) (b:=t5) (c:=[u32 x.number,u32 x.action,cv]) rfl;have c2:[u32 x.number,u32 x.action,cv][2]? = some cv:=rfl;have hlv:=(hv.mono g5.ext).lenSlc;rw[dL]at hlv;simp only[F.f11_l2,aF,hlt',lo6,hbS,AM.aQ,cL,a1,hb5,c2,hlv,aC];exact aMd hE hbo hv hcl (by rw[List.length_append];simp;omega) (g5.drop 1) hq next
 have hlt':decide ((k:Int)<x.conds.length)=true:=decide_eq_true (by omega)
 obtain⟨bb,o,f1,f2⟩:=qY hv hlt;have lo:=f2 H1 g.ext;have hinc:=bE (i:=k) (by omega)
 have htk:(x.conds.take (k+1)).foldl gB (mW x.number)=gB ((x.conds.take k).foldl gB (mW x.number)) x.conds[k]:=by
  rw[List.take_succ,List.getElem?_eq_getElem hlt,List.foldl_append]
  rfl
 have ih:=ih hlt;rw[htk]at ih;generalize x.conds[k]=c at *;generalize (x.conds.take k).foldl gB (mW x.number)=r at *;have hst:=oC c H1;have g2:=g.newbox c.cells;have bx:=AH.get_new_self H1 (.cells c.cells none);have c0:c.cells[0]? = some (vi c.arg):=rfl;have c3:c.cells[3]? = some (u64 c.value):=rfl;simp only[F.f11_l2,aF,hlt',f1,lo,aW,hst,bx,c0,dW,aC];generalize H1.new (.cells c.cells none)=H2 at *;generalize H1.next=tc at *
 have skip:¬ (0<=c.arg/\c.arg<=5)->X1 [ov,ptr t5 0,ptr t6 0,t18,t19,vi q,cv,vi x.conds.length,vi ((k+1:Nat):Int)] H2:=λhn=>by
  have:gB r c=r:=by unfold gB;rw[if_neg hn]
  rw[this]at ih;exact ih _ _ ⟨rfl,Has.dropLast (L:=aO1 t5 t6 [u32 x.number,u32 x.action,cv] ov out r) g2⟩
 by_cases h0:0<=c.arg
 rotate_left
 ·have d0:decide (0<=c.arg)=false:=decide_eq_false h0
  simp only[d0,hinc,aC];exact skip (by omega)
 have d0:decide (0<=c.arg)=true:=decide_eq_true h0;simp only[d0,bx,c0,cS,aC]
 by_cases h5:c.arg<=5
 rotate_left
 ·have d5:decide (c.arg<=5)=false:=decide_eq_false h5
  simp only[d5,hinc,aC];exact skip (by omega)
 have d5:decide (c.arg<=5)=true:=decide_eq_true h5;have hbs:gB r c=setArg r c.arg.toNat c.value:=by unfold gB;rw[if_pos ⟨h0,h5⟩]
 rw[hbs]at ih;have hk6:c.arg.toNat<6:=by omega
 have hix:oQ 6 1 (ptr t6 3) (vi c.arg)=some (ptr t6 (3+c.arg.toNat*1)):=zX 6 1 t6 3 c.arg.toNat _ (by omega) hk6
 obtain⟨hset,hlt3⟩:=aHR hbo hk6 c.value;have hbt:=g2.box (k:=2) (b:=t6) (c:=r.cells) rfl
 have hs:bD (ptr t6 (3+c.arg.toNat*1)) (u64 c.value) H2=some (H2.put t6 (.cells (setArg r c.arg.toNat c.value).cells none)):=by
  rw[eK,if_pos (show plain1 (u64 c.value)=true from rfl),hbt];simp only[hlt3,if_true,hset]
 have g3:=g2.put (k:=2) (b:=t6) (c:=r.cells) rfl (setArg r c.arg.toNat c.value).cells;simp only[d5,bx,c0,c3,hix,hs,hinc,aC];exact ih _ _ ⟨rfl,g3.drop 3⟩
theorem aCp:∀ l:List dI,(∀ x∈l,x.conds.length<=1000)->(l.flatMap fW).length<=5001*l.length
 | [],_=>Nat.le_refl _
 | x :: l,h=>by
  have h1:=aCp l λy hy=>h y (List.mem_cons_of_mem _ hy);have h2:=aBB (mI x) x.conds;have h3:=h x List.mem_cons_self;simp only[List.flatMap_cons,List.length_append,List.length_cons,fW];omega
theorem aHy{H H':AH}(e:Ext H H'){b o n:Nat}{l:List Value}(h:(H.get b).row o n=some l):(H'.get b).row o n=some l:=by rw[e.get (AH.lt_of_get (iD h))];exact h
theorem S.f11(hE:aX E)(p:jS)(cs:List Value)(hp:sB H p cs)(hrl:p.rules.length<=1000)(hc:∀ r∈p.rules,r.conds.length<=1000)(hQ:∀ w H',Ext H H'->dJ zH H' 9 w (fD (nG p))->rI H.next w->Q w H'):E.call 17 [.agg cs.toArray] H Q:=by
 obtain⟨hl63,c0,v,c3,c4,c5,rfl,hv⟩:=id hp;apply hE.f11;have hbv1:aK [(0,1),(1,1),(2,1),(3,6)] #[(.int .u32 0),(.int .u32 0),(.int .u64 0),(.int .u64 0),(.int .u64 0),(.int .u64 0),(.int .u64 0),(.int .u64 0),(.int .u64 0)] [(1,(.int .u32 3221225534))]=some (mW 0#32).v:=rfl;have hbv2:aK [(0,1),(1,1),(2,1),(3,6)] #[(.int .u32 0),(.int .u32 0),(.int .u64 0),(.int .u64 0),(.int .u64 0),(.int .u64 0),(.int .u64 0),(.int .u64 0),(.int .u64 0)] [(1,(.int .u32 3221225535))]=some (aN.v ⟨0#32,3221225535#32,0#64,[0#64,0#64,0#64,0#64,0#64,0#64]⟩):=rfl;have hbS:=iZ 2 9 [u32 0#32,u32 0#32,u64 0#64,u64 0#64,u64 0#64,u64 0#64,u64 0#64,u64 0#64,u64 0#64] [(0,(mW 0#32).v),(1,aN.v ⟨0#32,3221225535#32,0#64,[0#64,0#64,0#64,0#64,0#64,0#64]⟩)] [(mW 0#32).v,aN.v ⟨0#32,3221225535#32,0#64,[0#64,0#64,0#64,0#64,0#64,0#64]⟩] rfl rfl rfl rfl (by simp[aN.v,aN.cells,mW])
 have hbS:bO 2 9 #[(.int .u32 0),(.int .u32 0),(.int .u64 0),(.int .u64 0),(.int .u64 0),(.int .u64 0),(.int .u64 0),(.int .u64 0),(.int .u64 0)] [(0,(mW 0#32).v),(1,aN.v ⟨0#32,3221225535#32,0#64,[0#64,0#64,0#64,0#64,0#64,0#64]⟩)]=some (.cells ((mW 0#32).cells++aN.cells ⟨0#32,3221225535#32,0#64,[0#64,0#64,0#64,0#64,0#64,0#64]⟩) none,fC 2 2):=hbS;have b1:=AH.get_new_self H (.cells [c0,u32 p.default,v,c3,c4,c5] none);have x1:Ext H (H.new (.cells [c0,u32 p.default,v,c3,c4,c5] none)):=(Ext.refl _).new _;have q2:[c0,u32 p.default,v,c3,c4,c5][2]? = some v:=rfl;have hn1:H.next<=(H.new (.cells [c0,u32 p.default,v,c3,c4,c5] none)).next:=x1.1;simp only[F.f11,aV,AM.aQ,aR,List.toList_toArray,hbv1,hbv2,hbS,cL,aC];generalize H.new (.cells [c0,u32 p.default,v,c3,c4,c5] none)=H1 at *;generalize H.next=t1 at *;have g1:=(Has.begin (Ext.refl H1) (Sub.refl H1)).add (aY 9 (slc H1.next 0 2 2) (fD [mW 0#32,⟨0#32,3221225535#32,0#64,[0#64,0#64,0#64,0#64,0#64,0#64]⟩])) ((Ext.refl H1).new (.cells ((mW 0#32).cells++aN.cells ⟨0#32,3221225535#32,0#64,[0#64,0#64,0#64,0#64,0#64,0#64]⟩) none)) (dJ.made (f:=none) (nF _) (by rw[AH.get_new_self];rfl) (.inl rfl) rfl (by intro r hr;simp[fD]at hr;rcases hr with rfl | rfl<;>exact⟨rfl,rfl⟩)) (by simp[aY,lM,blk]) (by simp[aY,lM,blk])
 generalize hH2:H1.new (.cells ((mW 0#32).cells++aN.cells ⟨0#32,3221225535#32,0#64,[0#64,0#64,0#64,0#64,0#64,0#64]⟩) none)=H2 at *;have b2:=g1.ext.cells b1;have hv1:=hv.sub (λ_ _ _ _ h e=>dM.sub h e) x1.sub;have hlv:=cO.lenSlc (hv1.sub (λ_ _ _ _ h e=>dM.sub h e) g1.ext.sub);have i0:vi 0=vi ((0:Nat):Int):=rfl;simp only[b2,q2,hlv,cL,i0,aC];refine aZ.count p.rules.length (λk ls H'=>∃ ov,ls=[ov,v,vi p.rules.length,vi k]/\Has H1 H1 H' [aY 9 ov (fD ([mW 0#32,⟨0#32,3221225535#32,0#64,[0#64,0#64,0#64,0#64,0#64,0#64]⟩]++(p.rules.take k).flatMap fW))]) ?_ ⟨_,rfl,by simpa using g1⟩
 rintro k _ H3 X1 hk ih ⟨ov,rfl,g⟩;rcases Nat.lt_or_ge k p.rules.length with hlt | hge
 rotate_left
 ·have hke:k=p.rules.length:=by omega
  subst hke;have hlt':decide ((p.rules.length:Int)<p.rules.length)=false:=decide_eq_false (by omega)
  rw[List.take_length]at g;simp only[F.f11_l1,aF,hlt',aC];have hr:=g.all (aY 9 ov (fD (nG p))) (by simp[nG,mW])
  exact hQ ov H3 (x1.trans g.ext) hr.1 λb hb=>Nat.le_trans hn1 (hr.2 b (gW.2 hb)).1
 have hlt':decide ((k:Int)<p.rules.length)=true:=decide_eq_true (by omega)
 obtain⟨b,o,rc,f1,f2,f3⟩:=(hv1.sub (λ_ _ _ _ h e=>dM.sub h e) g.ext.sub).ix hlt;obtain⟨hxl,cv,rfl,_⟩:=id f3;have lo:aE 3 (ptr b o) H3=some (.agg [u32 p.rules[k].number,u32 p.rules[k].action,cv].toArray):=by rw[aJ,f2];rfl
 have htk:(p.rules.take (k+1)).flatMap fW=(p.rules.take k).flatMap fW++fW p.rules[k]:=by
  rw[List.take_succ,List.getElem?_eq_getElem hlt,List.flatMap_append];simp
 have hcx:=hc p.rules[k] (List.getElem_mem hlt);have hrf:=aCp (p.rules.take k) λy hy=>hc y (List.mem_of_mem_take hy);rw[List.length_take]at hrf;have hol:([mW 0#32,⟨0#32,3221225535#32,0#64,[0#64,0#64,0#64,0#64,0#64,0#64]⟩]++(p.rules.take k).flatMap fW).length<2 ^ 27:=by rw[List.length_append];show 2+_<_;omega
 have ih:=ih hlt;rw[htk,<- List.append_assoc]at ih;have hinc:=bE (i:=k) (by omega)
 have hv2:Rows H1 4 cv (gI p.rules[k].conds):=by
  obtain⟨b',o',rc',e1,e2,e3⟩:=hv1.ix hlt;obtain⟨_,cv',rfl,e4⟩:=e3;rw[f1]at e1;have hb:=Option.some.inj e1;simp only[ptr,Value.pointer.injEq,Option.some.injEq,Addr.mk.injEq]at hb;obtain⟨rfl,rfl,_⟩:=hb;have:=aHy g.ext e2;rw[this]at f2;have h3:=Option.some.inj f2;simp only[List.cons.injEq]at h3;obtain⟨_,_,rfl,_⟩:=h3;exact e4
 generalize p.rules[k]=x at *;generalize [mW 0#32,⟨0#32,3221225535#32,0#64,[0#64,0#64,0#64,0#64,0#64,0#64]⟩]++(p.rules.take k).flatMap fW=out at *;have hcp:plain1 cv=true:=hv2.plain;have st3:aH 3 (ptr H3.next 0) (.agg [u32 x.number,u32 x.action,cv].toArray) (H3.new (.cells [(.int .u32 0),(.int .u32 0),(.slice none 0 0)] none))=some (H3.new (.cells [u32 x.number,u32 x.action,cv] none)):=fL (n:=3) rfl rfl (by simp[hcp])
 have g2:=g.newbox [u32 x.number,u32 x.action,cv];have bx:=AH.get_new_self H3 (.cells [u32 x.number,u32 x.action,cv] none);have c0':[u32 x.number,u32 x.action,cv][0]? = some (u32 x.number):=rfl;have c2':[u32 x.number,u32 x.action,cv][2]? = some cv:=rfl;have hbv:aK [(0,1),(1,1),(2,1),(3,6)] #[(.int .u32 0),(.int .u32 0),(.int .u64 0),(.int .u64 0),(.int .u64 0),(.int .u64 0),(.int .u64 0),(.int .u64 0),(.int .u64 0)] [(1,(.int .u32 3221225534)),(0,u32 x.number)]=some (mW x.number).v:=by rw[gX];rfl
 simp only[F.f11_l1,aF,hlt',f1,lo,aW,st3,bx,c0',hbv,aC];rw[show H3.next+1=(H3.new (.cells [u32 x.number,u32 x.action,cv] none)).next from rfl];generalize H3.new (.cells [u32 x.number,u32 x.action,cv] none)=H4 at *;generalize H3.next=t5 at *;have st9:aH 9 (ptr H4.next 0) (mW x.number).v (H4.new (.cells [(.int .u32 0),(.int .u32 0),(.int .u64 0),(.int .u64 0),(.int .u64 0),(.int .u64 0),(.int .u64 0),(.int .u64 0),(.int .u64 0)] none))=some (H4.new (.cells (mW x.number).cells none)):=fL rfl rfl (by simp[aN.cells,mW])
 have g3:=g2.newbox (mW x.number).cells;have bx3:=g3.box (k:=1) (b:=t5) (c:=[u32 x.number,u32 x.action,cv]) rfl;have hlc:=(hv2.mono g3.ext).lenSlc;rw[dL]at hlc;simp only[st9,bx3,c2',hlc,aC];exact aJE hE hv2 hcx hol g3 (by omega) λov' H' g'=>ih _ _ ⟨ov',rfl,g'⟩
end
end
section
set_option maxRecDepth 20000
section
variable {E:Sy}{H H' H0 Z:AH}{Q:Value->AH->Prop}
theorem aHT{v:Value}{L:List aN}(hv:Rows H0 9 v (fD L)){k:Nat}(hk:k<L.length):∃ b o,aI 9 v (vi k)=some (ptr b o)/\∀ H,Ext H0 H->aE 9 (ptr b o) H=some (L[k]).v:=by
 obtain⟨b,o,f1,f2⟩:=hv.ix (i:=k) (by simpa[fD] using hk)
 refine⟨b,o,f1,λH e =>?_⟩;have hr:(fD L)[k]'(by simpa[fD] using hk)=(L[k]).cells:=by simp[fD]
 rw[hr]at f2;rw[aJ,aHy e f2];rfl
theorem zI{b:aN}(hb:b.ok)(H:AH):aH 9 (ptr H.next 0) b.v (H.new (.cells [(.int .u32 0),(.int .u32 0),(.int .u64 0),(.int .u64 0),(.int .u64 0),(.int .u64 0),(.int .u64 0),(.int .u64 0),(.int .u64 0)] none))=some (H.new (.cells b.cells none)):=fL rfl (dB hb) (by simp[aN.cells])
theorem Fil.mem{fb:Nat}{c:List bM}{X:List Res}{r:Res}(h:Fil H0 Z H fb c X)(hm:r∈X):r.P H:=by
 obtain⟨lv,n1,n2,h⟩:=h;exact(h.all r (by simp[hm])).1
theorem Fil.putbox{fb:Nat}{c:List bM}{X:List Res}(h:Fil H0 Z H fb c X){k t:Nat}{cs:List Value}(hk:X[k]? = some (bF t cs))(cs':List Value):Fil H0 Z (H.put t (.cells cs' none)) fb c (X.set k (bF t cs')):=by
 obtain⟨lv,n1,n2,h⟩:=h;exact⟨lv,n1,n2,h.put (k:=k+2) (b:=t) (c:=cs) hk cs'⟩
end
end
section
set_option maxRecDepth 20000
def AH.mix(Z:AH)(n:Nat)(H:AH):AH:=⟨H.next,λb=>if b<n then Z.get b else H.get b⟩
theorem AH.get_mix{Z H':AH}{n:Nat}(hn:n<=H'.next)(b:Nat):(Z.mix n H').get b=if b<n then Z.get b else H'.get b:=by
 unfold AH.mix;simp only[AH.get]
 by_cases hb:b<H'.next
 ·rw[if_pos hb]
 ·have h1:¬ b<n:=by omega
  simp[h1,hb]
theorem Has.beside{H0 Z H H':AH}{L:List Res}(h:Has H0 Z H L)(e:Ext H H'){Z':AH}(s:Sub Z' H')(d:∀ b,b<H.next->Z'.get b = .dead):∃ Z3,Sub Z Z3/\Sub Z' Z3/\Has H0 Z3 H' L:=by
 have hg:=λb=>AH.get_mix (Z:=Z) e.1 b
 have sz:Sub Z (Z.mix H.next H'):=⟨Nat.le_trans h.sub.1 e.1,λb hb=>by
  rw[hg]
  split
  ·rfl
  ·exact(hb (AH.get_ge _ (Nat.le_trans h.sub.1 (by omega)))).elim⟩
 refine⟨Z.mix H.next H',sz,⟨s.1,λb hb =>?_⟩,h.refreeze e ⟨sz,λb hb=>by rw[hg,if_pos hb]⟩ ⟨Nat.le_refl _,λb hb =>?_⟩⟩
 ·rw[hg,if_neg (λhlt=>hb (d b hlt))]
  exact s.2 b hb
 ·rw[hg]at hb ⊢
  split
  ·rename_i hlt
   rw[if_pos hlt]at hb;rw[e.get hlt];exact h.sub.2 b hb
  ·rfl
theorem Has.less{H0 Z Z3 H:AH}{L:List Res}(h:Has H0 Z3 H L)(s:Sub Z Z3):Has H0 Z H L :=
 ⟨h.ext,s.trans h.sub,λr hr=>⟨(h.all r hr).1,λb hb=>by
  obtain⟨h1,h2,h3⟩:=(h.all r hr).2 b hb;refine⟨h1,h2,Classical.byContradiction λk =>?_⟩;exact k (by rw[<- s.2 b k];exact h3)⟩,h.nd⟩
section
variable {E:Sy}{H H' H0 Z:AH}{Q:Value->AH->Prop}{X:List Res}
theorem aKr{L:List Res}{k:Nat}{r:Res}(h:L[k]? = some r):L.set k r=L:=by
 obtain⟨hlt,e⟩:=List.getElem?_eq_some_iff.1 h;subst e;exact List.set_getElem_self hlt
def mJ:aN:=⟨0#32,0#32,0#64,[0#64,0#64,0#64,0#64,0#64,0#64]⟩
theorem S.f10(hE:aX E)(hSC:kI E 80)(hSR:jP E 80)(p:jS){cs:List Value}(hp:sB H p cs)(h6:cs.length=6)(hpl:p.rules.length<=80)(hc:∀ r∈p.rules,r.conds.length<2 ^ 20){fb:Nat}{c:List bM}(hok:iQ c)(hlen:c.length<=4096){lv:Value}{l:List aN}(hro:∀ r∈l,r.ok)(hll:l.length<2 ^ 40)(h:Fil H0 Z H fb c (aY 9 lv (fD l) :: X))(hrun:∀ ns,pE p ns->∀ r∈l,hO r c.length c 0#32=iS (eA p ns) r)(hb:∀ ns,pE p ns->(eA p ns).cases.length<2 ^ 60/\∀ c∈(eA p ns).cases,c.branches.length<2 ^ 30)(hQ:∀ H',Fil H0 Z H' fb c (aY 9 lv (fD l) :: X)->Q (.tuple #[mJ.v,vb false]) H'):E.call 19 [.agg cs.toArray,ptr fb 0,lv] H Q:=by
 apply hE.f10;have k0:mJ.ok:=rfl;have x1:Ext H (H.new (.cells cs none)):=(Ext.refl _).new _;have b1:=AH.get_new_self H (.cells cs none);simp only[F.f10,aV,AM.aQ,aR,List.toList_toArray,aC];have h1:=h.grow x1;have hp1:=hp.mono x1;generalize H.new (.cells cs none)=H1 at *;generalize H.next=t1 at *;have x2:Ext H1 (H1.new (.cells mJ.cells none)):=(Ext.refl _).new _;have h2:=h1.newbox mJ.cells;have hp2:=hp1.mono x2;have lo1:aE 6 (ptr t1 0) (H1.new (.cells mJ.cells none))=some (.agg cs.toArray):=by rw[aJ,x2.cells b1,cH _ _ 6 h6];rfl
 have hz:([(.int .u32 0),(.int .u32 0),(.int .u64 0),(.int .u64 0),(.int .u64 0),(.int .u64 0),(.int .u64 0),(.int .u64 0),(.int .u64 0)]:List Value)=mJ.cells:=rfl;simp only[aW,hz,lo1,aC];generalize H1.new (.cells mJ.cells none)=H2 at *;generalize H1.next=t6 at *;refine S.ir_OfZ hE (sm:=80) (Nat.le_refl _) hSC hSR p _ hp2 hpl hc λns pl H3 Z' e3 s3 d3 hns hpl =>?_;have hrun:=hrun ns hns;obtain⟨hb1,hb2⟩:=hb ns hns;have hup:=xI hns;generalize eA p ns=P at *;obtain⟨lv1,n1,n2,g2⟩:=h2;obtain⟨Z3,z1,z2,g3⟩:=g2.beside e3 s3 d3;have hpz:oY Z3 P pl:=hpl.subZ z2
 have hl2:pl.length=2/\pl.all plain1=true:=by
  obtain⟨v,rfl,hv⟩:=hpl;have hpv:plain1 v=true:=by obtain⟨rows,h1,_⟩:=hv;exact h1.plain
  exact⟨rfl,by simp[hpv]⟩
 have h3:Fil H0 Z3 H3 fb c (aY 9 lv (fD l) :: X++[bF t6 mJ.cells]):=⟨lv1,n1,n2,g3⟩;have st3:aH 2 (ptr H3.next 0) (.agg pl.toArray) (H3.new (.cells [(.slice none 0 0),(.int .u32 0)] none))=some (H3.new (.cells pl none)):=fL (n:=2) rfl hl2.1 hl2.2;have h4:=h3.newbox pl;simp only[aW,st3,aC];generalize H3.new (.cells pl none)=H4 at *;generalize H3.next=t8 at *;have hlr:(fD l).length=l.length:=by simp[fD]
 have hgr:dJ zH H4 9 lv (fD l):=h4.mem (r:=aY 9 lv (fD l)) (by simp)
 have hll2:=hgr.toRows.lenSlc;rw[hlr]at hll2;have i0:vi 0=vi ((0:Nat):Int):=rfl;simp only[hll2,i0,aC];refine aZ.count l.length (λk ls H'=>ls=[ptr fb 0,ptr t6 0,ptr t8 0,lv,vi l.length,vi k]/\Fil H0 Z3 H' fb c (aY 9 lv (fD l) :: X++[bF t6 mJ.cells]++[bF t8 pl])) ?_ ⟨rfl,h4⟩;rintro k _ H5 X5 hk ih ⟨rfl,g⟩;rcases Nat.lt_or_ge k l.length with hlt | hge
 rotate_left
 ·have hlt':decide ((k:Int)<l.length)=false:=decide_eq_false (by omega)
  have hb6:H5.get t6 = .cells mJ.cells none:=g.mem (r:=bF t6 _) (by simp)
  have hbv0:aK [(0,1),(1,1),(2,1),(3,6)] #[(.int .u32 0),(.int .u32 0),(.int .u64 0),(.int .u64 0),(.int .u64 0),(.int .u64 0),(.int .u64 0),(.int .u64 0),(.int .u64 0)] []=some mJ.v:=rfl
  have hix:(aY 9 lv (fD l) :: X++[bF t6 mJ.cells]++[bF t8 pl])[X.length+1]? = some (bF t6 mJ.cells):=by
   rw[List.append_assoc,List.cons_append,List.getElem?_cons_succ,List.getElem?_append_right (Nat.le_refl _),Nat.sub_self];rfl
  have g2:=g.putbox hix mJ.cells;rw[aKr hix]at g2
  have st6:aH 9 (ptr t6 0) mJ.v H5=some (H5.put t6 (.cells mJ.cells none)):=by
   unfold aN.v;rw[cM,hb6];simp[aT,aN.cells,mJ]
  have hb6':(H5.put t6 (.cells mJ.cells none)).get t6 = .cells mJ.cells none:=g2.mem (r:=bF t6 _) (by simp)
  have lo6:aE 9 (ptr t6 0) (H5.put t6 (.cells mJ.cells none))=some mJ.v:=by rw[aJ,hb6'];rfl
  simp only[F.f10_l1,aF,hlt',hbv0,st6,lo6,aC];obtain⟨lv2,m1,m2,g3⟩:=g2.dropLast.dropLast;exact hQ _ ⟨lv2,m1,m2,g3.less z1⟩
 have hlt':decide ((k:Int)<l.length)=true:=decide_eq_true (by omega)
 have hgr5:dJ zH H5 9 lv (fD l):=g.mem (r:=aY 9 lv (fD l)) (by simp)
 obtain⟨b,o,f1,f2⟩:=aHT hgr5.toRows hlt;have lo:=f2 _ (Ext.refl _);have hr:=hro l[k] (List.getElem_mem hlt);have hrun:=hrun l[k] (List.getElem_mem hlt);have ih:=ih hlt;generalize l[k]=r at *;have hst:=zI hr H5;have hlo2:aE 9 (ptr H5.next 0) (H5.new (.cells r.cells none))=some r.v:=lY (dB hr);have g1:=g.newbox r.cells;have hinc:=bE (i:=k) (by omega)
 simp only[F.f10_l1,aF,hlt',f1,lo,aW,hst,hlo2,aC];generalize H5.new (.cells r.cells none)=H6 at *;generalize H5.next=t at *;refine S.f144 hE hr hok hlen g1 λn H7 hn g2 =>?_;have hbt:H7.get t = .cells r.cells none:=g2.mem (r:=bF t r.cells) (by simp)
 have hb8:H7.get t8 = .cells pl none:=g2.mem (r:=bF t8 pl) (by simp)
 have lo8:aE 2 (ptr t8 0) H7=some (.agg pl.toArray):=by rw[aJ,hb8,cH _ _ 2 hl2.1];rfl
 have lot:aE 9 (ptr t 0) H7=some r.v:=by rw[aJ,hbt,cH _ _ 9 (dB hr)];rfl
 have hp7:oY H7 P pl:=by
  obtain⟨_,_,_,gg⟩:=g2;exact hpz.subZ gg.sub
 simp only[lo8,lot,aC];refine S.f33 hE P pl hp7 hup hb1 hb2 r hr λH8 e8 =>?_;have g3:=g2.grow e8;have hd:decide (hO r c.length c 0#32≠iS P r)=false:=decide_eq_false (λk=>k hrun);simp only[yK,hd,hinc,aC];exact ih _ _ ⟨rfl,g3.dropLast⟩
end
end
section
open Go.Sort (swp SWO PermIn SortedIn)
set_option maxRecDepth 20000
section
variable {α:Type}[Inhabited α](rk:α->Nat)
def Rot(d:Array α)(a m e t:Nat):α:=if t<a then d[t]! else if t<a+(e - m) then d[t+(m - a)]! else if t<e then d[t - (e - m)]! else d[t]!
def fF(d:Array α)(a e:Nat):Prop:=∀ p q,a<=p->p<=q->q<e->rk d[p]! <= rk d[q]!
theorem fF.small(d:Array α){a e:Nat}(h:e<=a+1):fF rk d a e:=λp q h1 h2 h3=>by
 have:p=q:=by omega
 subst this;exact Nat.le_refl _
theorem fF.of{d:Array α}{a e:Nat}(h:SortedIn (ltK rk) a e d):fF rk d a e:=λp q q1 q2 q3=>by
 rcases Nat.lt_or_ge p q with hlt | hge
 ·have:=h p q q1 hlt q3
  simp only[ltK,decide_eq_false_iff_not]at this;omega
 ·have:p=q:=by omega
  subst this;exact Nat.le_refl _
theorem fF.congr{d d':Array α}{a e:Nat}(h:fF rk d a e)(hd:∀ t,a<=t->t<e->d'[t]! = d[t]!):fF rk d' a e:=λp q q1 q2 q3=>by
 rw[hd p q1 (by omega),hd q (by omega) q3]
 exact h p q q1 q2 q3
structure Mrg(a e:Nat)(d d':Array α):Prop where
 size:d'.size=d.size
 out:∀ t,(t<a\/e<=t)->d'[t]! = d[t]!
 inn:∀ t,a<=t->t<e->∃ s,a<=s/\s<e/\d'[t]! = d[s]!
 same:dE rk d.toList d'.toList
theorem Mrg.refl(a e:Nat)(d:Array α):Mrg rk a e d d:=⟨rfl,λ_ _=>rfl,λt h1 h2=>⟨t,h1,h2,rfl⟩,dE.refl rk _⟩
theorem Mrg.trans{a e:Nat}{d d' d'':Array α}(h:Mrg rk a e d d')(h':Mrg rk a e d' d''):Mrg rk a e d d'' :=
 ⟨h'.size.trans h.size,λt ht=>(h'.out t ht).trans (h.out t ht),λt h1 h2=>by
  obtain⟨s,s1,s2,s3⟩:=h'.inn t h1 h2;obtain⟨r,r1,r2,r3⟩:=h.inn s s1 s2;exact⟨r,r1,r2,s3.trans r3⟩,dE.trans rk h.same h'.same⟩
theorem Mrg.mono{a e a' e':Nat}{d d':Array α}(h:Mrg rk a e d d')(h1:a'<=a)(h2:e<=e'):Mrg rk a' e' d d' :=
 ⟨h.size,λt ht=>h.out t (by omega),λt q1 q2=>by
  by_cases hin:a<=t/\t<e
  ·obtain⟨s,s1,s2,s3⟩:=h.inn t hin.1 hin.2
   exact⟨s,by omega,by omega,s3⟩
  ·exact⟨t,q1,q2,h.out t (by omega)⟩,h.same⟩
theorem dE.swapL{u v:List α}(h:∀ x∈u,∀ y∈v,rk x≠rk y):dE rk (u++v) (v++u):=λk=>by
 rw[List.filter_append,List.filter_append]
 by_cases hu:u.filter (λx=>decide (rk x=k))=[]
 ·rw[hu];simp
 ·have hv:v.filter (λx=>decide (rk x=k))=[]:=by
   rw[List.filter_eq_nil_iff];intro y hy;simp only[decide_eq_true_eq];intro e;obtain⟨x,hx⟩:=List.exists_mem_of_ne_nil _ hu;have hx:=List.mem_filter.1 hx;simp only[decide_eq_true_eq]at hx;exact h x hx.1 y hy (hx.2.trans e.symm)
  rw[hv];simp
theorem aK7{d d':Array α}{a m e:Nat}(ham:a<=m)(hme:m<=e)(he:e<=d.size)(hs:d'.size=d.size)(hd:∀ t,d'[t]! = Rot d a m e t)(hr:∀ p q,a<=p->p<m->m<=q->q<e->rk d[p]! ≠ rk d[q]!):dE rk d.toList d'.toList:=by
 have hL:d.toList=d.toList.take a++(((d.toList.drop a).take (m - a)++(d.toList.drop m).take (e - m))++d.toList.drop e):=by
  have e1:d.toList.drop m=(d.toList.drop m).take (e - m)++d.toList.drop e:=by
   conv=>lhs;rw[<- List.take_append_drop (e - m) (d.toList.drop m)]
   rw[List.drop_drop,show m+(e - m)=e by omega]
  have e2:d.toList.drop a=(d.toList.drop a).take (m - a)++d.toList.drop m:=by
   conv=>lhs;rw[<- List.take_append_drop (m - a) (d.toList.drop a)]
   rw[List.drop_drop,show a+(m - a)=m by omega]
  rw[List.append_assoc,<- e1,<- e2,List.take_append_drop]
 have hlen:d.toList.length=d.size:=Array.length_toList
 have hL':d'.toList=d.toList.take a++(((d.toList.drop m).take (e - m)++(d.toList.drop a).take (m - a))++d.toList.drop e):=by
  apply List.ext_getElem?;intro t;rcases Nat.lt_or_ge t d.size with hlt | hge
  ·have h1:d'.toList[t]? = some (Rot d a m e t):=by
    rw[<- hd t,getElem!_pos d' t (by omega)]
    simp[show t<d'.size by omega]
   have hget:∀ s,s<d.size->d.toList[s]? = some d[s]! :=λs hs=>by
    rw[getElem!_pos d s hs];simp[hs]
   rw[h1];unfold Rot;have l1:(d.toList.take a).length=a:=by rw[List.length_take];omega
   have l2:((d.toList.drop m).take (e - m)).length=e - m:=by rw[List.length_take,List.length_drop];omega
   have l3:((d.toList.drop a).take (m - a)).length=m - a:=by rw[List.length_take,List.length_drop];omega
   split
   ·rename_i c
    rw[List.getElem?_append_left (by omega),List.getElem?_take_of_lt c,hget t hlt]
   ·rw[List.getElem?_append_right (by omega),l1]
    split
    ·rw[List.getElem?_append_left (by rw[List.length_append];omega),List.getElem?_append_left (by omega),List.getElem?_take_of_lt (by omega),List.getElem?_drop,hget _ (by omega)]
     congr 2;omega
    ·split
     ·rw[List.getElem?_append_left (by rw[List.length_append];omega),List.getElem?_append_right (by omega),l2,List.getElem?_take_of_lt (by omega),List.getElem?_drop,hget _ (by omega)]
      congr 2;omega
     ·rw[List.getElem?_append_right (by rw[List.length_append];omega),List.length_append,l2,l3,List.getElem?_drop,hget _ (by omega)]
      congr 2;omega
  ·rw[List.getElem?_eq_none (by rw[Array.length_toList];omega),List.getElem?_eq_none]
   simp only[List.length_append,List.length_take,List.length_drop,hlen];omega
 rw[hL',hL];rw[<- hL]
 have hmem:∀ (x:α) (s n:Nat),x∈(d.toList.drop s).take n->∃ p,s<=p/\p<s+n/\x=d[p]! :=λx s n hx=>by
  obtain⟨k,hk,rfl⟩:=List.getElem_of_mem hx;rw[List.length_take,List.length_drop]at hk;refine⟨s+k,by omega,by omega,?_⟩
  rw[getElem!_pos d (s+k) (by omega)]
  simp
 conv=>lhs;rw[hL]
 refine(dE.refl rk _).app rk ((dE.swapL rk λx hx y hy =>?_).app rk (dE.refl rk _));obtain⟨p,p1,p2,rfl⟩:=hmem _ _ _ hx;obtain⟨q,q1,q2,rfl⟩:=hmem _ _ _ hy;exact hr p q p1 (by omega) q1 (by omega)
theorem aMV{d d':Array α}{a m e:Nat}(ham:a<=m)(hme:m<=e)(he:e<=d.size)(hs:d'.size=d.size)(hd:∀ t,d'[t]! = Rot d a m e t)(hr:∀ p q,a<=p->p<m->m<=q->q<e->rk d[p]! ≠ rk d[q]!):Mrg rk a e d d':=by
 refine⟨hs,λt ht =>?_,λt h1 h2 =>?_,aK7 rk ham hme he hs hd hr⟩
 ·rw[hd];unfold Rot
  split
  ·rfl
  ·rw[if_neg (by omega),if_neg (by omega)]
 ·rw[hd];unfold Rot
  rw[if_neg (by omega)]
  split
  ·exact⟨_,by omega,by omega,rfl⟩
  ·first | (rw[if_pos h2];exact⟨_,by omega,by omega,rfl⟩) | exact⟨_,by omega,by omega,rfl⟩
def Swr(d:Array α)(a m n t:Nat):α:=if a<=t/\t<a+n then d[t+(m - a)]! else if m<=t/\t<m+n then d[t - (m - a)]! else d[t]!
theorem aLw(d:Array α)(a m t:Nat):d[t]! = Swr d a m 0 t:=by
 unfold Swr;rw[if_neg (by omega),if_neg (by omega)]
theorem aKZ{d d1:Array α}{a m k:Nat}(h:a+k<m)(hk:m+k<d.size)(hs:d1.size=d.size)(hd:∀ t,d1[t]! = Swr d a m k t)(t:Nat):(swp d1 (a+k) (m+k))[t]! = Swr d a m (k+1) t:=by
 rw[Go.Sort.swp_get d1 (by omega) (by omega) t,hd,hd,hd]
 unfold Swr
 repeat' split
 all_goals first | rfl | (exfalso;omega) | (congr 1;omega)
theorem aJR{d d1:Array α}{m p q:Nat}(hp:p<=m)(hq:q<p)(hd:∀ t,d1[t]! = Swr d (m - p) m q t)(t:Nat):Rot d1 (m - (p - q)) m (m+q) t=Rot d (m - p) m (m+q) t:=by
 unfold Rot;simp only[hd];unfold Swr
 repeat' split
 all_goals first | rfl | (exfalso;omega) | (congr 1;omega)
theorem aH4{d d1:Array α}{m p q:Nat}(hp:p<=m)(hq:p<q)(hd:∀ t,d1[t]! = Swr d (m - p) (m+q - p) p t)(t:Nat):Rot d1 (m - p) m (m+(q - p)) t=Rot d (m - p) m (m+q) t:=by
 unfold Rot;simp only[hd];unfold Swr
 repeat' split
 all_goals first | rfl | (exfalso;omega) | (congr 1;omega)
theorem aLF{d:Array α}{m p:Nat}(hp:p<=m)(t:Nat):Swr d (m - p) m p t=Rot d (m - p) m (m+p) t:=by
 unfold Rot Swr
 repeat' split
 all_goals first | rfl | (exfalso;omega) | (congr 1;omega)
theorem aBu(d:Array α)(m e t:Nat)(h:m<=e):d[t]! = Rot d m m e t:=by
 unfold Rot
 repeat' split
 all_goals first | rfl | (exfalso;omega) | (congr 1;omega)
theorem aB0(d:Array α)(a m t:Nat):d[t]! = Rot d a m m t:=by
 unfold Rot
 repeat' split
 all_goals first | rfl | (exfalso;omega) | (congr 1;omega)
theorem aOW{d d1:Array α}{a k:Nat}(hk:a<=k)(hks:k+1<d.size)(hs:d1.size=d.size)(hd:∀ t,d1[t]! = Rot d a (a+1) (k+1) t)(t:Nat):(swp d1 k (k+1))[t]! = Rot d a (a+1) (k+1+1) t:=by
 rw[Go.Sort.swp_get d1 (by omega) (by omega) t,hd,hd,hd]
 unfold Rot
 repeat' split
 all_goals first | rfl | (exfalso;omega) | (congr 1;omega)
theorem aLQ{d d1:Array α}{m k:Nat}(hk:k<m)(hms:m<d.size)(hs:d1.size=d.size)(hd:∀ t,d1[t]! = Rot d (k+1) m (m+1) t)(t:Nat):(swp d1 (k+1) k)[t]! = Rot d k m (m+1) t:=by
 rw[Go.Sort.swp_get d1 (by omega) (by omega) t,hd,hd,hd]
 unfold Rot
 repeat' split
 all_goals first | rfl | (exfalso;omega) | (congr 1;omega)
theorem aK0{d d1 d2 d3:Array α}{a m e s f mid:Nat}(hs:a<=s)(hsm:s<=m)(hmf:m<=f)(hf:f<=e)(he:e<=d.size)(hmid:s+(f - m)=mid)(u:fF rk d a m)(v:fF rk d m e)(x1:m<f->s<m->rk d[f - 1]! < rk d[s]!)(x2:a<s->f<e->rk d[s - 1]! <= rk d[f]!)(hz:d1.size=d.size)(hd:∀ t,d1[t]! = Rot d s m f t)(r1:Mrg rk a mid d1 d2)(o1:fF rk d2 a mid)(r2:Mrg rk mid e d2 d3)(o2:fF rk d3 mid e):Mrg rk a e d d3/\fF rk d3 a e:=by
 have vu:∀ p q,s<=p->p<m->m<=q->q<f->rk d[q]! < rk d[p]! :=λp q p1 p2 q1 q2=>by
  have h1:=x1 (by omega) (by omega)
  have h2:=u s p hs p1 p2;have h3:=v q (f - 1) q1 (by omega) (by omega)
  omega
 have m1:=aMV rk hsm hmf (by omega) hz hd λp q p1 p2 q1 q2=>by have:=vu p q p1 p2 q1 q2;omega
 have all:=((m1.mono rk hs hf).trans rk (r1.mono rk (Nat.le_refl _) (by omega))).trans rk (r2.mono rk (by omega) (Nat.le_refl _))
 refine⟨all,λp q p1 pq q1 =>?_⟩;rcases Nat.lt_or_ge q mid with hq | hq
 ·rw[r2.out p (by omega),r2.out q (by omega)]
  exact o1 p q p1 pq hq
 rcases Nat.lt_or_ge p mid with hp | hp
 rotate_left
 ·exact o2 p q hp pq q1
 rw[r2.out p (by omega)]
 obtain⟨i1,i2,i3,i4⟩:=r1.inn p p1 hp;obtain⟨j1,j2,j3,j4⟩:=r2.inn q hq q1;rw[i4,j4,r1.out j1 (by omega),hd,hd]
 unfold Rot
 have left:∀ y,(f<=e->(∀ t,a<=t->t<s->rk d[t]! <= y)->(∀ t,m<=t->t<f->rk d[t]! <= y)->rk (if i1<s then d[i1]! else if i1<s+(f - m) then d[i1+(m - s)]! else if i1<f then d[i1 - (f - m)]! else d[i1]!)<=y):=λy _ h1 h2=>by
  split
  ·exact h1 i1 i2 (by assumption)
  ·rw[if_pos (by omega)]
   exact h2 _ (by omega) (by omega)
 rw[if_neg (show ¬ j1<s by omega),if_neg (show ¬ j1<s+(f - m) by omega)]
 by_cases hj:j1<f
 ·rw[if_pos hj]
  refine left _ hf (λt t1 t2=>u t _ t1 (by omega) (by omega)) λt t1 t2=>Nat.le_of_lt (vu _ t (by omega) (by omega) t1 t2)
 ·rw[if_neg hj]
  refine left _ hf (λt t1 t2 =>?_) λt t1 t2=>v t _ t1 (by omega) j3
  have h1:=u t (s - 1) t1 (by omega) (by omega)
  have h2:=x2 (by omega) (by omega)
  have h3:=v f j1 (by omega) (by omega) j3
  omega
end
end
section
open Go.Sort (swp)
set_option maxRecDepth 20000
section
variable {α:Type}[Inhabited α]{E:Sy}{H H':AH}{Q:Value->AH->Prop}{b c n:Nat}{enc:α->List Value}{fv:Value}{d:Array α}{tail:List Value}{f:Option Nat}
theorem S.f131(hE:aX E)(he:fO 3 enc)(hg:H.get b=fX enc d tail f)(hn:d.size=n)(hsz:n<2 ^ 60)(a m k:Nat)(ham:a+k<=m)(hmk:m+k<=n)(hQ:∀ d' H',d'.size=n->(∀ t,d'[t]! = Swr d a m k t)->bC H b enc tail f d' H'->Q (.tuple #[]) H'):E.call 147 [slc b 0 n c,vi a,vi m,vi k,fv] H Q:=by
 apply hE.f131;simp only[F.f131,aC];have i0:vi 0=vi ((0:Nat):Int):=rfl;rw[i0];refine aZ.count k (λj ls H'=>ls=[slc b 0 n c,vi a,vi m,vi k,vi j]/\∃ d',d'.size=n/\(∀ t,d'[t]! = Swr d a m j t)/\bC H b enc tail f d' H') ?_ ⟨rfl,d,hn,aLw d a m,.refl hg⟩;rintro j _ H1 X hj ih ⟨rfl,d1,n1,r1,s1⟩;rcases Nat.lt_or_ge j k with hlt | hge
 ·have hlt':decide ((j:Int)<k)=true:=decide_eq_true (by omega)
  have a1:=bW a j (by omega)
  have a2:=bW m j (by omega)
  have a3:=cN j (by omega)
  have f1:=bU (sz:=3) (b:=b) (c:=c) (n:=n) (i:=a+j) (by omega)
  have f2:=bU (sz:=3) (b:=b) (c:=c) (n:=n) (i:=m+j) (by omega)
  have g1:=aM he s1.get (i:=a+j) (by omega)
  have g2:=aM he s1.get (i:=m+j) (by omega)
  obtain⟨w1,w2⟩:=eV he s1.get (i:=a+j) (j:=m+j) (by omega) (by omega)
  have hst:=aKZ (d:=d) (d1:=d1) (a:=a) (m:=m) (k:=j) (by omega) (by omega) (by omega) r1
  have s2:=s1.put (swp d1 (a+j) (m+j));have n2:(swp d1 (a+j) (m+j)).size=n:=by rw[Go.Sort.size_swp];exact n1
  have ih:=λH' s=>ih hlt [slc b 0 n c,vi a,vi m,vi k,vi ((j+1:Nat):Int)] H' ⟨rfl,_,n2,hst,s⟩;generalize swp d1 (a+j) (m+j)=d2 at *;generalize a+j=p at *;generalize m+j=q at *;simp only[F.f131_l1,aF,hlt',a1,a2,a3,f1,f2,g1,g2,w1,w2,aC];exact ih _ s2
 ·have hje:j=k:=by omega
  subst hje;have hlt':decide ((j:Int)<j)=false:=decide_eq_false (by omega)
  simp only[F.f131_l1,aF,hlt',aC];exact hQ d1 H1 n1 r1 s1
theorem S.f128(hE:aX E)(he:fO 3 enc)(hg:H.get b=fX enc d tail f)(hn:d.size=n)(hsz:n<2 ^ 60)(a m e:Nat)(ham:a<m)(hme:m<e)(hen:e<=n)(hQ:∀ d' H',d'.size=n->(∀ t,d'[t]! = Rot d a m e t)->bC H b enc tail f d' H'->Q (.tuple #[]) H'):E.call 134 [slc b 0 n c,vi a,vi m,vi e,fv] H Q:=by
 apply hE.f128;have a1:=bZ m a (by omega) (by omega)
 have a2:=bZ e m (by omega) (by omega)
 simp only[F.f128,a1,a2,aC];refine aZ.ind (λw ls H'=>∃ (p q:Nat) (d1:Array α),w=p+q/\ls=[slc b 0 n c,vi m,fv,vi p,vi q]/\0<p/\0<q/\p<=m/\m+q<=n/\d1.size=n/\(∀ t,Rot d1 (m - p) m (m+q) t=Rot d a m e t)/\bC H b enc tail f d1 H') ?_ (m - a+(e - m)) ⟨m - a,e - m,d,rfl,rfl,by omega,by omega,by omega,by omega,hn,λt=>by rw[show m - (m - a)=a by omega,show m+(e - m)=e by omega],.refl hg⟩
 rintro w _ H1 X ih ⟨p,q,d1,rfl,rfl,hp,hq,hpm,hmq,n1,r1,s1⟩;have b1:=bZ m p (by omega) (by omega)
 by_cases hpq:p=q
 ·subst hpq
  have hne:decide ((p:Int)≠p)=false:=decide_eq_false (by simp)
  simp only[F.f128_l1,eG,hne,b1,aC];refine S.f131 hE he s1.get n1 hsz (m - p) m p (by omega) (by omega) λd2 H2 n2 r2 s2 =>?_
  exact hQ d2 H2 n2 (λt=>by rw[r2,aLF hpm,r1]) (s1.trans s2)
 have hne:decide ((p:Int)≠q)=true:=decide_eq_true (by omega)
 by_cases hlt:q<p
 ·have hgt:decide ((q:Int)<p)=true:=decide_eq_true (by omega)
  have b2:=bZ p q (by omega) (by omega)
  simp only[F.f128_l1,eG,hne,cI,hgt,b1,aC];refine S.f131 hE he s1.get n1 hsz (m - p) m q (by omega) (by omega) λd2 H2 n2 r2 s2 =>?_
  simp only[b2,aC];exact ih (p - q+q) (by omega) _ _ ⟨p - q,q,d2,rfl,rfl,by omega,hq,by omega,hmq,n2,λt=>by rw[aJR hpm hlt r2,r1],s1.trans s2⟩
 ·have hgt:decide ((q:Int)<p)=false:=decide_eq_false (by omega)
  have b2:=bZ q p (by omega) (by omega)
  have b3:=bW m q (by omega)
  have b4:=bZ (m+q) p (by omega) (by omega)
  simp only[F.f128_l1,eG,hne,cI,hgt,b1,b3,b4,aC];refine S.f131 hE he s1.get n1 hsz (m - p) (m+q - p) p (by omega) (by omega) λd2 H2 n2 r2 s2 =>?_
  simp only[b2,aC];exact ih (p+(q - p)) (by omega) _ _ ⟨p,q - p,d2,rfl,rfl,hp,by omega,hpm,by omega,n2,λt=>by rw[aH4 hpm (by omega) r2,r1],s1.trans s2⟩
end
end
section
open Go.Sort (swp SWO PermIn SortedIn insertionSort)
set_option maxRecDepth 20000
section
variable {α:Type}[Inhabited α](rk:α->Nat)
theorem aIo{d d1:Array α}{a m e s f mid:Nat}(hs:a<=s)(hsm:s<=m)(hmf:m<=f)(hf:f<=e)(hmid:s+(f - m)=mid)(u:fF rk d a m)(v:fF rk d m e)(hd:∀ t,d1[t]! = Rot d s m f t)(h:∀ p q,a<=p->p<s->m<=q->q<f->rk d[p]! <= rk d[q]!):fF rk d1 a mid:=λp q p1 pq q1=>by
 rw[hd,hd];unfold Rot
 by_cases hp:p<s
 ·rw[if_pos hp]
  by_cases hq:q<s
  ·rw[if_pos hq];exact u p q p1 pq (by omega)
  ·rw[if_neg hq,if_pos (by omega)];exact h p _ p1 hp (by omega) (by omega)
 ·rw[if_neg hp,if_pos (by omega),if_neg (by omega),if_pos (by omega)]
  exact v _ _ (by omega) (by omega) (by omega)
theorem aGH{d d1:Array α}{a m e s f mid:Nat}(hs:a<=s)(hsm:s<=m)(hmf:m<=f)(hf:f<=e)(hmid:s+(f - m)=mid)(u:fF rk d a m)(v:fF rk d m e)(hd:∀ t,d1[t]! = Rot d s m f t)(h:∀ p q,s<=p->p<m->f<=q->q<e->rk d[p]! <= rk d[q]!):fF rk d1 mid e:=λp q p1 pq q1=>by
 rw[hd,hd];unfold Rot;rw[if_neg (show ¬ p<s by omega),if_neg (show ¬ p<s+(f - m) by omega),if_neg (show ¬ q<s by omega),if_neg (show ¬ q<s+(f - m) by omega)]
 by_cases hp:p<f
 ·rw[if_pos hp]
  by_cases hq:q<f
  ·rw[if_pos hq];exact u _ _ (by omega) (by omega) (by omega)
  ·rw[if_neg hq];exact h _ q (by omega) (by omega) (by omega) q1
 ·rw[if_neg hp,if_neg (by omega)]
  exact v _ _ (by omega) pq q1
theorem aBC{d d1:Array α}{a m e s f:Nat}(hs:a<=s)(hsm:s<=m)(hmf:m<=f)(hf:f<=e)(he:e<=d.size)(u:fF rk d a m)(v:fF rk d m e)(x1:m<f->s<m->rk d[f - 1]! < rk d[s]!)(x2:a<s->f<e->rk d[s - 1]! <= rk d[f]!)(hz:d1.size=d.size)(hd:∀ t,d1[t]! = Rot d s m f t)(h1:∀ p q,a<=p->p<s->m<=q->q<f->rk d[p]! <= rk d[q]!)(h2:∀ p q,s<=p->p<m->f<=q->q<e->rk d[p]! <= rk d[q]!):Mrg rk a e d d1/\fF rk d1 a e :=
 aK0 rk hs hsm hmf hf he rfl u v x1 x2 hz hd (Mrg.refl rk _ _ _) (aIo rk hs hsm hmf hf rfl u v hd h1) (Mrg.refl rk _ _ _) (aGH rk hs hsm hmf hf rfl u v hd h2)
end
section
variable {α:Type}[Inhabited α]{rk:α->Nat}{E:Sy}{b c n:Nat}{enc:α->List Value}{fv:Value}{tail:List Value}{f:Option Nat}
theorem aNo(hE:aX E)(he:fO 3 enc)(hC:jF E fv enc (ltK rk)){H:AH}{Q:Value->AH->Prop}{d:Array α}(hg:H.get b=fX enc d tail f)(hn:d.size=n)(hsz:n<2 ^ 40){a m e:Nat}(ham:m=a+1)(hme:m<e)(hen:e<=n)(u:fF rk d a m)(v:fF rk d m e)(hQ:∀ d' H',Mrg rk a e d d'->fF rk d' a e->bC H b enc tail f d' H'->Q (.tuple #[]) H'):
  lp5 (F.f132_l1 E Q) [slc b 0 n c,vi a,fv,vi m,vi e] H:=by
 refine aZ.ind (λw ls H'=>∃ i j:Nat,w=j - i/\ls=[slc b 0 n c,vi a,fv,vi i,vi j]/\m<=i/\i<=j/\j<=e/\bC H b enc tail f d H'/\(∀ t,m<=t->t<i->rk d[t]! < rk d[a]!)/\(∀ t,j<=t->t<e->rk d[a]! <= rk d[t]!)) ?_ (e - m) ⟨m,e,rfl,rfl,Nat.le_refl _,by omega,Nat.le_refl _,.refl hg,λt _ _=>by omega,λt _ _=>by omega⟩
 rintro w _ H1 X ih ⟨i,j,rfl,rfl,hmi,hij,hje,s1,lo,hi⟩;rcases Nat.lt_or_ge i j with hlt | hge
 ·have hlt':decide ((i:Int)<j)=true:=decide_eq_true (by omega)
  have hadd:=bW i j (by omega)
  obtain⟨y,y1,y2,y3⟩:=aBD i j (by omega)
  have hh:i<=(i+j) / 2/\(i+j) / 2<j:=by omega
  generalize (i+j) / 2=h at *;have f1:=bU (sz:=3) (b:=b) (c:=c) (n:=n) (i:=h) (by omega)
  have f2:=bU (sz:=3) (b:=b) (c:=c) (n:=n) (i:=a) (by omega)
  have g1:=aM he s1.get (i:=h) (by omega)
  have g2:=aM he s1.get (i:=a) (by omega)
  have hinc:=cN h (by omega)
  simp only[F.f132_l1,aF,hlt',hadd,y1,y2,y3,f1,f2,g1,g2,aC];refine hC _ _ _ _ λz H2 e2 hz =>?_;have s2:=s1.ext e2
  by_cases hl:rk d[h]! < rk d[a]!
  ·have hd:ltK rk d[h]! d[a]! = true:=decide_eq_true hl
   simp only[aF,hz,hd,hinc,aC];exact ih (j - (h+1)) (by omega) _ _ ⟨h+1,j,rfl,rfl,by omega,by omega,hje,s2,λt t1 t2=>Nat.lt_of_le_of_lt (v t h t1 (by omega) (by omega)) hl,hi⟩
  ·have hd:ltK rk d[h]! d[a]! = false:=decide_eq_false hl
   simp only[aF,hz,hd,aC];exact ih (h - i) (by omega) _ _ ⟨i,h,rfl,rfl,hmi,by omega,by omega,s2,lo,λt t1 t2=>Nat.le_trans (by omega) (v h t (by omega) t1 t2)⟩
 have hje':i=j:=by omega
 subst hje';have hlt':decide ((i:Int)<i)=false:=decide_eq_false (by omega)
 simp only[F.f132_l1,aF,hlt',aC];clear ih;have hi1:aA .sub (vi (i:Int)) (vi 1)=some (vi ((i - 1:Nat):Int)):=eH i (by omega) (by omega)
 refine aZ.ind (λw ls H'=>∃ (k:Nat) (d1:Array α),w=i - 1 - k/\ls=[slc b 0 n c,vi i,vi k]/\a<=k/\k<=i - 1/\d1.size=n/\(∀ t,d1[t]! = Rot d a (a+1) (k+1) t)/\bC H b enc tail f d1 H') ?_ (i - 1 - a) ⟨a,d,rfl,rfl,Nat.le_refl _,by omega,hn,aB0 d a (a+1),s1⟩
 rintro w _ H2 X2 ih ⟨k,d1,rfl,rfl,hak,hki,n1,r1,s2⟩;rcases Nat.lt_or_ge k (i - 1) with hlt | hge
 ·have hlt2:decide ((k:Int)<((i - 1:Nat):Int))=true:=decide_eq_true (by omega)
  have a1:=cN k (by omega)
  have f1:=bU (sz:=3) (b:=b) (c:=c) (n:=n) (i:=k) (by omega)
  have f2:=bU (sz:=3) (b:=b) (c:=c) (n:=n) (i:=k+1) (by omega)
  have g1:=aM he s2.get (i:=k) (by omega)
  have g2:=aM he s2.get (i:=k+1) (by omega)
  obtain⟨w1,w2⟩:=eV he s2.get (i:=k) (j:=k+1) (by omega) (by omega)
  have hr:=aOW hak (by omega) (by omega:d1.size=d.size) r1
  have n2:(swp d1 k (k+1)).size=n:=by rw[Go.Sort.size_swp];exact n1
  have ih:=ih (i - 1 - (k+1)) (by omega) [slc b 0 n c,vi i,vi ((k+1:Nat):Int)] _ ⟨k+1,_,rfl,rfl,by omega,by omega,n2,hr,s2.put _⟩
  generalize swp d1 k (k+1)=d2 at *;simp only[F.f132_l2,aF,hi1,hlt2,a1,f1,f2,g1,g2,w1,w2,aC];exact ih
 ·have hke:k=i - 1:=by omega
  have hk1:k+1=i:=by omega
  have hlt2:decide ((k:Int)<((i - 1:Nat):Int))=false:=decide_eq_false (by omega)
  rw[hk1]at r1;rw[<- ham]at r1
  obtain⟨m1,m2⟩:=aBC rk (Nat.le_refl a) (by omega) (by omega) hje (by omega) u v (λh1 _=>lo (i - 1) (by omega) (by omega)) (λh _=>by omega) (by omega) r1 (λp q p1 p2 _ _=>by omega) (λp q p1 p2 q1 q2=>by
   have:p=a:=by omega
   subst this;exact hi q q1 q2)
  simp only[F.f132_l2,aF,hi1,hlt2,aC];exact hQ d1 H2 m1 m2 s2
theorem aLR(hE:aX E)(he:fO 3 enc)(hC:jF E fv enc (ltK rk)){H:AH}{Q:Value->AH->Prop}{d:Array α}(hg:H.get b=fX enc d tail f)(hn:d.size=n)(hsz:n<2 ^ 40){a m e:Nat}(ham:a<m)(hme:e=m+1)(hen:e<=n)(u:fF rk d a m)(v:fF rk d m e)(hQ:∀ d' H',Mrg rk a e d d'->fF rk d' a e->bC H b enc tail f d' H'->Q (.tuple #[]) H'):
  lp5 (F.f132_l3 E Q) [slc b 0 n c,vi m,fv,vi a,vi m] H:=by
 refine aZ.ind (λw ls H'=>∃ i j:Nat,w=j - i/\ls=[slc b 0 n c,vi m,fv,vi i,vi j]/\a<=i/\i<=j/\j<=m/\bC H b enc tail f d H'/\(∀ t,a<=t->t<i->rk d[t]! <= rk d[m]!)/\(∀ t,j<=t->t<m->rk d[m]! < rk d[t]!)) ?_ (m - a) ⟨a,m,rfl,rfl,Nat.le_refl _,by omega,Nat.le_refl _,.refl hg,λt _ _=>by omega,λt _ _=>by omega⟩
 rintro w _ H1 X ih ⟨i,j,rfl,rfl,hmi,hij,hje,s1,lo,hi⟩;rcases Nat.lt_or_ge i j with hlt | hge
 ·have hlt':decide ((i:Int)<j)=true:=decide_eq_true (by omega)
  have hadd:=bW i j (by omega)
  obtain⟨y,y1,y2,y3⟩:=aBD i j (by omega)
  have hh:i<=(i+j) / 2/\(i+j) / 2<j:=by omega
  generalize (i+j) / 2=h at *;have f1:=bU (sz:=3) (b:=b) (c:=c) (n:=n) (i:=m) (by omega)
  have f2:=bU (sz:=3) (b:=b) (c:=c) (n:=n) (i:=h) (by omega)
  have g1:=aM he s1.get (i:=m) (by omega)
  have g2:=aM he s1.get (i:=h) (by omega)
  have hinc:=cN h (by omega)
  simp only[F.f132_l3,aF,hlt',hadd,y1,y2,y3,f1,f2,g1,g2,aC];refine hC _ _ _ _ λz H2 e2 hz =>?_;have s2:=s1.ext e2
  by_cases hl:rk d[m]! < rk d[h]!
  ·have hd:ltK rk d[m]! d[h]! = true:=decide_eq_true hl
   simp only[aF,hz,hd,bX,Bool.not_true,aC];exact ih (h - i) (by omega) _ _ ⟨i,h,rfl,rfl,hmi,by omega,by omega,s2,lo,λt t1 t2=>Nat.lt_of_lt_of_le hl (u h t (by omega) t1 t2)⟩
  ·have hd:ltK rk d[m]! d[h]! = false:=decide_eq_false hl
   simp only[aF,hz,hd,bX,Bool.not_false,hinc,aC];exact ih (j - (h+1)) (by omega) _ _ ⟨h+1,j,rfl,rfl,by omega,by omega,hje,s2,λt t1 t2=>Nat.le_trans (u t h t1 (by omega) (by omega)) (by omega),hi⟩
 have hje':i=j:=by omega
 subst hje';have hlt':decide ((i:Int)<i)=false:=decide_eq_false (by omega)
 simp only[F.f132_l3,aF,hlt',aC];clear ih;refine aZ.ind (λw ls H'=>∃ (k:Nat) (d1:Array α),w=k - i/\ls=[slc b 0 n c,vi i,vi k]/\i<=k/\k<=m/\d1.size=n/\(∀ t,d1[t]! = Rot d k m (m+1) t)/\bC H b enc tail f d1 H') ?_ (m - i) ⟨m,d,rfl,rfl,hje,Nat.le_refl _,hn,λt=>aBu d m (m+1) t (by omega),s1⟩
 rintro w _ H2 X2 ih ⟨k,d1,rfl,rfl,hak,hki,n1,r1,s2⟩;rcases Nat.lt_or_ge i k with hlt | hge
 ·obtain⟨k,rfl⟩:∃ k',k=k'+1:=⟨k - 1,by omega⟩
  have hlt2:decide ((i:Int)<((k+1:Nat):Int))=true:=decide_eq_true (by omega)
  have a1:aA .sub (vi ((k+1:Nat):Int)) (vi 1)=some (vi (k:Int)):=eH (k+1) (by omega) (by omega)
  have f1:=bU (sz:=3) (b:=b) (c:=c) (n:=n) (i:=k) (by omega)
  have f2:=bU (sz:=3) (b:=b) (c:=c) (n:=n) (i:=k+1) (by omega)
  have g1:=aM he s2.get (i:=k) (by omega)
  have g2:=aM he s2.get (i:=k+1) (by omega)
  obtain⟨w1,w2⟩:=eV he s2.get (i:=k+1) (j:=k) (by omega) (by omega)
  have hr:=aLQ (by omega) (by omega) (by omega:d1.size=d.size) r1
  have n2:(swp d1 (k+1) k).size=n:=by rw[Go.Sort.size_swp];exact n1
  have ih:=ih (k - i) (by omega) [slc b 0 n c,vi i,vi (k:Int)] _ ⟨k,_,rfl,rfl,by omega,by omega,n2,hr,s2.put _⟩
  generalize swp d1 (k+1) k=d2 at *;simp only[F.f132_l4,cI,hlt2,a1,f1,f2,g1,g2,w1,w2,aC];exact ih
 ·have hke:k=i:=by omega
  subst hke;have hlt2:decide ((k:Int)<(k:Int))=false:=decide_eq_false (by omega)
  subst hme
  obtain⟨m1,m2⟩:=aBC rk hmi hje (by omega) (Nat.le_refl _) (by omega) u v (λ_ h2=>by rw[Nat.add_sub_cancel];exact hi k (Nat.le_refl _) h2) (λ_ h=>by omega) (by omega) r1 (λp q p1 p2 q1 q2=>by
   have:q=m:=by omega
   subst this;exact lo p p1 p2) (λp q p1 p2 q1 q2=>by omega)
  simp only[F.f132_l4,cI,hlt2,aC];exact hQ d1 H2 m1 m2 s2
theorem S.f132(hE:aX E)(he:fO 3 enc)(hC:jF E fv enc (ltK rk)):∀ (w:Nat) {H:AH} {Q:Value->AH->Prop} {d:Array α} (_:H.get b=fX enc d tail f) (_:d.size=n) (_:n<2 ^ 40) (a m e:Nat) (_:a<m) (_:m<e) (_:e<=n) (_:fF rk d a m) (_:fF rk d m e) (_:e - a<=w)
  (_:∀ d' H',Mrg rk a e d d'->fF rk d' a e->bC H b enc tail f d' H'->Q (.tuple #[]) H'),E.call 116 [slc b 0 n c,vi a,vi m,vi e,fv] H Q:=by
 intro w
 induction w using Nat.strongRecOn with
 | _ w IH =>
 intro H Q d hg hn hsz a m e ham hme hen u v hw hQ;apply hE.f132;have b1:=bZ m a (by omega) (by omega)
 have b2:=bZ e m (by omega) (by omega)
 by_cases c1:m - a=1
 ·have d1:decide (((m - a:Nat):Int)=1)=true:=decide_eq_true (by omega)
  simp only[F.f132,b1,cZ,d1,aC];exact aNo hE he hC hg hn hsz (by omega) hme hen u v hQ
 have d1:decide (((m - a:Nat):Int)=1)=false:=decide_eq_false (by omega)
 by_cases c2:e - m=1
 ·have d2:decide (((e - m:Nat):Int)=1)=true:=decide_eq_true (by omega)
  simp only[F.f132,b1,b2,cZ,d1,d2,aC];exact aLR hE he hC hg hn hsz ham (by omega) hen u v hQ
 have d2:decide (((e - m:Nat):Int)=1)=false:=decide_eq_false (by omega)
 have b3:=bW a e (by omega)
 obtain⟨y,y1,y2,y3⟩:=aBD a e (by omega)
 have hmid:2*((a+e) / 2)<=a+e/\a+e<=2*((a+e) / 2)+1:=by omega
 generalize (a+e) / 2=mid at *;have b4:=bW mid m (by omega)
 have cut:∀ (s:Nat) (H1:AH),bC H b enc tail f d H1->a<=s->s<=m->s<=mid->m<=mid+m - s->mid+m - s<=e ->
   (m<mid+m - s->s<m->rk d[mid+m - s - 1]! < rk d[s]!)->(a<s->mid+m - s<e->rk d[s - 1]! <= rk d[mid+m - s]!)->∀ d1,d1.size=n->(∀ t,d1[t]! = Rot d s m (mid+m - s) t)->bC H b enc tail f d1 H1\/True->∀ H2,bC H b enc tail f d1 H2 ->
   F.f132_j2 E Q (slc b 0 n c) (vi a) (vi e) fv (vi mid) (vi s) (vi ((mid+m - s:Nat):Int)) H2:=by
  intro s H1 _ hs hsm hsmid hmf hfe x1 x2 d1 n1 r1 _ H2 s2;generalize hf:mid+m - s=ff at *;have hmm:s+(ff - m)=mid:=by omega
  have sec:∀ d2 H3,Mrg rk a mid d1 d2->fF rk d2 a mid->bC H b enc tail f d2 H3->F.f132_j3 E Q (slc b 0 n c) (vi e) fv (vi mid) (vi (ff:Int)) H3:=by
   intro d2 H3 m2 o2 s3
   have fin:∀ d3 H4,Mrg rk mid e d2 d3->fF rk d3 mid e->bC H b enc tail f d3 H4->Q (.tuple #[]) H4:=λd3 H4 m3 o3 s4=>by
    obtain⟨q1,q2⟩:=aK0 rk hs hsm hmf hfe (by omega) hmm u v x1 x2 (by omega) r1 m2 o2 m3 o3
    exact hQ d3 H4 q1 q2 s4
   have n2:d2.size=n:=by rw[m2.size];exact n1
   have p1:fF rk d2 mid ff:=by
    refine fF.congr rk (d:=d1) (λp q p1 pq q1 =>?_) λt t1 t2=>m2.out t (by omega)
    rw[r1,r1];unfold Rot;rw[if_neg (by omega),if_neg (by omega),if_pos (by omega),if_neg (by omega),if_neg (by omega),if_pos (by omega)]
    exact u _ _ (by omega) (by omega) (by omega)
   have p2:fF rk d2 ff e:=by
    refine fF.congr rk (d:=d1) (λp q p1 pq q1 =>?_) λt t1 t2=>m2.out t (by omega)
    rw[r1,r1];unfold Rot;rw[if_neg (by omega),if_neg (by omega),if_neg (by omega),if_neg (by omega),if_neg (by omega),if_neg (by omega)]
    exact v _ _ (by omega) pq q1
   by_cases k1:mid<ff
   ·have e1:decide ((mid:Int)<(ff:Int))=true:=decide_eq_true (by omega)
    by_cases k2:ff<e
    ·have e2:decide ((ff:Int)<(e:Int))=true:=decide_eq_true (by omega)
     simp only[F.f132_j3,aF,e1,e2,aC];refine IH (e - mid) (by omega) s3.get n2 hsz mid ff e k1 k2 hen p1 p2 (Nat.le_refl _) λd3 H4 m3 o3 s4=>fin d3 H4 m3 o3 (s3.trans s4)
    ·have e2:decide ((ff:Int)<(e:Int))=false:=decide_eq_false (by omega)
     have:ff=e:=by omega
     simp only[F.f132_j3,aF,e1,e2,aC];exact fin d2 H3 (Mrg.refl rk _ _ _) (this▸p1) s3
   ·have e1:decide ((mid:Int)<(ff:Int))=false:=decide_eq_false (by omega)
    have:mid=ff:=by omega
    simp only[F.f132_j3,aF,e1,aC];exact fin d2 H3 (Mrg.refl rk _ _ _) (this▸p2) s3
  have p1:fF rk d1 a s:=λp q p1 pq q1=>by
   rw[r1,r1];unfold Rot;rw[if_pos (by omega),if_pos (by omega)]
   exact u _ _ p1 pq (by omega)
  have p2:fF rk d1 s mid:=λp q p1 pq q1=>by
   rw[r1,r1];unfold Rot;rw[if_neg (by omega),if_pos (by omega),if_neg (by omega),if_pos (by omega)]
   exact v _ _ (by omega) (by omega) (by omega)
  by_cases k1:a<s
  ·have e1:decide ((a:Int)<(s:Int))=true:=decide_eq_true (by omega)
   by_cases k2:s<mid
   ·have e2:decide ((s:Int)<(mid:Int))=true:=decide_eq_true (by omega)
    simp only[F.f132_j2,aF,e1,e2,aC];refine IH (mid - a) (by omega) s2.get n1 hsz a s mid k1 k2 (by omega) p1 p2 (Nat.le_refl _) λd3 H4 m3 o3 s4=>sec d3 H4 m3 o3 (s2.trans s4)
   ·have e2:decide ((s:Int)<(mid:Int))=false:=decide_eq_false (by omega)
    have:s=mid:=by omega
    simp only[F.f132_j2,aF,e1,e2,aC];exact sec d1 H2 (Mrg.refl rk _ _ _) (this▸p1) s2
  ·have e1:decide ((a:Int)<(s:Int))=false:=decide_eq_false (by omega)
   have:a=s:=by omega
   simp only[F.f132_j2,aF,e1,aC];exact sec d1 H2 (Mrg.refl rk _ _ _) (this▸p2) s2
 have search:∀ s0 r0:Nat,a<=s0->s0<=r0->r0<=m->r0<=mid->m<=mid+m - r0->mid+m - s0<=e->(s0=a\/mid+m - s0=e)->(r0=m\/r0=mid)->F.f132_j1 E Q (slc b 0 n c) (vi a) (vi m) (vi e) fv (vi mid) (vi ((mid+m:Nat):Int)) (vi s0) (vi r0) H:=by
  intro s0 r0 h1 h2 h3 h4 h5 h6 h7 h8;have b5:=eH (mid+m) (by omega) (by omega)
  simp only[F.f132_j1,b5,aC];refine aZ.ind (λw ls H'=>∃ s r:Nat,w=r - s/\ls=[slc b 0 n c,vi a,vi m,vi e,fv,vi mid,vi ((mid+m:Nat):Int),vi s,vi r,vi ((mid+m - 1:Nat):Int)]/\s0<=s/\s<=r/\r<=r0/\bC H b enc tail f d H'/\(s0<s->rk d[s - 1]! <= rk d[mid+m - s]!)/\(r<r0->rk d[mid+m - 1 - r]! < rk d[r]!)) ?_ (r0 - s0) ⟨s0,r0,rfl,rfl,Nat.le_refl _,h2,Nat.le_refl _,.refl hg,λh=>by omega,λh=>by omega⟩
  rintro w _ H1 X ih ⟨s,r,rfl,rfl,hs0,hsr,hr0,s1,lo,hi⟩;rcases Nat.lt_or_ge s r with hlt | hge
  ·have hlt':decide ((s:Int)<r)=true:=decide_eq_true (by omega)
   have hadd:=bW s r (by omega)
   obtain⟨z',z1,z2,z3⟩:=aBD s r (by omega)
   have hh:s<=(s+r) / 2/\(s+r) / 2<r:=by omega
   generalize (s+r) / 2=h at *;have b6:=bZ (mid+m - 1) h (by omega) (by omega)
   have f1:=bU (sz:=3) (b:=b) (c:=c) (n:=n) (i:=mid+m - 1 - h) (by omega)
   have f2:=bU (sz:=3) (b:=b) (c:=c) (n:=n) (i:=h) (by omega)
   have g1:=aM he s1.get (i:=mid+m - 1 - h) (by omega)
   have g2:=aM he s1.get (i:=h) (by omega)
   have hinc:=cN h (by omega)
   simp only[F.f132_l5,aF,hlt',hadd,z1,z2,z3,b6,f1,f2,g1,g2,aC];refine hC _ _ _ _ λz H2 e2 hz =>?_;have s2:=s1.ext e2
   by_cases hl:rk d[mid+m - 1 - h]! < rk d[h]!
   ·have hd:ltK rk d[mid+m - 1 - h]! d[h]! = true:=decide_eq_true hl
    simp only[aF,hz,hd,bX,Bool.not_true,aC];exact ih (h - s) (by omega) _ _ ⟨s,h,rfl,rfl,hs0,by omega,by omega,s2,lo,λ_=>hl⟩
   ·have hd:ltK rk d[mid+m - 1 - h]! d[h]! = false:=decide_eq_false hl
    simp only[aF,hz,hd,bX,Bool.not_false,hinc,aC]
    exact ih (r - (h+1)) (by omega) _ _ ⟨h+1,r,rfl,rfl,by omega,by omega,hr0,s2,λ_=>by
     rw[Nat.add_sub_cancel,show mid+m - (h+1)=mid+m - 1 - h by omega];omega,hi⟩
  have hje':s=r:=by omega
  subst hje';have hlt':decide ((s:Int)<s)=false:=decide_eq_false (by omega)
  have b6:=bZ (mid+m) s (by omega) (by omega)
  have cut:=cut s H1 s1 (by omega) (by omega) (by omega) (by omega) (by omega) (λk1 k2=>by
   have:=hi (by omega)
   rwa [show mid+m - 1 - s=mid+m - s - 1 by omega]at this) (λk1 k2=>lo (by omega))
  by_cases k1:s<m
  ·have e1:decide ((s:Int)<(m:Int))=true:=decide_eq_true (by omega)
   by_cases k2:m<mid+m - s
   ·have e2:decide ((m:Int)<((mid+m - s:Nat):Int))=true:=decide_eq_true (by omega)
    simp only[F.f132_l5,aF,hlt',b6,e1,e2,aC];refine S.f128 hE he s1.get hn (by omega) s m (mid+m - s) k1 k2 (by omega) λd1 H2 n1 r1 s2 =>?_
    exact cut d1 n1 r1 (.inr trivial) H2 (s1.trans s2)
   ·have e2:decide ((m:Int)<((mid+m - s:Nat):Int))=false:=decide_eq_false (by omega)
    simp only[F.f132_l5,aF,hlt',b6,e1,e2,aC];exact cut d hn (λt=>by rw[show mid+m - s=m by omega];exact aB0 d s m t) (.inr trivial) H1 s1
  ·have e1:decide ((s:Int)<(m:Int))=false:=decide_eq_false (by omega)
   simp only[F.f132_l5,aF,hlt',b6,e1,aC];exact cut d hn (λt=>by rw[show s=m by omega];exact aBu d m _ t (by omega)) (.inr trivial) H1 s1
 by_cases c3:mid<m
 ·have d3:decide ((mid:Int)<(m:Int))=true:=decide_eq_true (by omega)
  have b5:=bZ (mid+m) e (by omega) (by omega)
  simp only[F.f132,b1,b2,cZ,d1,d2,b3,y1,y2,y3,b4,cI,d3,b5,aC];exact search (mid+m - e) mid (by omega) (by omega) (by omega) (Nat.le_refl _) (by omega) (by omega) (.inr (by omega)) (.inr rfl)
 ·have d3:decide ((mid:Int)<(m:Int))=false:=decide_eq_false (by omega)
  simp only[F.f132,b1,b2,cZ,d1,d2,b3,y1,y2,y3,b4,cI,d3,aC];exact search a m (Nat.le_refl _) (by omega) (Nat.le_refl _) (by omega) (by omega) (by omega) (.inl rfl) (.inl rfl)
end
end
section
open Go.Sort (swp SWO PermIn SortedIn insertionSort)
set_option maxRecDepth 20000
section
variable {α:Type}[Inhabited α]{rk:α->Nat}{E:Sy}{b c n:Nat}{enc:α->List Value}{fv:Value}{tail:List Value}{f:Option Nat}
theorem pK{k s a:Nat}(h1:k ∣ s)(h2:k ∣ a)(h:s<a):s+k<=a:=by
 obtain⟨p,rfl⟩:=h1;obtain⟨q,rfl⟩:=h2;have:p<q:=Nat.lt_of_mul_lt_mul_left h;have:=Nat.mul_le_mul_left k this;rw[Nat.mul_succ]at this;exact this
def aMQ(rk:α->Nat)(d:Array α)(B n:Nat):Prop:=∀ s,B ∣ s->fF rk d s (min (s+B) n)
theorem aIg(hE:aX E)(he:fO 3 enc)(hC:jF E fv enc (ltK rk)){H:AH}{Q:Value->AH->Prop}{d:Array α}(hg:H.get b=fX enc d tail f)(hn:d.size=n)(hsz:n<2 ^ 40){B:Nat}(hB:0<B)(hBn:B<n)(hb:aMQ rk d B n){X0:List Value->AH->Prop}(next:∀ d' H',d'.size=n->dE rk d.toList d'.toList->aMQ rk d' (2*B) n->bC H b enc tail f d' H'->X0 [slc b 0 n c,vi n,fv,vi ((2*B:Nat):Int)] H'):
  lp6 (F.f130_l3 E Q X0) [slc b 0 n c,vi n,fv,vi B,vi 0,vi ((2*B:Nat):Int)] H:=by
 refine aZ.ind (λw ls H'=>∃ (a:Nat) (d1:Array α),w=n - a/\ls=[slc b 0 n c,vi n,fv,vi B,vi a,vi ((a+2*B:Nat):Int)]/\a<=n/\2*B ∣ a/\d1.size=n/\dE rk d.toList d1.toList/\(∀ s,2*B ∣ s->s<a->fF rk d1 s (s+2*B))/\(∀ s,B ∣ s->a<=s->fF rk d1 s (min (s+B) n))/\bC H b enc tail f d1 H') ?_ n
  ⟨0,d,rfl,by rw[Nat.zero_add];rfl,Nat.zero_le _,⟨0,rfl⟩,hn,dE.refl rk _,λs _ h=>by omega,λs h _=>hb s h,.refl hg⟩
 rintro w _ H1 X1 ih ⟨a,d1,rfl,rfl,han,hda,n1,sm,p1,p2,s1⟩;have hBa:B ∣ a:=Nat.dvd_trans ⟨2,Nat.mul_comm 2 B⟩ hda;have hBB:B ∣ a+B:=(Nat.dvd_add_right hBa).2 (Nat.dvd_refl B);have h2B:2*B ∣ a+2*B:=(Nat.dvd_add_right hda).2 (Nat.dvd_refl _);have u0:=p2 a hBa (Nat.le_refl _);have v0:=p2 (a+B) hBB (by omega)
 have a1:=bW a B (by omega)
 have m1:aA .mul (vi 2) (vi (B:Int))=some (vi ((2*B:Nat):Int)):=by rw[kD (by omega) (by omega)];congr 2
 have m2:aA .mul (vi (B:Int)) (vi 2)=some (vi ((2*B:Nat):Int)):=by rw[kD (by omega) (by omega)];congr 2;omega
 have a2:=bW (a+2*B) (2*B) (by omega)
 rcases Nat.lt_or_ge n (a+2*B) with hgt | hle
 ·have hle':decide (((a+2*B:Nat):Int)<=n)=false:=decide_eq_false (by omega)
  have fin:∀ d2 H2,d2.size=n->dE rk d1.toList d2.toList->(∀ t,t<a->d2[t]! = d1[t]!)->fF rk d2 a n->bC H b enc tail f d2 H2->X0 [slc b 0 n c,vi n,fv,vi ((2*B:Nat):Int)] H2:=λd2 H2 n2 sm2 out o2 s2=>by
   refine next d2 H2 n2 (dE.trans rk sm sm2) (λs hs =>?_) s2;rcases Nat.lt_or_ge s a with h1 | h1
   ·have h2:=pK hs hda h1
    rw[Nat.min_eq_left (by omega)]
    exact fF.congr rk (p1 s hs h1) λt t1 t2=>out t (by omega)
   ·rcases Nat.lt_or_ge a s with h2 | h2
    ·have h3:=pK hda hs h2
     exact fF.small rk _ (by omega)
    ·have:s=a:=by omega
     subst this;rw[Nat.min_eq_right (by omega)]
     exact o2
  by_cases hm:a+B<n
  ·have hlt':decide (((a+B:Nat):Int)<n)=true:=decide_eq_true (by omega)
   simp only[F.f130_l3,cS,hle',a1,aF,hlt',aC];rw[Nat.min_eq_left (by omega)]at u0
   rw[Nat.min_eq_right (by omega)]at v0
   refine S.f132 hE he hC (n - a) s1.get n1 hsz a (a+B) n (by omega) hm (Nat.le_refl _) u0 v0 (Nat.le_refl _) λd2 H2 g o s2 =>?_
   simp only[m2,aC];exact fin d2 H2 (by rw[g.size];exact n1) g.same (λt ht=>g.out t (.inl ht)) o (s1.trans s2)
  ·have hlt':decide (((a+B:Nat):Int)<n)=false:=decide_eq_false (by omega)
   rw[Nat.min_eq_right (by omega)]at u0
   simp only[F.f130_l3,cS,hle',a1,aF,hlt',m2,aC];exact fin d1 H1 n1 (dE.refl rk _) (λ_ _=>rfl) u0 s1
 ·have hle':decide (((a+2*B:Nat):Int)<=n)=true:=decide_eq_true (by omega)
  rw[Nat.min_eq_left (by omega)]at u0 v0
  rw[show a+B+B=a+2*B by omega]at v0
  simp only[F.f130_l3,cS,hle',a1,aC];refine S.f132 hE he hC (2*B) s1.get n1 hsz a (a+B) (a+2*B) (by omega) (by omega) hle u0 v0 (by omega) λd2 H2 g o s2 =>?_
  simp only[m1,a2,aC];refine ih (n - (a+2*B)) (by omega) _ _ ⟨a+2*B,d2,rfl,rfl,hle,h2B,by rw[g.size];exact n1,dE.trans rk sm g.same,λs hs h1 =>?_,λs hs h1 =>?_,s1.trans s2⟩
  ·rcases Nat.lt_or_ge s a with h2 | h2
   ·have h3:=pK hs hda h2
    exact fF.congr rk (p1 s hs h2) λt t1 t2=>g.out t (.inl (by omega))
   ·rcases Nat.lt_or_ge a s with h4 | h4
    ·have:=pK hda hs h4;omega
    ·have:s=a:=by omega
     subst this;exact o
  ·exact fF.congr rk (p2 s hs (by omega)) λt t1 t2=>g.out t (.inr (by omega))
theorem aIQ(hE:aX E)(he:fO 3 enc)(hC:jF E fv enc (ltK rk)){H:AH}{Q:Value->AH->Prop}{d:Array α}(hg:H.get b=fX enc d tail f)(hn:d.size=n)(hsz:n<2 ^ 40)(hb:aMQ rk d 20 n)(hQ:∀ d' H',d'.size=n->dE rk d.toList d'.toList->fF rk d' 0 n->bC H b enc tail f d' H'->Q (.tuple #[]) H'):
  lp4 (F.f130_l2 E Q) [slc b 0 n c,vi n,fv,vi 20] H:=by
 refine aZ.ind (λw ls H'=>∃ (B:Nat) (d1:Array α),w=n - B/\ls=[slc b 0 n c,vi n,fv,vi B]/\0<B/\d1.size=n/\dE rk d.toList d1.toList/\aMQ rk d1 B n/\bC H b enc tail f d1 H') ?_ (n - 20) ⟨20,d,rfl,rfl,by omega,hn,dE.refl rk _,hb,.refl hg⟩
 rintro w _ H1 X0 ih ⟨B,d1,rfl,rfl,hB,n1,sm,p1,s1⟩;rcases Nat.lt_or_ge B n with hlt | hge
 ·have hlt':decide ((B:Int)<n)=true:=decide_eq_true (by omega)
  have m1:aA .mul (vi 2) (vi (B:Int))=some (vi ((2*B:Nat):Int)):=by rw[kD (by omega) (by omega)];congr 2
  simp only[F.f130_l2,aF,hlt',m1,aC];exact aIg hE he hC s1.get n1 hsz hB hlt p1 λd2 H2 n2 sm2 b2 s2=>ih (n - 2*B) (by omega) _ _ ⟨2*B,d2,rfl,rfl,by omega,n2,dE.trans rk sm sm2,b2,s1.trans s2⟩
 ·have hlt':decide ((B:Int)<n)=false:=decide_eq_false (by omega)
  have o:=p1 0 ⟨0,rfl⟩;rw[Nat.zero_add,Nat.min_eq_right hge]at o;simp only[F.f130_l2,aF,hlt',aC];exact hQ d1 H1 n1 sm o s1
theorem S.slices_SortStableFunc(hE:aX E)(he:fO 3 enc)(hC:jF E fv enc (ltK rk)){H:AH}{Q:Value->AH->Prop}{d:Array α}(hg:H.get b=fX enc d tail f)(hn:d.size=n)(hsz:n<2 ^ 40)(hQ:∀ d' H',d'.size=n->dE rk d.toList d'.toList->fF rk d' 0 n->bC H b enc tail f d' H'->Q (.tuple #[]) H'):E.call 62 [slc b 0 n c,fv] H Q:=by
 apply hE.f113;simp only[F.f113,nR,aC];apply hE.f130;simp only[F.f130,aC]
 refine aZ.ind (λw ls H'=>∃ (a:Nat) (d1:Array α),w=n - a/\ls=[slc b 0 n c,vi n,fv,vi 20,vi a,vi ((a+20:Nat):Int)]/\a<=n/\20 ∣ a/\d1.size=n/\dE rk d.toList d1.toList/\(∀ s,20 ∣ s->s<a->fF rk d1 s (s+20))/\bC H b enc tail f d1 H') ?_ n
  ⟨0,d,rfl,rfl,Nat.zero_le _,⟨0,rfl⟩,hn,dE.refl rk _,λs _ h=>by omega,.refl hg⟩
 rintro w _ H1 X0 ih ⟨a,d1,rfl,rfl,han,hda,n1,sm,p1,s1⟩
 have ins:∀ e,a<=e->e<=n->Mrg rk a e d1 (insertionSort (ltK rk) d1 a e)/\fF rk (insertionSort (ltK rk) d1 a e) a e:=λe h1 h2=>by
  obtain⟨q1,q2⟩:=Go.Sort.insertionSort_holds (aHl rk) d1 a e h1 (by omega)
  exact⟨⟨q1.1,q1.2.1,λt t1 t2=>Go.Sort.permIn_all d1 _ a e (λx=>∃ s,a<=s/\s<e/\x=d1[s]!) (by omega) q1 (λi i1 i2=>⟨i,i1,i2,rfl⟩) t t1 t2,oN rk d1 a e (by omega)⟩,fF.of rk q2⟩
 rcases Nat.lt_or_ge n (a+20) with hgt | hle
 ·have hle':decide (((a+20:Nat):Int)<=n)=false:=decide_eq_false (by omega)
  obtain⟨g,o⟩:=ins n han (Nat.le_refl _);simp only[F.f130_l1,cS,hle',aC];refine S.f118 hE he hC s1.get n1 (by omega) a n han (Nat.le_refl _) λH2 s2 =>?_
  refine aIQ hE he hC s2.get (by rw[g.size];exact n1) hsz (λs hs =>?_) λd3 H3 n3 sm3 o3 s3=>hQ d3 H3 n3 (dE.trans rk sm (dE.trans rk g.same sm3)) o3 ((s1.trans s2).trans s3)
  rcases Nat.lt_or_ge s a with h1 | h1
  ·have h2:=pK hs hda h1
   rw[Nat.min_eq_left (by omega)]
   exact fF.congr rk (p1 s hs h1) λt t1 t2=>g.out t (.inl (by omega))
  ·rcases Nat.lt_or_ge a s with h2 | h2
   ·have h3:=pK hda hs h2
    exact fF.small rk _ (by omega)
   ·have:s=a:=by omega
    subst this;rw[Nat.min_eq_right (by omega)]
    exact o
 ·have hle':decide (((a+20:Nat):Int)<=n)=true:=decide_eq_true (by omega)
  obtain⟨g,o⟩:=ins (a+20) (by omega) hle
  have a2:aA .add (vi ((a+20:Nat):Int)) (vi 20)=some (vi ((a+20+20:Nat):Int)):=bW (a+20) 20 (by omega)
  simp only[F.f130_l1,cS,hle',aC];refine S.f118 hE he hC s1.get n1 (by omega) a (a+20) (by omega) hle λH2 s2 =>?_
  simp only[a2,aC];refine ih (n - (a+20)) (by omega) _ _ ⟨a+20,_,rfl,rfl,hle,(Nat.dvd_add_right hda).2 (Nat.dvd_refl _),by rw[g.size];exact n1,dE.trans rk sm g.same,λs hs h1 =>?_,s1.trans s2⟩
  rcases Nat.lt_or_ge s a with h2 | h2
  ·have h3:=pK hs hda h2
   exact fF.congr rk (p1 s hs h2) λt t1 t2=>g.out t (.inl (by omega))
  ·have:s=a:=by
    rcases Nat.lt_or_ge a s with h4 | h4
    ·have:=pK hda hs h4;omega
    ·omega
   subst this;exact o
theorem aEt{d:Array α}(h:fF rk d 0 d.size):d.toList.Pairwise λx y=>rk x<=rk y:=by
 rw[List.pairwise_iff_getElem];intro i j hi hj hij;have hi':i<d.size:=by simpa using hi
 have hj':j<d.size:=by simpa using hj
 have:=h i j (Nat.zero_le _) (Nat.le_of_lt hij) hj';rw[getElem!_pos d i hi',getElem!_pos d j hj']at this
 simpa only[Array.getElem_toList] using this
end
theorem aGe{E:Sy}(hE:aX E)(m:Nat)(hm:m<2 ^ 40):jP E m:=fun {H Q b c d tail f} hg hmd hQ=>by
 refine S.slices_SortStableFunc hE qC (aC5 hE) hg rfl (by omega) λd' H' n1 sm o s=>hQ _ _ ?_ s
 rw[<- n1]at o;exact aDh rkR sm (aEt o) λx _=>aMr x
end
section
instance:Inhabited dI:=⟨⟨0,0,[]⟩⟩
end
section
open Go.Sort
set_option maxRecDepth 20000
section
variable {α:Type}[Inhabited α]{E:Sy}{H H':AH}{Q:Value->AH->Prop}{b c n:Nat}{enc:α->List Value}{LT:α->α->Bool}{fv:Value}{d:Array α}{tail:List Value}{f:Option Nat}
theorem S.f129(hE:aX E)(he:fO 2 enc)(hC:jF E fv enc LT)(hg:H.get b=fX enc d tail f)(hn:d.size=n)(hsz:n<2 ^ 60)(lo hi first:Nat)(hlo:lo<=n)(hf:first+hi<=n)(hQ:∀ H',bC H b enc tail f (siftDown LT hi first lo d) H'->Q (.tuple #[]) H'):E.call 136 [slc b 0 n c,vi lo,vi hi,vi first,fv] H Q:=by
 apply hE.f129;simp only[F.f129,aC];obtain⟨R,hR⟩:∃ R,R=siftDown LT hi first lo d:=⟨_,rfl⟩
 rw[<- hR]at hQ;refine aZ.ind (λm l H'=>∃ (r:Nat) (d':Array α),l=[slc b 0 n c,vi hi,vi first,fv,vi r]/\bC H b enc tail f d' H'/\d'.size=n/\R=siftDown LT hi first r d'/\r<=n/\m=hi - r) ?_ (hi - lo) ⟨lo,d,rfl,.refl hg,hn,hR,hlo,rfl⟩
 rintro m _ H1 X hX ⟨r,d1,rfl,s1,n1,r1,hr,rfl⟩;have a1:=aMP r (by omega)
 have a2:=cN (2*r) (by omega)
 have a3:=cN (2*r+1) (by omega)
 have step:∀ (ch:Nat) (H2:AH),bC H b enc tail f d1 H2->r<ch->ch<hi->R=(if !LT d1[first+r]! d1[first+ch]! then d1 else siftDown LT hi first ch (swp d1 (first+r) (first+ch)))->F.f129_j1 E Q X (slc b 0 n c) (vi hi) (vi first) fv (vi r) (vi ch) H2:=by
  intro ch H2 s2 h1 h2 hR';have b1:=bW first r (by omega)
  have b2:=bW first ch (by omega)
  have f1:=bU (sz:=2) (b:=b) (c:=c) (n:=n) (i:=first+r) (by omega)
  have f2:=bU (sz:=2) (b:=b) (c:=c) (n:=n) (i:=first+ch) (by omega)
  have g1:=aM he s2.get (i:=first+r) (by omega)
  have g2:=aM he s2.get (i:=first+ch) (by omega)
  have hp1:first+r<n:=by omega
  have hp2:first+ch<n:=by omega
  generalize hp:first+r=p at *
  generalize hq:first+ch=q at *
  simp only[F.f129_j1,b1,b2,f1,f2,g1,g2,aC];refine hC _ _ _ _ λz H3 e3 hz =>?_;have s3:=s2.ext e3;have g1:=aM he s3.get (i:=p) (by omega)
  have g2:=aM he s3.get (i:=q) (by omega)
  obtain⟨w1,w2⟩:=eV he s3.get (i:=p) (j:=q) (by omega) (by omega)
  cases hl:LT d1[p]! d1[q]! with
  | true =>
   simp only[hl,Bool.not_true,Bool.false_eq_true,if_false]at hR';simp only[aF,hz,hl,bX,Bool.not_true,b1,b2,f1,f2,g1,g2,w1,w2,aC];exact hX (hi - ch) (by omega) _ _ ⟨ch,_,rfl,s3.put _,by rw[size_swp];exact n1,hR',by omega,rfl⟩
  | false =>
   simp only[hl,Bool.not_false,if_true]at hR';subst hR';simp only[aF,hz,hl,bX,Bool.not_false,aC];exact hQ _ s3
 rw[siftDown]at r1
 by_cases c1:2*r+1>=hi
 ·rw[dif_pos c1]at r1
  subst r1;have c1':decide ((hi:Int)<=((2*r+1:Nat):Int))=true:=decide_eq_true (by omega)
  generalize 2*r+1=ch at *;generalize 2*r=rr at *;simp only[F.f129_l1,a1,a2,dW,c1',aC];exact hQ _ s1
 rw[dif_neg c1]at r1;have c1':decide ((hi:Int)<=((2*r+1:Nat):Int))=false:=decide_eq_false (by omega)
 have b1:=bW first (2*r+1) (by omega)
 have b2:=cN (first+(2*r+1)) (by omega)
 by_cases c2:2*r+1+1<hi
 ·have c2':decide (((2*r+1+1:Nat):Int)<hi)=true:=decide_eq_true (by omega)
  have f1:=bU (sz:=2) (b:=b) (c:=c) (n:=n) (i:=first+(2*r+1)) (by omega)
  have f2:=bU (sz:=2) (b:=b) (c:=c) (n:=n) (i:=first+(2*r+1)+1) (by omega)
  have g1:=aM he s1.get (i:=first+(2*r+1)) (by omega)
  have g2:=aM he s1.get (i:=first+(2*r+1)+1) (by omega)
  have st1:=λH2 s2=>step (2*r+1) H2 s2 (by omega) (by omega)
  have st2:=λH2 s2=>step (2*r+1+1) H2 s2 (by omega) c2
  rw[dif_pos (by omega:2*r+2<hi)]at r1
  simp only[c2,decide_true,Bool.true_and]at r1;rw[show 2*r+2=2*r+1+1 by omega]at r1
  generalize hq2:first+(2*r+1)+1=q2 at *
  generalize hq:first+(2*r+1)=q at *
  generalize hc2:2*r+1+1=ch2 at *;generalize hc1:2*r+1=ch at *;generalize 2*r=rr at *;simp only[F.f129_l1,a1,a2,a3,dW,aF,c1',c2',b1,b2,f1,f2,g1,g2,aC];refine hC _ _ _ _ λz H3 e3 hz =>?_;have s3:=s1.ext e3;cases hl:LT d1[q]! d1[q2]! with
  | true =>
   simp only[hl,if_true]at r1;simp only[aF,hz,hl,a3,aC];exact st2 _ s3 r1
  | false =>
   simp only[hl,if_false,Bool.false_eq_true]at r1;simp only[aF,hz,hl,aC];exact st1 _ s3 r1
 ·have c2':decide (((2*r+1+1:Nat):Int)<hi)=false:=decide_eq_false (by omega)
  have st1:=step (2*r+1) _ s1 (by omega) (by omega)
  simp only[c2,decide_false,Bool.false_and,Bool.false_eq_true,if_false]at r1;generalize hc2:2*r+1+1=ch2 at *;generalize hc1:2*r+1=ch at *;generalize 2*r=rr at *;simp only[F.f129_l1,a1,a2,a3,dW,aF,c1',c2',aC];exact st1 r1
theorem lO(hi first r:Nat)(d:Array α):(siftDown LT hi first r d).size=d.size:=by
 obtain⟨m,hm⟩:∃ m,hi - r<=m:=⟨_,Nat.le_refl _⟩
 induction m generalizing r d with
 | zero =>
  rw[siftDown,dif_pos (by omega)]
 | succ m ih =>
  rw[siftDown]
  split
  ·rfl
  ·split
   ·split
    ·rfl
    ·split
     ·rw[ih _ _ (by omega),size_swp]
     ·rfl
   ·split
    ·rfl
    ·rw[ih _ _ (by omega),size_swp]
theorem S.f116(hE:aX E)(he:fO 2 enc)(hC:jF E fv enc LT)(hg:H.get b=fX enc d tail f)(hn:d.size=n)(hsz:n<2 ^ 60)(a e:Nat)(hae:a<e)(hle:e<=n)(hQ:∀ H',bC H b enc tail f (heapSort LT d a e) H'->Q (.tuple #[]) H'):E.call 120 [slc b 0 n c,vi a,vi e,fv] H Q:=by
 apply hE.f116;have a1:=bZ e a (by omega) (by omega)
 have a2:=eH (e - a) (by omega) (by omega)
 have a3:=mQ (e - a - 1) 2 (by decide) (by omega)
 unfold heapSort at hQ;have a1':aA .sub (vi e) (vi a)=some (vi ((e - a:Nat):Int)):=a1;generalize hw:e - a=w at *;have a3':aA .quo (vi ((w - 1:Nat):Int)) (vi 2)=some (vi (((w - 1) / 2:Nat):Int)):=a3;generalize hw1:w - 1=w1 at *;generalize hh:w1 / 2=h2 at *;have hh2:h2<=w1:=by rw[<- hh];exact Nat.div_le_self _ _
 simp only[F.f116,a1',a2,a3',aC];obtain⟨R,hR⟩:∃ R,R=heapPop LT a w (heapBuild LT w a (h2+1) d):=⟨_,rfl⟩;rw[<- hR]at hQ;refine aZ.ind (λm l H'=>∃ (k:Nat) (d':Array α),l=[slc b 0 n c,fv,vi a,vi 0,vi w,vi ((k:Int) - 1)]/\bC H b enc tail f d' H'/\d'.size=n/\R=heapPop LT a w (heapBuild LT w a k d')/\k<=w/\m=k) ?_ (h2+1) ⟨h2+1,d,by simp,.refl hg,hn,hR,by omega,rfl⟩
 rintro m _ H1 X hX ⟨k,d1,rfl,s1,n1,r1,hk,rfl⟩;cases m with
 | succ k =>
  have e1:((k+1:Nat):Int) - 1=(k:Int):=by omega
  have hd:aA .sub (vi k) (vi 1)=some (vi ((k:Int) - 1)):=iF (by omega) (by omega)
  have c0:decide ((0:Int)<=(k:Int))=true:=decide_eq_true (by omega)
  rw[e1];simp only[F.f116_l1,dW,c0,aC];refine S.f129 hE he hC s1.get n1 hsz k w a (by omega) (by omega) λH2 s2 =>?_
  simp only[hd,aC];exact hX k (by omega) _ _ ⟨k,_,rfl,s1.trans s2,by rw[lO];exact n1,by rw[r1];rfl,by omega,rfl⟩
 | zero =>
  have hd:aA .sub (vi w) (vi 1)=some (vi ((w:Int) - 1)):=iF (by omega) (by omega)
  have c0:decide ((0:Int)<=((0:Nat):Int) - 1)=false:=by decide
  simp only[F.f116_l1,dW,c0,hd,aC];clear hX;refine aZ.ind (λm l H'=>∃ (k:Nat) (d':Array α),l=[slc b 0 n c,fv,vi a,vi 0,vi ((k:Int) - 1)]/\bC H b enc tail f d' H'/\d'.size=n/\R=heapPop LT a k d'/\k<=w/\m=k) ?_ w ⟨w,d1,rfl,s1,n1,r1,Nat.le_refl _,rfl⟩;rintro m _ H2 X hX ⟨k,d2,rfl,s2,n2,r2,hk,rfl⟩;cases m with
  | succ k =>
   have e1:((k+1:Nat):Int) - 1=(k:Int):=by omega
   have hd:aA .sub (vi k) (vi 1)=some (vi ((k:Int) - 1)):=iF (by omega) (by omega)
   have b1:=bW a k (by omega)
   have f1:=bU (sz:=2) (b:=b) (c:=c) (n:=n) (i:=a) (by omega)
   have f2:=bU (sz:=2) (b:=b) (c:=c) (n:=n) (i:=a+k) (by omega)
   have g1:=aM he s2.get (i:=a) (by omega)
   have g2:=aM he s2.get (i:=a+k) (by omega)
   obtain⟨w1,w2⟩:=eV he s2.get (i:=a) (j:=a+k) (by omega) (by omega)
   have c0:decide ((0:Int)<=(k:Int))=true:=decide_eq_true (by omega)
   rw[e1];rw[heapPop]at r2;generalize hq:a+k=q at *;simp only[F.f116_l2,dW,c0,b1,f1,f2,g1,g2,w1,w2,aC];have s3:=s2.put (swp d2 a q);refine S.f129 hE he hC s3.get (by rw[size_swp];exact n2) hsz 0 k a (by omega) (by omega) λH3 s4 =>?_
   simp only[hd,aC];exact hX k (by omega) _ _ ⟨k,_,rfl,s3.trans s4,by rw[lO,size_swp];exact n2,r2,by omega,rfl⟩
  | zero =>
   have c0:decide ((0:Int)<=((0:Nat):Int) - 1)=false:=by decide
   simp only[F.f116_l2,dW,c0,aC];rw[heapPop]at r2;subst r2;exact hQ _ s2
theorem S.f127(hE:aX E)(he:fO 2 enc)(hg:H.get b=fX enc d tail f)(hn:d.size=n)(hsz:n<2 ^ 60)(a e:Nat)(hae:a<e)(hle:e<=n)(hQ:∀ H',bC H b enc tail f (reverseRange d a e) H'->Q (.tuple #[]) H'):E.call 123 [slc b 0 n c,vi a,vi e,fv] H Q:=by
 apply hE.f127;have a1:=eH e (by omega) (by omega)
 unfold reverseRange at hQ;simp only[F.f127,a1,aC];obtain⟨R,hR⟩:∃ R,R=reverseLoop a (e - 1) d:=⟨_,rfl⟩;rw[<- hR]at hQ;refine aZ.ind (λm l H'=>∃ (p q:Nat) (d':Array α),l=[slc b 0 n c,vi p,vi q]/\bC H b enc tail f d' H'/\d'.size=n/\R=reverseLoop p q d'/\p<=n/\q<n/\m=q - p) ?_ (e - 1 - a) ⟨a,e - 1,d,rfl,.refl hg,hn,hR,by omega,by omega,rfl⟩
 rintro m _ H1 X hX ⟨p,q,d1,rfl,s1,n1,r1,hp,hq,rfl⟩;rw[reverseLoop]at r1
 by_cases h:p<q
 ·rw[if_pos h]at r1
  have h':decide ((p:Int)<q)=true:=decide_eq_true (by omega)
  have f1:=bU (sz:=2) (b:=b) (c:=c) (n:=n) (i:=p) (by omega)
  have f2:=bU (sz:=2) (b:=b) (c:=c) (n:=n) (i:=q) (by omega)
  have g1:=aM he s1.get (i:=p) (by omega)
  have g2:=aM he s1.get (i:=q) (by omega)
  obtain⟨w1,w2⟩:=eV he s1.get (i:=p) (j:=q) (by omega) (by omega)
  have b1:=cN p (by omega)
  have b2:=eH q (by omega) (by omega)
  simp only[F.f127_l1,aF,h',f1,f2,g1,g2,w1,w2,b1,b2,aC];exact hX (q - 1 - (p+1)) (by omega) _ _ ⟨p+1,q - 1,_,rfl,s1.put _,by rw[size_swp];exact n1,r1,by omega,by omega,rfl⟩
 ·rw[if_neg h]at r1
  subst r1;have h':decide ((p:Int)<q)=false:=decide_eq_false (by omega)
  simp only[F.f127_l1,aF,h',aC];exact hQ _ s1
end
end
end Go.AM
