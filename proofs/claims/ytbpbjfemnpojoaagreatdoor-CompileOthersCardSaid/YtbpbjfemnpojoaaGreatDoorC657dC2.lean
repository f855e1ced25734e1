/- CONTRACTS ON THE PRINTED FUNCTIONS. -/
import Derived.Test.YtbpbjfemnpojoaaGreatDoorC657dC1
set_option linter.all false
namespace Go.AM
section
set_option maxRecDepth 20000
def aNf:lF:=⟨2147418112#32,[]⟩
def aHq:jS:=⟨[],2147418112#32⟩
def aB5:List aG:=dH (hU aHq).parts none
def aJ6:List aG:=qB (aB5.length+1) aB5
def aAi:List bL:=[⟨32#16,0#8,0#8,4#32⟩,⟨21#16,0#8,2#8,3221225534#32⟩,⟨32#16,0#8,0#8,0#32⟩,⟨6#16,0#8,0#8,2147418112#32⟩,⟨6#16,0#8,0#8,2147483648#32⟩]
def aNT:List bL:=[⟨32#16,0#8,0#8,4#32⟩,⟨21#16,0#8,3#8,3221225534#32⟩,⟨32#16,0#8,0#8,0#32⟩,⟨5#16,0#8,0#8,0#32⟩,⟨6#16,0#8,0#8,2147418112#32⟩,⟨6#16,0#8,0#8,2147483648#32⟩]
def aLj(x:Int ⊕ MkD)(c:List bL):Bool:=match x with
 | .inl _=>false
 | .inr s=>decide (s.out=c)
theorem aCZ{x:Int ⊕ MkD}{c:List bL}(h:aLj x c=true):∃ s,x = .inr s/\s.out=c:=by
 cases x with
 | inl e=>cases h
 | inr s=>exact⟨s,rfl,of_decide_eq_true h⟩
theorem aPz:aLj (eG aJ6) aAi=true:=by decide +kernel
theorem aPL:aLj (eG aB5) aNT=true:=by decide +kernel
theorem aP7:(hU aHq).parts.length<100:=by decide +kernel
theorem aQe:aB5.length<100:=by decide +kernel
theorem aQl:aJ6.length<100:=by decide +kernel
theorem aJY:iK aAi:=by
 have h0:iK []:=λk hk=>by simp at hk
 have h1:=uD (x:=⟨6#16,0#8,0#8,2147483648#32⟩) (.inr (.inr (.inr (.inr (.inr (.inr rfl)))))) h0;have h2:=uD (x:=⟨6#16,0#8,0#8,2147418112#32⟩) (.inr (.inr (.inr (.inr (.inr (.inr rfl)))))) h1;have h3:=uD (x:=⟨32#16,0#8,0#8,0#32⟩) (.inl ⟨rfl,by decide,by decide⟩) h2
 have h4:=uD (x:=⟨21#16,0#8,2#8,3221225534#32⟩) (.inr (.inr (.inr (.inl ⟨rfl,by decide,by decide⟩)))) h3
 exact uD (x:=⟨32#16,0#8,0#8,4#32⟩) (.inl ⟨rfl,by decide,by decide⟩) h4
theorem aIl:wW aAi:=⟨by decide,rfl⟩
section
variable {E:Sy}{H H' H0 Z:AH}{Q:Value->AH->Prop}
theorem aOo:aGc H aNf pc0:=⟨(by decide:(0:Nat)<2 ^ 63),_,_,_,_,_,rfl,[],Rows.nil _ _ none,rfl,λi h=>by simp[aNf]at h⟩
theorem aPK{ns:List (BitVec 32)}(h:wD aNf ns):ns=[]:=by
 apply List.eq_nil_iff_forall_not_mem.2;intro n hn;obtain⟨r,hr,_⟩:=(h.mem n).1 hn;cases hr
theorem S.compile_Insns_0(hE:aW E)(t:Nat)(hQ:∀ w H',Ext H H'->Rows H' 4 w (cJ aAi)->Q (.tuple #[w,vi 0]) H'):E.call 12 [.agg pc0.toArray,ptr t 0] H Q:=by
 apply hE.f11;have b1:=AH.get_new_self H (.cells pc0 none);have x1:Ext H (H.new (.cells pc0 none)):=(Ext.refl _).new _;have lo:∀ {K:AH},Ext (H.new (.cells pc0 none)) K->aE 6 (ptr H.next 0) K=some (.agg pc0.toArray):=λe=>by rw[aL,e.cells b1];rfl
 have g4:aA .neq (vi 0) (vi 0)=some (vb false):=rfl;have g5:aA .eql (vi 0) (vi 0)=some (vb true):=rfl;simp only[F.f11,aX,AM.aT,aR,List.toList_toArray,lo (Ext.refl _),aB];generalize H.new (.cells pc0 none)=H1 at *;generalize H.next=t1 at *;refine S.policy_Policy_Check_0 hE t λH2 e2 =>?_;have lo2:=lo e2;simp only[g4,lo2,aB];have hSC:rM E 12:=aHk hE;have hSR:pM E 12:=λhg hm hQ=>aGl hE hg (by omega) hQ
 refine S.f27 hE (sm:=12) (by decide) hSC hSR aNf pc0 aOo (by decide) (λr hr=>by cases hr) λns pl H3 e3 hns hpl =>?_
 have hn:=aPK hns;subst hn;have hpl:sQ H3 aHq pl:=hpl;refine S.f53 hE aHq pl hpl (by decide) λpv H4 e4 hpv =>?_
 have l0:=aP7;refine S.f12 hE hpv (by omega) λpw H5 e5 hpw =>?_
 have hpw:Rows H5 7 pw (bH aB5):=hpw;have lp:=aQe;refine S.f43 hE hpw (by omega) λtw H6 e6 htw =>?_
 have htw:Rows H6 7 tw (bH aJ6):=htw;have lt:=aQl;obtain⟨s5,m5,o5⟩:=aCZ aPz;obtain⟨s6,m6,o6⟩:=aCZ aPL;refine S.f42 hE htw (by omega) λH7 e7=>⟨λe he=>(by rw[m5]at he;cases he),λs w hs hw =>?_⟩
 rw[m5]at hs;cases hs;rw[o5]at hw;simp only[aB];refine S.f42 hE (hpw.mono (e6.trans e7)) (by omega) λH8 e8=>⟨λe he=>(by rw[m6]at he;cases he),λs w6 hs hw6 =>?_⟩
 rw[m6]at hs;cases hs;rw[o6]at hw6;have hl5:=(hw.mono e8).lenSlc;have hl6:=hw6.lenSlc;have n5:(cJ aAi).length=5:=rfl;have n6:(cJ aNT).length=6:=rfl;rw[n5]at hl5;rw[n6]at hl6;have hlt:aA .lss (vi ((6:Nat):Int)) (vi ((5:Nat):Int))=some (vb false):=rfl;simp only[g4,g5,hl5,hl6,hlt,aB];exact hQ w _ ((((((((x1.trans e2).trans e3).trans e4).trans e5).trans e6).trans e7).trans e8)) (hw.mono e8)
theorem S.compile_Filter_0(hE:aW E)(t:Nat)(hQ:∀ fb H0 H',Ext H H0->Fil H0 H0 H' fb aAi []->Q (.tuple #[ptr fb 0,vi 0]) H'):E.call 8 [.agg pc0.toArray,ptr t 0] H Q:=by
 apply hE.f10;have b1:=AH.get_new_self H (.cells pc0 none);have x1:Ext H (H.new (.cells pc0 none)):=(Ext.refl _).new _;have lo:aE 6 (ptr H.next 0) (H.new (.cells pc0 none))=some (.agg pc0.toArray):=by rw[aL,b1];rfl
 have g4:aA .neq (vi 0) (vi 0)=some (vb false):=rfl;simp only[F.f10,aX,AM.aT,aR,List.toList_toArray,lo,aB];generalize H.new (.cells pc0 none)=H1 at *;refine S.compile_Insns_0 hE t λw H2 e2 hw =>?_;simp only[g4,aB];refine S.f133 hE hw aJY aIl (by decide) λfb H3 g3 =>?_
 have s3:aI 2 (ptr H3.next 0) (.agg #[vi 0,vi 0]) (H3.new (.cells [vi 0,vi 0] none))=some (H3.new (.cells [vi 0,vi 0] none)):=tJ (n:=2) rfl rfl rfl;have l3:aE 2 (ptr H3.next 0) (H3.new (.cells [vi 0,vi 0] none))=some (.agg #[vi 0,vi 0]):=rK (c:=[vi 0,vi 0]) rfl;have hbv0:aK [(0,1),(1,1)] #[vi 0,vi 0] []=some (.agg #[vi 0,vi 0]):=rfl;have hne:jM [0,0] .neq (.agg #[vi 0,vi 0]) (.agg #[vi 0,vi 0])=some (vb false):=rfl;simp only[bE,s3,l3,hbv0,hne,aB];exact hQ fb H2 _ (x1.trans e2) (g3.grow ((Ext.refl H3).new _))
theorem S.f77(hE:aW E)(hQ:∀ H',Ext H H'->Q (vb true) H'):E.call 5 [] H Q:=by
 apply hE.f77;have hbv:aK [(0,1),(1,1),(2,1),(3,1),(4,1),(5,1)] #[(.string ⟨#[]⟩),(.int .u32 0),(.slice none 0 0),(.int .u16 0),(.slice none 0 0),(.slice none 0 0)] [(0,(.string ⟨#[112]⟩)),(1,(.int .u32 2147418112))]=some (.agg pc0.toArray):=rfl;simp only[F.f77,hbv,aB];apply hE.f64;have hbv2:aK [(0,3),(3,1),(4,1),(5,1),(6,1)] #[(.int .u32 0),(.int .i32 0),(.int .u32 0),(.map none),(.map none),vi 0,vi 0] []=some (.agg [(.int .u32 0),(.int .i32 0),(.int .u32 0),(.map none),(.map none),vi 0,vi 0].toArray):=rfl;simp only[F.f64,hbv2,aX,AM.aT,aR,List.toList_toArray,aB];have x1:Ext H (H.new (.cells [(.int .u32 0),(.int .i32 0),(.int .u32 0),(.map none),(.map none),vi 0,vi 0] none)):=(Ext.refl _).new _;generalize H.new (.cells [(.int .u32 0),(.int .i32 0),(.int .u32 0),(.map none),(.map none),vi 0,vi 0] none)=H1 at *;refine S.compile_Filter_0 hE _ λfb H0 H2 e0 g2 =>?_;have g5:aA .eql (vi 0) (vi 0)=some (vb true):=rfl;simp only[g5,aB];apply hE.f131;obtain⟨lv,n1,n2,g⟩:=id g2;have hb:=g.box (k:=0) (b:=fb) (c:=[lv,vi n1,vi n2]) rfl;have hl:=(g.rows (k:=1) (sz:=4) (v:=lv) (rows:=cJ aAi) rfl).lenSlc;have n5:(cJ aAi).length=5:=rfl;rw[n5]at hl;have g6:aA .eql (vi ((5:Nat):Int)) (vi 5)=some (vb true):=rfl;simp only[F.f131,kL,hb,hl,g6,aB];exact hQ _ ((x1.trans e0).trans g2.ext)
end
end
section
set_option maxRecDepth 20000
def wf1(p:aG)(h:List Int):Prop:=(p.kind=1#8->p.to ∉ h)/\(p.kind=4#8->p.to∈h)/\(p.kind=3#8->p.to∈h/\p.els∈h)
theorem pY{p:aG}{l:List aG}:wfL (p :: l)↔wf1 p (bQ l)/\wfL l:=by
 constructor
 ·exact λh=>⟨h [] p l rfl,h.tail⟩
 ·rintro⟨h1,h2⟩ a q b e
  cases a with
  | nil =>
   simp only[List.nil_append,List.cons.injEq]at e;obtain⟨rfl,rfl⟩:=e;exact h1
  | cons x a =>
   simp only[List.cons_append,List.cons.injEq]at e;exact h2 a q b e.2
theorem aC8{p:aG}(h:p.kind=2#8)(l:List Int):wf1 p l:=⟨λk=>by rw[h]at k;exact absurd k (by decide),λk=>by rw[h]at k;exact absurd k (by decide),λk=>by rw[h]at k;exact absurd k (by decide)⟩
theorem tL{p:aG}(h:p.kind=2#8)(l:List aG):bQ (p :: l)=bQ l:=by rw[eW,if_neg (by rw[h];decide)]
theorem rE:∀ (l:List aG) (now:Option (BitVec 32)),(∀ p∈l,dK p)->bQ (dH l now)=bQ l
 | [],_,_=>rfl
 | p :: l,now,hp=>by
  have ih:=λn=>rE l n λq hq=>hp q (List.mem_cons_of_mem _ hq);rcases iY (hp p (List.mem_cons_self ..)) with h1 | h2 | h3 | h4
  ·rw[zO h1,eW,eW,ih]
  ·rw[tL h2]
   cases hld:nV p with
   | true =>
    rw[zE hld]
    split
    ·exact ih _
    ·rw[tL h2];exact ih _
   | false=>rw[qN h2 hld,tL h2];exact ih _
  ·rw[nC (by rw[h3];decide) (by rw[h3];decide),eW,eW,ih]
  ·rw[nC (by rw[h4];decide) (by rw[h4];decide),eW,eW,ih]
theorem aHz:∀ {l:List aG} (now:Option (BitVec 32)),(∀ p∈l,dK p)->wfL l->wfL (dH l now)
 | [],_,_,h=>h
 | p :: l,now,hp,h=>by
  have hl:∀ q∈l,dK q:=λq hq=>hp q (List.mem_cons_of_mem _ hq);have h1:=pY.1 h;have ih:=λn=>aHz (l:=l) n hl h1.2;rcases iY (hp p (List.mem_cons_self ..)) with k1 | k2 | k3 | k4
  ·rw[zO k1];exact pY.2 ⟨by rw[rE _ _ hl];exact h1.1,ih _⟩
  ·cases hld:nV p with
   | true =>
    rw[zE hld]
    split
    ·exact ih _
    ·exact pY.2 ⟨aC8 k2 _,ih _⟩
   | false=>rw[qN k2 hld];exact pY.2 ⟨aC8 k2 _,ih _⟩
  ·rw[nC (by rw[k3];decide) (by rw[k3];decide)];exact pY.2 ⟨by rw[rE _ _ hl];exact h1.1,ih _⟩
  ·rw[nC (by rw[k4];decide) (by rw[k4];decide)];exact pY.2 ⟨by rw[rE _ _ hl];exact h1.1,ih _⟩
theorem aBK:∀ {l:List aG} {now:Option (BitVec 32)} {p:aG},p∈dH l now->p∈l
 | [],_,_,h=>by cases h
 | q :: l,now,p,h=>by
  unfold dH at h
  have key:∀ {n},p∈q :: dH l n->p∈q :: l:=λh=>by
   rcases List.mem_cons.1 h with h | h
   ·rw[h];exact List.mem_cons_self ..
   ·exact List.mem_cons_of_mem _ (aBK h)
  split at h
  ·exact key h
  ·split at h
   ·split at h
    ·exact List.mem_cons_of_mem _ (aBK h)
    ·exact key h
   ·split at h
    ·exact key h
    ·exact key h
end
section
set_option maxRecDepth 20000
def iO(b:Int->Beh)(r:aU):List aG->Beh
 | []=>aKg
 | p :: l=>if p.kind=1#8 then iO b r l
  else if p.kind=4#8 then b p.to
  else if p.kind=3#8 then λa=>if mT p.insn a=true then b p.to a else b p.els a
  else λa=>match (cH r p.insn a).2.2 with
   | some o=>o
   | none=>iO b r l (cH r p.insn a).1
def AtB(b:Int->Beh)(r:aU)(L:List aG):Prop:=∀ a p c,L=a++p :: c->p.kind=1#8->b p.to=iO b r c
theorem AtB.tail{b:Int->Beh}{r:aU}{p:aG}{L:List aG}(h:AtB b r (p :: L)):AtB b r L:=λa q c e=>h (p :: a) q c (by rw[e];rfl)
theorem AtB.drop{b:Int->Beh}{r:aU}:∀ (a:List aG) {L:List aG},AtB b r (a++L)->AtB b r L
 | [],_,h=>h
 | p :: a,_,h=>AtB.drop a (AtB.tail (p:=p) h)
theorem iP{b:Int->Beh}{r:aU}{p:aG}(h:p.kind=1#8)(l:List aG):iO b r (p :: l)=iO b r l:=by
 simp only[iO];rw[if_pos h]
theorem jX{b:Int->Beh}{r:aU}{p:aG}(h:p.kind=4#8)(l:List aG):iO b r (p :: l)=b p.to:=by
 simp only[iO];rw[if_neg (by rw[h];decide),if_pos h]
theorem qC{b:Int->Beh}{r:aU}{p:aG}(h:p.kind=3#8)(l:List aG):iO b r (p :: l)=λa=>if mT p.insn a=true then b p.to a else b p.els a:=by
 simp only[iO];rw[if_neg (by rw[h];decide),if_neg (by rw[h];decide),if_pos h]
theorem kD{b:Int->Beh}{r:aU}{p:aG}(h:p.kind=2#8)(l:List aG):iO b r (p :: l)=λa=>match (cH r p.insn a).2.2 with
   | some o=>o
   | none=>iO b r l (cH r p.insn a).1:=by
 simp only[iO];rw[if_neg (by rw[h];decide),if_neg (by rw[h];decide),if_neg (by rw[h];decide)]
theorem yG{r:aU}{p:aG}(h:p.kind=1#8)(l:List aG):den r (p :: l)=((p.to,(den r l).2) :: (den r l).1,(den r l).2):=by
 rw[dQ];unfold fU;rw[if_pos h]
theorem aCk{r:aU}{p:aG}(h:p.kind=4#8)(l:List aG):den r (p :: l)=((den r l).1,mI (den r l).1 p.to):=by
 rw[dQ];unfold fU;rw[if_neg (by rw[h];decide),if_pos h]
theorem aHf{r:aU}{p:aG}(h:p.kind=3#8)(l:List aG):den r (p :: l)=((den r l).1,λa=>if mT p.insn a=true then mI (den r l).1 p.to a else mI (den r l).1 p.els a):=by
 rw[dQ];unfold fU;rw[if_neg (by rw[h];decide),if_neg (by rw[h];decide),if_pos h]
theorem nR{r:aU}{p:aG}(h:p.kind=2#8)(l:List aG):den r (p :: l)=((den r l).1,λa=>match (cH r p.insn a).2.2 with
  | some o=>o
  | none=>(den r l).2 (cH r p.insn a).1):=by
 rw[dQ];unfold fU;rw[if_neg (by rw[h];decide),if_neg (by rw[h];decide),if_neg (by rw[h];decide)];rfl
theorem lG{p:aG}(h:p.kind=1#8)(l:List aG):bQ (p :: l)=p.to :: bQ l:=by rw[eW,if_pos h]
theorem lM{p:aG}(h:p.kind≠1#8)(l:List aG):bQ (p :: l)=bQ l:=by rw[eW,if_neg h]
theorem yX(n m:Int)(k:Beh)(e:List (Int×Beh)):mI ((m,k) :: e) n=if n=m then k else mI e n:=by
 unfold mI;rw[eC]
 by_cases h:n=m
 ·rw[if_pos h,if_pos h];rfl
 ·rw[if_neg h,if_neg h]
theorem aFx{b:Int->Beh}{r:aU}:∀ {l:List aG},(∀ p∈l,dK p)->wfL l->AtB b r l->(den r l).2=iO b r l/\∀ n∈bQ l,mI (den r l).1 n=b n
 | [],_,_,_=>⟨rfl,λn hn=>by simp[bQ]at hn⟩
 | p :: l,ho,w,hb=>by
  obtain⟨i1,i2⟩:=aFx (λq hq=>ho q (List.mem_cons_of_mem _ hq)) w.tail hb.tail;have w0:=w [] p l rfl;rcases iY (ho p (List.mem_cons_self ..)) with h | h | h | h
  ·rw[yG h,lG h,iP h]
   refine⟨i1,λn hn =>?_⟩;rw[yX]
   by_cases e:n=p.to
   ·rw[if_pos e,e,hb [] p l rfl h];exact i1
   ·rw[if_neg e]
    exact i2 n ((List.mem_cons.1 hn).resolve_left e)
  ·rw[nR h,lM (by rw[h];decide),kD h]
   exact⟨by simp only[i1],i2⟩
  ·rw[aHf h,lM (by rw[h];decide),qC h]
   exact⟨by simp only[i2 _ (w0.2.2 h).1,i2 _ (w0.2.2 h).2],i2⟩
  ·rw[aCk h,lM (by rw[h];decide),jX h]
   exact⟨i2 _ (w0.2.1 h),i2⟩
theorem tT{l:List aG}{n:Int}:n∈bQ l↔∃ a p c,l=a++p :: c/\p.kind=1#8/\p.to=n:=by
 induction l with
 | nil=>simp[bQ]
 | cons q l ih =>
  rw[eW];constructor
  ·intro h
   by_cases hq:q.kind=1#8
   ·rw[if_pos hq]at h
    rcases List.mem_cons.1 h with h | h
    ·exact⟨[],q,l,rfl,hq,h.symm⟩
    ·obtain⟨a,p,c,e,h1,h2⟩:=ih.1 h
     exact⟨q :: a,p,c,by rw[e];rfl,h1,h2⟩
   ·rw[if_neg hq]at h
    obtain⟨a,p,c,e,h1,h2⟩:=ih.1 h;exact⟨q :: a,p,c,by rw[e];rfl,h1,h2⟩
  ·rintro⟨a,p,c,e,h1,h2⟩
   cases a with
   | nil =>
    simp only[List.nil_append,List.cons.injEq]at e;rw[e.1,if_pos h1];exact List.mem_cons.2 (.inl h2.symm)
   | cons x a =>
    simp only[List.cons_append,List.cons.injEq]at e;have:=ih.2 ⟨a,p,c,e.2,h1,h2⟩
    split
    ·exact List.mem_cons_of_mem _ this
    ·exact this
theorem vZ(r:aU):∀ (a:List aG) {l:List aG},(∀ p∈a++l,dK p)->wfL (a++l)->∀ n∈bQ l,mI (den r (a++l)).1 n=mI (den r l).1 n
 | [],_,_,_,_,_=>rfl
 | p :: a,l,ho,w,n,hn=>by
  have ih:=vZ r a (λq hq=>ho q (List.mem_cons_of_mem _ hq)) w.tail n hn;have hn':n∈bQ (a++l):=by rw[lS];exact List.mem_append_right _ hn
  have w0:=w [] p (a++l) rfl;rw[List.cons_append];rcases iY (ho p (List.mem_cons_self ..)) with h | h | h | h
  ·rw[yG h,yX,if_neg (λ(e:n=p.to)=>w0.1 h (e▸hn'))];exact ih
  ·rw[nR h];exact ih
  ·rw[aHf h];exact ih
  ·rw[aCk h];exact ih
theorem aLb{α:Type}{P:α->Prop}{a b:List α}(h:∀ p∈a++b,P p):∀ p∈b,P p:=λp hp=>h p (List.mem_append_right _ hp)
theorem wfL.drop:∀ (a:List aG) {l:List aG},wfL (a++l)->wfL l
 | [],_,h=>h
 | _ :: a,_,h=>wfL.drop a (wfL.tail h)
theorem aBc{r:aU}{L:List aG}(ho:∀ p∈L,dK p)(w:wfL L):∀ {l a:List aG},L=a++l->(den r l).2=iO (mI (den r L).1) r l
 | [],_,_=>rfl
 | p :: l,a,e=>by
  have ih:=aBc (r:=r) ho w (l:=l) (a:=a++[p]) (by rw[e];simp)
  subst e;have ho':=aLb ho;have w':=wfL.drop a w;have w0:=w' [] p l rfl
  have st:∀ n∈bQ l,mI (den r (a++p :: l)).1 n=mI (den r l).1 n:=λn hn=>by
   have:=vZ r (a++[p]) (l:=l) (by simpa using ho) (by simpa using w) n hn
   simpa using this
  rcases iY (ho' p (List.mem_cons_self ..)) with h | h | h | h
  ·rw[yG h,iP h];exact ih
  ·rw[nR h,kD h];simp only[ih]
  ·rw[aHf h,qC h];simp only[st _ (w0.2.2 h).1,st _ (w0.2.2 h).2]
  ·rw[aCk h,jX h];exact(st _ (w0.2.1 h)).symm
theorem aMy{r:aU}{L:List aG}(ho:∀ p∈L,dK p)(w:wfL L):AtB (mI (den r L).1) r L:=λa p c e h=>by
 rw[<- aBc (r:=r) ho w (l:=c) (a:=a++[p]) (by rw[e];simp)]
 have:=vZ r a (l:=p :: c) (by rw[<- e];exact ho) (by rw[<- e];exact w) p.to (by rw[lG h];exact List.mem_cons_self ..)
 rw[<- e]at this;rw[this,yG h,yX,if_pos rfl]
theorem aDi{b:Int->Beh}{r:aU}:∀ l:List aG,iO b r (mQ l)=iO b r l
 | []=>rfl
 | p :: l=>by
  unfold mQ
  split
  ·rename_i h;rw[aDi l,iP h]
  ·rfl
theorem aFU:∀ l:List aG,∃ a,l=a++mQ l
 | []=>⟨[],rfl⟩
 | p :: l=>by
  unfold mQ
  split
  ·obtain⟨a,e⟩:=aFU l
   exact⟨p :: a,by rw[List.cons_append,<- e]⟩
  ·exact⟨[],rfl⟩
def Way(L:List aG)(n t:Int):Prop:=∃ a p c q d,L=a++p :: c/\p.kind=1#8/\p.to=n/\mQ c=q :: d/\q.kind=4#8/\q.to=t
theorem sW:∀ {l:List aG} {m:List (Int×Int)} {n t:Int},bC n (cM l m)=some t->bC n m=some t\/Way l n t
 | [],_,_,_,h => .inl h
 | p :: l,m,n,t,h=>by
  have h:bC n (cM l (gG p l m))=some t:=h;rcases sW h with h1 | ⟨a,q,c,x,d,e,h2⟩
  ·unfold gG at h1
   split at h1
   ·rename_i hp
    split at h1
    ·rename_i q hq
     split at h1
     ·rename_i hq4
      rw[eS]at h1
      split at h1
      ·rename_i hn
       cases h1
       obtain⟨d,hd⟩:∃ d,mQ l=q :: d:=by
        cases hs:mQ l with
        | nil=>rw[hs]at hq;cases hq
        | cons y d=>rw[hs]at hq;cases hq;exact⟨d,rfl⟩
       exact .inr ⟨[],p,l,q,d,rfl,hp,hn.symm,hd,hq4,rfl⟩
      ·exact .inl h1
     ·exact .inl h1
    ·exact .inl h1
   ·exact .inl h1
  ·exact .inr ⟨p :: a,q,c,x,d,by rw[e];rfl,h2⟩
theorem aEQ{β:Type}{b:Int->β}{w:List (Int×Int)}(hw:∀ n t,bC n w=some t->b n=b t):∀ (f:Nat) (n:Int),b (bM w f n)=b n
 | 0,_=>rfl
 | f+1,n=>by
  unfold bM
  split
  ·rfl
  ·rename_i t h;rw[aEQ hw f t,hw n t h]
theorem aFg{S:Int->Prop}{w:List (Int×Int)}(hw:∀ n t,bC n w=some t->S n->S t):∀ (f:Nat) (n:Int),S n->S (bM w f n)
 | 0,_,h=>h
 | f+1,n,h=>by
  unfold bM
  split
  ·exact h
  ·rename_i t ht;exact aFg hw f t (hw n t ht h)
theorem iM(w:List (Int×Int))(p:aG):(cG w p).kind=p.kind/\(cG w p).insn=p.insn:=by
 unfold cG
 split
 ·exact⟨rfl,rfl⟩
 ·split<;>exact⟨rfl,rfl⟩
theorem lI{w:List (Int×Int)}{p:aG}(h:p.kind=1#8\/p.kind=2#8):cG w p=p:=by
 unfold cG;rw[if_neg (by rcases h with h | h<;>rw[h]<;>decide),if_neg (by rcases h with h | h<;>rw[h]<;>decide)]
theorem aLM{w:List (Int×Int)}{p:aG}(h:dK p):dK (cG w p):=by
 unfold dK at h ⊢;rw[(iM w p).1,(iM w p).2];exact h
theorem vW{b:Int->Beh}{r:aU}{w:List (Int×Int)}(hw:∀ n t,bC n w=some t->b n=b t):∀ {l:List aG},(∀ p∈l,dK p)->iO b r (l.map (cG w))=iO b r l
 | [],_=>rfl
 | p :: l,ho=>by
  have ih:=vW (b:=b) (r:=r) hw (l:=l) (λq hq=>ho q (List.mem_cons_of_mem _ hq));rw[List.map_cons];rcases iY (ho p (List.mem_cons_self ..)) with h | h | h | h
  ·rw[lI (.inl h),iP h,iP h];exact ih
  ·rw[lI (.inr h),kD h,kD h,ih]
  ·rw[qC (by rw[(iM w p).1];exact h),qC h,(iM w p).2]
   have e:cG w p={ p with to:=bM w w.length p.to,els:=bM w w.length p.els }:=by
    unfold cG;rw[if_neg (by rw[h];decide),if_pos h]
   rw[e];simp only[aEQ hw]
  ·rw[jX (by rw[(iM w p).1];exact h),jX h]
   have e:cG w p={ p with to:=bM w w.length p.to }:=by
    unfold cG;rw[if_pos h]
   rw[e];exact aEQ hw _ _
theorem aAz(w:List (Int×Int)):∀ {l:List aG},(∀ p∈l,dK p)->bQ (l.map (cG w))=bQ l
 | [],_=>rfl
 | p :: l,ho=>by
  have ih:=aAz w (l:=l) (λq hq=>ho q (List.mem_cons_of_mem _ hq));rw[List.map_cons]
  by_cases h:p.kind=1#8
  ·rw[lI (.inl h),lG h,lG h,ih]
  ·rw[lM (by rw[(iM w p).1];exact h),lM h,ih]
theorem aJe{b:Int->Beh}{r:aU}{w:List (Int×Int)}(hw:∀ n t,bC n w=some t->b n=b t){L:List aG}(ho:∀ p∈L,dK p)(hb:AtB b r L):AtB b r (L.map (cG w)):=λa p c e h=>by
 obtain⟨a0,l1,e0,e1,e2⟩:=List.map_eq_append_iff.1 e;obtain⟨p0,c0,e3,e4,e5⟩:=List.map_eq_cons_iff.1 e2;subst e0 e3;have hk:p0.kind=1#8:=by rw[<- (iM w p0).1,e4];exact h
 rw[lI (.inl hk)]at e4;rw[<- e4,<- e5,vW hw (λq hq=>ho q (by simp[hq]))]
 exact hb a0 p0 c0 rfl hk
theorem aKe{L:List aG}(w:wfL L){a a' c c':List aG}{p p':aG}(e:L=a++p :: c)(e':L=a'++p' :: c')(h:p.kind=1#8)(h':p'.kind=1#8)(hn:p.to=p'.to):c=c':=by
 have key:∀ {a a' c c':List aG} {p p':aG},L=a++p :: c->p.kind=1#8->p'.kind=1#8->p.to=p'.to->∀ x,a'=a++x->p :: c=x++p' :: c'->c=c':=by
  intro a a' c c' p p' e h h' hn x _ ex;cases x with
  | nil=>simp only[List.nil_append,List.cons.injEq]at ex;exact ex.2
  | cons y x =>
   simp only[List.cons_append,List.cons.injEq]at ex;exact absurd (tT.2 ⟨x,p',c',ex.2,h',hn.symm⟩) ((w a p c e).1 h)
 rw[e]at e';rcases List.append_eq_append_iff.1 e' with ⟨x,h1,h2⟩ | ⟨x,h1,h2⟩
 ·exact key e h h' hn x h1 h2
 ·have e2:L=a'++p' :: c':=by rw[e,e']
  exact(key e2 h' h hn.symm x h1 h2).symm
theorem aOB{L:List aG}(w:wfL L){n t:Int}(h:Way L n t){a c:List aG}(e:L=a++c)(hn:n∈bQ c):t∈bQ c:=by
 obtain⟨a0,p,c0,q,d,e0,h1,h2,h3,h4,h5⟩:=h;obtain⟨x,p',y,e1,k1,k2⟩:=tT.1 hn;have ec:c0=y:=aKe w e0 (by rw[e,e1,<- List.append_assoc]) h1 k1 (by rw[h2,k2])
 obtain⟨z,hz⟩:=aFU c0;rw[h3]at hz
 have hd:t∈bQ d:=by
  rw[<- h5];exact(w (a0++p :: z) q d (by rw[e0,hz];simp)).2.1 h4
 rw[e1,<- ec,hz];obtain⟨u,s,v,e6,e7,e8⟩:=tT.1 hd;exact tT.2 ⟨x++p' :: z++q :: u,s,v,by rw[e6];simp,e7,e8⟩
theorem aKv{L:List aG}(ho:∀ p∈L,dK p)(w:wfL L):wfL (L.map (cG (cM L []))):=λa p c e=>by
 obtain⟨a0,l1,e0,e1,e2⟩:=List.map_eq_append_iff.1 e;obtain⟨p0,c0,e3,e4,e5⟩:=List.map_eq_cons_iff.1 e2;have e6:L=a0++p0 :: c0:=by rw[e0,e3]
 have ho0:∀ q∈c0,dK q:=λq hq=>ho q (by rw[e6];simp[hq])
 have hh:bQ c=bQ c0:=by rw[<- e5,aAz _ ho0]
 have st:∀ n,n∈bQ c0->bM (cM L []) (cM L []).length n∈bQ c0:=λn hn =>
  aFg (S:=λn=>n∈bQ c0) (λn t ht hs=>by
   rcases sW ht with h | h
   ·cases h
   ·exact aOB w h (a:=a0++[p0]) (by rw[e6];simp) hs) _ n hn
 have w0:=w a0 p0 c0 e6;have hk:=(iM (cM L []) p0).1;rw[e4]at hk;rw[hh,<- e4];refine⟨λh =>?_,λh =>?_,λh =>?_⟩
 ·rw[e4,hk]at h
  rw[lI (.inl h)];exact w0.1 h
 ·rw[e4,hk]at h
  unfold cG;rw[if_pos h];exact st _ (w0.2.1 h)
 ·rw[e4,hk]at h
  unfold cG;rw[if_neg (by rw[h];decide),if_pos h];exact⟨st _ (w0.2.2 h).1,st _ (w0.2.2 h).2⟩
end
section
set_option maxRecDepth 20000
theorem pX{u:List (Int×Bool)}{p:aG}(h:p.kind=1#8)(l:List aG)(d:Bool):dG u (p :: l) d=if(bC p.to u).getD false=true then p :: dG u l false else dG u l d:=by
 simp only[dG];rw[if_pos h]
theorem lY{u:List (Int×Bool)}{p:aG}(h:p.kind≠1#8)(l:List aG)(d:Bool):dG u (p :: l) d=if d=true\/(p.kind=4#8/\fR l p.to=true) then dG u l d
  else p :: dG u l (decide (p.kind=4#8)||(decide (p.kind=2#8)&&decide (bR p.insn.code=6#16))):=by
 simp only[dG];rw[if_neg h]
theorem aDu{b:Int->Beh}{r:aU}{n:Int}:∀ {l:List aG},AtB b r l->fR l n=true->b n=iO b r l
 | [],_,h=>by cases h
 | p :: l,hb,h=>by
  unfold fR at h
  split at h
  ·rename_i h1
   rw[iP h1]
   split at h
   ·rename_i hn
    rw[<- hn];exact hb [] p l rfl h1
   ·exact aDu hb.tail h
  ·cases h
theorem aL5{p:aG}(ho:dK p)(h:p.kind=2#8)(hc:bR p.insn.code=6#16):p.insn.code=6#16:=by
 rcases ho with k | k | ⟨_,⟨k,_⟩ | k | k⟩ | ⟨k,_⟩
 ·rw[h]at k;exact absurd k (by decide)
 ·rw[h]at k;exact absurd k (by decide)
 ·rw[k]at hc;exact absurd hc (by decide)
 ·rw[k]at hc;exact absurd hc (by decide)
 ·exact k
 ·rw[h]at k;exact absurd k (by decide)
theorem zV{b:Int->Beh}{r:aU}(u:List (Int×Bool)):∀ {l:List aG},(∀ p∈l,dK p)->AtB b r l->iO b r (dG u l false)=iO b r l
 | [],_,_=>rfl
 | p :: l,ho,hb=>by
  have ih:=zV u (l:=l) (λq hq=>ho q (List.mem_cons_of_mem _ hq)) hb.tail;rcases iY (ho p (List.mem_cons_self ..)) with h | h | h | h
  ·rw[pX h,iP h]
   split
   ·rw[iP h];exact ih
   ·exact ih
  ·rw[lY (by rw[h];decide),if_neg (by rw[h];simp)]
   have e4:decide (p.kind=4#8)=false:=decide_eq_false (by rw[h];decide)
   rw[e4,Bool.false_or,decide_eq_true h,Bool.true_and,kD h,kD h]
   by_cases hc:bR p.insn.code=6#16
   ·have h6:=aL5 (ho p (List.mem_cons_self ..)) h hc
    funext a
    have hs:∃ o,(cH r p.insn a).2.2=some o:=by unfold cH;rw[h6];exact⟨_,rfl⟩
    obtain⟨o,hs⟩:=hs;simp only[hs]
   ·rw[decide_eq_false hc,ih]
  ·rw[lY (by rw[h];decide),if_neg (by rw[h];simp),qC h,qC h]
  ·rw[lY (by rw[h];decide),jX h]
   by_cases hf:fR l p.to=true
   ·rw[if_pos (.inr ⟨h,hf⟩),ih,aDu hb.tail hf]
   ·rw[if_neg (by simp[hf]),jX h]
theorem qX(u:List (Int×Bool)):∀ {l:List aG} {d:Bool} {a c:List aG} {p:aG},dG u l d=a++p :: c->∃ a' c' d',l=a'++p :: c'/\c=dG u c' d'/\(p.kind=1#8->d'=false/\(bC p.to u).getD false=true)
 | [],_,a,_,_,e=>by simp[dG]at e
 | q :: l,d,a,c,p,e=>by
  have step:∀ d1,dG u l d1=a++p :: c->∃ a' c' d',q :: l=a'++p :: c'/\c=dG u c' d'/\(p.kind=1#8->d'=false/\(bC p.to u).getD false=true):=λd1 e1=>by
   obtain⟨a',c',d',h1,h2,h3⟩:=qX u e1;exact⟨q :: a',c',d',by rw[h1];rfl,h2,h3⟩
  have step2:∀ d1,(q.kind=1#8->d1=false/\(bC q.to u).getD false=true)->q :: dG u l d1=a++p :: c->∃ a' c' d',q :: l=a'++p :: c'/\c=dG u c' d'/\(p.kind=1#8->d'=false/\(bC p.to u).getD false=true):=λd1 hd e1=>by
   cases a with
   | nil =>
    simp only[List.nil_append,List.cons.injEq]at e1;obtain⟨rfl,rfl⟩:=e1;exact⟨[],l,d1,rfl,rfl,hd⟩
   | cons x a =>
    simp only[List.cons_append,List.cons.injEq]at e1;obtain⟨a',c',d',h1,h2,h3⟩:=qX u e1.2;exact⟨q :: a',c',d',by rw[h1];rfl,h2,h3⟩
  by_cases h:q.kind=1#8
  ·rw[pX h]at e
   split at e
   ·rename_i hu;exact step2 false (λ_=>⟨rfl,hu⟩) e
   ·exact step d e
  ·rw[lY h]at e
   split at e
   ·exact step d e
   ·exact step2 _ (λk=>absurd k h) e
theorem oF(u:List (Int×Bool)):∀ (l:List aG) (d:Bool),bQ (dG u l d)=(bQ l).filter λn=>(bC n u).getD false
 | [],_=>rfl
 | p :: l,d=>by
  by_cases h:p.kind=1#8
  ·rw[pX h,lG h,List.filter_cons]
   split
   ·rw[lG h,oF u l false]
   ·exact oF u l d
  ·rw[lY h,lM h]
   split
   ·exact oF u l d
   ·rw[lM h];exact oF u l _
theorem aKT{b:Int->Beh}{r:aU}{u:List (Int×Bool)}{l:List aG}{d:Bool}(ho:∀ p∈l,dK p)(hb:AtB b r l):AtB b r (dG u l d):=λa p c e h=>by
 obtain⟨a',c',d',h1,h2,h3⟩:=qX u e;obtain⟨rfl,_⟩:=h3 h;have hb':AtB b r c':=AtB.tail (p:=p) (AtB.drop a' (by rw[<- h1];exact hb))
 rw[h2,zV u (λq hq=>ho q (by rw[h1];simp[hq])) hb']
 exact hb a' p c' h1 h
theorem qT(n:Int):∀ (l:List aG) (u:List (Int×Bool)),bC n u=some true->bC n (l.foldl gU u)=some true
 | [],_,h=>h
 | p :: l,u,h=>by
  rw[List.foldl_cons];refine qT n l _ ?_;unfold gU
  split
  ·rw[eS];split
   ·rfl
   ·exact h
  ·split
   ·rw[eS];split
    ·rfl
    ·rw[eS];split
     ·rfl
     ·exact h
   ·exact h
theorem aFX:∀ {l:List aG} {u:List (Int×Bool)} {p:aG},p∈l->(p.kind=4#8->bC p.to (l.foldl gU u)=some true)/\(p.kind=3#8->bC p.to (l.foldl gU u)=some true/\bC p.els (l.foldl gU u)=some true)
 | q :: l,u,p,hm=>by
  rw[List.foldl_cons];rcases List.mem_cons.1 hm with rfl | hm
  ·refine⟨λh=>qT _ _ _ ?_,λh=>⟨qT _ _ _ ?_,qT _ _ _ ?_⟩⟩
   ·unfold gU;rw[if_pos h,eS,if_pos rfl]
   ·unfold gU;rw[if_neg (by rw[h];decide),if_pos h,eS];split
    ·rfl
    ·rw[eS,if_pos rfl]
   ·unfold gU;rw[if_neg (by rw[h];decide),if_pos h,eS,if_pos rfl]
  ·exact aFX hm
theorem aMB{l:List aG}(w:wfL l)(d:Bool):wfL (dG (l.foldl gU []) l d):=λa p c e=>by
 obtain⟨a',c',d',h1,h2,_⟩:=qX _ e;have w0:=w a' p c' h1;have hm:p∈l:=by rw[h1];simp
 obtain⟨u4,u3⟩:=aFX (u:=[]) hm;rw[h2,oF];simp only[List.mem_filter];refine⟨λh k=>w0.1 h k.1,λh=>⟨w0.2.1 h,by rw[u4 h];rfl⟩,λh=>⟨⟨(w0.2.2 h).1,by rw[(u3 h).1];rfl⟩,⟨(w0.2.2 h).2,by rw[(u3 h).2];rfl⟩⟩⟩
theorem tF(u:List (Int×Bool)):∀ {l:List aG} {d:Bool} {p:aG},p∈dG u l d->p∈l
 | [],_,_,h=>by simp[dG]at h
 | q :: l,d,p,h=>by
  by_cases h1:q.kind=1#8
  ·rw[pX h1]at h
   split at h
   ·rcases List.mem_cons.1 h with h | h
    ·exact List.mem_cons.2 (.inl h)
    ·exact List.mem_cons_of_mem _ (tF u h)
   ·exact List.mem_cons_of_mem _ (tF u h)
  ·rw[lY h1]at h
   split at h
   ·exact List.mem_cons_of_mem _ (tF u h)
   ·rcases List.mem_cons.1 h with h | h
    ·exact List.mem_cons.2 (.inl h)
    ·exact List.mem_cons_of_mem _ (tF u h)
def qY(e:aG):Prop:=e.kind=2#8/\e.insn.code=6#16
theorem aDg(u:List (Int×Bool)){e:aG}(he:qY e):∀ (l:List aG) (d:Bool),(∀ p∈l,dK p)->(dG u (l++[e]) d=[]/\d=true)\/∃ l' x,dG u (l++[e]) d=l'++[x]/\(qY x\/x.kind=4#8)
 | [],d,_=>by
  rw[List.nil_append,lY (by rw[he.1];decide)]
  cases d with
  | true=>exact .inl ⟨by rw[if_pos (.inl rfl)];rfl,rfl⟩
  | false=>exact .inr ⟨[],e,by rw[if_neg (by rw[he.1];simp)];rfl,.inl he⟩
 | p :: l,d,ho=>by
  have ih:=λd=>aDg u he l d (λq hq=>ho q (List.mem_cons_of_mem _ hq))
  have put:∀ d',(d'=true->qY p\/p.kind=4#8)->∃ l' x,p :: dG u (l++[e]) d'=l'++[x]/\(qY x\/x.kind=4#8):=λd' hd=>by
   rcases ih d' with ⟨h1,h2⟩ | ⟨l',x,h1,h2⟩
   ·exact⟨[],p,by rw[h1];rfl,hd h2⟩
   ·exact⟨p :: l',x,by rw[h1];rfl,h2⟩
  rw[List.cons_append]
  by_cases h:p.kind=1#8
  ·rw[pX h]
   split
   ·exact .inr (put false (λk=>by cases k))
   ·exact ih d
  ·rw[lY h]
   split
   ·exact ih d
   ·refine .inr (put _ λk =>?_)
    rw[Bool.or_eq_true,Bool.and_eq_true,decide_eq_true_eq,decide_eq_true_eq,decide_eq_true_eq]at k;rcases k with k | ⟨k1,k2⟩
    ·exact .inr k
    ·exact .inl ⟨k1,aL5 (ho p (List.mem_cons_self ..)) k1 k2⟩
structure Fit(L:List aG):Prop where
 ok:∀ p∈L,dK p
 wf:wfL L
 end_ : ∃ l e, L = l ++ [e] /\ qY e
theorem aK0{L:List aG}(h:Fit L):Fit (kY L)/\∀ r,(den r (kY L)).2=(den r L).2:=by
 obtain⟨l,e,hL,he⟩:=h.end_
 have ho:∀ p∈L.map (cG (cM L [])),dK p:=λp hp=>by
  obtain⟨q,hq,rfl⟩:=List.mem_map.1 hp;exact aLM (h.ok q hq)
 have w1:=aKv h.ok h.wf;have w2:wfL (kY L):=aMB w1 false;have ho2:∀ p∈kY L,dK p:=λp hp=>ho p (tF _ hp);refine⟨⟨ho2,w2,?_⟩,λr =>?_⟩
 ·have e1:L.map (cG (cM L []))=l.map (cG (cM L []))++[e]:=by
   conv=>lhs;arg 2;rw[hL]
   rw[List.map_append,List.map_cons,List.map_nil,lI (.inr he.1)]
  have hm:∀ p∈l.map (cG (cM L [])),dK p:=λp hp=>ho p (by rw[e1];exact List.mem_append_left _ hp)
  have e2:kY L=dG ((L.map (cG (cM L []))).foldl gU []) (l.map (cG (cM L []))++[e]) false:=by
   rw[<- e1];rfl
  rcases aDg ((L.map (cG (cM L []))).foldl gU []) he _ false hm with ⟨_,k⟩ | ⟨l',x,k1,k2⟩
  ·cases k
  ·rw[<- e2]at k1
   refine⟨l',x,k1,k2.resolve_right λk4 =>?_⟩;have:=(w2 l' x [] k1).2.1 k4;simp[bQ]at this
 ·have hb:=aMy (r:=r) h.ok h.wf
  have hw:∀ n t,bC n (cM L [])=some t->mI (den r L).1 n=mI (den r L).1 t:=λn t ht=>by
   rcases sW ht with k | ⟨a,p,c,q,d,h1,h2,h3,h4,h5,h6⟩
   ·cases k
   ·rw[<- h3,hb a p c h1 h2,<- aDi c,h4,jX h5,h6]
  have hb1:=aJe hw h.ok hb;have hb2:=aKT (u:=(L.map (cG (cM L []))).foldl gU []) (d:=false) ho hb1;rw[(aFx ho2 w2 hb2).1]
  show iO _ r (dG _ _ false)=_
  rw[zV _ ho hb1,vW hw h.ok];exact(aBc h.ok h.wf (a:=[]) rfl).symm
theorem aFH:∀ (f:Nat) {L:List aG},Fit L->Fit (qB f L)/\∀ r,(den r (qB f L)).2=(den r L).2
 | 0,_,h=>⟨h,λ_=>rfl⟩
 | f+1,L,h=>by
  obtain⟨h1,h2⟩:=aK0 h;unfold qB
  split
  ·exact⟨h1,h2⟩
  ·obtain⟨h3,h4⟩:=aFH f h1
   exact⟨h3,λr=>by rw[h4,h2]⟩
theorem aL6{L:List aG}(h:Fit L):Fit (dH L none):=by
 refine⟨λp hp=>h.ok p (aBK hp),aHz none h.ok h.wf,?_⟩;obtain⟨l,e,rfl,he⟩:=h.end_
 have:∀ (l:List aG) (now:Option (BitVec 32)),∃ l0,dH (l++[e]) now=l0++[e]:=by
  intro l
  induction l with
  | nil =>
   intro now;refine⟨[],?_⟩;rw[List.nil_append,qN he.1 (by unfold nV;rw[he.2];simp)];rfl
  | cons p l ih =>
   intro now;rw[List.cons_append];unfold dH
   split
   ·obtain⟨l0,h0⟩:=ih none;exact⟨p :: l0,by rw[h0];rfl⟩
   ·split
    ·split
     ·exact ih now
     ·obtain⟨l0,h0⟩:=ih (some p.insn.k);exact⟨p :: l0,by rw[h0];rfl⟩
    ·split
     ·obtain⟨l0,h0⟩:=ih none;exact⟨p :: l0,by rw[h0];rfl⟩
     ·obtain⟨l0,h0⟩:=ih now;exact⟨p :: l0,by rw[h0];rfl⟩
 obtain⟨l0,h0⟩:=this l none;exact⟨l0,e,h0,he⟩
theorem yY{e:aG}(he:qY e):eG [e] = .inr ⟨[e.insn],[]⟩:=by
 have h1:¬ e.kind=1#8:=by rw[he.1];decide
 simp[eG,MkD.part,he.1,he.2,bR]
theorem pC{r:aU}{e:aG}(he:qY e):∀ {l:List aG} {s:MkD},(∀ p∈l,dK p)->eG (l++[e]) = .inr s->rX r s (den r (l++[e]))
 | [],s,_,h=>by
  rw[List.nil_append,yY he]at h;cases h;have hs:∀ a,(cH r e.insn a).2.2=some e.insn.k:=λa=>by unfold cH;rw[he.2];rfl
  refine⟨by simp,λf a hf =>?_,λn j hj=>by simp[bC]at hj,λn =>?_,λj hj =>?_,⟨by simp,he.2⟩⟩
  ·obtain⟨f,rfl⟩:∃ g,f=g+1:=⟨f - 1,by simp at hf;omega⟩
   rw[List.nil_append,nR he.1,nI];simp only[hs]
  ·rw[List.nil_append,nR he.1];rfl
  ·have:j=0:=by simpa using hj
   subst this;exact .inr (.inr (.inr (.inr (.inr (.inr he.2)))))
 | p :: l,s,hp,h=>by
  rw[List.cons_append]at h ⊢;unfold eG at h
  split at h
  ·cases h
  ·rename_i s1 h1
   have ih:=pC (r:=r) he (λq hq=>hp q (List.mem_cons_of_mem _ hq)) h1;have hl:=(tK h1).2
   split at h
   ·cases h
   ·rename_i t h2
    split at h
    ·cases h
    ·cases h
     rw[dQ];exact aIy ih hl (hp p (List.mem_cons_self ..)) h2
theorem aCW{e:aG}(he:qY e):∀ {l:List aG} {n:Int},(∀ p∈l,dK p)->wfL (l++[e])->eG (l++[e]) = .inl n->n=205
 | [],n,_,_,h=>by
  rw[List.nil_append,yY he]at h;cases h
 | p :: l,n,hp,w,h=>by
  rw[List.cons_append]at h w;unfold eG at h
  split at h
  ·rename_i e1 h1
   cases h;exact aCW he (λq hq=>hp q (List.mem_cons_of_mem _ hq)) w.tail h1
  ·rename_i s1 h1
   have ih:=pC (r:=⟨0#32,0#32,0#64,[]⟩) he (λq hq=>hp q (List.mem_cons_of_mem _ hq)) h1
   split at h
   ·rename_i e2 h2
    exact(aFk ih (hp p (List.mem_cons_self ..)) h2 (nJ _ _) (w [] p _ rfl)).elim
   ·split at h
    ·cases h;rfl
    ·cases h
def wPt(p:aG):Nat:=if p.kind=1#8 then 0 else if p.kind=3#8 then 3 else 1
def wPs(l:List aG):Nat:=(l.map wPt).sum
theorem yK{e:aG}(he:qY e):∀ {l:List aG},(∀ p∈l,dK p)->wfL (l++[e])->wPs l+1<=4096->∃ s,eG (l++[e]) = .inr s/\s.out.length<=wPs l+1
 | [],_,_,_=>⟨_,yY he,by simp⟩
 | p :: l,hp,w,hl=>by
  rw[List.cons_append]at w ⊢;have hw:wPs (p :: l)=wPt p+wPs l:=rfl;rw[hw]at hl ⊢;obtain⟨s1,h1,hlen⟩:=yK he (λq hq=>hp q (List.mem_cons_of_mem _ hq)) w.tail (by omega)
  have ih:=pC (r:=⟨0#32,0#32,0#64,[]⟩) he (λq hq=>hp q (List.mem_cons_of_mem _ hq)) h1;unfold eG;rw[h1];simp only;cases h2:s1.part p with
  | inl e=>exact(aFk ih (hp p (List.mem_cons_self ..)) h2 (nJ _ _) (w [] p _ rfl)).elim
  | inr t =>
   have h3:t.out.length<=s1.out.length+wPt p:=by
    have h4:=(aHT (tK h1).1 h2).2.2;unfold MkD.part at h2;unfold wPt;rcases iY (hp p (List.mem_cons_self ..)) with k | k | k | k
    ·rw[if_pos k]at h2 ⊢
     split at h2
     ·cases h2
     ·cases h2;exact Nat.le_refl _
    ·rw[if_neg (by rw[k];decide),if_pos k]at h2
     rw[if_neg (by rw[k];decide),if_neg (by rw[k];decide)]
     split at h2
     ·cases h2
     ·cases h2;simp
    ·rw[if_neg (by rw[k];decide),if_pos k];omega
    ·rw[if_neg (by rw[k];decide),if_neg (by rw[k];decide),if_pos k]at h2
     rw[if_neg (by rw[k];decide),if_neg (by rw[k];decide)]
     split at h2
     ·cases h2;simp[MkD.hop]
     ·cases h2
   simp only;rw[if_neg (by omega)]
   exact⟨t,rfl,by omega⟩
theorem aFz{L:List aG}(h:Fit L):(∀ e,eG L = .inl e->e=205)/\(∀ s,eG L = .inr s->∀ r,rX r s (den r L))/\(wPs L<=4096->∃ s,eG L = .inr s):=by
 obtain⟨l,e,rfl,he⟩:=h.end_;have ho:∀ p∈l,dK p:=λp hp=>h.ok p (List.mem_append_left _ hp);refine⟨λn hn=>aCW he ho h.wf hn,λs hs r=>pC he ho hs,λhw =>?_⟩
 have e1:wPs (l++[e])=wPs l+1:=by
  unfold wPs;rw[List.map_append,List.sum_append];have:wPt e=1:=by unfold wPt;rw[if_neg (by rw[he.1];decide),if_neg (by rw[he.1];decide)]
  simp[this]
 obtain⟨s,hs,_⟩:=yK he ho h.wf (by omega)
 exact⟨s,hs⟩
end
section
set_option maxRecDepth 20000
def fH(c:Nat×List UInt8×Nat):List Value:=[u32 (BitVec.ofNat 32 c.1),str c.2.1,vi c.2.2]
def iQ:List (BitVec 32×Value):=bG.map λc=>(BitVec.ofNat 32 c.1,.agg (fH c).toArray)
def oY:List (List UInt8×Value):=bG.map λc=>(c.2.1,.agg (fH c).toArray)
theorem aD0:(iQ.map Prod.fst).Nodup:=by decide +kernel
theorem aCw:(oY.map Prod.fst).Nodup:=by decide +kernel
def vX(n:BitVec 32):Bool:=(iQ.lookup n).isSome
section
variable {K V:Type}[DecidableEq K]{fk:K->Value}{fv:V->Value}{H:AH}{r kd:Nat}
theorem dS.entry{l:List (K×V)}(h:dS fk fv H r l)(hk:∀ a b,bX kd (fk a) (fk b)=some (decide (a=b)))(k:K)(hn:k ∉ l.map Prod.fst)(zero:Value)(v:V):
  ∃ s o o',o ≠ .dead/\o' ≠ .dead/\nM kd zero (.map (some r)) (fk k) H=some (.tuple #[zero,s],H.put r o)/\(∀ H':AH,H'.get r=o->kR (.map (some r)) s (fv v) H'=some (H'.put r o') )/\∀ H':AH,r<H'.next->dS fk fv (H'.put r o') r (l++[(k,v)]):=by
 obtain⟨es,clock,h1,h2,h3,h4,h5⟩:=h
 have hf:(l.findIdx? λp=>decide (k=p.1))=none:=by
  rw[List.findIdx?_eq_none_iff];intro p hp;exact decide_eq_false λe=>hn (by rw[e];exact List.mem_map_of_mem hp)
 have hfi:(es++[{ key:=fk k,val:=zero,born:=clock:MapEntry }]).findIdx? (λe=>(e.born:Int) == ((clock:Nat):Int))=some es.length:=by
  rw[List.findIdx?_eq_some_iff_getElem];refine⟨by simp,by simp,λj hj =>?_⟩
  rw[List.getElem_append_left hj];have:=h4 _ (List.getElem_mem hj);simp;omega
 refine⟨.int .i64 clock,.map (es++[{ key:=fk k,val:=zero,born:=clock }]) (clock+1) true,.map (es++[{ key:=fk k,val:=fv v,born:=clock }]) (clock+1) true,by simp,by simp,?_,λH' hg =>?_,λH' hr =>?_⟩
 ·simp only[nM,h1]
  rw[qU hk k es l h2,hf]
  rfl
 ·simp only[kR,hg,hfi,Option.map_some]
  congr 2
  have:(es++[{ key:=fk k,val:=zero,born:=clock:MapEntry }]).modify es.length (λe=>{ e with val:=fv v })=es++[{ key:=fk k,val:=fv v,born:=clock }]:=by
   rw[List.modify_eq_take_cons_drop (by simp)]
   simp
  rw[this]
 ·refine⟨_,_,AH.get_put_self _ _ hr,?_,?_,?_,?_⟩
  ·rw[List.map_append,List.map_append,h2];rfl
  ·rw[List.map_append,List.nodup_append]
   refine⟨h3,by simp,λa ha b hb =>?_⟩
   obtain⟨e,he,rfl⟩:=List.mem_map.1 ha;have:=h4 e he;simp at hb;omega
  ·intro e he
   rcases List.mem_append.1 he with he | he
   ·exact Nat.lt_succ_of_lt (h4 e he)
   ·simp at he;subst he;exact Nat.lt_succ_self _
  ·rw[List.map_append,List.nodup_append]
   exact⟨h5,by simp,λa ha b hb=>by simp at hb;subst hb;rintro rfl;exact hn ha⟩
end
section
variable {E:Sy}{H H':AH}{Q:Value->AH->Prop}{tb:Nat}
theorem S.f69(hE:aW E)(hQ:Q (slc H.next 0 30 30) (H.new (.cells (bG.map fH).flatten none))):E.call 143 [] H Q:=by
 apply hE.f69;unfold F.f69
 repeat rw[bv3 _ _ _ _ _ _ rfl rfl rfl rfl rfl rfl,aS]
 rw[pE 30 3 _ _ (bG.map λc => .agg (fH c).toArray) rfl ?_ rfl rfl ?_,aT]
 ·exact hQ
 ·rfl
 ·intro r hr
  obtain⟨c,_,rfl⟩:=List.mem_map.1 hr
  rfl
def iL(d s:Int)(q m1 m2:Value)(a m:Int):List Value:=[.int .u32 d,.int .i32 s,q,m1,m2,.int .i64 a,.int .i64 m]
theorem S.add64(hE:aW E){d s:Int}{q m1 m2:Value}{a m:Int}{f:Option Nat}(hb:H.get tb = .cells (iL d s q m1 m2 a m) f){k:Nat}(hk:k=5\/k=6)(hQ:∀ v a' m',Q v (H.put tb (.cells (iL d s q m1 m2 a' m') f))):E.call 27 [ptr tb k,vi 1] H Q:=by
 apply hE.f129;simp only[F.f129,aDV,gS,aS];rw[qQ,aS];apply hE.f128;rcases hk with rfl | rfl
 ·simp only[lT,ptr,vi,hb,iL,List.getElem?_cons_succ,List.getElem?_cons_zero,List.set_cons_succ,List.set_cons_zero,Nat.add_zero]
  exact hQ _ _ _
 ·simp only[lT,ptr,vi,hb,iL,List.getElem?_cons_succ,List.getElem?_cons_zero,List.set_cons_succ,List.set_cons_zero,Nat.add_zero]
  exact hQ _ _ _
structure aFl(tb r1 r2 B:Nat)(q:Value)(a m:Int)(j:Nat)(H0 H:AH):Prop where
 only:dO [tb] H0 H
 box:H.get tb = .cells (iL 0 1 q (.map (some r1)) (.map (some r2)) a m) none
 m1:dS str id H r1 (oY.take j)
 m2:dS u32 id H r2 (iQ.take j)
 rows:H.get B = .cells (bG.map fH).flatten none
 n0:tb<H0.next
 n1:H0.next<=r1
 n2:r1<r2
 n3:r2<B
theorem aFl.new{r1 r2 B:Nat}{q:Value}{a m:Int}{j:Nat}{H0:AH}(h:aFl tb r1 r2 B q a m j H0 H)(o:cP):aFl tb r1 r2 B q a m j H0 (H.new o):=by
 have l1:=h.m1.lt;have l2:=h.m2.lt;have l3:=AH.lt_cells h.rows;have l0:=AH.lt_cells h.box;exact⟨h.only.new o,by rw[AH.get_new_lt _ _ l0];exact h.box,h.m1.keep (AH.get_new_lt _ _ l1),h.m2.keep (AH.get_new_lt _ _ l2),by rw[AH.get_new_lt _ _ l3];exact h.rows,h.n0,h.n1,h.n2,h.n3⟩
end
end
section
set_option maxRecDepth 20000
section
variable {E:Sy}{H H':AH}{Q:Value->AH->Prop}{tb:Nat}
theorem aGg{α:Type}{l:List α}(h:l.Nodup){j:Nat}(hj:j<l.length):l[j] ∉ l.take j:=by
 have h1:(l.take (j+1)).Nodup:=h.sublist (List.take_sublist _ _);rw[List.take_succ_eq_append_getElem hj,List.nodup_append]at h1;exact λhm=>h1.2.2 _ hm _ (by simp) rfl
theorem aFl.step{r1 r2 B:Nat}{q:Value}{a m:Int}{j:Nat}{H0:AH}(h:aFl tb r1 r2 B q a m j H0 H)(hj:j<bG.length)(zero:Value):
  ∃ s o o' s2 p p',nM 1 zero (.map (some r1)) (str bG[j].2.1) H=some (.tuple #[zero,s],H.put r1 o)/\kR (.map (some r1)) s (.agg (fH bG[j]).toArray) (H.put r1 o)=some (H.put r1 o') /\
   nM 0 zero (.map (some r2)) (u32 (BitVec.ofNat 32 bG[j].1)) (H.put r1 o')=some (.tuple #[zero,s2],(H.put r1 o').put r2 p) /\
   kR (.map (some r2)) s2 (.agg (fH bG[j]).toArray) ((H.put r1 o').put r2 p)=some ((H.put r1 o').put r2 p')/\aFl tb r1 r2 B q a m (j+1) H0 ((H.put r1 o').put r2 p'):=by
 have l1:=h.m1.lt;have l2:=h.m2.lt;have:=h.n0;have:=h.n1;have:=h.n2;have:=h.n3;have hn1:(oY.map Prod.fst).length=bG.length:=rfl;have hn2:(iQ.map Prod.fst).length=bG.length:=rfl;have k1:=aGg aCw (j:=j) (by rw[hn1];exact hj)
 have k2:=aGg aD0 (j:=j) (by rw[hn2];exact hj)
 have e1:(oY.map Prod.fst)[j]'(by rw[hn1];exact hj)=bG[j].2.1:=by simp[oY]
 have e2:(iQ.map Prod.fst)[j]'(by rw[hn2];exact hj)=BitVec.ofNat 32 bG[j].1:=by simp[iQ]
 rw[e1,<- List.map_take]at k1;rw[e2,<- List.map_take]at k2;obtain⟨s,o,o',d1,d2,x1,x2,x3⟩:=h.m1.entry (kd:=1) (λa b=>sO a b) _ k1 zero (.agg (fH bG[j]).toArray);have y2:=x2 (H.put r1 o) (AH.get_put_self _ _ l1);have y3:=x3 H l1;simp only[AH.put_put,id]at y2;have m2':dS u32 id (H.put r1 o') r2 (iQ.take j):=h.m2.keep (AH.get_put_ne _ _ (by omega))
 obtain⟨s2,p,p',d3,d4,z1,z2,z3⟩:=m2'.entry (kd:=0) (λa b=>iA a b) _ k2 zero (.agg (fH bG[j]).toArray);have l2':r2<(H.put r1 o').next:=l2;have w2:=z2 ((H.put r1 o').put r2 p) (AH.get_put_self _ _ l2');have w3:=z3 (H.put r1 o') l2';simp only[AH.put_put,id]at w2;refine⟨s,o,o',s2,p,p',x1,y2,z1,w2,?_⟩
 have t1:oY.take (j+1)=oY.take j++[(bG[j].2.1,.agg (fH bG[j]).toArray)]:=by
  rw[List.take_succ_eq_append_getElem (by show j<bG.length;exact hj)];simp[oY]
 have t2:iQ.take (j+1)=iQ.take j++[(BitVec.ofNat 32 bG[j].1,.agg (fH bG[j]).toArray)]:=by
  rw[List.take_succ_eq_append_getElem (by show j<bG.length;exact hj)];simp[iQ]
 refine⟨(h.only.put (.inr (by omega)) _).put (.inr (by omega)) _,?_,?_,?_,?_,h.n0,h.n1,h.n2,h.n3⟩
 ·rw[AH.get_put_ne _ _ (by omega),AH.get_put_ne _ _ (by omega)];exact h.box
 ·rw[t1];exact y3.keep (AH.get_put_ne _ _ (by omega))
 ·rw[t2];exact w3
 ·rw[AH.get_put_ne _ _ (by omega),AH.get_put_ne _ _ (by omega)];exact h.rows
theorem aK6(c:Nat×List UInt8×Nat)(H:AH):aI 3 (ptr H.next 0) (.agg (fH c).toArray) (H.new (.cells [(.int .u32 0),(.string ⟨#[]⟩),vi 0] none))=some (H.new (.cells (fH c) none)):=by
 rw[cL,AH.get_new_self];have h3:AM.aQ [(.int .u32 0),(.string ⟨#[]⟩),vi 0] 0 (fH c)=fH c:=rfl;have h4:(fH c).all plain1=true:=rfl;have h5:(fH c).length=3:=rfl;simp only[List.size_toArray,List.toList_toArray,h4,h5,List.length_cons,List.length_nil,Nat.zero_add,Nat.le_refl,and_self,if_true,h3,AH.new_put]
theorem aPO(H:AH){cs:List Value}(q3:cs.length=3)(qp:cs.all plain1=true):aI 3 (ptr H.next 0) (.agg cs.toArray) (H.new (.cells [(.int .u32 0),(.string ⟨#[]⟩),vi 0] none))=some (H.new (.cells cs none)):=by
 rw[cL,AH.get_new_self]
 have h3:AM.aQ [(.int .u32 0),(.string ⟨#[]⟩),vi 0] 0 cs=cs:=by
  match cs,q3 with
  | [a,b,c],_=>rfl
 simp only[List.size_toArray,List.toList_toArray,qp,q3,List.length_cons,List.length_nil,Nat.zero_add,Nat.le_refl,and_self,if_true,h3,AH.new_put]
theorem st1{c:List Value}{f:Option Nat}(hb:H.get tb = .cells c f){k:Nat}(hk:k<c.length){v:Value}(hp:plain1 v=true):aZ (ptr tb k) v H=some (H.put tb (.cells (c.set k v) f)):=by
 rw[eX,if_pos hp,hb];simp only[if_pos hk]
theorem aIM(hE:aW E){r1 r2 B:Nat}{q:Value}{a m:Int}{H0:AH}(h:aFl tb r1 r2 B q a m 0 H0 H)(hQ:∀ v H' a' m',dO [tb] H0 H'->H'.get tb = .cells (iL 0 1 q (.map (some r1)) (.map (some r2)) a' m') none->dS u32 id H' r2 iQ->Q v H'):
  lp4 (F.f67_l1 E Q) [ptr tb 0,slc B 0 30 30,vi 30,vi 0] H:=by
 have i0:vi 0=vi ((0:Nat):Int):=rfl;rw[i0];refine aY.count 30 (λj ls H'=>ls=[ptr tb 0,slc B 0 30 30,vi 30,vi j]/\aFl tb r1 r2 B q a m j H0 H') ?_ ⟨rfl,h⟩;rintro j _ H1 X1 hj ih ⟨rfl,g⟩;have z3:(vi 30:Value)=vi ((30:Nat):Int):=rfl;rcases Nat.lt_or_ge j 30 with hlt | hge
 rotate_left
 ·have hj0:j=30:=by omega
  subst hj0;have hlt':decide (((30:Nat):Int)<((30:Nat):Int))=false:=rfl;simp only[F.f67_l1,z3,aF,hlt',aB];refine S.add64 hE g.box (.inr rfl) λv a' m' =>?_;have:=g.n0;have:=g.n1;have:=g.n2;have hm:=g.m2;rw[show iQ.take 30=iQ from rfl]at hm;exact hQ _ _ a' m' (g.only.put (.inl (by simp)) _) (AH.get_put_self _ _ (AH.lt_cells g.box)) (hm.keep (AH.get_put_ne _ _ (by omega)))
 have hlt':decide ((j:Int)<((30:Nat):Int))=true:=decide_eq_true (by omega)
 have hjl:j<bG.length:=hlt;have hR:Rows H1 3 (slc B 0 30 30) (bG.map fH):=Rows.made g.rows (.inl rfl) rfl (λr hr=>by obtain⟨c,_,rfl⟩:=List.mem_map.1 hr;rfl)
 obtain⟨b,o,f1,f2⟩:=hR.ix (i:=j) (by simpa using hjl)
 have hrow:(bG.map fH)[j]'(by simpa using hjl)=fH bG[j]:=by simp
 rw[hrow]at f2;have lo:aE 3 (ptr b o) H1=some (.agg (fH bG[j]).toArray):=by rw[aL,f2];rfl
 have hinc:=bN (i:=j) (by omega)
 have hst:=aK6 bG[j] H1;have bp:=AH.get_new_self H1 (.cells (fH bG[j]) none);have g1:=g.new (.cells (fH bG[j]) none);have hBt:B<H1.next:=AH.lt_cells g.rows;obtain⟨s,p,p',s2,w,w',x1,x2,x3,x4,g2⟩:=g1.step hjl (.agg #[(.int .u32 0),(.string ⟨#[]⟩),vi 0]);have ih:=ih hlt;have bx:=g1.box;have t3:(iL 0 1 q (.map (some r1)) (.map (some r2)) a m)[3]? = some (.map (some r1)):=rfl;have t4:(iL 0 1 q (.map (some r1)) (.map (some r2)) a m)[4]? = some (.map (some r2)):=rfl;simp only[F.f67_l1,z3,aF,hlt',f1,lo,bE,hst,bx,t3,t4,bp,aB];generalize bG[j]=c at *;have:=g1.n0;have:=g1.n1;have:=g1.n2;have:=g1.n3;generalize H1.new (.cells (fH c) none)=H2 at *;generalize H1.next=t at *;have c0:(fH c)[0]? = some (u32 (BitVec.ofNat 32 c.1)):=rfl;have c1:(fH c)[1]? = some (str c.2.1):=rfl;have lt:∀ {K:AH},K.get t = .cells (fH c) none->aE 3 (ptr t 0) K=some (.agg (fH c).toArray):=λhk=>by rw[aL,hk];rfl
 have l1:∀ {K:AH},K.get t = .cells (fH c) none->aD (ptr t 0) K=some (u32 (BitVec.ofNat 32 c.1)):=λhk=>by rw[eF,hk];rfl
 have b3:(H2.put r1 p).get t = .cells (fH c) none:=by rw[AH.get_put_ne _ _ (by omega)];exact bp
 have b4:(H2.put r1 p').get t = .cells (fH c) none:=by rw[AH.get_put_ne _ _ (by omega)];exact bp
 have b5:((H2.put r1 p').put r2 w).get t = .cells (fH c) none:=by rw[AH.get_put_ne _ _ (by omega)];exact b4
 simp only[bx,t3,t4,bp,c0,c1,lt bp,x1,lt b3,l1 b3,l1 bp,x2,lt b4,l1 b4,x3,lt b5,x4,hinc,aB];exact⟨trivial,trivial,trivial,trivial,trivial,trivial,ih _ _ ⟨rfl,g2⟩⟩
theorem S.names_fill(hE:aW E){q:Value}{a m:Int}(hb:H.get tb = .cells (iL 0 1 q (.map none) (.map none) a m) none)(hQ:∀ v H' r1 r2 a' m',dO [tb] H H'->H'.get tb = .cells (iL 0 1 q (.map (some r1)) (.map (some r2)) a' m') none->dS u32 id H' r2 iQ->H.next<=r2->Q v H'):E.call 131 [ptr tb 0] H Q:=by
 apply hE.f67;have hmw:∀ (H:AH) (K:Value->AH->Prop),mY H K=K (.map (some H.next)) (H.new (.map [] 0 true)):=λ_ _=>rfl;have hlt:=AH.lt_cells hb;have o2:dO [tb] H ((H.new (.map [] 0 true)).new (.map [] 0 true)):=((dO.refl _ _).new _).new _;have b2:((H.new (.map [] 0 true)).new (.map [] 0 true)).get tb = .cells (iL 0 1 q (.map none) (.map none) a m) none:=by rw[AH.get_new_lt _ _ (by rw[AH.next_new];omega),AH.get_new_lt _ _ hlt];exact hb
 have m1:dS str id ((H.new (.map [] 0 true)).new (.map [] 0 true)) H.next ([]:List (List UInt8×Value)):=(dS.new H).keep (AH.get_new_lt _ _ (by rw[AH.next_new];omega))
 have m2:dS u32 id ((H.new (.map [] 0 true)).new (.map [] 0 true)) (H.next+1) ([]:List (BitVec 32×Value)):=by
  have:=dS.new (fk:=u32) (fv:=(id:Value->Value)) (H.new (.map [] 0 true));rw[AH.next_new]at this;exact this
 have n2:((H.new (.map [] 0 true)).new (.map [] 0 true)).next=H.next+2:=rfl;have s1:=st1 b2 (k:=3) (by simp[iL]) (v := .map (some H.next)) rfl
 have hl2:tb<((H.new (.map [] 0 true)).new (.map [] 0 true)).next:=by rw[n2];omega
 have b3:=AH.get_put_self ((H.new (.map [] 0 true)).new (.map [] 0 true)) (b:=tb) (.cells ((iL 0 1 q (.map none) (.map none) a m).set 3 (.map (some H.next))) none) hl2;have s2:=st1 b3 (k:=4) (by simp[iL]) (v := .map (some (H.next+1))) rfl
 simp only[AH.put_put]at s2;simp only[F.f67,hmw,s1,s2,aB];have c4:(((iL 0 1 q (.map none) (.map none) a m).set 3 (.map (some H.next))).set 4 (.map (some (H.next+1))))=iL 0 1 q (.map (some H.next)) (.map (some (H.next+1))) a m:=rfl;rw[c4];have o3:dO [tb] H (((H.new (.map [] 0 true)).new (.map [] 0 true)).put tb (.cells (iL 0 1 q (.map (some H.next)) (.map (some (H.next+1))) a m) none)):=o2.put (.inl (by simp)) _
 have b4:=AH.get_put_self ((H.new (.map [] 0 true)).new (.map [] 0 true)) (b:=tb) (.cells (iL 0 1 q (.map (some H.next)) (.map (some (H.next+1))) a m) none) hl2;have m1':=m1.keep (H':=((H.new (.map [] 0 true)).new (.map [] 0 true)).put tb (.cells (iL 0 1 q (.map (some H.next)) (.map (some (H.next+1))) a m) none)) (AH.get_put_ne _ _ (by omega))
 have m2':=m2.keep (H':=((H.new (.map [] 0 true)).new (.map [] 0 true)).put tb (.cells (iL 0 1 q (.map (some H.next)) (.map (some (H.next+1))) a m) none)) (AH.get_put_ne _ _ (by omega))
 have n3:(((H.new (.map [] 0 true)).new (.map [] 0 true)).put tb (.cells (iL 0 1 q (.map (some H.next)) (.map (some (H.next+1))) a m) none)).next=H.next+2:=rfl;generalize ((H.new (.map [] 0 true)).new (.map [] 0 true)).put tb (.cells (iL 0 1 q (.map (some H.next)) (.map (some (H.next+1))) a m) none)=H3 at *;refine S.f69 hE ?_;have ln:lenSlc (slc H3.next 0 30 30)=some (vi 30):=rfl;simp only[ln,aB];refine aIM hE (r1:=H.next) (r2:=H.next+1) (B:=H3.next) (q:=q) (a:=a) (m:=m) (H0:=H) ⟨o3.new _,?_,?_,?_,AH.get_new_self _ _,hlt,Nat.le_refl _,by omega,by omega⟩ λv H' a' m' p1 p2 p3=>hQ v H' _ _ a' m' p1 p2 p3 (by omega)
 ·rw[AH.get_new_lt _ _ (by omega)];exact b4
 ·exact m1'.keep (AH.get_new_lt _ _ (by omega))
 ·exact m2'.keep (AH.get_new_lt _ _ (by omega))
def dY(tb:Nat):Option Nat->Res
 | none=>⟨[tb],λH=>∃ q a m,H.get tb = .cells (iL 0 0 q (.map none) (.map none) a m) none,λ⟨q,a,m,h⟩ e=>⟨q,a,m,by rw[e tb (by simp)];exact h⟩⟩
 | some r=>⟨[tb,r],λH=>tb≠r/\dS u32 id H r iQ/\∃ q m1 a m,H.get tb = .cells (iL 1 0 q m1 (.map (some r)) a m) none,λ⟨k,h1,q,m1,a,m,h⟩ e=>⟨k,h1.keep (e r (by simp)),q,m1,a,m,by rw[e tb (by simp)];exact h⟩⟩
theorem zG{s:Option Nat}(h:(dY tb s).P H):∀ b∈(dY tb s).fp,b<H.next:=by
 cases s with
 | none =>
  obtain⟨q,a,m,h⟩:=h;intro b hb;obtain rfl:b=tb:=by simpa[dY] using hb
  exact AH.lt_cells h
 | some r =>
  obtain⟨k,h1,q,m1,a,m,h⟩:=h;intro b hb;have hb:b=tb\/b=r:=by simpa[dY] using hb
  rcases hb with rfl | rfl
  ·exact AH.lt_cells h
  ·exact h1.lt
theorem S.names_ask(hE:aW E){s:Option Nat}(h:(dY tb s).P H)(hQ:∀ r H',Upd (dY tb s) (dY tb (some r)) H H'->Q (vb true) H'):E.call 105 [ptr tb 0] H Q:=by
 apply hE.f66;have pe:eY jR .eql (ptr tb 0) (.pointer none)=some (vb false):=rfl;simp only[F.f66,pe,aB];apply hE.f127;cases s with
 | some r =>
  obtain⟨k,h1,q,m1,a,m,hb⟩:=h;refine⟨tb,0,ptr tb 0,_,none,1,0,rfl,rfl,hb,rfl,rfl,.inl ⟨by decide,?_⟩⟩
  simp only[aB];refine S.add64 hE hb (.inl rfl) λv a' m' =>?_;have hlt:=AH.lt_cells hb;have h2:=h1.lt
  exact hQ r _ ⟨(dO.refl _ _).put (.inl (by simp[dY])) _,⟨k,h1.keep (AH.get_put_ne _ _ (λe=>k e.symm)),q,m1,a',m',AH.get_put_self _ _ hlt⟩,λb hb'=>⟨.inl hb',by
   have:b=tb\/b=r:=by simpa[dY] using hb'
   rcases this with rfl | rfl
   ·exact hlt
   ·exact h2⟩,by simp[dY,k]⟩
 | none =>
  obtain⟨q,a,m,hb⟩:=h;have hlt:=AH.lt_cells hb;refine⟨tb,0,ptr tb 0,_,none,0,0,rfl,rfl,hb,rfl,rfl,.inr ⟨rfl,rfl,?_⟩⟩;have hb1:(H.put tb (.cells ((iL 0 0 q (.map none) (.map none) a m).set (0+1) (.int .i32 1)) none)).get tb = .cells (iL 0 1 q (.map none) (.map none) a m) none:=AH.get_put_self _ _ hlt;refine S.names_fill hE hb1 λv H' r1 r2 a' m' p1 p2 p3 p4 =>?_;unfold aAX;rw[p2];refine⟨rfl,rfl,?_⟩;have hl':=AH.lt_cells p2;have c5:((iL 0 1 q (.map (some r1)) (.map (some r2)) a' m').set 0 (.int .u32 1)).set (0+1) (.int .i32 0)=iL 1 0 q (.map (some r1)) (.map (some r2)) a' m':=rfl;rw[c5];have hb2:=AH.get_put_self H' (b:=tb) (.cells (iL 1 0 q (.map (some r1)) (.map (some r2)) a' m') none) hl';simp only[aB];refine S.add64 hE hb2 (.inl rfl) λv2 a2 m2 =>?_
  have hne:tb≠r2:=by
   have:(H.put tb (.cells ((iL 0 0 q (.map none) (.map none) a m).set (0+1) (.int .i32 1)) none)).next=H.next:=rfl;omega
  have hr:=p3.lt;refine hQ r2 _ ⟨?_,⟨hne,(p3.keep (AH.get_put_ne _ _ (λe=>hne e.symm))).keep (AH.get_put_ne _ _ (λe=>hne e.symm)),q,_,a2,m2,AH.get_put_self _ _ hl'⟩,λb hb' =>?_,by simp[dY,hne]⟩
  ·exact((((dO.refl [tb] H).put (.inl (by simp)) _).trans' p1).put (.inl (by simp)) _).put (.inl (by simp)) _
  ·have:b=tb\/b=r2:=by simpa[dY] using hb'
   rcases this with rfl | rfl
   ·exact⟨.inl (by simp[dY]),hl'⟩
   ·exact⟨.inr p4,hr⟩
theorem S.names_Numbered(hE:aW E){s:Option Nat}(h:(dY tb s).P H)(n:BitVec 32)(hQ:∀ (cs:List Value) r H',cs.length=3->cs.all plain1=true->Upd (dY tb s) (dY tb (some r)) H H'->Q (.tuple #[.agg cs.toArray,vb (vX n)]) H'):E.call 73 [ptr tb 0,u32 n] H Q:=by
 apply hE.f65;have hl:=zG h;have hn:(dY tb s).P (H.new (.cells [(.int .u32 0),(.string ⟨#[]⟩),vi 0] none)):=(dY tb s).keep h λb hb=>AH.get_new_lt _ _ (hl b hb);simp only[F.f65,bE,aB];refine S.names_ask hE hn λr H2 u =>?_;obtain⟨k,h1,q,m1,a,m,hb⟩:=u.holds;have c4:(iL 1 0 q m1 (.map (some r)) a m)[4]? = some (.map (some r)):=rfl;have hlk:=h1.look (kd:=0) (λa b=>iA a b) n (.agg #[(.int .u32 0),(.string ⟨#[]⟩),vi 0]) true
 have hlen:∀ v,iQ.lookup n=some v->∃ cs:List Value,v = .agg cs.toArray/\cs.length=3/\cs.all plain1=true:=λv hv=>by
  have hm:∀ {l:List (BitVec 32×Value)},l.lookup n=some v->∃ p∈l,p.2=v:=by
   intro l
   induction l with
   | nil=>intro h;cases h
   | cons p l ih =>
    intro h;rw[List.lookup]at h
    split at h
    ·cases h;exact⟨p,List.mem_cons_self ..,rfl⟩
    ·obtain⟨q,hq,e⟩:=ih h;exact⟨q,List.mem_cons_of_mem _ hq,e⟩
  obtain⟨p,hp,rfl⟩:=hm hv;obtain⟨c,_,rfl⟩:=List.mem_map.1 hp;exact⟨fH c,rfl,rfl,rfl⟩
 obtain⟨cs,z,q3,qp,e0,e1⟩:∃ (cs:List Value) (z:Bool),cs.length=3/\cs.all plain1=true/\AM.look 0 (.agg #[(.int .u32 0),(.string ⟨#[]⟩),vi 0]) true (.map (some r)) (u32 n) H2=some (.tuple #[.agg cs.toArray,vb z])/\z=vX n:=by
  rw[hlk];unfold vX;cases hk:iQ.lookup n with
  | none=>exact⟨[(.int .u32 0),(.string ⟨#[]⟩),vi 0],false,rfl,rfl,rfl,rfl⟩
  | some v =>
   obtain⟨cs,rfl,a1,a2⟩:=hlen v hk;exact⟨cs,true,a1,a2,rfl,rfl⟩
 subst e1;have hnew:=aPO H2 q3 qp;have b3:=AH.get_new_self H2 (.cells cs none);have n1:(H.new (.cells [(.int .u32 0),(.string ⟨#[]⟩),vi 0] none)).next=H.next+1:=rfl;have ho:H.next ∉ (dY tb s).fp:=λhm=>by have:=hl _ hm;omega
 have bv:H2.get H.next = .cells [(.int .u32 0),(.string ⟨#[]⟩),vi 0] none:=u.only.cells (AH.get_new_self _ _) ho;have hv2:=AH.lt_cells bv;have bv3:(H2.new (.cells cs none)).get H.next = .cells [(.int .u32 0),(.string ⟨#[]⟩),vi 0] none:=by rw[AH.get_new_lt _ _ hv2];exact bv
 have l3:aE 3 (ptr H2.next 0) (H2.new (.cells cs none))=some (.agg cs.toArray):=by rw[aL,b3,<- q3,dF _ _ _ rfl];rfl
 have hst:aI 3 (ptr H.next 0) (.agg cs.toArray) (H2.new (.cells cs none))=some ((H2.new (.cells cs none)).put H.next (.cells cs none)):=by
  rw[cL,bv3]
  have h3:AM.aQ [(.int .u32 0),(.string ⟨#[]⟩),vi 0] 0 cs=cs:=by
   match cs,q3 with
   | [a,b,c],_=>rfl
  simp only[List.size_toArray,List.toList_toArray,qp,q3,List.length_cons,List.length_nil,Nat.zero_add,Nat.le_refl,and_self,if_true,h3]
 have hv3:H.next<(H2.new (.cells cs none)).next:=by rw[AH.next_new];omega
 have b4:=AH.get_put_self (H2.new (.cells cs none)) (b:=H.next) (.cells cs none) hv3;have l4:aE 3 (ptr H.next 0) ((H2.new (.cells cs none)).put H.next (.cells cs none))=some (.agg cs.toArray):=by rw[aL,b4,<- q3,dF _ _ _ rfl];rfl
 simp only[bW,hb,c4,e0,hnew,l3,hst,l4,bE,aB]
 have hf:∀ b∈(dY tb (some r)).fp,b≠H.next/\b<H2.next:=λb hm=>by
  obtain⟨f1,f2⟩:=u.fp b hm;refine⟨?_,f2⟩;rcases f1 with f1 | f1
  ·have:=hl b f1;omega
  ·omega
 refine hQ cs r _ q3 qp ⟨?_,(dY tb (some r)).keep u.holds λb hm =>?_,λb hm =>?_,u.nd⟩
 ·refine dO.put (dO.new ?_ _) (.inr (Nat.le_refl _)) _
  exact((dO.refl _ _).new _).trans' u.only
 ·rw[AH.get_put_ne _ _ (hf b hm).1,AH.get_new_lt _ _ (hf b hm).2]
 ·obtain⟨f1,f2⟩:=u.fp b hm
  exact⟨f1.imp id (λk=>by omega),by show b<H2.next+1;omega⟩
end
end
section
set_option maxRecDepth 20000
def hO(c:bA):Int :=
 if c.arg<0\/5<c.arg then 204
 else if c.op.toNat<1\/7<c.op.toNat then 210
 else if c.op≠7#8/\c.mask≠0#64 then 203
 else if c.op=7#8/\(c.mask=0#64\/c.value &&& ~~~c.mask≠0#64) then 204
 else 0
def uS(a:BitVec 32):Bool :=
 decide (a=2147483648#32)||decide (a=2147221504#32)||decide (a=2147418112#32)||(decide (pR a=327680#32)&&(decide (1<=(a&&&65535#32).toNat)&&decide ((a&&&65535#32).toNat<=4095)))
section
variable {E:Sy}{H H':AH}{Q:Value->AH->Prop}
theorem S.f80(hE:aW E)(c:bA)(hQ:∀ H',Ext H H'->Q (vi (hO c)) H'):E.call 74 [c.v] H Q:=by
 apply hE.f80;have b1:=AH.get_new_self H (.cells c.cells none);have x1:Ext H (H.new (.cells c.cells none)):=(Ext.refl H).new _;have c0:c.cells[0]? = some (vi c.arg):=rfl;have c1:c.cells[1]? = some (u8 c.op):=rfl;have c2:c.cells[2]? = some (u64 c.mask):=rfl;have c3:c.cells[3]? = some (u64 c.value):=rfl;have q1:(.int .u8 1:Value)=u8 1#8:=rfl;have q7:(.int .u8 7:Value)=u8 7#8:=rfl;have q0:(.int .u64 0:Value)=u64 0#64:=rfl;have n1:(1#8).toNat=1:=rfl;have n7:(7#8).toNat=7:=rfl;have hQ:=hQ _ x1;unfold hO at hQ;simp only[F.f80,aX,AM.aT,aR,List.toList_toArray,b1,c0,aF,aB];generalize H.new (.cells c.cells none)=H1 at *
 by_cases a1:c.arg<0
 ·rw[if_pos (.inl a1)]at hQ
  simp only[decide_eq_true a1,aB];exact hQ
 simp only[decide_eq_false a1,b1,c0,cN,aB]
 by_cases a2:5<c.arg
 ·rw[if_pos (.inr a2)]at hQ
  simp only[decide_eq_true a2,aB];exact hQ
 rw[if_neg (by omega)]at hQ
 simp only[decide_eq_false a2,b1,c1,q1,aGt,n1,aB]
 by_cases o1:c.op.toNat<1
 ·rw[if_pos (.inl o1)]at hQ
  simp only[decide_eq_true o1,aB];exact hQ
 simp only[decide_eq_false o1,b1,c1,q7,aGp,n7,aB]
 by_cases o2:7<c.op.toNat
 ·rw[if_pos (.inr o2)]at hQ
  simp only[decide_eq_true o2,aB];exact hQ
 rw[if_neg (by omega)]at hQ
 simp only[decide_eq_false o2,b1,c1,q7,aBY,aB]
 by_cases o3:c.op=7#8
 ·have d1:decide (c.op≠7#8)=false:=decide_eq_false (by simpa using o3)
  rw[if_neg (λh=>h.1 o3)]at hQ;simp only[d1,b1,c1,q7,eB,decide_eq_true o3,c2,q0,yQ,aB]
  by_cases m0:c.mask=0#64
  ·rw[if_pos ⟨o3,.inl m0⟩]at hQ
   simp only[decide_eq_true m0,aB];exact hQ
  simp only[decide_eq_false m0,b1,c2,c3,aG1,q0,aDH,aB]
  by_cases mv:c.value &&& ~~~c.mask=0#64
  ·have d2:decide (c.value &&& ~~~c.mask≠0#64)=false:=decide_eq_false (by simpa using mv)
   rw[if_neg (λh=>h.2.elim m0 (λk=>k mv))]at hQ;simp only[d2,aB];exact hQ
  ·have d2:decide (c.value &&& ~~~c.mask≠0#64)=true:=decide_eq_true mv
   rw[if_pos ⟨o3,.inr mv⟩]at hQ;simp only[d2,aB];exact hQ
 ·have d1:decide (c.op≠7#8)=true:=decide_eq_true o3
  simp only[d1,b1,c2,q0,aDH,aB]
  by_cases m0:c.mask=0#64
  ·have d2:decide (c.mask≠0#64)=false:=decide_eq_false (by simpa using m0)
   rw[if_neg (λh=>h.2 m0),if_neg (λh=>o3 h.1)]at hQ;simp only[d2,b1,c1,q7,eB,decide_eq_false o3,aB];exact hQ
  ·have d2:decide (c.mask≠0#64)=true:=decide_eq_true m0
   rw[if_pos ⟨o3,m0⟩]at hQ;simp only[d2,aB];exact hQ
theorem S.f87(hE:aW E)(a:BitVec 32)(hQ:Q (vb (uS a)) H):E.call 34 [u32 a] H Q:=by
 apply hE.f87;have k1:(.int .u32 2147483648:Value)=u32 2147483648#32:=rfl;have k2:(.int .u32 2147221504:Value)=u32 2147221504#32:=rfl;have k3:(.int .u32 2147418112:Value)=u32 2147418112#32:=rfl;have k4:(.int .u32 65535:Value)=u32 65535#32:=rfl;have k5:(.int .u32 327680:Value)=u32 327680#32:=rfl;have k6:(.int .u32 1:Value)=u32 1#32:=rfl;have k7:(.int .u32 4095:Value)=u32 4095#32:=rfl;have n1:(1#32).toNat=1:=rfl;have n2:(4095#32).toNat=4095:=rfl;unfold uS at hQ;simp only[F.f87,k1,oS,aB]
 by_cases d1:a=2147483648#32
 ·simp only[decide_eq_true d1,Bool.true_or,F.f87_j1,aB]at hQ ⊢
  exact hQ
 simp only[decide_eq_false d1,k2,oS,Bool.false_or,aB]at hQ ⊢
 by_cases d2:a=2147221504#32
 ·simp only[decide_eq_true d2,Bool.true_or,F.f87_j1,aB]at hQ ⊢
  exact hQ
 simp only[decide_eq_false d2,k3,oS,Bool.false_or,aB]at hQ ⊢
 by_cases d3:a=2147418112#32
 ·simp only[decide_eq_true d3,Bool.true_or,F.f87_j1,aB]at hQ ⊢
  exact hQ
 simp only[decide_eq_false d3,Bool.false_or,F.f87_j1,k4,aHM,aB]at hQ ⊢;refine S.f88 hE a ?_;simp only[k5,oS,aB]
 by_cases d4:pR a=327680#32
 ·simp only[decide_eq_true d4,Bool.true_and,k6,aHN,n1,aB]at hQ ⊢
  by_cases d5:1<=(a&&&65535#32).toNat
  ·simp only[decide_eq_true d5,Bool.true_and,k7,aMZ,n2,aB]at hQ ⊢
   exact hQ
  ·simp only[decide_eq_false d5,Bool.false_and,aB]at hQ ⊢
   exact hQ
 ·simp only[decide_eq_false d4,Bool.false_and,aB]at hQ ⊢
  exact hQ
end
end
section
set_option maxRecDepth 20000
def aG8(a b:BitVec 16):Bool:=decide (b &&& ~~~ a=0#16)
section
variable {X:List Res}{E:Sy}{H0 H H' H'':AH}{Q:Value->AH->Prop}{w t s:Nat}{M M':List vS}{nx nx' k:Int}{v dv:Value}
theorem S.f95(hE:aW E)(a b:BitVec 16)(hQ:Q (vb (aG8 a b)) H):E.call 108 [u16 a,u16 b] H Q:=by
 apply hE.f95;have n0:(.int .u16 0:Value)=u16 0#16:=rfl;simp only[F.f95,iS,n0,cC,aB];exact hQ
end
end
section
set_option maxRecDepth 20000
structure wS(Z H:AH)(tb:Nat)(s:Option Nat):Prop where
 sub:Sub Z H
 tab:(dY tb s).P H
 dead:∀ b∈(dY tb s).fp,Z.get b = .dead
theorem wS.upd{Z H H':AH}{tb:Nat}{s s':Option Nat}(h:wS Z H tb s)(u:Upd (dY tb s) (dY tb s') H H'):wS Z H' tb s' :=
 ⟨h.sub.only u.only h.dead,u.holds,λb hb=>((u.fp b hb).1).elim (h.dead b) λk=>AH.get_ge _ (Nat.le_trans h.sub.1 k)⟩
theorem wS.ext{Z H H':AH}{tb:Nat}{s:Option Nat}(h:wS Z H tb s)(e:Ext H H'):wS Z H' tb s :=
 ⟨h.sub.ext e,(dY tb s).keep h.tab λb hb=>e.get (zG h.tab b hb),h.dead⟩
theorem aOl(tb:Nat)(s:Option Nat){H:AH}(h:(dY tb s).P H):(dY tb s).fp.Nodup:=by
 cases s with
 | none=>simp[dY]
 | some r =>
  obtain⟨k,_⟩:=h;simp[dY,k]
theorem wS.same{Z H H':AH}{tb:Nat}{s:Option Nat}(h:wS Z H tb s)(e:Ext H H'):Upd (dY tb s) (dY tb s) H H' :=
 (Upd.refl h.tab (zG h.tab) (aOl tb s h.tab)).ext e
def gR:List bA->Int
 | []=>0
 | c :: l=>if hO c=0 then gR l else hO c
def fV(x:cR):Int:=if vX x.number=false then 38 else if uS x.action=false then 210 else if 6<x.conds.length then 205 else gR x.conds
section
variable {E:Sy}{H H' Z:AH}{Q:Value->AH->Prop}{tb:Nat}{s:Option Nat}
theorem aIx(c:bA)(H:AH):aI 4 (ptr H.next 0) c.v (H.new (.cells [vi 0,(.int .u8 0),(.int .u64 0),(.int .u64 0)] none))=some (H.new (.cells c.cells none)):=by
 rw[cL,AH.get_new_self];have h3:AM.aQ [vi 0,(.int .u8 0),(.int .u64 0),(.int .u64 0)] 0 c.cells=c.cells:=rfl;have h4:c.cells.all plain1=true:=rfl;have h5:c.cells.length=4:=rfl;simp only[List.size_toArray,List.toList_toArray,h4,h5,List.length_cons,List.length_nil,Nat.zero_add,Nat.le_refl,and_self,if_true,h3,AH.new_put]
theorem aEA(hE:aW E){v:Value}{l:List bA}(hv:Rows H 4 v (l.map bA.cells))(hl:l.length<2 ^ 62)(hQ:∀ H',Ext H H'->Q (vi (gR l)) H'):
  lp3 (F.f86_l1 E Q) [v,vi l.length,vi 0] H:=by
 have i0:vi 0=vi ((0:Nat):Int):=rfl;rw[i0];refine aY.count l.length (λj ls H'=>ls=[v,vi l.length,vi j]/\Ext H H'/\gR l=gR (l.drop j)) ?_ ⟨rfl,Ext.refl _,rfl⟩;rintro j _ H1 X1 hj ih ⟨rfl,e1,hc⟩;rcases Nat.lt_or_ge j l.length with hlt | hge
 rotate_left
 ·have hlt':decide ((j:Int)<l.length)=false:=decide_eq_false (by omega)
  rw[List.drop_eq_nil_of_le hge]at hc;have hc:gR l=0:=hc;rw[hc]at hQ;simp only[F.f86_l1,aF,hlt',aB];exact hQ _ e1
 have hlt':decide ((j:Int)<l.length)=true:=decide_eq_true (by omega)
 obtain⟨b,o,f1,f2⟩:=(hv.mono e1).ix (i:=j) (by simpa using hlt)
 have hrow:(l.map bA.cells)[j]'(by simpa using hlt)=l[j].cells:=by simp
 rw[hrow]at f2;have lo:aE 4 (ptr b o) H1=some l[j].v:=by rw[aL,f2];rfl
 have hinc:=bN (i:=j) (by omega)
 have ih:=ih hlt;rw[List.drop_eq_getElem_cons hlt]at hc;generalize l[j]=c at *;have hcons:gR (c :: l.drop (j+1))=if hO c=0 then gR (l.drop (j+1)) else hO c:=rfl;rw[hcons]at hc;have hst:=aIx c H1;have x1:Ext H1 (H1.new (.cells c.cells none)):=(Ext.refl _).new _;have bp:=AH.get_new_self H1 (.cells c.cells none);simp only[F.f86_l1,aF,hlt',f1,lo,bE,hst,aB];generalize H1.new (.cells c.cells none)=H2 at *;have l2:aE 4 (ptr H1.next 0) H2=some c.v:=by rw[aL,bp];rfl
 simp only[l2,aB];refine S.f80 hE c λH3 e3 =>?_;have z0:(.int .i64 0:Value)=vi 0:=rfl;simp only[z0,fJ,aB]
 by_cases h0:hO c=0
 ·have hd:decide (hO c≠0)=false:=decide_eq_false (by simpa using h0)
  rw[if_pos h0]at hc;simp only[hd,hinc,aB];exact ih _ _ ⟨rfl,(e1.trans x1).trans e3,hc⟩
 ·have hd:decide (hO c≠0)=true:=decide_eq_true h0
  rw[if_neg h0]at hc;rw[hc]at hQ;simp only[hd,aB];exact hQ _ ((e1.trans x1).trans e3)
theorem S.f86(hE:aW E)(ht:wS Z H tb s)(x:cR){cs:List Value}(hx:eA Z x cs)(hl:x.conds.length<2 ^ 62)(hQ:∀ s' H',Upd (dY tb s) (dY tb s') H H'->Q (vi (fV x)) H'):E.call 36 [.agg cs.toArray,ptr tb 0] H Q:=by
 apply hE.f86;obtain⟨_,v,rfl,hv⟩:=hx;have b1:=AH.get_new_self H (.cells [u32 x.number,u32 x.action,v] none);have x1:Ext H (H.new (.cells [u32 x.number,u32 x.action,v] none)):=(Ext.refl H).new _;have ht1:=ht.ext x1;have hlt:=zG ht.tab;have u0:=ht.same x1;simp only[F.f86,aX,AM.aT,aR,List.toList_toArray,b1,aB];have hb1:=AH.lt_cells b1;have hn:H.next ∉ (dY tb s).fp:=λhm=>Nat.lt_irrefl _ (hlt _ hm);generalize H.new (.cells [u32 x.number,u32 x.action,v] none)=H1 at *;generalize H.next=t at *;refine S.names_Numbered hE ht1.tab x.number λc4 r H2 q3 qp u =>?_;have ht2:=ht1.upd u;have b2:=u.only.cells b1 hn;have hv2:=hv.sub ht2.sub;have u2:=u0.trans u;have hnew:=aPO H2 q3 qp;have x3:Ext H2 (H2.new (.cells c4 none)):=(Ext.refl _).new _;have b3:=x3.cells b2;unfold fV at hQ;simp only[bE,hnew,bW,aB];generalize H2.new (.cells c4 none)=H3 at *;have u3:=u2.ext x3;cases hc:vX x.number with
 | false =>
  simp only[hc,if_true]at hQ;simp only[aB];exact hQ _ _ u3
 | true =>
  simp only[hc,Bool.true_eq_false,if_false]at hQ;simp only[b3,aB];refine S.f87 hE x.action ?_;simp only[bW,aB];cases ha:uS x.action with
  | false =>
   simp only[ha,if_true]at hQ;simp only[aB];exact hQ _ _ u3
  | true =>
   simp only[ha,Bool.true_eq_false,if_false]at hQ;have hv3:=hv2.mono x3;have lv:=hv3.lenSlc;rw[List.length_map]at lv;have z6:(.int .i64 6:Value)=vi ((6:Nat):Int):=rfl;simp only[b3,lv,z6,cN,aB]
   by_cases h6:6<x.conds.length
   ·rw[if_pos h6]at hQ
    have hd:decide (((6:Nat):Int)<(x.conds.length:Int))=true:=decide_eq_true (by omega)
    simp only[hd,aB];exact hQ _ _ u3
   ·rw[if_neg h6]at hQ
    have hd:decide (((6:Nat):Int)<(x.conds.length:Int))=false:=decide_eq_false (by omega)
    simp only[hd,b3,lv,aB];exact aEA hE hv3 hl λH' e=>hQ _ _ (u3.ext e)
end
end
section
set_option maxRecDepth 20000
theorem aHo(s:ByteArray)(i:Nat):1<=(Utf8.decode s i).2:=by
 unfold Utf8.decode;simp only[]
 repeat' split
 all_goals simp
def aGW(r:Int):Bool := !(((decide (r<97)||decide (122<r))&&(decide (r<48)||decide (57<r)))&&decide (r≠45)&&decide (r≠95))
def rS(s:ByteArray):Nat->Nat->Bool
 | 0,_=>true
 | f+1,pos=>if pos<s.size then aGW ((Utf8.decode s pos).1:Int)&&rS s f (pos+(Utf8.decode s pos).2) else true
theorem aIq(s:ByteArray){pos:Nat}(h:¬ pos<s.size):∀ f,rS s f pos=true
 | 0=>rfl
 | f+1=>by unfold rS;rw[if_neg h]
def aCe(s:List UInt8):Bool:=decide (0<s.length)&&(decide (s.length<=14)&&((s.head?.any λc=>decide (97<=c.toNat)&&decide (c.toNat<=122))&&rS ⟨s.toArray⟩ s.length 0))
section
variable {E:Sy}{H H':AH}{Q:Value->AH->Prop}
theorem aM4(hE:aW E){s:ByteArray}{r:Nat}(hb:H.get r = .siter s 0)(h0:AH)(hr:h0.next<=r)(e0:Ext h0 H){f:Nat}(hf:s.size<=f)(hQ:∀ H',Ext h0 H'->Q (vb (rS s f 0)) H'):
  lp1 (F.f68_l1 E Q) [ptr r 0] H:=by
 refine aY.ind (λm ls H'=>∃ pos,ls=[ptr r 0]/\H'.get r = .siter s pos/\Ext h0 H'/\s.size - pos<=m/\rS s f 0=rS s m pos) ?_ f ⟨0,rfl,hb,e0,by omega,rfl⟩
 rintro m _ H1 X1 hX ⟨pos,rfl,hg,e1,hm,hw⟩
 by_cases hp:pos<s.size
 ·obtain⟨k,rfl⟩:∃ k,m=k+1:=⟨m - 1,by omega⟩
  have hn:rT (ptr r 0) H1=some (.tuple #[.bool true,.int .i64 pos,.int .i32 (Utf8.decode s pos).1],H1.put r (.siter s (pos+(Utf8.decode s pos).2))):=by
   simp only[rT,ptr,hg,if_pos hp]
  have hw1:=aHo s pos
  have hst:rS s (k+1) pos=(aGW ((Utf8.decode s pos).1:Int)&&rS s k (pos+(Utf8.decode s pos).2)):=by
   show(if pos<s.size then _ else _)=_
   rw[if_pos hp]
  rw[hst]at hw;have hlt:r<H1.next:=AH.lt_of_get (by rw[hg];simp)
  have hg2:=AH.get_put_self H1 (b:=r) (.siter s (pos+(Utf8.decode s pos).2)) hlt;have e2:Ext h0 (H1.put r (.siter s (pos+(Utf8.decode s pos).2))):=e1.put hr _;generalize (Utf8.decode s pos).2=w at *;generalize (Utf8.decode s pos).1=c at *;generalize H1.put r (.siter s (pos+w))=H2 at *;have t0:ext (.tuple #[.bool true,.int .i64 pos,.int .i32 c]) 0=some (.bool true):=rfl;have t2:ext (.tuple #[.bool true,.int .i64 pos,.int .i32 c]) 2=some (.int .i32 c):=rfl;have i1:aA .lss (.int .i32 c) (.int .i32 97)=some (vb (decide ((c:Int)<97))):=oC ..;have i2:aA .gtr (.int .i32 c) (.int .i32 122)=some (vb (decide (122<(c:Int)))):=oN ..;have i3:aA .lss (.int .i32 c) (.int .i32 48)=some (vb (decide ((c:Int)<48))):=oC ..;have i4:aA .gtr (.int .i32 c) (.int .i32 57)=some (vb (decide (57<(c:Int)))):=oN ..;have i5:aA .neq (.int .i32 c) (.int .i32 45)=some (vb (decide ((c:Int)≠45))):=jW ..;have i6:aA .neq (.int .i32 c) (.int .i32 95)=some (vb (decide ((c:Int)≠95))):=jW ..;unfold aGW at hw;simp only[F.f68_l1,hn,t0,t2,i1,aB];have good:rS s f 0=rS s k (pos+w)->X1 [ptr r 0] H2:=λe=>hX k (by omega) _ _ ⟨pos+w,rfl,hg2,e2,by omega,e⟩
  have bad:rS s f 0=false->Q (vb false) H2:=λe=>by
   have:=hQ _ e2;rw[e]at this;exact this
  generalize decide ((c:Int)<97)=d1 at *;generalize decide (122<(c:Int))=d2 at *;generalize decide ((c:Int)<48)=d3 at *;generalize decide (57<(c:Int))=d4 at *;generalize decide ((c:Int)≠45)=d5 at *;generalize decide ((c:Int)≠95)=d6 at *
  cases d1<;>cases d2<;>cases d3<;>cases d4<;>cases d5<;>cases d6<;>simp only[i2,i3,i4,i5,i6,aB]<;>first
   | exact good (hw.trans (by simp))
   | exact bad (hw.trans (by simp))
 ·have hn:rT (ptr r 0) H1=some (.tuple #[.bool false],H1):=by
   simp only[rT,ptr,hg,if_neg hp]
  have t0:ext (.tuple #[.bool false]) 0=some (.bool false):=rfl;have:=hQ _ e1;rw[hw,aIq s hp]at this;simp only[F.f68_l1,hn,t0,aB];exact this
theorem S.f68(hE:aW E)(s:List UInt8)(hQ:∀ H',Ext H H'->Q (vb (aCe s)) H'):E.call 33 [str s] H Q:=by
 apply hE.f68;have z1:(.int .i64 1:Value)=vi ((1:Nat):Int):=rfl;have z14:(.int .i64 14:Value)=vi ((14:Nat):Int):=rfl;have z0:vi 0=vi ((0:Nat):Int):=rfl;have q97:(.int .u8 97:Value)=u8 97#8:=rfl;have q122:(.int .u8 122:Value)=u8 122#8:=rfl;have hr0:zR (str s)=some (.siter ⟨s.toArray⟩ 0,oJ):=rfl;have x0:Ext H (H.new (.siter ⟨s.toArray⟩ 0)):=(Ext.refl _).new _;have hb:=AH.get_new_self H (.siter ⟨s.toArray⟩ 0);unfold aCe at hQ;simp only[F.f68,oB,z1,aF,aB]
 by_cases h1:0<s.length
 rotate_left
 ·have d:decide ((s.length:Int)<((1:Nat):Int))=true:=decide_eq_true (by omega)
  simp only[decide_eq_false h1,Bool.false_and]at hQ;simp only[d,aB];exact hQ _ (Ext.refl _)
 have d:decide ((s.length:Int)<((1:Nat):Int))=false:=decide_eq_false (by omega)
 simp only[d,oB,z14,cN,aB];simp only[decide_eq_true h1,Bool.true_and]at hQ
 by_cases h2:s.length<=14
 rotate_left
 ·have d:decide (((14:Nat):Int)<(s.length:Int))=true:=decide_eq_true (by omega)
  simp only[decide_eq_false h2,Bool.false_and]at hQ;simp only[d,aB];exact hQ _ (Ext.refl _)
 have d:decide (((14:Nat):Int)<(s.length:Int))=false:=decide_eq_false (by omega)
 have hix:=aAS s 0 h1;simp only[decide_eq_true h2,Bool.true_and]at hQ
 have hh:s.head? = some s[0]:=by
  cases s with
  | nil=>simp at h1
  | cons c l=>rfl
 rw[hh]at hQ;have hn:(s[0].toBitVec).toNat=s[0].toNat:=rfl;have n97:(97#8).toNat=97:=rfl;have n122:(122#8).toNat=122:=rfl;simp only[Option.any_some]at hQ;simp only[d,z0,hix,q97,aGt,hn,n97,aB]
 by_cases h3:97<=s[0].toNat
 rotate_left
 ·have d:decide (s[0].toNat<97)=true:=decide_eq_true (by omega)
  simp only[decide_eq_false h3,Bool.false_and]at hQ;simp only[d,aB];exact hQ _ (Ext.refl _)
 have d:decide (s[0].toNat<97)=false:=decide_eq_false (by omega)
 simp only[decide_eq_true h3,Bool.true_and]at hQ;simp only[d,z0,hix,q122,aGp,hn,n122,aB]
 by_cases h4:s[0].toNat<=122
 rotate_left
 ·have d:decide (122<s[0].toNat)=true:=decide_eq_true (by omega)
  simp only[decide_eq_false h4,Bool.false_and]at hQ;simp only[d,aB];exact hQ _ (Ext.refl _)
 have d:decide (122<s[0].toNat)=false:=decide_eq_false (by omega)
 simp only[decide_eq_true h4,Bool.true_and]at hQ;simp only[d,hr0,AM.aT,aR,aB];exact aM4 hE hb H (Nat.le_refl _) x0 (f:=s.length) (by simp[ByteArray.size]) hQ
def sX(c:UInt8):Bool:=decide (32<c.toNat)&&(decide (c.toNat<127)&&decide (c.toNat≠35))
theorem S.f52(hE:aW E)(c:UInt8)(hQ:Q (vb (sX c)) H):E.call 106 [u8 c.toBitVec] H Q:=by
 apply hE.f52;have q32:(.int .u8 32:Value)=u8 32#8:=rfl;have q127:(.int .u8 127:Value)=u8 127#8:=rfl;have q35:(.int .u8 35:Value)=u8 35#8:=rfl;have hn:(c.toBitVec).toNat=c.toNat:=rfl;have n32:(32#8).toNat=32:=rfl;have n127:(127#8).toNat=127:=rfl;unfold sX at hQ;simp only[F.f52,q32,aGp,hn,n32,aB]
 by_cases h1:32<c.toNat
 rotate_left
 ·simp only[decide_eq_false h1,Bool.false_and,aB]at hQ ⊢; exact hQ
 simp only[decide_eq_true h1,Bool.true_and,q127,aGt,hn,n127,aB]at hQ ⊢
 by_cases h2:c.toNat<127
 rotate_left
 ·simp only[decide_eq_false h2,Bool.false_and,aB]at hQ ⊢; exact hQ
 simp only[decide_eq_true h2,Bool.true_and,q35,aBY,aB]at hQ ⊢
 have e:decide (c.toBitVec≠35#8)=decide (c.toNat≠35):=by
  rw[decide_eq_decide];exact not_congr ⟨λh=>by rw[<- hn,h];rfl,λh=>BitVec.eq_of_toNat_eq (by rw[hn,h];rfl)⟩
 rw[e];exact hQ
def xO(p:List UInt8):Bool:=decide (p≠[])&&(decide (p≠[46])&&(decide (p≠[46,46])&&decide (p.length<=14)))
def aAn(s:List UInt8):Bool:=decide (0<s.length)&&(decide (s.length<=120)&&((s.head?.any λc=>decide (c.toNat=47))&&(decide (s=[47])||(s.all sX&&(fY [] s.tail).all xO))))
theorem aMx(hE:aW E){v:Value}{l:List (List UInt8)}(hv:Rows H 1 v (pF l))(hl:l.length<2 ^ 62)(hQ:Q (vb (l.all xO)) H):
  lp3 (F.f81_l2 E Q) [v,vi l.length,vi 0] H:=by
 have i0:vi 0=vi ((0:Nat):Int):=rfl;rw[i0];refine aY.count l.length (λj ls H'=>ls=[v,vi l.length,vi j]/\H=H'/\l.all xO=(l.drop j).all xO) ?_ ⟨rfl,rfl,rfl⟩;rintro j _ _ X1 hj ih ⟨rfl,rfl,hc⟩;have z14:(.int .i64 14:Value)=vi ((14:Nat):Int):=rfl;rcases Nat.lt_or_ge j l.length with hlt | hge
 rotate_left
 ·have hlt':decide ((j:Int)<l.length)=false:=decide_eq_false (by omega)
  rw[List.drop_eq_nil_of_le hge]at hc;have hc:l.all xO=true:=hc;rw[hc]at hQ;simp only[F.f81_l2,aF,hlt',aB];exact hQ
 have hlt':decide ((j:Int)<l.length)=true:=decide_eq_true (by omega)
 have hsl:(pF l).length=l.length:=by simp[pF]
 obtain⟨b,o,f1,f2⟩:=hv.ix (i:=j) (by rw[hsl];exact hlt)
 have hrow:(pF l)[j]'(by rw[hsl];exact hlt)=[str l[j]]:=by simp[pF]
 rw[hrow]at f2
 have lo:aD (ptr b o) H=some (str l[j]):=by
  rw[eF];exact(mF f2 (j:=0) (by omega)).trans rfl
 have hinc:=bN (i:=j) (by omega)
 have ih:=ih hlt;rw[List.drop_eq_getElem_cons hlt,List.all_cons]at hc;generalize l[j]=p at *;have e0:(.string ⟨#[]⟩:Value)=str []:=rfl;have e1:(.string ⟨#[46]⟩:Value)=str [46]:=rfl;have e2:(.string ⟨#[46,46]⟩:Value)=str [46,46]:=rfl
 have bad:xO p=false->Q (vb false) H:=λh=>by
  rw[hc,h]at hQ;exact hQ
 have hp:xO p=(decide (p≠[])&&(decide (p≠[46])&&(decide (p≠[46,46])&&decide (p.length<=14)))):=rfl;simp only[F.f81_l2,aF,hlt',f1,lo,e0,rG,aB]
 by_cases h1:p=[]
 ·simp only[decide_eq_true h1,aB]
  exact bad (by rw[hp];simp[h1])
 simp only[decide_eq_false h1,e1,rG,aB]
 by_cases h2:p=[46]
 ·simp only[decide_eq_true h2,aB]
  exact bad (by rw[hp];simp[h2])
 simp only[decide_eq_false h2,e2,rG,aB]
 by_cases h3:p=[46,46]
 ·simp only[decide_eq_true h3,aB]
  exact bad (by rw[hp];simp[h3])
 simp only[decide_eq_false h3,oB,z14,cN,aB]
 by_cases h4:p.length<=14
 ·have d:decide (((14:Nat):Int)<(p.length:Int))=false:=decide_eq_false (by omega)
  simp only[d,hinc,aB];have hpt:xO p=true:=by rw[hp];simp[h1,h2,h3,h4]
  rw[hpt,Bool.true_and]at hc;exact ih _ _ ⟨rfl,rfl,hc⟩
 ·have d:decide (((14:Nat):Int)<(p.length:Int))=true:=decide_eq_true (by omega)
  simp only[d,aB];exact bad (by rw[hp];simp[h4])
theorem aMw(hE:aW E)(s:List UInt8)(h0:0<s.length)(hl:s.length<2 ^ 40)(hQ:∀ H',Ext H H'->Q (vb (s.all sX&&(fY [] s.tail).all xO)) H')(hsp:(fY [] s.tail).length<2 ^ 62):
  lp3 (F.f81_l1 E Q) [str s,vi s.length,vi 0] H:=by
 have i0:vi 0=vi ((0:Nat):Int):=rfl;rw[i0];refine aY.count s.length (λj ls H'=>ls=[str s,vi s.length,vi j]/\H=H'/\s.all sX=(s.drop j).all sX) ?_ ⟨rfl,rfl,rfl⟩;rintro j _ _ X1 hj ih ⟨rfl,rfl,hc⟩;rcases Nat.lt_or_ge j s.length with hlt | hge
 rotate_left
 ·have hlt':decide ((j:Int)<s.length)=false:=decide_eq_false (by omega)
  rw[List.drop_eq_nil_of_le hge]at hc;have hc:s.all sX=true:=hc;simp only[hc,Bool.true_and]at hQ
  have sl:lE (str s) (some (vi 1)) none=some (str s.tail):=by
   have:=aCg s 1 (by omega)
   rw[List.drop_one]at this;exact this
  have e47:(.string ⟨#[47]⟩:Value)=str [47]:=rfl;simp only[F.f81_l1,aF,hlt',sl,e47,aB];refine S.f124 hE _ (by rw[List.length_tail];omega) λv H' e hv =>?_
  have hlv:=hv.lenSlc;have hsl:(pF (fY [] s.tail)).length=(fY [] s.tail).length:=by simp[pF]
  rw[hsl]at hlv;simp only[hlv,aB];exact aMx hE hv hsp (hQ _ e)
 have hlt':decide ((j:Int)<s.length)=true:=decide_eq_true (by omega)
 have hix:=aAS s j hlt;have hinc:=bN (i:=j) (by omega)
 have ih:=ih hlt;rw[List.drop_eq_getElem_cons hlt,List.all_cons]at hc;generalize s[j]=c at *;simp only[F.f81_l1,aF,hlt',hix,aB];refine S.f52 hE c ?_;simp only[bW,aB];cases hp:sX c with
 | false =>
  rw[hp,Bool.false_and]at hc;have:=hQ _ (Ext.refl _);rw[hc,Bool.false_and]at this;simp only[aB];exact this
 | true =>
  rw[hp,Bool.true_and]at hc;simp only[hinc,aB];exact ih _ _ ⟨rfl,rfl,hc⟩
theorem S.f81(hE:aW E)(s:List UInt8)(hl:s.length<2 ^ 40)(hQ:∀ H',Ext H H'->Q (vb (aAn s)) H'):E.call 75 [str s] H Q:=by
 apply hE.f81;have z1:(.int .i64 1:Value)=vi ((1:Nat):Int):=rfl;have z120:(.int .i64 120:Value)=vi ((120:Nat):Int):=rfl;have z0:vi 0=vi ((0:Nat):Int):=rfl;have q47:(.int .u8 47:Value)=u8 47#8:=rfl;have e47:(.string ⟨#[47]⟩:Value)=str [47]:=rfl;unfold aAn at hQ;simp only[F.f81,oB,z1,aF,aB]
 by_cases h1:0<s.length
 rotate_left
 ·have d:decide ((s.length:Int)<((1:Nat):Int))=true:=decide_eq_true (by omega)
  simp only[decide_eq_false h1,Bool.false_and]at hQ;simp only[d,aB];exact hQ _ (Ext.refl _)
 have d:decide ((s.length:Int)<((1:Nat):Int))=false:=decide_eq_false (by omega)
 simp only[d,oB,z120,cN,aB];simp only[decide_eq_true h1,Bool.true_and]at hQ
 by_cases h2:s.length<=120
 rotate_left
 ·have d:decide (((120:Nat):Int)<(s.length:Int))=true:=decide_eq_true (by omega)
  simp only[decide_eq_false h2,Bool.false_and]at hQ;simp only[d,aB];exact hQ _ (Ext.refl _)
 have d:decide (((120:Nat):Int)<(s.length:Int))=false:=decide_eq_false (by omega)
 have hix:=aAS s 0 h1;simp only[decide_eq_true h2,Bool.true_and]at hQ
 have hh:s.head? = some s[0]:=by
  cases s with
  | nil=>simp at h1
  | cons c l=>rfl
 rw[hh]at hQ
 have en:decide (s[0].toBitVec≠47#8) = !decide (s[0].toNat=47):=by
  rw[<- decide_not,decide_eq_decide];exact not_congr ⟨λh=>by show(s[0].toBitVec).toNat=47;rw[h];rfl,λh=>BitVec.eq_of_toNat_eq h⟩
 simp only[Option.any_some]at hQ;simp only[d,z0,hix,q47,aBY,en,aB]
 by_cases h3:s[0].toNat=47
 rotate_left
 ·simp only[decide_eq_false h3,Bool.false_and,Bool.not_false,aB]at hQ ⊢
  exact hQ _ (Ext.refl _)
 simp only[decide_eq_true h3,Bool.true_and,Bool.not_true,e47,rG,aB]at hQ ⊢
 by_cases h4:s=[47]
 ·simp only[decide_eq_true h4,Bool.true_or,aB]at hQ ⊢
  exact hQ _ (Ext.refl _)
 simp only[decide_eq_false h4,Bool.false_or,oB,aB]at hQ ⊢;exact aMw hE s h1 hl hQ (by have:=aHp s.tail;rw[List.length_tail]at this;omega)
theorem S.f96(hE:aW E)(a:BitVec 16)(hQ:Q (vb (decide (a &&& ~~~51199#16=0#16))) H):E.call 35 [u16 a] H Q:=by
 apply hE.f96;have q1:(.int .u16 51199:Value)=u16 51199#16:=rfl;have q0:(.int .u16 0:Value)=u16 0#16:=rfl;simp only[F.f96,q1,q0,iS,cC,aB];exact hQ
def iG(x:oO)(v pv qv:Value):List Value:=[str x.name,u32 x.pol.default,v,u16 x.handled,pv,qv]
def kW(h r kind:BitVec 16):Bool:=decide (r≠0#16)&&(aG8 h r&&aG8 kind r)
theorem S.policy_granted(hE:aW E)(x:oO)(v pv qv:Value)(r kind:BitVec 16)(hQ:∀ H',Ext H H'->Q (vb (kW x.handled r kind)) H'):E.call 76 [.agg (iG x v pv qv).toArray,u16 r,u16 kind] H Q:=by
 apply hE.f83;have b1:=AH.get_new_self H (.cells (iG x v pv qv) none);have x1:Ext H (H.new (.cells (iG x v pv qv) none)):=(Ext.refl H).new _;have c3:(iG x v pv qv)[3]? = some (u16 x.handled):=rfl;have q0:(.int .u16 0:Value)=u16 0#16:=rfl;have hQ:=hQ _ x1;unfold kW at hQ;simp only[F.f83,aX,AM.aT,aR,List.toList_toArray,q0,yN,aB];generalize H.new (.cells (iG x v pv qv) none)=H1 at *
 by_cases h1:r=0#16
 ·have d:decide (r≠0#16)=false:=decide_eq_false (by simpa using h1)
  simp only[d,Bool.false_and,aB]at hQ ⊢;exact hQ
 have d:decide (r≠0#16)=true:=decide_eq_true h1;simp only[d,Bool.true_and,b1,c3,aB]at hQ ⊢;refine S.f95 hE _ _ ?_;cases h2:aG8 x.handled r with
 | false =>
  simp only[h2,Bool.false_and]at hQ;simp only[d,aB];exact hQ
 | true =>
  simp only[h2,Bool.true_and]at hQ;simp only[d,aB];refine S.f95 hE _ _ ?_;simp only[aB];exact hQ
end
end
section
set_option maxRecDepth 20000
def eV(h:BitVec 16):List (List UInt8)->List (List UInt8×BitVec 16)->Int
 | _,[]=>0
 | dD,p :: l=>if aAn p.1=false then 203 else if kW h p.2 2047#16=false then 204 else if p.1∈dD then 206 else eV h (dD++[p.1]) l
def gL(h:BitVec 16):List (BitVec 16)->List (BitVec 16×BitVec 16)->Int
 | _,[]=>0
 | dD,p :: l=>if kW h p.2 49152#16=false then 204 else if p.1∈dD then 206 else gL h (dD++[p.1]) l
def fQ:List cR->Int
 | []=>0
 | x :: l=>if fV x=0 then fQ l else fV x
def iH(x:oO):Int :=
 if aCe x.name=false then 202 else if uS x.pol.default=false then 210
 else if 64<x.pol.rules.length\/32<x.paths.length\/32<x.ports.length then 205
 else if x.handled &&& ~~~51199#16≠0#16 then 204
 else if fQ x.pol.rules≠0 then fQ x.pol.rules
 else if eV x.handled [] x.paths≠0 then eV x.handled [] x.paths
 else gL x.handled [] x.ports
section
variable {E:Sy}{H H' H0 Z:AH}{Q:Value->AH->Prop}{tb:Nat}{s:Option Nat}
theorem uJ{K:Type}[DecidableEq K]{fk:K->Value}{r kd:Nat}{l:List K}(h:dS fk vb H r (l.map λk=>(k,true)))(hk:∀ a b,bX kd (fk a) (fk b)=some (decide (a=b)))(k:K){z:Bool}(hz:z=true↔k∈l):
  AM.look kd (.bool false) false (.map (some r)) (fk k) H=some (vb z):=by
 have:=h.look hk k (.bool false) false;rw[this]
 have e:∀ l:List K,(l.map λk=>(k,true)).lookup k=if k∈l then some true else none:=by
  intro l
  induction l with
  | nil=>rfl
  | cons a l ih =>
   rw[List.map_cons,List.lookup]
   by_cases ha:k=a
   ·subst ha;simp
   ·have:(k == a)=false:=by simpa using ha
    simp only[this,ih,List.mem_cons,ha,false_or]
 rw[e]
 by_cases hm:k∈l
 ·rw[if_pos hm,hz.2 hm];rfl
 ·have:z=false:=by
   cases z with
   | false=>rfl
   | true=>exact absurd (hz.1 rfl) hm
  rw[if_neg hm,this];rfl
theorem uN{K:Type}[DecidableEq K](k:K):∀ l:List K,k ∉ l->fB k true (l.map λk=>(k,true))=(l++[k]).map λk=>(k,true)
 | [],_=>rfl
 | a :: l,h=>by
  have h1:a≠k:=λe=>h (by simp[e])
  have h2:k ∉ l:=λm=>h (List.mem_cons_of_mem _ m);rw[List.map_cons,fB,if_neg h1,uN k l h2];rfl
theorem aHE{a b z0 z1:Value}(hp:[a,b].all plain1=true)(H:AH):aI 2 (ptr H.next 0) (.agg #[a,b]) (H.new (.cells [z0,z1] none))=some (H.new (.cells [a,b] none)):=by
 rw[cL,AH.get_new_self];have h3:AM.aQ [z0,z1] 0 [a,b]=[a,b]:=rfl;simp only[hp,List.length_cons,List.length_nil,Nat.zero_add,Nat.le_refl,and_self,if_true,h3,AH.new_put,Nat.reduceAdd,List.size_toArray]
theorem aKD(hE:aW E){x:oO}{v pv qv:Value}{tp r:Nat}(hv:Rows H0 2 pv (x.paths.map λp=>[str p.1,u16 p.2]))(hl:x.paths.length<2 ^ 62)(hln:∀ p∈x.paths,p.1.length<2 ^ 40)(hs:Has H0 Z H [bJ tp (iG x v pv qv),dP str vb r ([]:List (List UInt8×Bool))])(hQ:∀ H',Ext H0 H'->Q (vi (eV x.handled [] x.paths)) H'):
  lp5 (F.f84_l1 E Q) [ptr tp 0,.map (some r),pv,vi x.paths.length,vi 0] H:=by
 have i0:vi 0=vi ((0:Nat):Int):=rfl;rw[i0];refine aY.count x.paths.length (λj ls H'=>∃ dD:List (List UInt8),ls=[ptr tp 0,.map (some r),pv,vi x.paths.length,vi j]/\Has H0 Z H' [bJ tp (iG x v pv qv),dP str vb r (dD.map λk=>(k,true))]/\eV x.handled [] x.paths=eV x.handled dD (x.paths.drop j)) ?_ ⟨[],rfl,hs,rfl⟩;rintro j _ H1 X1 hj ih ⟨dD,rfl,g,hc⟩;rcases Nat.lt_or_ge j x.paths.length with hlt | hge
 rotate_left
 ·have hlt':decide ((j:Int)<x.paths.length)=false:=decide_eq_false (by omega)
  rw[List.drop_eq_nil_of_le hge]at hc;have hc:eV x.handled [] x.paths=0:=hc;rw[hc]at hQ;simp only[F.f84_l1,aF,hlt',aB];exact hQ _ g.ext
 have hlt':decide ((j:Int)<x.paths.length)=true:=decide_eq_true (by omega)
 obtain⟨b,o,f1,f2⟩:=(hv.mono g.ext).ix (i:=j) (by simpa using hlt)
 have hrow:(x.paths.map λp=>[str p.1,u16 p.2])[j]'(by simpa using hlt)=[str x.paths[j].1,u16 x.paths[j].2]:=by simp
 rw[hrow]at f2;have lo:aE 2 (ptr b o) H1=some (.agg #[str x.paths[j].1,u16 x.paths[j].2]):=by rw[aL,f2];rfl
 have hinc:=bN (i:=j) (by omega)
 have ih:=ih hlt;have hln:=hln _ (List.getElem_mem hlt);rw[List.drop_eq_getElem_cons hlt]at hc;generalize x.paths[j]=p at *;have hcons:eV x.handled dD (p :: x.paths.drop (j+1))=if aAn p.1=false then 203 else if kW x.handled p.2 2047#16=false then 204 else if p.1∈dD then 206 else eV x.handled (dD++[p.1]) (x.paths.drop (j+1)):=rfl;rw[hcons]at hc;have hst:=aHE (a:=str p.1) (b:=u16 p.2) (z0 := .string ⟨#[]⟩) (z1 := .int .u16 0) rfl H1;have g1:=g.newbox [str p.1,u16 p.2];simp only[F.f84_l1,aF,hlt',f1,lo,bE,hst,aB];generalize H1.new (.cells [str p.1,u16 p.2] none)=H2 at *;generalize H1.next=t at *;have bt:=g1.box (k:=2) (b:=t) (c:=[str p.1,u16 p.2]) rfl;have c0:([str p.1,u16 p.2]:List Value)[0]? = some (str p.1):=rfl;have c1:([str p.1,u16 p.2]:List Value)[1]? = some (u16 p.2):=rfl;simp only[bt,c0,aB];refine S.f81 hE p.1 hln λH3 e3 =>?_;have g3:=g1.refreeze e3 (Fz.refl _ _) (g1.sub.ext e3);simp only[bW,aB];cases hp:aAn p.1 with
 | false =>
  rw[hp,if_pos rfl]at hc;rw[hc]at hQ;simp only[aB];exact hQ _ g3.ext
 | true =>
 rw[hp,if_neg (by simp)]at hc
 have bp:=g3.box (k:=0) (b:=tp) (c:=iG x v pv qv) rfl;have bt3:=g3.box (k:=2) (b:=t) (c:=[str p.1,u16 p.2]) rfl;have l6:aE 6 (ptr tp 0) H3=some (.agg (iG x v pv qv).toArray):=by rw[aL,bp];rfl
 have q2:(.int .u16 2047:Value)=u16 2047#16:=rfl;simp only[l6,bt3,c1,q2,aB];refine S.policy_granted hE x v pv qv p.2 2047#16 λH4 e4 =>?_;have g4:=g3.refreeze e4 (Fz.refl _ _) (g3.sub.ext e4);simp only[bW,aB];cases hg:kW x.handled p.2 2047#16 with
 | false =>
  rw[hg,if_pos rfl]at hc;rw[hc]at hQ;simp only[aB];exact hQ _ g4.ext
 | true =>
 rw[hg,if_neg (by simp)]at hc
 have bt4:=g4.box (k:=2) (b:=t) (c:=[str p.1,u16 p.2]) rfl;have hlk:=λz hz=>uJ (g4.mapAt (k:=1) (fk:=str) (fv:=vb) (r:=r) (l:=dD.map λk=>(k,true)) rfl) (kd:=1) (λa b=>sO a b) p.1 (z:=z) hz
 by_cases hm:p.1∈dD
 ·rw[if_pos hm]at hc
  rw[hc]at hQ;simp only[bt4,c0,hlk true (by simp[hm]),aB]
  exact hQ _ g4.ext
 ·rw[if_neg hm]at hc
  obtain⟨H5,s1,g5⟩:=g4.mapset (n:=1) (kd:=1) (fk:=str) (fv:=vb) (r:=r) (l:=dD.map λk=>(k,true)) rfl (λa b=>sO a b) p.1 true;rw[uN _ _ hm]at g5;simp only[bt4,c0,hlk false (by simp[hm]),s1,hinc,aB]
  exact ih _ _ ⟨dD++[p.1],rfl,Has.dropLast (L:=[bJ tp (iG x v pv qv),dP str vb r ((dD++[p.1]).map λk=>(k,true))]) g5,hc⟩
theorem aJ9(hE:aW E){x:oO}{v pv qv:Value}{tp r:Nat}(hv:Rows H0 2 qv (x.ports.map λp=>[u16 p.1,u16 p.2]))(hl:x.ports.length<2 ^ 62)(hs:Has H0 Z H [bJ tp (iG x v pv qv),dP u16 vb r ([]:List (BitVec 16×Bool))])(hQ:∀ H',Ext H0 H'->Q (vi (gL x.handled [] x.ports)) H'):
  lp5 (F.f85_l1 E Q) [ptr tp 0,.map (some r),qv,vi x.ports.length,vi 0] H:=by
 have i0:vi 0=vi ((0:Nat):Int):=rfl;rw[i0];refine aY.count x.ports.length (λj ls H'=>∃ dD:List (BitVec 16),ls=[ptr tp 0,.map (some r),qv,vi x.ports.length,vi j]/\Has H0 Z H' [bJ tp (iG x v pv qv),dP u16 vb r (dD.map λk=>(k,true))]/\gL x.handled [] x.ports=gL x.handled dD (x.ports.drop j)) ?_ ⟨[],rfl,hs,rfl⟩;rintro j _ H1 X1 hj ih ⟨dD,rfl,g,hc⟩;rcases Nat.lt_or_ge j x.ports.length with hlt | hge
 rotate_left
 ·have hlt':decide ((j:Int)<x.ports.length)=false:=decide_eq_false (by omega)
  rw[List.drop_eq_nil_of_le hge]at hc;have hc:gL x.handled [] x.ports=0:=hc;rw[hc]at hQ;simp only[F.f85_l1,aF,hlt',aB];exact hQ _ g.ext
 have hlt':decide ((j:Int)<x.ports.length)=true:=decide_eq_true (by omega)
 obtain⟨b,o,f1,f2⟩:=(hv.mono g.ext).ix (i:=j) (by simpa using hlt)
 have hrow:(x.ports.map λp=>[u16 p.1,u16 p.2])[j]'(by simpa using hlt)=[u16 x.ports[j].1,u16 x.ports[j].2]:=by simp
 rw[hrow]at f2;have lo:aE 2 (ptr b o) H1=some (.agg #[u16 x.ports[j].1,u16 x.ports[j].2]):=by rw[aL,f2];rfl
 have hinc:=bN (i:=j) (by omega)
 have ih:=ih hlt;rw[List.drop_eq_getElem_cons hlt]at hc;generalize x.ports[j]=p at *;have hcons:gL x.handled dD (p :: x.ports.drop (j+1))=if kW x.handled p.2 49152#16=false then 204 else if p.1∈dD then 206 else gL x.handled (dD++[p.1]) (x.ports.drop (j+1)):=rfl;rw[hcons]at hc;have hst:=aHE (a:=u16 p.1) (b:=u16 p.2) (z0 := .int .u16 0) (z1 := .int .u16 0) rfl H1;have g1:=g.newbox [u16 p.1,u16 p.2];simp only[F.f85_l1,aF,hlt',f1,lo,bE,hst,aB];generalize H1.new (.cells [u16 p.1,u16 p.2] none)=H2 at *;generalize H1.next=t at *;have bt:=g1.box (k:=2) (b:=t) (c:=[u16 p.1,u16 p.2]) rfl;have c0:([u16 p.1,u16 p.2]:List Value)[0]? = some (u16 p.1):=rfl;have c1:([u16 p.1,u16 p.2]:List Value)[1]? = some (u16 p.2):=rfl;have bp:=g1.box (k:=0) (b:=tp) (c:=iG x v pv qv) rfl;have bt3:=g1.box (k:=2) (b:=t) (c:=[u16 p.1,u16 p.2]) rfl;have l6:aE 6 (ptr tp 0) H2=some (.agg (iG x v pv qv).toArray):=by rw[aL,bp];rfl
 have q2:(.int .u16 49152:Value)=u16 49152#16:=rfl;simp only[l6,bt3,c1,q2,aB];refine S.policy_granted hE x v pv qv p.2 49152#16 λH4 e4 =>?_;have g4:=g1.refreeze e4 (Fz.refl _ _) (g1.sub.ext e4);simp only[bW,aB];cases hg:kW x.handled p.2 49152#16 with
 | false =>
  rw[hg,if_pos rfl]at hc;rw[hc]at hQ;simp only[aB];exact hQ _ g4.ext
 | true =>
 rw[hg,if_neg (by simp)]at hc
 have bt4:=g4.box (k:=2) (b:=t) (c:=[u16 p.1,u16 p.2]) rfl;have hlk:=λz hz=>uJ (g4.mapAt (k:=1) (fk:=u16) (fv:=vb) (r:=r) (l:=dD.map λk=>(k,true)) rfl) (kd:=0) (λa b=>xP a b) p.1 (z:=z) hz
 by_cases hm:p.1∈dD
 ·rw[if_pos hm]at hc
  rw[hc]at hQ;simp only[bt4,c0,hlk true (by simp[hm]),aB]
  exact hQ _ g4.ext
 ·rw[if_neg hm]at hc
  obtain⟨H5,s1,g5⟩:=g4.mapset (n:=1) (kd:=0) (fk:=u16) (fv:=vb) (r:=r) (l:=dD.map λk=>(k,true)) rfl (λa b=>xP a b) p.1 true;rw[uN _ _ hm]at g5;simp only[bt4,c0,hlk false (by simp[hm]),s1,hinc,aB]
  exact ih _ _ ⟨dD++[p.1],rfl,Has.dropLast (L:=[bJ tp (iG x v pv qv),dP u16 vb r ((dD++[p.1]).map λk=>(k,true))]) g5,hc⟩
theorem S.policy_paths(hE:aW E){x:oO}{v pv qv:Value}(hv:Rows H 2 pv (x.paths.map λp=>[str p.1,u16 p.2]))(hl:x.paths.length<2 ^ 62)(hln:∀ p∈x.paths,p.1.length<2 ^ 40)(hQ:∀ H',Ext H H'->Q (vi (eV x.handled [] x.paths)) H'):E.call 37 [.agg (iG x v pv qv).toArray] H Q:=by
 apply hE.f84;have hmw:∀ (H:AH) (K:Value->AH->Prop),mY H K=K (.map (some H.next)) (H.new (.map [] 0 true)):=λ_ _=>rfl;have g1:=(Has.begin (Ext.refl H) (Sub.refl H)).newbox (iG x v pv qv);have g2:=g1.newmap str vb;have lv:=hv.lenSlc;rw[List.length_map]at lv;have c4:(iG x v pv qv)[4]? = some pv:=rfl;have b1:=g2.box (k:=0) (b:=H.next) (c:=iG x v pv qv) rfl;simp only[F.f84,aX,AM.aT,aR,List.toList_toArray,hmw,b1,c4,lv,aB];exact aKD hE hv hl hln g2 hQ
theorem S.policy_ports(hE:aW E){x:oO}{v pv qv:Value}(hv:Rows H 2 qv (x.ports.map λp=>[u16 p.1,u16 p.2]))(hl:x.ports.length<2 ^ 62)(hQ:∀ H',Ext H H'->Q (vi (gL x.handled [] x.ports)) H'):E.call 38 [.agg (iG x v pv qv).toArray] H Q:=by
 apply hE.f85;have hmw:∀ (H:AH) (K:Value->AH->Prop),mY H K=K (.map (some H.next)) (H.new (.map [] 0 true)):=λ_ _=>rfl;have g1:=(Has.begin (Ext.refl H) (Sub.refl H)).newbox (iG x v pv qv);have g2:=g1.newmap u16 vb;have lv:=hv.lenSlc;rw[List.length_map]at lv;have c5:(iG x v pv qv)[5]? = some qv:=rfl;have b1:=g2.box (k:=0) (b:=H.next) (c:=iG x v pv qv) rfl;simp only[F.f85,aX,AM.aT,aR,List.toList_toArray,hmw,b1,c5,lv,aB];exact aJ9 hE hv hl g2 hQ
end
end
section
set_option maxRecDepth 20000
structure oO.soon(x:oO):Prop where
 rules:x.pol.rules.length<2 ^ 62
 conds:∀ r∈x.pol.rules,r.conds.length<2 ^ 62
 paths:x.paths.length<2 ^ 62
 names:∀ p∈x.paths,p.1.length<2 ^ 40
 ports:x.ports.length<2 ^ 62
section
variable {E:Sy}{H H' H0 Z:AH}{Q:Value->AH->Prop}{tb:Nat}{s:Option Nat}
theorem Upd.not_in{s s':Option Nat}(u:Upd (dY tb s) (dY tb s') H H'){t:Nat}(ht:t<H.next)(hn:t ∉ (dY tb s).fp):t ∉ (dY tb s').fp:=λh=>by
 rcases(u.fp t h).1 with k | k
 ·exact hn k
 ·omega
theorem aBZ(cs:List Value)(h3:cs.length=3)(hp:cs.all plain1=true)(H:AH):aI 3 (ptr H.next 0) (.agg cs.toArray) (H.new (.cells [(.int .u32 0),(.int .u32 0),(.slice none 0 0)] none))=some (H.new (.cells cs none)):=by
 rw[cL,AH.get_new_self]
 have h4:AM.aQ [(.int .u32 0),(.int .u32 0),(.slice none 0 0)] 0 cs=cs:=by
  match cs,h3 with
  | [a,b,c],_=>rfl
 simp only[List.size_toArray,List.toList_toArray,hp,h3,List.length_cons,List.length_nil,Nat.zero_add,Nat.le_refl,and_self,if_true,h4,AH.new_put]
theorem aJI(hE:aW E)(x:oO){v pv qv:Value}{t:Nat}{H0:AH}{s0:Option Nat}(hv:cO eA Z 3 v x.pol.rules)(hp:Rows Z 2 pv (x.paths.map λp=>[str p.1,u16 p.2]))(hq:Rows Z 2 qv (x.ports.map λp=>[u16 p.1,u16 p.2]))(hs:x.soon)(ht:wS Z H tb s)(u0:Upd (dY tb s0) (dY tb s) H0 H)(hb:H.get t = .cells (iG x v pv qv) none)(hn:t ∉ (dY tb s).fp)(hQ:∀ s' H',Upd (dY tb s0) (dY tb s') H0 H'->Q (vi (if fQ x.pol.rules≠0 then fQ x.pol.rules else if eV x.handled [] x.paths≠0 then eV x.handled [] x.paths else gL x.handled [] x.ports)) H'):
  lp5 (F.f82_l1 E Q) [ptr tb 0,ptr t 0,v,vi x.pol.rules.length,vi 0] H:=by
 have i0:vi 0=vi ((0:Nat):Int):=rfl;rw[i0];refine aY.count x.pol.rules.length (λj ls H'=>∃ s',ls=[ptr tb 0,ptr t 0,v,vi x.pol.rules.length,vi j]/\wS Z H' tb s'/\Upd (dY tb s0) (dY tb s') H0 H'/\H'.get t = .cells (iG x v pv qv) none/\t ∉ (dY tb s').fp/\fQ x.pol.rules=fQ (x.pol.rules.drop j)) ?_ ⟨s,rfl,ht,u0,hb,hn,rfl⟩;rintro j _ H1 X1 hj ih ⟨s1,rfl,t1,u1,b1,n1,hc⟩;have z0:(.int .i64 0:Value)=vi 0:=rfl;rcases Nat.lt_or_ge j x.pol.rules.length with hlt | hge
 rotate_left
 ·have hlt':decide ((j:Int)<x.pol.rules.length)=false:=decide_eq_false (by omega)
  rw[List.drop_eq_nil_of_le hge]at hc;have hc:fQ x.pol.rules=0:=hc;simp only[hc,ne_eq,not_true,if_false]at hQ;have l6:∀ {K:AH},K.get t = .cells (iG x v pv qv) none->aE 6 (ptr t 0) K=some (.agg (iG x v pv qv).toArray):=λh=>by rw[aL,h];rfl
  simp only[F.f82_l1,aF,hlt',l6 b1,aB];refine S.policy_paths hE (hp.sub t1.sub) hs.paths hs.names λH2 e2 =>?_;simp only[z0,fJ,aB]
  by_cases h1:eV x.handled [] x.paths=0
  ·have d:decide (eV x.handled [] x.paths≠0)=false:=decide_eq_false (by simpa using h1)
   rw[h1]at d;simp only[h1,not_true,if_false]at hQ;simp only[h1,d,l6 (e2.cells b1),aB];refine S.policy_ports hE (hq.sub (t1.sub.ext e2)) hs.ports λH3 e3 =>?_;exact hQ _ _ (u1.ext (e2.trans e3))
  ·have d:decide (eV x.handled [] x.paths≠0)=true:=decide_eq_true h1
   simp only[h1,not_false_eq_true,if_true]at hQ;simp only[d,aB];exact hQ _ _ (u1.ext e2)
 have hlt':decide ((j:Int)<x.pol.rules.length)=true:=decide_eq_true (by omega)
 obtain⟨rows,r1,r2,r3⟩:=hv;obtain⟨b,o,f1,f2⟩:=(r1.sub t1.sub).ix (i:=j) (by rw[r2];exact hlt)
 have hr:=r3 j hlt (by rw[r2];exact hlt)
 have hcd:=hs.conds _ (List.getElem_mem hlt);rw[List.drop_eq_getElem_cons hlt]at hc;have hinc:=bN (i:=j) (by have:=hs.rules;omega)
 have ih:=ih hlt;generalize x.pol.rules[j]=y at *;generalize rows[j]'(by rw[r2];exact hlt)=cs at *
 have hcons:fQ (y :: x.pol.rules.drop (j+1))=if fV y=0 then fQ (x.pol.rules.drop (j+1)) else fV y:=rfl;rw[hcons]at hc;have hr':=hr;obtain⟨_,cv,rfl,hrows⟩:=hr'
 have hcp:([u32 y.number,u32 y.action,cv]:List Value).all plain1=true:=by
  have:=hrows.plain;simp[this]
 have lo:aE 3 (ptr b o) H1=some (.agg #[u32 y.number,u32 y.action,cv]):=by rw[aL,f2];rfl
 have hst:=aBZ [u32 y.number,u32 y.action,cv] rfl hcp H1;have x1:Ext H1 (H1.new (.cells [u32 y.number,u32 y.action,cv] none)):=(Ext.refl _).new _;have bp:=AH.get_new_self H1 (.cells [u32 y.number,u32 y.action,cv] none);simp only[F.f82_l1,aF,hlt',f1,lo,bE,hst,aB];have l3:aE 3 (ptr H1.next 0) (H1.new (.cells [u32 y.number,u32 y.action,cv] none))=some (.agg #[u32 y.number,u32 y.action,cv]):=by rw[aL,bp];rfl
 have hlt1:=AH.lt_cells b1;have n1':H1.next=H1.next:=rfl;have t2:=t1.ext x1;have b2:=x1.cells b1;have u2:=u1.ext x1;generalize H1.new (.cells [u32 y.number,u32 y.action,cv] none)=H2 at *;simp only[l3,aB];refine S.f86 hE t2 y (cs:=[u32 y.number,u32 y.action,cv]) hr hcd λs' H3 u3 =>?_;have t3:=t2.upd u3;have b3:=u3.only.cells b2 n1;have n3:=u3.not_in (AH.lt_cells b2) n1;simp only[z0,fJ,aB]
 by_cases h1:fV y=0
 ·have d:decide (fV y≠0)=false:=decide_eq_false (by simpa using h1)
  rw[if_pos h1]at hc;simp only[d,hinc,aB];exact ih _ _ ⟨s',rfl,t3,u2.trans u3,b3,n3,hc⟩
 ·have d:decide (fV y≠0)=true:=decide_eq_true h1
  rw[if_neg h1]at hc;simp only[hc,ne_eq,h1,not_false_eq_true,if_true]at hQ;simp only[d,aB];exact hQ _ _ (u2.trans u3)
theorem S.f82(hE:aW E)(ht:wS Z H tb s)(x:oO){cs:List Value}(hx:jH Z x cs)(hs:x.soon)(hQ:∀ s' H',Upd (dY tb s) (dY tb s') H H'->Q (vi (iH x)) H'):E.call 14 [.agg cs.toArray,ptr tb 0] H Q:=by
 apply hE.f82;obtain⟨v,pv,qv,rfl,hv,hp,hq⟩:=hx;have pe:eY jR .eql (ptr tb 0) (.pointer none)=some (vb false):=rfl;have c0:(iG x v pv qv)[0]? = some (str x.name):=rfl;have c1:(iG x v pv qv)[1]? = some (u32 x.pol.default):=rfl;have c2:(iG x v pv qv)[2]? = some v:=rfl;have c3:(iG x v pv qv)[3]? = some (u16 x.handled):=rfl;have c4:(iG x v pv qv)[4]? = some pv:=rfl;have c5:(iG x v pv qv)[5]? = some qv:=rfl;have b1:=AH.get_new_self H (.cells (iG x v pv qv) none);have x1:Ext H (H.new (.cells (iG x v pv qv) none)):=(Ext.refl H).new _;have u1:=ht.same x1;have t1:=ht.ext x1;have n1:H.next ∉ (dY tb s).fp:=λh=>Nat.lt_irrefl _ (zG ht.tab _ h);have hlr:=hv.lenSlc;have hlp:=hp.lenSlc;have hlq:=hq.lenSlc;rw[List.length_map]at hlp hlq;have hpc:([str x.name,u32 x.pol.default,v,u16 x.handled,pv,qv]:List Value)=iG x v pv qv:=rfl;rw[hpc];unfold iH at hQ;simp only[F.f82,aX,AM.aT,aR,List.toList_toArray,pe,b1,c0,aB];generalize H.new (.cells (iG x v pv qv) none)=H1 at *;generalize H.next=t at *;refine S.f68 hE x.name λH2 e2 =>?_;have b2:=e2.cells b1;have u2:=u1.ext e2;have t2:=t1.ext e2;simp only[bW,aB];cases hw:aCe x.name with
 | false =>
  simp only[hw,if_true]at hQ;simp only[aB];exact hQ _ _ u2
 | true =>
 simp only[hw,Bool.true_eq_false,if_false]at hQ;simp only[b2,c1,aB];refine S.f87 hE _ ?_;simp only[bW,aB];cases ha:uS x.pol.default with
 | false =>
  simp only[ha,if_true]at hQ;simp only[aB];exact hQ _ _ u2
 | true =>
 simp only[ha,Bool.true_eq_false,if_false]at hQ;have z64:(.int .i64 64:Value)=vi ((64:Nat):Int):=rfl;have z32:(.int .i64 32:Value)=vi ((32:Nat):Int):=rfl;simp only[b2,c2,hlr,z64,cN,aB]
 by_cases k1:64<x.pol.rules.length
 ·have d:decide (((64:Nat):Int)<(x.pol.rules.length:Int))=true:=decide_eq_true (by omega)
  rw[if_pos (.inl k1)]at hQ;simp only[d,aB];exact hQ _ _ u2
 have d1:decide (((64:Nat):Int)<(x.pol.rules.length:Int))=false:=decide_eq_false (by omega)
 simp only[d1,b2,c4,hlp,z32,cN,aB]
 by_cases k2:32<x.paths.length
 ·have d:decide (((32:Nat):Int)<(x.paths.length:Int))=true:=decide_eq_true (by omega)
  rw[if_pos (.inr (.inl k2))]at hQ;simp only[d,aB];exact hQ _ _ u2
 have d2:decide (((32:Nat):Int)<(x.paths.length:Int))=false:=decide_eq_false (by omega)
 simp only[d2,b2,c5,hlq,z32,cN,aB]
 by_cases k3:32<x.ports.length
 ·have d:decide (((32:Nat):Int)<(x.ports.length:Int))=true:=decide_eq_true (by omega)
  rw[if_pos (.inr (.inr k3))]at hQ;simp only[d,aB];exact hQ _ _ u2
 have d3:decide (((32:Nat):Int)<(x.ports.length:Int))=false:=decide_eq_false (by omega)
 rw[if_neg (by omega)]at hQ
 simp only[d3,b2,c3,aB];refine S.f96 hE _ ?_;simp only[bW,aB]
 by_cases k4:x.handled &&& ~~~51199#16=0#16
 rotate_left
 ·rw[if_pos k4]at hQ
  simp only[decide_eq_false k4,Bool.not_false,aB];exact hQ _ _ u2
 rw[if_neg (λh=>h k4)]at hQ;simp only[decide_eq_true k4,Bool.not_true,b2,c2,hlr,aB];exact aJI hE x hv hp hq hs t2 u2 b2 n1 hQ
end
end
section
set_option maxRecDepth 20000
theorem aLR(p:jS)(hp:p.cases.Pairwise λa b=>a.number.toNat<b.number.toNat):Fit (hU p).parts:=by
 have hnd:(p.cases.map dC.number).Nodup:=by
  rw[List.nodup_iff_pairwise_ne,List.pairwise_map];exact hp.imp λh e=>by rw[e]at h;omega
 have hl:=aJV p hnd
 have hne:(LwD.cases (eH p).2 p.cases (jC p)).order≠[]:=by
  rw[hl.lo5.1.la.1];intro h;have ho:=hl.lo5.2;unfold actN at ho;rw[List.map_eq_nil_iff]at h;rw[h]at ho;simp at ho
 obtain⟨l0,k,hl0⟩:=aFc (LwD.cases (eH p).2 p.cases (jC p)).acts _ (LwD.cases (eH p).2 p.cases (jC p)) hne;exact⟨hl.fin.ok,hl.fin.wf,l0,aPo k,hl0,rfl,rfl⟩
def iJ(p:jS):List aG:=dH (hU p).parts none
def qV(p:jS):List aG:=qB ((iJ p).length+1) (iJ p)
def wA(p:jS):Int ⊕ List bL :=
 match eG (qV p),eG (iJ p) with
 | .inl _,.inl e => .inl e
 | .inl _,.inr q => .inr q.out
 | .inr t,.inl _ => .inr t.out
 | .inr t,.inr q=>if q.out.length<t.out.length then .inr q.out else .inr t.out
theorem aAT(p:jS)(hp:p.cases.Pairwise λa b=>a.number.toNat<b.number.toNat)(hi:∀ c∈p.cases,∀ b∈c.branches,aDG b.conds):
  (∀ e,wA p = .inl e->e=205)/\(∀ c,wA p = .inr c->iK c/\wW c/\c.length<=4096/\∀ r,r.ok->gM r c.length c 0#32=oR p r)/\(wPs (iJ p)<=4096->∃ c,wA p = .inr c):=by
 have f0:=aLR p hp;have fP:Fit (iJ p):=aL6 f0;obtain⟨fT,dT⟩:=aFH ((iJ p).length+1) fP;have fT:Fit (qV p):=fT;obtain⟨eP,sP,wP⟩:=aFz fP;obtain⟨eT,sT,_⟩:=aFz fT
 have den0:∀ r,r.ok->(den r (iJ p)).2 0#32=oR p r:=λr hr=>by
  have:=(pT r (hU p).parts none f0.ok).2 0#32 (λk h=>by cases h)
  rw[show(den r (iJ p)).2 0#32=_ from this];exact aKd p hp hi r hr 0#32
 have good:∀ (L:List aG) (s:MkD),(∀ r,r.ok->(den r L).2 0#32=oR p r)->eG L = .inr s->(∀ r,rX r s (den r L))->iK s.out/\wW s.out/\s.out.length<=4096/\∀ r,r.ok->gM r s.out.length s.out 0#32=oR p r:=λL s hd hm hs =>
  ⟨(hs ⟨0#32,0#32,0#64,[]⟩).ok,(hs ⟨0#32,0#32,0#64,[]⟩).end_,(tK hm).2,λr hr=>by rw[(hs r).run _ _ (Nat.le_refl _),hd r hr]⟩
 have gP:∀ s,eG (iJ p) = .inr s->_:=λs hs=>good _ s den0 hs (sP s hs);have gT:∀ s,eG (qV p) = .inr s->_:=λs hs=>good _ s (λr hr=>by rw[show(den r (qV p)).2=_ from dT r,den0 r hr]) hs (sT s hs)
 refine⟨λe h =>?_,λc h =>?_,λh =>?_⟩
 ·unfold wA at h
  cases hT:eG (qV p) with
  | inl e1 =>
   cases hP:eG (iJ p) with
   | inl e2=>rw[hT,hP]at h;cases h;exact eP _ hP
   | inr q=>rw[hT,hP]at h;cases h
  | inr t =>
   cases hP:eG (iJ p) with
   | inl e2=>rw[hT,hP]at h;cases h
   | inr q=>rw[hT,hP]at h;simp only at h;split at h<;>cases h
 ·unfold wA at h
  cases hT:eG (qV p) with
  | inl e1 =>
   cases hP:eG (iJ p) with
   | inl e2=>rw[hT,hP]at h;cases h
   | inr q=>rw[hT,hP]at h;cases h;exact gP _ hP
  | inr t =>
   cases hP:eG (iJ p) with
   | inl e2=>rw[hT,hP]at h;cases h;exact gT _ hT
   | inr q =>
    rw[hT,hP]at h;simp only at h
    split at h<;>cases h
    ·exact gP _ hP
    ·exact gT _ hT
 ·obtain⟨q,hq⟩:=wP h
  unfold wA;rw[hq];cases hT:eG (qV p) with
  | inl e1=>exact⟨_,rfl⟩
  | inr t=>simp only;split<;>exact⟨_,rfl⟩
theorem aHC:∀ (l:List aG) (now:Option (BitVec 32)),(dH l now).length<=l.length
 | [],_=>Nat.le_refl _
 | p :: l,now=>by
  have ih:=aHC l;unfold dH
  split
  ·have:=ih none;simp only[List.length_cons];omega
  split
  ·split
   ·have:=ih now;simp only[List.length_cons];omega
   ·have:=ih (some p.insn.k);simp only[List.length_cons];omega
  split
  ·have:=ih none;simp only[List.length_cons];omega
  ·have:=ih now;simp only[List.length_cons];omega
theorem aHJ:∀ (f:Nat) (l:List aG),(qB f l).length<=l.length
 | 0,_=>Nat.le_refl _
 | f+1,l=>by
  have h:=aDA l;unfold qB
  split
  ·exact h
  ·exact Nat.le_trans (aHJ f _) h
theorem aA9:∀ {l:List cR},fQ l=0->∀ x∈l,fV x=0
 | [],_,x,hx=>by cases hx
 | y :: l,h,x,hx=>by
  unfold fQ at h
  by_cases h0:fV y=0
  ·rw[if_pos h0]at h
   rcases List.mem_cons.1 hx with rfl | hx
   ·exact h0
   ·exact aA9 h x hx
  ·rw[if_neg h0]at h;exact absurd h h0
theorem aCi:∀ {l:List bA},gR l=0->∀ x∈l,hO x=0
 | [],_,x,hx=>by cases hx
 | y :: l,h,x,hx=>by
  unfold gR at h
  by_cases h0:hO y=0
  ·rw[if_pos h0]at h
   rcases List.mem_cons.1 hx with rfl | hx
   ·exact h0
   ·exact aCi h x hx
  ·rw[if_neg h0]at h;exact absurd h h0
theorem xD{x:oO}(h:iH x=0):x.pol.rules.length<=64/\(∀ r∈x.pol.rules,r.conds.length<=6)/\aMh x.pol:=by
 unfold iH at h
 split at h
 ·cases h
 split at h
 ·cases h
 split at h
 ·cases h
 split at h
 ·cases h
 rename_i h3 _
 have hr:fQ x.pol.rules=0:=by
  split at h
  ·exact h
  ·rename_i k;simpa using k
 have hx:=aA9 hr
 have hb:∀ r∈x.pol.rules,r.conds.length<=6/\gR r.conds=0:=λr hm=>by
  have:=hx r hm;unfold fV at this
  split at this
  ·cases this
  split at this
  ·cases this
  split at this
  ·cases this
  ·exact⟨by omega,this⟩
 refine⟨by omega,λr hm=>(hb r hm).1,λr hm c hc =>?_⟩
 have:=aCi (hb r hm).2 c hc;unfold hO at this
 split at this
 ·cases this
 ·omega
section
variable {E:Sy}{H H' H0 Z:AH}{Q:Value->AH->Prop}{tb:Nat}{s:Option Nat}
theorem zN{x:oO}{cs:List Value}(h:jH H x cs):cs.length=6/\cs.all plain1=true:=by
 obtain⟨v,pv,qv,rfl,⟨rows,h1,_⟩,h2,h3⟩:=h;exact⟨rfl,by simp[h1.plain,h2.plain,h3.plain]⟩
theorem jH.sub'{x:oO}{cs:List Value}(h:jH H x cs)(e:Sub H H'):jH H' x cs:=by
 obtain⟨v,pv,qv,rfl,h1,h2,h3⟩:=h;exact⟨v,pv,qv,rfl,h1.sub (λ_ _ _ _ h e=>eA.sub h e) e,h2.sub e,h3.sub e⟩
theorem S.f11(hE:aW E)(hSC:rM E 80)(hSR:pM E 80)(ht:wS Z H tb s)(x:oO){cs:List Value}(hx:jH Z x cs)(hs:x.soon)(hQ:∀ s' H',Upd (dY tb s) (dY tb s') H H'->(iH x≠0->Q (.tuple #[cB,vi (iH x)]) H') /\
   (iH x=0->∀ ns,wD x.pol ns->(∀ e,wA (eI x.pol ns) = .inl e->Q (.tuple #[cB,vi e]) H')/\∀ c w,wA (eI x.pol ns) = .inr c->Rows H' 4 w (cJ c)->Q (.tuple #[w,vi 0]) H')):
  E.call 12 [.agg cs.toArray,ptr tb 0] H Q:=by
 apply hE.f11;obtain⟨h6,_⟩:=zN hx;have b1:=AH.get_new_self H (.cells cs none);have x1:Ext H (H.new (.cells cs none)):=(Ext.refl _).new _;have lo:∀ {K:AH},K.get H.next = .cells cs none->aE 6 (ptr H.next 0) K=some (.agg cs.toArray):=λe=>by rw[aL,e,dF _ _ 6 h6];rfl
 have n1:H.next ∉ (dY tb s).fp:=λh=>Nat.lt_irrefl _ (zG ht.tab _ h);have u1:=ht.same x1;have t1:=ht.ext x1;simp only[F.f11,aX,AM.aT,aR,List.toList_toArray,lo b1,aB];generalize H.new (.cells cs none)=H1 at *;generalize H.next=t at *;refine S.f82 hE t1 x hx hs λs' H2 u2 =>?_;have b2:=u2.only.cells b1 n1;have t2:=t1.upd u2;have u:=u1.trans u2;have z0:(.int .i64 0:Value)=vi 0:=rfl;simp only[z0,fJ,aB]
 by_cases h0:iH x=0
 rotate_left
 ·have d:decide (iH x≠0)=true:=decide_eq_true h0
  simp only[d,aB];exact(hQ _ _ u).1 h0
 have d:decide (iH x≠0)=false:=decide_eq_false (by simpa using h0)
 have hQ:=λK e ns hns=>(hQ s' K (u.ext (H'':=K) e)).2 h0 ns hns;obtain⟨p1,p2,p3⟩:=xD h0;simp only[d,lo b2,aB];have hx2:jH H2 x cs:=hx.sub' t2.sub;refine S.f27 hE (sm:=80) (Nat.le_refl _) hSC hSR x.pol cs (hx2.at_ (by omega)) (by omega) (λr hr=>by have:=p2 r hr;omega) λns pl H3 e3 hns hpl =>?_
 have hQ:=λK e=>hQ K e ns hns;have hw:=aM1 hns (a:=64) (c:=6) p1 p2;have hup:=aAY hns;have hin:=aAU p3 ns;have hll:=aNh (eI x.pol ns);have hmm:=(aAT (eI x.pol ns) hup hin).1;generalize eI x.pol ns=p at *;refine S.f53 hE p pl hpl (by omega) λpv H4 e4 hpv =>?_
 have hpl1:(iJ p).length<=(hU p).parts.length:=aHC _ _;refine S.f12 hE hpv (by omega) λpw H5 e5 hpw =>?_
 have hpw:Rows H5 7 pw (bH (iJ p)):=hpw;refine S.f43 hE hpw (by omega) λtw H6 e6 htw =>?_
 have htw:Rows H6 7 tw (bH (qV p)):=htw;have hTl:(qV p).length<=(iJ p).length:=aHJ _ _;have x6:=((e3.trans e4).trans e5).trans e6;have q1:∀ n:Int,n≠0->decide (n≠0)=true:=λn h=>decide_eq_true h;have q2:∀ n:Int,n≠0->decide (n=0)=false:=λn h=>decide_eq_false h;have q3:decide ((0:Int)≠0)=false:=rfl;have q4:decide ((0:Int)=0)=true:=rfl;refine S.f42 hE htw (by omega) λH7 e7=>⟨λe he hne =>?_,λs w hs hw =>?_⟩
 ·simp only[aB]
  refine S.f42 hE (hpw.mono (e6.trans e7)) (by omega) λH8 e8=>⟨λe2 he2 hne2 =>?_,λq wq hq hwq =>?_⟩
  ·simp only[z0,fJ,q1 e hne,aB]
   exact(hQ _ ((x6.trans e7).trans e8)).1 e2 (by unfold wA;rw[he,he2])
  ·simp only[z0,fJ,q1 e hne,aB]
   exact(hQ _ ((x6.trans e7).trans e8)).2 q.out wq (by unfold wA;rw[he,hq]) hwq
 ·simp only[aB]
  refine S.f42 hE (hpw.mono (e6.trans e7)) (by omega) λH8 e8=>⟨λe2 he2 hne2 =>?_,λq wq hq hwq =>?_⟩
  ·simp only[z0,fJ,dU,q3,q2 e2 hne2,aB]
   exact(hQ _ ((x6.trans e7).trans e8)).2 s.out w (by unfold wA;rw[hs,he2]) (hw.mono e8)
  ·have hl5:=(hw.mono e8).lenSlc
   have hl6:=hwq.lenSlc;have ni:∀ c:List bL,(cJ c).length=c.length:=λc=>by simp[cJ]
   rw[ni]at hl5 hl6;simp only[z0,fJ,dU,q3,decide_true,hl5,hl6,aF,aB];have hi:wA p=if q.out.length<s.out.length then .inr q.out else .inr s.out:=by unfold wA;rw[hs,hq]
   by_cases hlt:q.out.length<s.out.length
   ·have dl:decide ((q.out.length:Int)<(s.out.length:Int))=true:=decide_eq_true (by omega)
    rw[if_pos hlt]at hi;simp only[dl,aB];exact(hQ _ ((x6.trans e7).trans e8)).2 q.out wq hi hwq
   ·have dl:decide ((q.out.length:Int)<(s.out.length:Int))=false:=decide_eq_false (by omega)
    rw[if_neg hlt]at hi;simp only[dl,aB];exact(hQ _ ((x6.trans e7).trans e8)).2 s.out w hi (hw.mono e8)
theorem S.f10(hE:aW E)(hSC:rM E 80)(hSR:pM E 80)(ht:wS Z H tb s)(x:oO){cs:List Value}(hx:jH Z x cs)(hs:x.soon)(hQ:∀ s' H2 H',Upd (dY tb s) (dY tb s') H H2->Ext H2 H'->(iH x≠0->Q (.tuple #[.pointer none,vi (iH x)]) H') /\
   (iH x=0->∀ ns,wD x.pol ns->(∀ e,wA (eI x.pol ns) = .inl e->Q (.tuple #[.pointer none,vi 205]) H')/\∀ c fb,wA (eI x.pol ns) = .inr c->Fil H2 H2 H' fb c []->Q (.tuple #[ptr fb 0,vi 0]) H')):
  E.call 8 [.agg cs.toArray,ptr tb 0] H Q:=by
 apply hE.f10;obtain⟨h6,_⟩:=zN hx;have b1:=AH.get_new_self H (.cells cs none);have x1:Ext H (H.new (.cells cs none)):=(Ext.refl _).new _;have lo:aE 6 (ptr H.next 0) (H.new (.cells cs none))=some (.agg cs.toArray):=by rw[aL,b1,dF _ _ 6 h6];rfl
 have u1:=ht.same x1;have t1:=ht.ext x1;simp only[F.f10,aX,AM.aT,aR,List.toList_toArray,lo,aB];generalize H.new (.cells cs none)=H1 at *;refine S.f11 hE hSC hSR t1 x hx hs λs' H2 u2=>⟨λh0 =>?_,λh0 ns hns =>?_⟩
 ·have z0:(.int .i64 0:Value)=vi 0:=rfl
  have d:decide (iH x≠0)=true:=decide_eq_true h0;simp only[z0,fJ,d,aB];exact(hQ _ _ _ (u1.trans u2) (Ext.refl _)).1 h0
 obtain⟨p1,p2,p3⟩:=xD h0;obtain⟨m1,m2,_⟩:=aAT (eI x.pol ns) (aAY hns) (aAU p3 ns);refine⟨λe he =>?_,λc w hc hw =>?_⟩
 ·obtain rfl:=m1 e he
  have d:decide ((205:Int)≠0)=true:=rfl;have z0:(.int .i64 0:Value)=vi 0:=rfl;simp only[z0,fJ,d,aB];exact((hQ _ _ _ (u1.trans u2) (Ext.refl _)).2 h0 ns hns).1 _ he
 ·obtain⟨o1,o2,o3,_⟩:=m2 c hc
  have d:decide ((0:Int)≠0)=false:=rfl;have z0:(.int .i64 0:Value)=vi 0:=rfl;simp only[z0,fJ,d,aB];refine S.f133 hE hw o1 o2 o3 λfb H3 g3 =>?_;have s3:aI 2 (ptr H3.next 0) (.agg #[vi 0,vi 0]) (H3.new (.cells [vi 0,vi 0] none))=some (H3.new (.cells [vi 0,vi 0] none)):=tJ (n:=2) rfl rfl rfl;have l3:aE 2 (ptr H3.next 0) (H3.new (.cells [vi 0,vi 0] none))=some (.agg #[vi 0,vi 0]):=rK (c:=[vi 0,vi 0]) rfl;have hbv0:aK [(0,1),(1,1)] #[vi 0,vi 0] []=some (.agg #[vi 0,vi 0]):=rfl;have hne:jM [0,0] .neq (.agg #[vi 0,vi 0]) (.agg #[vi 0,vi 0])=some (vb false):=rfl;simp only[bE,s3,l3,hbv0,hne,aB];have x3:Ext H3 (H3.new (.cells [vi 0,vi 0] none)):=(Ext.refl _).new _;exact((hQ _ H2 _ (u1.trans u2) (g3.ext.trans x3)).2 h0 ns hns).2 c fb hc (g3.grow x3)
end
end
section
open Go.Sort (swp SWO PermIn SortedIn)
set_option maxRecDepth 20000
section
variable {α:Type}[Inhabited α](rk:α->Nat)
def Rot(d:Array α)(a m e t:Nat):α:=if t<a then d[t]! else if t<a+(e - m) then d[t+(m - a)]! else if t<e then d[t - (e - m)]! else d[t]!
def eZ(d:Array α)(a e:Nat):Prop:=∀ p q,a<=p->p<=q->q<e->rk d[p]! <= rk d[q]!
theorem eZ.small(d:Array α){a e:Nat}(h:e<=a+1):eZ rk d a e:=λp q h1 h2 h3=>by
 have:p=q:=by omega
 subst this;exact Nat.le_refl _
theorem eZ.of{d:Array α}{a e:Nat}(h:SortedIn (ltK rk) a e d):eZ rk d a e:=λp q q1 q2 q3=>by
 rcases Nat.lt_or_ge p q with hlt | hge
 ·have:=h p q q1 hlt q3
  simp only[ltK,decide_eq_false_iff_not]at this;omega
 ·have:p=q:=by omega
  subst this;exact Nat.le_refl _
theorem eZ.congr{d d':Array α}{a e:Nat}(h:eZ rk d a e)(hd:∀ t,a<=t->t<e->d'[t]! = d[t]!):eZ rk d' a e:=λp q q1 q2 q3=>by
 rw[hd p q1 (by omega),hd q (by omega) q3]
 exact h p q q1 q2 q3
structure Mrg(a e:Nat)(d d':Array α):Prop where
 size:d'.size=d.size
 out:∀ t,(t<a\/e<=t)->d'[t]! = d[t]!
 inn:∀ t,a<=t->t<e->∃ s,a<=s/\s<e/\d'[t]! = d[s]!
 same:dA rk d.toList d'.toList
theorem Mrg.refl(a e:Nat)(d:Array α):Mrg rk a e d d:=⟨rfl,λ_ _=>rfl,λt h1 h2=>⟨t,h1,h2,rfl⟩,dA.refl rk _⟩
theorem Mrg.trans{a e:Nat}{d d' d'':Array α}(h:Mrg rk a e d d')(h':Mrg rk a e d' d''):Mrg rk a e d d'' :=
 ⟨h'.size.trans h.size,λt ht=>(h'.out t ht).trans (h.out t ht),λt h1 h2=>by
  obtain⟨s,s1,s2,s3⟩:=h'.inn t h1 h2;obtain⟨r,r1,r2,r3⟩:=h.inn s s1 s2;exact⟨r,r1,r2,s3.trans r3⟩,dA.trans rk h.same h'.same⟩
theorem Mrg.mono{a e a' e':Nat}{d d':Array α}(h:Mrg rk a e d d')(h1:a'<=a)(h2:e<=e'):Mrg rk a' e' d d' :=
 ⟨h.size,λt ht=>h.out t (by omega),λt q1 q2=>by
  by_cases hin:a<=t/\t<e
  ·obtain⟨s,s1,s2,s3⟩:=h.inn t hin.1 hin.2
   exact⟨s,by omega,by omega,s3⟩
  ·exact⟨t,q1,q2,h.out t (by omega)⟩,h.same⟩
theorem dA.swapL{u v:List α}(h:∀ x∈u,∀ y∈v,rk x≠rk y):dA rk (u++v) (v++u):=λk=>by
 rw[List.filter_append,List.filter_append]
 by_cases hu:u.filter (λx=>decide (rk x=k))=[]
 ·rw[hu];simp
 ·have hv:v.filter (λx=>decide (rk x=k))=[]:=by
   rw[List.filter_eq_nil_iff];intro y hy;simp only[decide_eq_true_eq];intro e;obtain⟨x,hx⟩:=List.exists_mem_of_ne_nil _ hu;have hx:=List.mem_filter.1 hx;simp only[decide_eq_true_eq]at hx;exact h x hx.1 y hy (hx.2.trans e.symm)
  rw[hv];simp
theorem aLa{d d':Array α}{a m e:Nat}(ham:a<=m)(hme:m<=e)(he:e<=d.size)(hs:d'.size=d.size)(hd:∀ t,d'[t]! = Rot d a m e t)(hr:∀ p q,a<=p->p<m->m<=q->q<e->rk d[p]! ≠ rk d[q]!):dA rk d.toList d'.toList:=by
 have hL:d.toList=d.toList.take a++(((d.toList.drop a).take (m - a)++(d.toList.drop m).take (e - m))++d.toList.drop e):=by
  have e1:d.toList.drop m=(d.toList.drop m).take (e - m)++d.toList.drop e:=by
   conv=>lhs;rw[<- List.take_append_drop (e - m) (d.toList.drop m)]
   rw[List.drop_drop,show m+(e - m)=e by omega]
  have e2:d.toList.drop a=(d.toList.drop a).take (m - a)++d.toList.drop m:=by
   conv=>lhs;rw[<- List.take_append_drop (m - a) (d.toList.drop a)]
   rw[List.drop_drop,show a+(m - a)=m by omega]
  rw[List.append_assoc,<- e1,<- e2,List.take_append_drop]
 have hlen:d.toList.length=d.size:=Array.length_toList
 have hL':d'.toList=d.toList.take a++(((d.toList.drop m).take (e - m)++(d.toList.drop a).take (m - a))++d.toList.drop e):=by
  apply List.ext_getElem?;intro t;rcases Nat.lt_or_ge t d.size with hlt | hge
  ·have h1:d'.toList[t]? = some (Rot d a m e t):=by
    rw[<- hd t,getElem!_pos d' t (by omega)]
    simp[show t<d'.size by omega]
   have hget:∀ s,s<d.size->d.toList[s]? = some d[s]! :=λs hs=>by
    rw[getElem!_pos d s hs];simp[hs]
   rw[h1];unfold Rot;have l1:(d.toList.take a).length=a:=by rw[List.length_take];omega
   have l2:((d.toList.drop m).take (e - m)).length=e - m:=by rw[List.length_take,List.length_drop];omega
   have l3:((d.toList.drop a).take (m - a)).length=m - a:=by rw[List.length_take,List.length_drop];omega
   split
   ·rename_i c
    rw[List.getElem?_append_left (by omega),List.getElem?_take_of_lt c,hget t hlt]
   ·rw[List.getElem?_append_right (by omega),l1]
    split
    ·rw[List.getElem?_append_left (by rw[List.length_append];omega),List.getElem?_append_left (by omega),List.getElem?_take_of_lt (by omega),List.getElem?_drop,hget _ (by omega)]
     congr 2;omega
    ·split
     ·rw[List.getElem?_append_left (by rw[List.length_append];omega),List.getElem?_append_right (by omega),l2,List.getElem?_take_of_lt (by omega),List.getElem?_drop,hget _ (by omega)]
      congr 2;omega
     ·rw[List.getElem?_append_right (by rw[List.length_append];omega),List.length_append,l2,l3,List.getElem?_drop,hget _ (by omega)]
      congr 2;omega
  ·rw[List.getElem?_eq_none (by rw[Array.length_toList];omega),List.getElem?_eq_none]
   simp only[List.length_append,List.length_take,List.length_drop,hlen];omega
 rw[hL',hL];rw[<- hL]
 have hmem:∀ (x:α) (s n:Nat),x∈(d.toList.drop s).take n->∃ p,s<=p/\p<s+n/\x=d[p]! :=λx s n hx=>by
  obtain⟨k,hk,rfl⟩:=List.getElem_of_mem hx;rw[List.length_take,List.length_drop]at hk;refine⟨s+k,by omega,by omega,?_⟩
  rw[getElem!_pos d (s+k) (by omega)]
  simp
 conv=>lhs;rw[hL]
 refine(dA.refl rk _).app rk ((dA.swapL rk λx hx y hy =>?_).app rk (dA.refl rk _));obtain⟨p,p1,p2,rfl⟩:=hmem _ _ _ hx;obtain⟨q,q1,q2,rfl⟩:=hmem _ _ _ hy;exact hr p q p1 (by omega) q1 (by omega)
theorem aMM{d d':Array α}{a m e:Nat}(ham:a<=m)(hme:m<=e)(he:e<=d.size)(hs:d'.size=d.size)(hd:∀ t,d'[t]! = Rot d a m e t)(hr:∀ p q,a<=p->p<m->m<=q->q<e->rk d[p]! ≠ rk d[q]!):Mrg rk a e d d':=by
 refine⟨hs,λt ht =>?_,λt h1 h2 =>?_,aLa rk ham hme he hs hd hr⟩
 ·rw[hd];unfold Rot
  split
  ·rfl
  ·rw[if_neg (by omega),if_neg (by omega)]
 ·rw[hd];unfold Rot
  rw[if_neg (by omega)]
  split
  ·exact⟨_,by omega,by omega,rfl⟩
  ·first | (rw[if_pos h2];exact⟨_,by omega,by omega,rfl⟩) | exact⟨_,by omega,by omega,rfl⟩
def Swr(d:Array α)(a m n t:Nat):α:=if a<=t/\t<a+n then d[t+(m - a)]! else if m<=t/\t<m+n then d[t - (m - a)]! else d[t]!
theorem aJZ(d:Array α)(a m t:Nat):d[t]! = Swr d a m 0 t:=by
 unfold Swr;rw[if_neg (by omega),if_neg (by omega)]
theorem aLE{d d1:Array α}{a m k:Nat}(h:a+k<m)(hk:m+k<d.size)(hs:d1.size=d.size)(hd:∀ t,d1[t]! = Swr d a m k t)(t:Nat):(swp d1 (a+k) (m+k))[t]! = Swr d a m (k+1) t:=by
 rw[Go.Sort.swp_get d1 (by omega) (by omega) t,hd,hd,hd]
 unfold Swr
 repeat' split
 all_goals first | rfl | (exfalso;omega) | (congr 1;omega)
theorem aLv{d d1:Array α}{m p q:Nat}(hp:p<=m)(hq:q<p)(hd:∀ t,d1[t]! = Swr d (m - p) m q t)(t:Nat):Rot d1 (m - (p - q)) m (m+q) t=Rot d (m - p) m (m+q) t:=by
 unfold Rot;simp only[hd];unfold Swr
 repeat' split
 all_goals first | rfl | (exfalso;omega) | (congr 1;omega)
theorem aIc{d d1:Array α}{m p q:Nat}(hp:p<=m)(hq:p<q)(hd:∀ t,d1[t]! = Swr d (m - p) (m+q - p) p t)(t:Nat):Rot d1 (m - p) m (m+(q - p)) t=Rot d (m - p) m (m+q) t:=by
 unfold Rot;simp only[hd];unfold Swr
 repeat' split
 all_goals first | rfl | (exfalso;omega) | (congr 1;omega)
theorem aJ1{d:Array α}{m p:Nat}(hp:p<=m)(t:Nat):Swr d (m - p) m p t=Rot d (m - p) m (m+p) t:=by
 unfold Rot Swr
 repeat' split
 all_goals first | rfl | (exfalso;omega) | (congr 1;omega)
theorem aA3(d:Array α)(m e t:Nat)(h:m<=e):d[t]! = Rot d m m e t:=by
 unfold Rot
 repeat' split
 all_goals first | rfl | (exfalso;omega) | (congr 1;omega)
theorem aBi(d:Array α)(a m t:Nat):d[t]! = Rot d a m m t:=by
 unfold Rot
 repeat' split
 all_goals first | rfl | (exfalso;omega) | (congr 1;omega)
theorem aOM{d d1:Array α}{a k:Nat}(hk:a<=k)(hks:k+1<d.size)(hs:d1.size=d.size)(hd:∀ t,d1[t]! = Rot d a (a+1) (k+1) t)(t:Nat):(swp d1 k (k+1))[t]! = Rot d a (a+1) (k+1+1) t:=by
 rw[Go.Sort.swp_get d1 (by omega) (by omega) t,hd,hd,hd]
 unfold Rot
 repeat' split
 all_goals first | rfl | (exfalso;omega) | (congr 1;omega)
theorem aK5{d d1:Array α}{m k:Nat}(hk:k<m)(hms:m<d.size)(hs:d1.size=d.size)(hd:∀ t,d1[t]! = Rot d (k+1) m (m+1) t)(t:Nat):(swp d1 (k+1) k)[t]! = Rot d k m (m+1) t:=by
 rw[Go.Sort.swp_get d1 (by omega) (by omega) t,hd,hd,hd]
 unfold Rot
 repeat' split
 all_goals first | rfl | (exfalso;omega) | (congr 1;omega)
theorem aLx{d d1 d2 d3:Array α}{a m e s f mid:Nat}(hs:a<=s)(hsm:s<=m)(hmf:m<=f)(hf:f<=e)(he:e<=d.size)(hmid:s+(f - m)=mid)(u:eZ rk d a m)(v:eZ rk d m e)(x1:m<f->s<m->rk d[f - 1]! < rk d[s]!)(x2:a<s->f<e->rk d[s - 1]! <= rk d[f]!)(hz:d1.size=d.size)(hd:∀ t,d1[t]! = Rot d s m f t)(r1:Mrg rk a mid d1 d2)(o1:eZ rk d2 a mid)(r2:Mrg rk mid e d2 d3)(o2:eZ rk d3 mid e):Mrg rk a e d d3/\eZ rk d3 a e:=by
 have vu:∀ p q,s<=p->p<m->m<=q->q<f->rk d[q]! < rk d[p]! :=λp q p1 p2 q1 q2=>by
  have h1:=x1 (by omega) (by omega)
  have h2:=u s p hs p1 p2;have h3:=v q (f - 1) q1 (by omega) (by omega)
  omega
 have m1:=aMM rk hsm hmf (by omega) hz hd λp q p1 p2 q1 q2=>by have:=vu p q p1 p2 q1 q2;omega
 have all:=((m1.mono rk hs hf).trans rk (r1.mono rk (Nat.le_refl _) (by omega))).trans rk (r2.mono rk (by omega) (Nat.le_refl _))
 refine⟨all,λp q p1 pq q1 =>?_⟩;rcases Nat.lt_or_ge q mid with hq | hq
 ·rw[r2.out p (by omega),r2.out q (by omega)]
  exact o1 p q p1 pq hq
 rcases Nat.lt_or_ge p mid with hp | hp
 rotate_left
 ·exact o2 p q hp pq q1
 rw[r2.out p (by omega)]
 obtain⟨i1,i2,i3,i4⟩:=r1.inn p p1 hp;obtain⟨j1,j2,j3,j4⟩:=r2.inn q hq q1;rw[i4,j4,r1.out j1 (by omega),hd,hd]
 unfold Rot
 have left:∀ y,(f<=e->(∀ t,a<=t->t<s->rk d[t]! <= y)->(∀ t,m<=t->t<f->rk d[t]! <= y)->rk (if i1<s then d[i1]! else if i1<s+(f - m) then d[i1+(m - s)]! else if i1<f then d[i1 - (f - m)]! else d[i1]!)<=y):=λy _ h1 h2=>by
  split
  ·exact h1 i1 i2 (by assumption)
  ·rw[if_pos (by omega)]
   exact h2 _ (by omega) (by omega)
 rw[if_neg (show ¬ j1<s by omega),if_neg (show ¬ j1<s+(f - m) by omega)]
 by_cases hj:j1<f
 ·rw[if_pos hj]
  refine left _ hf (λt t1 t2=>u t _ t1 (by omega) (by omega)) λt t1 t2=>Nat.le_of_lt (vu _ t (by omega) (by omega) t1 t2)
 ·rw[if_neg hj]
  refine left _ hf (λt t1 t2 =>?_) λt t1 t2=>v t _ t1 (by omega) j3
  have h1:=u t (s - 1) t1 (by omega) (by omega)
  have h2:=x2 (by omega) (by omega)
  have h3:=v f j1 (by omega) (by omega) j3
  omega
end
end
section
open Go.Sort (swp)
set_option maxRecDepth 20000
section
variable {α:Type}[Inhabited α]{E:Sy}{H H':AH}{Q:Value->AH->Prop}{b c n:Nat}{enc:α->List Value}{fv:Value}{d:Array α}{tail:List Value}{f:Option Nat}
theorem S.f119(hE:aW E)(he:fF 3 enc)(hg:H.get b=fN enc d tail f)(hn:d.size=n)(hsz:n<2 ^ 60)(a m k:Nat)(ham:a+k<=m)(hmk:m+k<=n)(hQ:∀ d' H',d'.size=n->(∀ t,d'[t]! = Swr d a m k t)->aV H b enc tail f d' H'->Q (.tuple #[]) H'):E.call 147 [slc b 0 n c,vi a,vi m,vi k,fv] H Q:=by
 apply hE.f119;simp only[F.f119,aB];have i0:vi 0=vi ((0:Nat):Int):=rfl;rw[i0];refine aY.count k (λj ls H'=>ls=[slc b 0 n c,vi a,vi m,vi k,vi j]/\∃ d',d'.size=n/\(∀ t,d'[t]! = Swr d a m j t)/\aV H b enc tail f d' H') ?_ ⟨rfl,d,hn,aJZ d a m,.refl hg⟩;rintro j _ H1 X hj ih ⟨rfl,d1,n1,r1,s1⟩;rcases Nat.lt_or_ge j k with hlt | hge
 ·have hlt':decide ((j:Int)<k)=true:=decide_eq_true (by omega)
  have a1:=bT a j (by omega)
  have a2:=bT m j (by omega)
  have a3:=cK j (by omega)
  have f1:=bS (sz:=3) (b:=b) (c:=c) (n:=n) (i:=a+j) (by omega)
  have f2:=bS (sz:=3) (b:=b) (c:=c) (n:=n) (i:=m+j) (by omega)
  have g1:=aM he s1.get (i:=a+j) (by omega)
  have g2:=aM he s1.get (i:=m+j) (by omega)
  obtain⟨w1,w2⟩:=eN he s1.get (i:=a+j) (j:=m+j) (by omega) (by omega)
  have hst:=aLE (d:=d) (d1:=d1) (a:=a) (m:=m) (k:=j) (by omega) (by omega) (by omega) r1
  have s2:=s1.put (swp d1 (a+j) (m+j));have n2:(swp d1 (a+j) (m+j)).size=n:=by rw[Go.Sort.size_swp];exact n1
  have ih:=λH' s=>ih hlt [slc b 0 n c,vi a,vi m,vi k,vi ((j+1:Nat):Int)] H' ⟨rfl,_,n2,hst,s⟩;generalize swp d1 (a+j) (m+j)=d2 at *;generalize a+j=p at *;generalize m+j=q at *;simp only[F.f119_l1,aF,hlt',a1,a2,a3,f1,f2,g1,g2,w1,w2,aB];exact ih _ s2
 ·have hje:j=k:=by omega
  subst hje;have hlt':decide ((j:Int)<j)=false:=decide_eq_false (by omega)
  simp only[F.f119_l1,aF,hlt',aB];exact hQ d1 H1 n1 r1 s1
theorem S.f116(hE:aW E)(he:fF 3 enc)(hg:H.get b=fN enc d tail f)(hn:d.size=n)(hsz:n<2 ^ 60)(a m e:Nat)(ham:a<m)(hme:m<e)(hen:e<=n)(hQ:∀ d' H',d'.size=n->(∀ t,d'[t]! = Rot d a m e t)->aV H b enc tail f d' H'->Q (.tuple #[]) H'):E.call 134 [slc b 0 n c,vi a,vi m,vi e,fv] H Q:=by
 apply hE.f116;have a1:=bU m a (by omega) (by omega)
 have a2:=bU e m (by omega) (by omega)
 simp only[F.f116,a1,a2,aB];refine aY.ind (λw ls H'=>∃ (p q:Nat) (d1:Array α),w=p+q/\ls=[slc b 0 n c,vi m,fv,vi p,vi q]/\0<p/\0<q/\p<=m/\m+q<=n/\d1.size=n/\(∀ t,Rot d1 (m - p) m (m+q) t=Rot d a m e t)/\aV H b enc tail f d1 H') ?_ (m - a+(e - m)) ⟨m - a,e - m,d,rfl,rfl,by omega,by omega,by omega,by omega,hn,λt=>by rw[show m - (m - a)=a by omega,show m+(e - m)=e by omega],.refl hg⟩
 rintro w _ H1 X ih ⟨p,q,d1,rfl,rfl,hp,hq,hpm,hmq,n1,r1,s1⟩;have b1:=bU m p (by omega) (by omega)
 by_cases hpq:p=q
 ·subst hpq
  have hne:decide ((p:Int)≠p)=false:=decide_eq_false (by simp)
  simp only[F.f116_l1,fJ,hne,b1,aB];refine S.f119 hE he s1.get n1 hsz (m - p) m p (by omega) (by omega) λd2 H2 n2 r2 s2 =>?_
  exact hQ d2 H2 n2 (λt=>by rw[r2,aJ1 hpm,r1]) (s1.trans s2)
 have hne:decide ((p:Int)≠q)=true:=decide_eq_true (by omega)
 by_cases hlt:q<p
 ·have hgt:decide ((q:Int)<p)=true:=decide_eq_true (by omega)
  have b2:=bU p q (by omega) (by omega)
  simp only[F.f116_l1,fJ,hne,cN,hgt,b1,aB];refine S.f119 hE he s1.get n1 hsz (m - p) m q (by omega) (by omega) λd2 H2 n2 r2 s2 =>?_
  simp only[b2,aB];exact ih (p - q+q) (by omega) _ _ ⟨p - q,q,d2,rfl,rfl,by omega,hq,by omega,hmq,n2,λt=>by rw[aLv hpm hlt r2,r1],s1.trans s2⟩
 ·have hgt:decide ((q:Int)<p)=false:=decide_eq_false (by omega)
  have b2:=bU q p (by omega) (by omega)
  have b3:=bT m q (by omega)
  have b4:=bU (m+q) p (by omega) (by omega)
  simp only[F.f116_l1,fJ,hne,cN,hgt,b1,b3,b4,aB];refine S.f119 hE he s1.get n1 hsz (m - p) (m+q - p) p (by omega) (by omega) λd2 H2 n2 r2 s2 =>?_
  simp only[b2,aB];exact ih (p+(q - p)) (by omega) _ _ ⟨p,q - p,d2,rfl,rfl,hp,by omega,hpm,by omega,n2,λt=>by rw[aIc hpm (by omega) r2,r1],s1.trans s2⟩
end
end
section
open Go.Sort (swp SWO PermIn SortedIn insertionSort)
set_option maxRecDepth 20000
section
variable {α:Type}[Inhabited α](rk:α->Nat)
theorem aJk{d d1:Array α}{a m e s f mid:Nat}(hs:a<=s)(hsm:s<=m)(hmf:m<=f)(hf:f<=e)(hmid:s+(f - m)=mid)(u:eZ rk d a m)(v:eZ rk d m e)(hd:∀ t,d1[t]! = Rot d s m f t)(h:∀ p q,a<=p->p<s->m<=q->q<f->rk d[p]! <= rk d[q]!):eZ rk d1 a mid:=λp q p1 pq q1=>by
 rw[hd,hd];unfold Rot
 by_cases hp:p<s
 ·rw[if_pos hp]
  by_cases hq:q<s
  ·rw[if_pos hq];exact u p q p1 pq (by omega)
  ·rw[if_neg hq,if_pos (by omega)];exact h p _ p1 hp (by omega) (by omega)
 ·rw[if_neg hp,if_pos (by omega),if_neg (by omega),if_pos (by omega)]
  exact v _ _ (by omega) (by omega) (by omega)
theorem aHj{d d1:Array α}{a m e s f mid:Nat}(hs:a<=s)(hsm:s<=m)(hmf:m<=f)(hf:f<=e)(hmid:s+(f - m)=mid)(u:eZ rk d a m)(v:eZ rk d m e)(hd:∀ t,d1[t]! = Rot d s m f t)(h:∀ p q,s<=p->p<m->f<=q->q<e->rk d[p]! <= rk d[q]!):eZ rk d1 mid e:=λp q p1 pq q1=>by
 rw[hd,hd];unfold Rot;rw[if_neg (show ¬ p<s by omega),if_neg (show ¬ p<s+(f - m) by omega),if_neg (show ¬ q<s by omega),if_neg (show ¬ q<s+(f - m) by omega)]
 by_cases hp:p<f
 ·rw[if_pos hp]
  by_cases hq:q<f
  ·rw[if_pos hq];exact u _ _ (by omega) (by omega) (by omega)
  ·rw[if_neg hq];exact h _ q (by omega) (by omega) (by omega) q1
 ·rw[if_neg hp,if_neg (by omega)]
  exact v _ _ (by omega) pq q1
theorem aBz{d d1:Array α}{a m e s f:Nat}(hs:a<=s)(hsm:s<=m)(hmf:m<=f)(hf:f<=e)(he:e<=d.size)(u:eZ rk d a m)(v:eZ rk d m e)(x1:m<f->s<m->rk d[f - 1]! < rk d[s]!)(x2:a<s->f<e->rk d[s - 1]! <= rk d[f]!)(hz:d1.size=d.size)(hd:∀ t,d1[t]! = Rot d s m f t)(h1:∀ p q,a<=p->p<s->m<=q->q<f->rk d[p]! <= rk d[q]!)(h2:∀ p q,s<=p->p<m->f<=q->q<e->rk d[p]! <= rk d[q]!):Mrg rk a e d d1/\eZ rk d1 a e :=
 aLx rk hs hsm hmf hf he rfl u v x1 x2 hz hd (Mrg.refl rk _ _ _) (aJk rk hs hsm hmf hf rfl u v hd h1) (Mrg.refl rk _ _ _) (aHj rk hs hsm hmf hf rfl u v hd h2)
end
section
variable {α:Type}[Inhabited α]{rk:α->Nat}{E:Sy}{b c n:Nat}{enc:α->List Value}{fv:Value}{tail:List Value}{f:Option Nat}
theorem aMN(hE:aW E)(he:fF 3 enc)(hC:iT E fv enc (ltK rk)){H:AH}{Q:Value->AH->Prop}{d:Array α}(hg:H.get b=fN enc d tail f)(hn:d.size=n)(hsz:n<2 ^ 40){a m e:Nat}(ham:m=a+1)(hme:m<e)(hen:e<=n)(u:eZ rk d a m)(v:eZ rk d m e)(hQ:∀ d' H',Mrg rk a e d d'->eZ rk d' a e->aV H b enc tail f d' H'->Q (.tuple #[]) H'):
  lp5 (F.f120_l1 E Q) [slc b 0 n c,vi a,fv,vi m,vi e] H:=by
 refine aY.ind (λw ls H'=>∃ i j:Nat,w=j - i/\ls=[slc b 0 n c,vi a,fv,vi i,vi j]/\m<=i/\i<=j/\j<=e/\aV H b enc tail f d H'/\(∀ t,m<=t->t<i->rk d[t]! < rk d[a]!)/\(∀ t,j<=t->t<e->rk d[a]! <= rk d[t]!)) ?_ (e - m) ⟨m,e,rfl,rfl,Nat.le_refl _,by omega,Nat.le_refl _,.refl hg,λt _ _=>by omega,λt _ _=>by omega⟩
 rintro w _ H1 X ih ⟨i,j,rfl,rfl,hmi,hij,hje,s1,lo,hi⟩;rcases Nat.lt_or_ge i j with hlt | hge
 ·have hlt':decide ((i:Int)<j)=true:=decide_eq_true (by omega)
  have hadd:=bT i j (by omega)
  obtain⟨y,y1,y2,y3⟩:=aCF i j (by omega)
  have hh:i<=(i+j) / 2/\(i+j) / 2<j:=by omega
  generalize (i+j) / 2=h at *;have f1:=bS (sz:=3) (b:=b) (c:=c) (n:=n) (i:=h) (by omega)
  have f2:=bS (sz:=3) (b:=b) (c:=c) (n:=n) (i:=a) (by omega)
  have g1:=aM he s1.get (i:=h) (by omega)
  have g2:=aM he s1.get (i:=a) (by omega)
  have hinc:=cK h (by omega)
  simp only[F.f120_l1,aF,hlt',hadd,y1,y2,y3,f1,f2,g1,g2,aB];refine hC _ _ _ _ λz H2 e2 hz =>?_;have s2:=s1.ext e2
  by_cases hl:rk d[h]! < rk d[a]!
  ·have hd:ltK rk d[h]! d[a]! = true:=decide_eq_true hl
   simp only[aF,hz,hd,hinc,aB];exact ih (j - (h+1)) (by omega) _ _ ⟨h+1,j,rfl,rfl,by omega,by omega,hje,s2,λt t1 t2=>Nat.lt_of_le_of_lt (v t h t1 (by omega) (by omega)) hl,hi⟩
  ·have hd:ltK rk d[h]! d[a]! = false:=decide_eq_false hl
   simp only[aF,hz,hd,aB];exact ih (h - i) (by omega) _ _ ⟨i,h,rfl,rfl,hmi,by omega,by omega,s2,lo,λt t1 t2=>Nat.le_trans (by omega) (v h t (by omega) t1 t2)⟩
 have hje':i=j:=by omega
 subst hje';have hlt':decide ((i:Int)<i)=false:=decide_eq_false (by omega)
 simp only[F.f120_l1,aF,hlt',aB];clear ih;have hi1:aA .sub (vi (i:Int)) (vi 1)=some (vi ((i - 1:Nat):Int)):=dX i (by omega) (by omega)
 refine aY.ind (λw ls H'=>∃ (k:Nat) (d1:Array α),w=i - 1 - k/\ls=[slc b 0 n c,vi i,vi k]/\a<=k/\k<=i - 1/\d1.size=n/\(∀ t,d1[t]! = Rot d a (a+1) (k+1) t)/\aV H b enc tail f d1 H') ?_ (i - 1 - a) ⟨a,d,rfl,rfl,Nat.le_refl _,by omega,hn,aBi d a (a+1),s1⟩
 rintro w _ H2 X2 ih ⟨k,d1,rfl,rfl,hak,hki,n1,r1,s2⟩;rcases Nat.lt_or_ge k (i - 1) with hlt | hge
 ·have hlt2:decide ((k:Int)<((i - 1:Nat):Int))=true:=decide_eq_true (by omega)
  have a1:=cK k (by omega)
  have f1:=bS (sz:=3) (b:=b) (c:=c) (n:=n) (i:=k) (by omega)
  have f2:=bS (sz:=3) (b:=b) (c:=c) (n:=n) (i:=k+1) (by omega)
  have g1:=aM he s2.get (i:=k) (by omega)
  have g2:=aM he s2.get (i:=k+1) (by omega)
  obtain⟨w1,w2⟩:=eN he s2.get (i:=k) (j:=k+1) (by omega) (by omega)
  have hr:=aOM hak (by omega) (by omega:d1.size=d.size) r1
  have n2:(swp d1 k (k+1)).size=n:=by rw[Go.Sort.size_swp];exact n1
  have ih:=ih (i - 1 - (k+1)) (by omega) [slc b 0 n c,vi i,vi ((k+1:Nat):Int)] _ ⟨k+1,_,rfl,rfl,by omega,by omega,n2,hr,s2.put _⟩
  generalize swp d1 k (k+1)=d2 at *;simp only[F.f120_l2,aF,hi1,hlt2,a1,f1,f2,g1,g2,w1,w2,aB];exact ih
 ·have hke:k=i - 1:=by omega
  have hk1:k+1=i:=by omega
  have hlt2:decide ((k:Int)<((i - 1:Nat):Int))=false:=decide_eq_false (by omega)
  rw[hk1]at r1;rw[<- ham]at r1
  obtain⟨m1,m2⟩:=aBz rk (Nat.le_refl a) (by omega) (by omega) hje (by omega) u v (λh1 _=>lo (i - 1) (by omega) (by omega)) (λh _=>by omega) (by omega) r1 (λp q p1 p2 _ _=>by omega) (λp q p1 p2 q1 q2=>by
   have:p=a:=by omega
   subst this;exact hi q q1 q2)
  simp only[F.f120_l2,aF,hi1,hlt2,aB];exact hQ d1 H2 m1 m2 s2
theorem aMe(hE:aW E)(he:fF 3 enc)(hC:iT E fv enc (ltK rk)){H:AH}{Q:Value->AH->Prop}{d:Array α}(hg:H.get b=fN enc d tail f)(hn:d.size=n)(hsz:n<2 ^ 40){a m e:Nat}(ham:a<m)(hme:e=m+1)(hen:e<=n)(u:eZ rk d a m)(v:eZ rk d m e)(hQ:∀ d' H',Mrg rk a e d d'->eZ rk d' a e->aV H b enc tail f d' H'->Q (.tuple #[]) H'):
  lp5 (F.f120_l3 E Q) [slc b 0 n c,vi m,fv,vi a,vi m] H:=by
 refine aY.ind (λw ls H'=>∃ i j:Nat,w=j - i/\ls=[slc b 0 n c,vi m,fv,vi i,vi j]/\a<=i/\i<=j/\j<=m/\aV H b enc tail f d H'/\(∀ t,a<=t->t<i->rk d[t]! <= rk d[m]!)/\(∀ t,j<=t->t<m->rk d[m]! < rk d[t]!)) ?_ (m - a) ⟨a,m,rfl,rfl,Nat.le_refl _,by omega,Nat.le_refl _,.refl hg,λt _ _=>by omega,λt _ _=>by omega⟩
 rintro w _ H1 X ih ⟨i,j,rfl,rfl,hmi,hij,hje,s1,lo,hi⟩;rcases Nat.lt_or_ge i j with hlt | hge
 ·have hlt':decide ((i:Int)<j)=true:=decide_eq_true (by omega)
  have hadd:=bT i j (by omega)
  obtain⟨y,y1,y2,y3⟩:=aCF i j (by omega)
  have hh:i<=(i+j) / 2/\(i+j) / 2<j:=by omega
  generalize (i+j) / 2=h at *;have f1:=bS (sz:=3) (b:=b) (c:=c) (n:=n) (i:=m) (by omega)
  have f2:=bS (sz:=3) (b:=b) (c:=c) (n:=n) (i:=h) (by omega)
  have g1:=aM he s1.get (i:=m) (by omega)
  have g2:=aM he s1.get (i:=h) (by omega)
  have hinc:=cK h (by omega)
  simp only[F.f120_l3,aF,hlt',hadd,y1,y2,y3,f1,f2,g1,g2,aB];refine hC _ _ _ _ λz H2 e2 hz =>?_;have s2:=s1.ext e2
  by_cases hl:rk d[m]! < rk d[h]!
  ·have hd:ltK rk d[m]! d[h]! = true:=decide_eq_true hl
   simp only[aF,hz,hd,bW,Bool.not_true,aB];exact ih (h - i) (by omega) _ _ ⟨i,h,rfl,rfl,hmi,by omega,by omega,s2,lo,λt t1 t2=>Nat.lt_of_lt_of_le hl (u h t (by omega) t1 t2)⟩
  ·have hd:ltK rk d[m]! d[h]! = false:=decide_eq_false hl
   simp only[aF,hz,hd,bW,Bool.not_false,hinc,aB];exact ih (j - (h+1)) (by omega) _ _ ⟨h+1,j,rfl,rfl,by omega,by omega,hje,s2,λt t1 t2=>Nat.le_trans (u t h t1 (by omega) (by omega)) (by omega),hi⟩
 have hje':i=j:=by omega
 subst hje';have hlt':decide ((i:Int)<i)=false:=decide_eq_false (by omega)
 simp only[F.f120_l3,aF,hlt',aB];clear ih;refine aY.ind (λw ls H'=>∃ (k:Nat) (d1:Array α),w=k - i/\ls=[slc b 0 n c,vi i,vi k]/\i<=k/\k<=m/\d1.size=n/\(∀ t,d1[t]! = Rot d k m (m+1) t)/\aV H b enc tail f d1 H') ?_ (m - i) ⟨m,d,rfl,rfl,hje,Nat.le_refl _,hn,λt=>aA3 d m (m+1) t (by omega),s1⟩
 rintro w _ H2 X2 ih ⟨k,d1,rfl,rfl,hak,hki,n1,r1,s2⟩;rcases Nat.lt_or_ge i k with hlt | hge
 ·obtain⟨k,rfl⟩:∃ k',k=k'+1:=⟨k - 1,by omega⟩
  have hlt2:decide ((i:Int)<((k+1:Nat):Int))=true:=decide_eq_true (by omega)
  have a1:aA .sub (vi ((k+1:Nat):Int)) (vi 1)=some (vi (k:Int)):=dX (k+1) (by omega) (by omega)
  have f1:=bS (sz:=3) (b:=b) (c:=c) (n:=n) (i:=k) (by omega)
  have f2:=bS (sz:=3) (b:=b) (c:=c) (n:=n) (i:=k+1) (by omega)
  have g1:=aM he s2.get (i:=k) (by omega)
  have g2:=aM he s2.get (i:=k+1) (by omega)
  obtain⟨w1,w2⟩:=eN he s2.get (i:=k+1) (j:=k) (by omega) (by omega)
  have hr:=aK5 (by omega) (by omega) (by omega:d1.size=d.size) r1
  have n2:(swp d1 (k+1) k).size=n:=by rw[Go.Sort.size_swp];exact n1
  have ih:=ih (k - i) (by omega) [slc b 0 n c,vi i,vi (k:Int)] _ ⟨k,_,rfl,rfl,by omega,by omega,n2,hr,s2.put _⟩
  generalize swp d1 (k+1) k=d2 at *;simp only[F.f120_l4,cN,hlt2,a1,f1,f2,g1,g2,w1,w2,aB];exact ih
 ·have hke:k=i:=by omega
  subst hke;have hlt2:decide ((k:Int)<(k:Int))=false:=decide_eq_false (by omega)
  subst hme
  obtain⟨m1,m2⟩:=aBz rk hmi hje (by omega) (Nat.le_refl _) (by omega) u v (λ_ h2=>by rw[Nat.add_sub_cancel];exact hi k (Nat.le_refl _) h2) (λ_ h=>by omega) (by omega) r1 (λp q p1 p2 q1 q2=>by
   have:q=m:=by omega
   subst this;exact lo p p1 p2) (λp q p1 p2 q1 q2=>by omega)
  simp only[F.f120_l4,cN,hlt2,aB];exact hQ d1 H2 m1 m2 s2
theorem S.f120(hE:aW E)(he:fF 3 enc)(hC:iT E fv enc (ltK rk)):∀ (w:Nat) {H:AH} {Q:Value->AH->Prop} {d:Array α} (_:H.get b=fN enc d tail f) (_:d.size=n) (_:n<2 ^ 40) (a m e:Nat) (_:a<m) (_:m<e) (_:e<=n) (_:eZ rk d a m) (_:eZ rk d m e) (_:e - a<=w)
  (_:∀ d' H',Mrg rk a e d d'->eZ rk d' a e->aV H b enc tail f d' H'->Q (.tuple #[]) H'),E.call 116 [slc b 0 n c,vi a,vi m,vi e,fv] H Q:=by
 intro w
 induction w using Nat.strongRecOn with
 | _ w IH =>
 intro H Q d hg hn hsz a m e ham hme hen u v hw hQ;apply hE.f120;have b1:=bU m a (by omega) (by omega)
 have b2:=bU e m (by omega) (by omega)
 by_cases c1:m - a=1
 ·have d1:decide (((m - a:Nat):Int)=1)=true:=decide_eq_true (by omega)
  simp only[F.f120,b1,dU,d1,aB];exact aMN hE he hC hg hn hsz (by omega) hme hen u v hQ
 have d1:decide (((m - a:Nat):Int)=1)=false:=decide_eq_false (by omega)
 by_cases c2:e - m=1
 ·have d2:decide (((e - m:Nat):Int)=1)=true:=decide_eq_true (by omega)
  simp only[F.f120,b1,b2,dU,d1,d2,aB];exact aMe hE he hC hg hn hsz ham (by omega) hen u v hQ
 have d2:decide (((e - m:Nat):Int)=1)=false:=decide_eq_false (by omega)
 have b3:=bT a e (by omega)
 obtain⟨y,y1,y2,y3⟩:=aCF a e (by omega)
 have hmid:2*((a+e) / 2)<=a+e/\a+e<=2*((a+e) / 2)+1:=by omega
 generalize (a+e) / 2=mid at *;have b4:=bT mid m (by omega)
 have cut:∀ (s:Nat) (H1:AH),aV H b enc tail f d H1->a<=s->s<=m->s<=mid->m<=mid+m - s->mid+m - s<=e ->
   (m<mid+m - s->s<m->rk d[mid+m - s - 1]! < rk d[s]!)->(a<s->mid+m - s<e->rk d[s - 1]! <= rk d[mid+m - s]!)->∀ d1,d1.size=n->(∀ t,d1[t]! = Rot d s m (mid+m - s) t)->aV H b enc tail f d1 H1\/True->∀ H2,aV H b enc tail f d1 H2 ->
   F.f120_j2 E Q (slc b 0 n c) (vi a) (vi e) fv (vi mid) (vi s) (vi ((mid+m - s:Nat):Int)) H2:=by
  intro s H1 _ hs hsm hsmid hmf hfe x1 x2 d1 n1 r1 _ H2 s2;generalize hf:mid+m - s=ff at *;have hmm:s+(ff - m)=mid:=by omega
  have sec:∀ d2 H3,Mrg rk a mid d1 d2->eZ rk d2 a mid->aV H b enc tail f d2 H3->F.f120_j3 E Q (slc b 0 n c) (vi e) fv (vi mid) (vi (ff:Int)) H3:=by
   intro d2 H3 m2 o2 s3
   have fin:∀ d3 H4,Mrg rk mid e d2 d3->eZ rk d3 mid e->aV H b enc tail f d3 H4->Q (.tuple #[]) H4:=λd3 H4 m3 o3 s4=>by
    obtain⟨q1,q2⟩:=aLx rk hs hsm hmf hfe (by omega) hmm u v x1 x2 (by omega) r1 m2 o2 m3 o3
    exact hQ d3 H4 q1 q2 s4
   have n2:d2.size=n:=by rw[m2.size];exact n1
   have p1:eZ rk d2 mid ff:=by
    refine eZ.congr rk (d:=d1) (λp q p1 pq q1 =>?_) λt t1 t2=>m2.out t (by omega)
    rw[r1,r1];unfold Rot;rw[if_neg (by omega),if_neg (by omega),if_pos (by omega),if_neg (by omega),if_neg (by omega),if_pos (by omega)]
    exact u _ _ (by omega) (by omega) (by omega)
   have p2:eZ rk d2 ff e:=by
    refine eZ.congr rk (d:=d1) (λp q p1 pq q1 =>?_) λt t1 t2=>m2.out t (by omega)
    rw[r1,r1];unfold Rot;rw[if_neg (by omega),if_neg (by omega),if_neg (by omega),if_neg (by omega),if_neg (by omega),if_neg (by omega)]
    exact v _ _ (by omega) pq q1
   by_cases k1:mid<ff
   ·have e1:decide ((mid:Int)<(ff:Int))=true:=decide_eq_true (by omega)
    by_cases k2:ff<e
    ·have e2:decide ((ff:Int)<(e:Int))=true:=decide_eq_true (by omega)
     simp only[F.f120_j3,aF,e1,e2,aB];refine IH (e - mid) (by omega) s3.get n2 hsz mid ff e k1 k2 hen p1 p2 (Nat.le_refl _) λd3 H4 m3 o3 s4=>fin d3 H4 m3 o3 (s3.trans s4)
    ·have e2:decide ((ff:Int)<(e:Int))=false:=decide_eq_false (by omega)
     have:ff=e:=by omega
     simp only[F.f120_j3,aF,e1,e2,aB];exact fin d2 H3 (Mrg.refl rk _ _ _) (this▸p1) s3
   ·have e1:decide ((mid:Int)<(ff:Int))=false:=decide_eq_false (by omega)
    have:mid=ff:=by omega
    simp only[F.f120_j3,aF,e1,aB];exact fin d2 H3 (Mrg.refl rk _ _ _) (this▸p2) s3
  have p1:eZ rk d1 a s:=λp q p1 pq q1=>by
   rw[r1,r1];unfold Rot;rw[if_pos (by omega),if_pos (by omega)]
   exact u _ _ p1 pq (by omega)
  have p2:eZ rk d1 s mid:=λp q p1 pq q1=>by
   rw[r1,r1];unfold Rot;rw[if_neg (by omega),if_pos (by omega),if_neg (by omega),if_pos (by omega)]
   exact v _ _ (by omega) (by omega) (by omega)
  by_cases k1:a<s
  ·have e1:decide ((a:Int)<(s:Int))=true:=decide_eq_true (by omega)
   by_cases k2:s<mid
   ·have e2:decide ((s:Int)<(mid:Int))=true:=decide_eq_true (by omega)
    simp only[F.f120_j2,aF,e1,e2,aB];refine IH (mid - a) (by omega) s2.get n1 hsz a s mid k1 k2 (by omega) p1 p2 (Nat.le_refl _) λd3 H4 m3 o3 s4=>sec d3 H4 m3 o3 (s2.trans s4)
   ·have e2:decide ((s:Int)<(mid:Int))=false:=decide_eq_false (by omega)
    have:s=mid:=by omega
    simp only[F.f120_j2,aF,e1,e2,aB];exact sec d1 H2 (Mrg.refl rk _ _ _) (this▸p1) s2
  ·have e1:decide ((a:Int)<(s:Int))=false:=decide_eq_false (by omega)
   have:a=s:=by omega
   simp only[F.f120_j2,aF,e1,aB];exact sec d1 H2 (Mrg.refl rk _ _ _) (this▸p2) s2
 have search:∀ s0 r0:Nat,a<=s0->s0<=r0->r0<=m->r0<=mid->m<=mid+m - r0->mid+m - s0<=e->(s0=a\/mid+m - s0=e)->(r0=m\/r0=mid)->F.f120_j1 E Q (slc b 0 n c) (vi a) (vi m) (vi e) fv (vi mid) (vi ((mid+m:Nat):Int)) (vi s0) (vi r0) H:=by
  intro s0 r0 h1 h2 h3 h4 h5 h6 h7 h8;have b5:=dX (mid+m) (by omega) (by omega)
  simp only[F.f120_j1,b5,aB];refine aY.ind (λw ls H'=>∃ s r:Nat,w=r - s/\ls=[slc b 0 n c,vi a,vi m,vi e,fv,vi mid,vi ((mid+m:Nat):Int),vi s,vi r,vi ((mid+m - 1:Nat):Int)]/\s0<=s/\s<=r/\r<=r0/\aV H b enc tail f d H'/\(s0<s->rk d[s - 1]! <= rk d[mid+m - s]!)/\(r<r0->rk d[mid+m - 1 - r]! < rk d[r]!)) ?_ (r0 - s0) ⟨s0,r0,rfl,rfl,Nat.le_refl _,h2,Nat.le_refl _,.refl hg,λh=>by omega,λh=>by omega⟩
  rintro w _ H1 X ih ⟨s,r,rfl,rfl,hs0,hsr,hr0,s1,lo,hi⟩;rcases Nat.lt_or_ge s r with hlt | hge
  ·have hlt':decide ((s:Int)<r)=true:=decide_eq_true (by omega)
   have hadd:=bT s r (by omega)
   obtain⟨z',z1,z2,z3⟩:=aCF s r (by omega)
   have hh:s<=(s+r) / 2/\(s+r) / 2<r:=by omega
   generalize (s+r) / 2=h at *;have b6:=bU (mid+m - 1) h (by omega) (by omega)
   have f1:=bS (sz:=3) (b:=b) (c:=c) (n:=n) (i:=mid+m - 1 - h) (by omega)
   have f2:=bS (sz:=3) (b:=b) (c:=c) (n:=n) (i:=h) (by omega)
   have g1:=aM he s1.get (i:=mid+m - 1 - h) (by omega)
   have g2:=aM he s1.get (i:=h) (by omega)
   have hinc:=cK h (by omega)
   simp only[F.f120_l5,aF,hlt',hadd,z1,z2,z3,b6,f1,f2,g1,g2,aB];refine hC _ _ _ _ λz H2 e2 hz =>?_;have s2:=s1.ext e2
   by_cases hl:rk d[mid+m - 1 - h]! < rk d[h]!
   ·have hd:ltK rk d[mid+m - 1 - h]! d[h]! = true:=decide_eq_true hl
    simp only[aF,hz,hd,bW,Bool.not_true,aB];exact ih (h - s) (by omega) _ _ ⟨s,h,rfl,rfl,hs0,by omega,by omega,s2,lo,λ_=>hl⟩
   ·have hd:ltK rk d[mid+m - 1 - h]! d[h]! = false:=decide_eq_false hl
    simp only[aF,hz,hd,bW,Bool.not_false,hinc,aB]
    exact ih (r - (h+1)) (by omega) _ _ ⟨h+1,r,rfl,rfl,by omega,by omega,hr0,s2,λ_=>by
     rw[Nat.add_sub_cancel,show mid+m - (h+1)=mid+m - 1 - h by omega];omega,hi⟩
  have hje':s=r:=by omega
  subst hje';have hlt':decide ((s:Int)<s)=false:=decide_eq_false (by omega)
  have b6:=bU (mid+m) s (by omega) (by omega)
  have cut:=cut s H1 s1 (by omega) (by omega) (by omega) (by omega) (by omega) (λk1 k2=>by
   have:=hi (by omega)
   rwa [show mid+m - 1 - s=mid+m - s - 1 by omega]at this) (λk1 k2=>lo (by omega))
  by_cases k1:s<m
  ·have e1:decide ((s:Int)<(m:Int))=true:=decide_eq_true (by omega)
   by_cases k2:m<mid+m - s
   ·have e2:decide ((m:Int)<((mid+m - s:Nat):Int))=true:=decide_eq_true (by omega)
    simp only[F.f120_l5,aF,hlt',b6,e1,e2,aB];refine S.f116 hE he s1.get hn (by omega) s m (mid+m - s) k1 k2 (by omega) λd1 H2 n1 r1 s2 =>?_
    exact cut d1 n1 r1 (.inr trivial) H2 (s1.trans s2)
   ·have e2:decide ((m:Int)<((mid+m - s:Nat):Int))=false:=decide_eq_false (by omega)
    simp only[F.f120_l5,aF,hlt',b6,e1,e2,aB];exact cut d hn (λt=>by rw[show mid+m - s=m by omega];exact aBi d s m t) (.inr trivial) H1 s1
  ·have e1:decide ((s:Int)<(m:Int))=false:=decide_eq_false (by omega)
   simp only[F.f120_l5,aF,hlt',b6,e1,aB];exact cut d hn (λt=>by rw[show s=m by omega];exact aA3 d m _ t (by omega)) (.inr trivial) H1 s1
 by_cases c3:mid<m
 ·have d3:decide ((mid:Int)<(m:Int))=true:=decide_eq_true (by omega)
  have b5:=bU (mid+m) e (by omega) (by omega)
  simp only[F.f120,b1,b2,dU,d1,d2,b3,y1,y2,y3,b4,cN,d3,b5,aB];exact search (mid+m - e) mid (by omega) (by omega) (by omega) (Nat.le_refl _) (by omega) (by omega) (.inr (by omega)) (.inr rfl)
 ·have d3:decide ((mid:Int)<(m:Int))=false:=decide_eq_false (by omega)
  simp only[F.f120,b1,b2,dU,d1,d2,b3,y1,y2,y3,b4,cN,d3,aB];exact search a m (Nat.le_refl _) (by omega) (Nat.le_refl _) (by omega) (by omega) (by omega) (.inl rfl) (.inl rfl)
end
end
section
open Go.Sort (swp SWO PermIn SortedIn insertionSort)
set_option maxRecDepth 20000
section
variable {α:Type}[Inhabited α]{rk:α->Nat}{E:Sy}{b c n:Nat}{enc:α->List Value}{fv:Value}{tail:List Value}{f:Option Nat}
theorem oV{k s a:Nat}(h1:k ∣ s)(h2:k ∣ a)(h:s<a):s+k<=a:=by
 obtain⟨p,rfl⟩:=h1;obtain⟨q,rfl⟩:=h2;have:p<q:=Nat.lt_of_mul_lt_mul_left h;have:=Nat.mul_le_mul_left k this;rw[Nat.mul_succ]at this;exact this
def aNB(rk:α->Nat)(d:Array α)(B n:Nat):Prop:=∀ s,B ∣ s->eZ rk d s (min (s+B) n)
theorem aI3(hE:aW E)(he:fF 3 enc)(hC:iT E fv enc (ltK rk)){H:AH}{Q:Value->AH->Prop}{d:Array α}(hg:H.get b=fN enc d tail f)(hn:d.size=n)(hsz:n<2 ^ 40){B:Nat}(hB:0<B)(hBn:B<n)(hb:aNB rk d B n){X0:List Value->AH->Prop}(next:∀ d' H',d'.size=n->dA rk d.toList d'.toList->aNB rk d' (2*B) n->aV H b enc tail f d' H'->X0 [slc b 0 n c,vi n,fv,vi ((2*B:Nat):Int)] H'):
  lp6 (F.f118_l3 E Q X0) [slc b 0 n c,vi n,fv,vi B,vi 0,vi ((2*B:Nat):Int)] H:=by
 refine aY.ind (λw ls H'=>∃ (a:Nat) (d1:Array α),w=n - a/\ls=[slc b 0 n c,vi n,fv,vi B,vi a,vi ((a+2*B:Nat):Int)]/\a<=n/\2*B ∣ a/\d1.size=n/\dA rk d.toList d1.toList/\(∀ s,2*B ∣ s->s<a->eZ rk d1 s (s+2*B))/\(∀ s,B ∣ s->a<=s->eZ rk d1 s (min (s+B) n))/\aV H b enc tail f d1 H') ?_ n
  ⟨0,d,rfl,by rw[Nat.zero_add];rfl,Nat.zero_le _,⟨0,rfl⟩,hn,dA.refl rk _,λs _ h=>by omega,λs h _=>hb s h,.refl hg⟩
 rintro w _ H1 X1 ih ⟨a,d1,rfl,rfl,han,hda,n1,sm,p1,p2,s1⟩;have hBa:B ∣ a:=Nat.dvd_trans ⟨2,Nat.mul_comm 2 B⟩ hda;have hBB:B ∣ a+B:=(Nat.dvd_add_right hBa).2 (Nat.dvd_refl B);have h2B:2*B ∣ a+2*B:=(Nat.dvd_add_right hda).2 (Nat.dvd_refl _);have u0:=p2 a hBa (Nat.le_refl _);have v0:=p2 (a+B) hBB (by omega)
 have a1:=bT a B (by omega)
 have m1:aA .mul (vi 2) (vi (B:Int))=some (vi ((2*B:Nat):Int)):=by rw[jU (by omega) (by omega)];congr 2
 have m2:aA .mul (vi (B:Int)) (vi 2)=some (vi ((2*B:Nat):Int)):=by rw[jU (by omega) (by omega)];congr 2;omega
 have a2:=bT (a+2*B) (2*B) (by omega)
 rcases Nat.lt_or_ge n (a+2*B) with hgt | hle
 ·have hle':decide (((a+2*B:Nat):Int)<=n)=false:=decide_eq_false (by omega)
  have fin:∀ d2 H2,d2.size=n->dA rk d1.toList d2.toList->(∀ t,t<a->d2[t]! = d1[t]!)->eZ rk d2 a n->aV H b enc tail f d2 H2->X0 [slc b 0 n c,vi n,fv,vi ((2*B:Nat):Int)] H2:=λd2 H2 n2 sm2 out o2 s2=>by
   refine next d2 H2 n2 (dA.trans rk sm sm2) (λs hs =>?_) s2;rcases Nat.lt_or_ge s a with h1 | h1
   ·have h2:=oV hs hda h1
    rw[Nat.min_eq_left (by omega)]
    exact eZ.congr rk (p1 s hs h1) λt t1 t2=>out t (by omega)
   ·rcases Nat.lt_or_ge a s with h2 | h2
    ·have h3:=oV hda hs h2
     exact eZ.small rk _ (by omega)
    ·have:s=a:=by omega
     subst this;rw[Nat.min_eq_right (by omega)]
     exact o2
  by_cases hm:a+B<n
  ·have hlt':decide (((a+B:Nat):Int)<n)=true:=decide_eq_true (by omega)
   simp only[F.f118_l3,cS,hle',a1,aF,hlt',aB];rw[Nat.min_eq_left (by omega)]at u0
   rw[Nat.min_eq_right (by omega)]at v0
   refine S.f120 hE he hC (n - a) s1.get n1 hsz a (a+B) n (by omega) hm (Nat.le_refl _) u0 v0 (Nat.le_refl _) λd2 H2 g o s2 =>?_
   simp only[m2,aB];exact fin d2 H2 (by rw[g.size];exact n1) g.same (λt ht=>g.out t (.inl ht)) o (s1.trans s2)
  ·have hlt':decide (((a+B:Nat):Int)<n)=false:=decide_eq_false (by omega)
   rw[Nat.min_eq_right (by omega)]at u0
   simp only[F.f118_l3,cS,hle',a1,aF,hlt',m2,aB];exact fin d1 H1 n1 (dA.refl rk _) (λ_ _=>rfl) u0 s1
 ·have hle':decide (((a+2*B:Nat):Int)<=n)=true:=decide_eq_true (by omega)
  rw[Nat.min_eq_left (by omega)]at u0 v0
  rw[show a+B+B=a+2*B by omega]at v0
  simp only[F.f118_l3,cS,hle',a1,aB];refine S.f120 hE he hC (2*B) s1.get n1 hsz a (a+B) (a+2*B) (by omega) (by omega) hle u0 v0 (by omega) λd2 H2 g o s2 =>?_
  simp only[m1,a2,aB];refine ih (n - (a+2*B)) (by omega) _ _ ⟨a+2*B,d2,rfl,rfl,hle,h2B,by rw[g.size];exact n1,dA.trans rk sm g.same,λs hs h1 =>?_,λs hs h1 =>?_,s1.trans s2⟩
  ·rcases Nat.lt_or_ge s a with h2 | h2
   ·have h3:=oV hs hda h2
    exact eZ.congr rk (p1 s hs h2) λt t1 t2=>g.out t (.inl (by omega))
   ·rcases Nat.lt_or_ge a s with h4 | h4
    ·have:=oV hda hs h4;omega
    ·have:s=a:=by omega
     subst this;exact o
  ·exact eZ.congr rk (p2 s hs (by omega)) λt t1 t2=>g.out t (.inr (by omega))
theorem aIJ(hE:aW E)(he:fF 3 enc)(hC:iT E fv enc (ltK rk)){H:AH}{Q:Value->AH->Prop}{d:Array α}(hg:H.get b=fN enc d tail f)(hn:d.size=n)(hsz:n<2 ^ 40)(hb:aNB rk d 20 n)(hQ:∀ d' H',d'.size=n->dA rk d.toList d'.toList->eZ rk d' 0 n->aV H b enc tail f d' H'->Q (.tuple #[]) H'):
  lp4 (F.f118_l2 E Q) [slc b 0 n c,vi n,fv,vi 20] H:=by
 refine aY.ind (λw ls H'=>∃ (B:Nat) (d1:Array α),w=n - B/\ls=[slc b 0 n c,vi n,fv,vi B]/\0<B/\d1.size=n/\dA rk d.toList d1.toList/\aNB rk d1 B n/\aV H b enc tail f d1 H') ?_ (n - 20) ⟨20,d,rfl,rfl,by omega,hn,dA.refl rk _,hb,.refl hg⟩
 rintro w _ H1 X0 ih ⟨B,d1,rfl,rfl,hB,n1,sm,p1,s1⟩;rcases Nat.lt_or_ge B n with hlt | hge
 ·have hlt':decide ((B:Int)<n)=true:=decide_eq_true (by omega)
  have m1:aA .mul (vi 2) (vi (B:Int))=some (vi ((2*B:Nat):Int)):=by rw[jU (by omega) (by omega)];congr 2
  simp only[F.f118_l2,aF,hlt',m1,aB];exact aI3 hE he hC s1.get n1 hsz hB hlt p1 λd2 H2 n2 sm2 b2 s2=>ih (n - 2*B) (by omega) _ _ ⟨2*B,d2,rfl,rfl,by omega,n2,dA.trans rk sm sm2,b2,s1.trans s2⟩
 ·have hlt':decide ((B:Int)<n)=false:=decide_eq_false (by omega)
  have o:=p1 0 ⟨0,rfl⟩;rw[Nat.zero_add,Nat.min_eq_right hge]at o;simp only[F.f118_l2,aF,hlt',aB];exact hQ d1 H1 n1 sm o s1
theorem S.slices_SortStableFunc(hE:aW E)(he:fF 3 enc)(hC:iT E fv enc (ltK rk)){H:AH}{Q:Value->AH->Prop}{d:Array α}(hg:H.get b=fN enc d tail f)(hn:d.size=n)(hsz:n<2 ^ 40)(hQ:∀ d' H',d'.size=n->dA rk d.toList d'.toList->eZ rk d' 0 n->aV H b enc tail f d' H'->Q (.tuple #[]) H'):E.call 62 [slc b 0 n c,fv] H Q:=by
 apply hE.f101;simp only[F.f101,mZ,aB];apply hE.f118;simp only[F.f118,aB]
 refine aY.ind (λw ls H'=>∃ (a:Nat) (d1:Array α),w=n - a/\ls=[slc b 0 n c,vi n,fv,vi 20,vi a,vi ((a+20:Nat):Int)]/\a<=n/\20 ∣ a/\d1.size=n/\dA rk d.toList d1.toList/\(∀ s,20 ∣ s->s<a->eZ rk d1 s (s+20))/\aV H b enc tail f d1 H') ?_ n
  ⟨0,d,rfl,rfl,Nat.zero_le _,⟨0,rfl⟩,hn,dA.refl rk _,λs _ h=>by omega,.refl hg⟩
 rintro w _ H1 X0 ih ⟨a,d1,rfl,rfl,han,hda,n1,sm,p1,s1⟩
 have ins:∀ e,a<=e->e<=n->Mrg rk a e d1 (insertionSort (ltK rk) d1 a e)/\eZ rk (insertionSort (ltK rk) d1 a e) a e:=λe h1 h2=>by
  obtain⟨q1,q2⟩:=Go.Sort.insertionSort_holds (aHQ rk) d1 a e h1 (by omega)
  exact⟨⟨q1.1,q1.2.1,λt t1 t2=>Go.Sort.permIn_all d1 _ a e (λx=>∃ s,a<=s/\s<e/\x=d1[s]!) (by omega) q1 (λi i1 i2=>⟨i,i1,i2,rfl⟩) t t1 t2,nU rk d1 a e (by omega)⟩,eZ.of rk q2⟩
 rcases Nat.lt_or_ge n (a+20) with hgt | hle
 ·have hle':decide (((a+20:Nat):Int)<=n)=false:=decide_eq_false (by omega)
  obtain⟨g,o⟩:=ins n han (Nat.le_refl _);simp only[F.f118_l1,cS,hle',aB];refine S.f106 hE he hC s1.get n1 (by omega) a n han (Nat.le_refl _) λH2 s2 =>?_
  refine aIJ hE he hC s2.get (by rw[g.size];exact n1) hsz (λs hs =>?_) λd3 H3 n3 sm3 o3 s3=>hQ d3 H3 n3 (dA.trans rk sm (dA.trans rk g.same sm3)) o3 ((s1.trans s2).trans s3)
  rcases Nat.lt_or_ge s a with h1 | h1
  ·have h2:=oV hs hda h1
   rw[Nat.min_eq_left (by omega)]
   exact eZ.congr rk (p1 s hs h1) λt t1 t2=>g.out t (.inl (by omega))
  ·rcases Nat.lt_or_ge a s with h2 | h2
   ·have h3:=oV hda hs h2
    exact eZ.small rk _ (by omega)
   ·have:s=a:=by omega
    subst this;rw[Nat.min_eq_right (by omega)]
    exact o
 ·have hle':decide (((a+20:Nat):Int)<=n)=true:=decide_eq_true (by omega)
  obtain⟨g,o⟩:=ins (a+20) (by omega) hle
  have a2:aA .add (vi ((a+20:Nat):Int)) (vi 20)=some (vi ((a+20+20:Nat):Int)):=bT (a+20) 20 (by omega)
  simp only[F.f118_l1,cS,hle',aB];refine S.f106 hE he hC s1.get n1 (by omega) a (a+20) (by omega) hle λH2 s2 =>?_
  simp only[a2,aB];refine ih (n - (a+20)) (by omega) _ _ ⟨a+20,_,rfl,rfl,hle,(Nat.dvd_add_right hda).2 (Nat.dvd_refl _),by rw[g.size];exact n1,dA.trans rk sm g.same,λs hs h1 =>?_,s1.trans s2⟩
  rcases Nat.lt_or_ge s a with h2 | h2
  ·have h3:=oV hs hda h2
   exact eZ.congr rk (p1 s hs h2) λt t1 t2=>g.out t (.inl (by omega))
  ·have:s=a:=by
    rcases Nat.lt_or_ge a s with h4 | h4
    ·have:=oV hda hs h4;omega
    ·omega
   subst this;exact o
theorem aDR{d:Array α}(h:eZ rk d 0 d.size):d.toList.Pairwise λx y=>rk x<=rk y:=by
 rw[List.pairwise_iff_getElem];intro i j hi hj hij;have hi':i<d.size:=by simpa using hi
 have hj':j<d.size:=by simpa using hj
 have:=h i j (Nat.zero_le _) (Nat.le_of_lt hij) hj';rw[getElem!_pos d i hi',getElem!_pos d j hj']at this
 simpa only[Array.getElem_toList] using this
end
theorem aGM{E:Sy}(hE:aW E)(m:Nat)(hm:m<2 ^ 40):pM E m:=fun {H Q b c d tail f} hg hmd hQ=>by
 refine S.slices_SortStableFunc hE qG (aDe hE) hg rfl (by omega) λd' H' n1 sm o s=>hQ _ _ ?_ s
 rw[<- n1]at o;exact aDx rkR sm (aDR o) λx _=>aJ5 x
end
section
instance:Inhabited cR:=⟨⟨0,0,[]⟩⟩
end
section
open Go.Sort
set_option maxRecDepth 20000
section
variable {α:Type}[Inhabited α]{E:Sy}{H H':AH}{Q:Value->AH->Prop}{b c n:Nat}{enc:α->List Value}{LT:α->α->Bool}{fv:Value}{d:Array α}{tail:List Value}{f:Option Nat}
theorem S.f117(hE:aW E)(he:fF 2 enc)(hC:iT E fv enc LT)(hg:H.get b=fN enc d tail f)(hn:d.size=n)(hsz:n<2 ^ 60)(lo hi first:Nat)(hlo:lo<=n)(hf:first+hi<=n)(hQ:∀ H',aV H b enc tail f (siftDown LT hi first lo d) H'->Q (.tuple #[]) H'):E.call 136 [slc b 0 n c,vi lo,vi hi,vi first,fv] H Q:=by
 apply hE.f117;simp only[F.f117,aB];obtain⟨R,hR⟩:∃ R,R=siftDown LT hi first lo d:=⟨_,rfl⟩
 rw[<- hR]at hQ;refine aY.ind (λm l H'=>∃ (r:Nat) (d':Array α),l=[slc b 0 n c,vi hi,vi first,fv,vi r]/\aV H b enc tail f d' H'/\d'.size=n/\R=siftDown LT hi first r d'/\r<=n/\m=hi - r) ?_ (hi - lo) ⟨lo,d,rfl,.refl hg,hn,hR,hlo,rfl⟩
 rintro m _ H1 X hX ⟨r,d1,rfl,s1,n1,r1,hr,rfl⟩;have a1:=aMU r (by omega)
 have a2:=cK (2*r) (by omega)
 have a3:=cK (2*r+1) (by omega)
 have step:∀ (ch:Nat) (H2:AH),aV H b enc tail f d1 H2->r<ch->ch<hi->R=(if !LT d1[first+r]! d1[first+ch]! then d1 else siftDown LT hi first ch (swp d1 (first+r) (first+ch)))->F.f117_j1 E Q X (slc b 0 n c) (vi hi) (vi first) fv (vi r) (vi ch) H2:=by
  intro ch H2 s2 h1 h2 hR';have b1:=bT first r (by omega)
  have b2:=bT first ch (by omega)
  have f1:=bS (sz:=2) (b:=b) (c:=c) (n:=n) (i:=first+r) (by omega)
  have f2:=bS (sz:=2) (b:=b) (c:=c) (n:=n) (i:=first+ch) (by omega)
  have g1:=aM he s2.get (i:=first+r) (by omega)
  have g2:=aM he s2.get (i:=first+ch) (by omega)
  have hp1:first+r<n:=by omega
  have hp2:first+ch<n:=by omega
  generalize hp:first+r=p at *
  generalize hq:first+ch=q at *
  simp only[F.f117_j1,b1,b2,f1,f2,g1,g2,aB];refine hC _ _ _ _ λz H3 e3 hz =>?_;have s3:=s2.ext e3;have g1:=aM he s3.get (i:=p) (by omega)
  have g2:=aM he s3.get (i:=q) (by omega)
  obtain⟨w1,w2⟩:=eN he s3.get (i:=p) (j:=q) (by omega) (by omega)
  cases hl:LT d1[p]! d1[q]! with
  | true =>
   simp only[hl,Bool.not_true,Bool.false_eq_true,if_false]at hR';simp only[aF,hz,hl,bW,Bool.not_true,b1,b2,f1,f2,g1,g2,w1,w2,aB];exact hX (hi - ch) (by omega) _ _ ⟨ch,_,rfl,s3.put _,by rw[size_swp];exact n1,hR',by omega,rfl⟩
  | false =>
   simp only[hl,Bool.not_false,if_true]at hR';subst hR';simp only[aF,hz,hl,bW,Bool.not_false,aB];exact hQ _ s3
 rw[siftDown]at r1
 by_cases c1:2*r+1>=hi
 ·rw[dif_pos c1]at r1
  subst r1;have c1':decide ((hi:Int)<=((2*r+1:Nat):Int))=true:=decide_eq_true (by omega)
  generalize 2*r+1=ch at *;generalize 2*r=rr at *;simp only[F.f117_l1,a1,a2,dV,c1',aB];exact hQ _ s1
 rw[dif_neg c1]at r1;have c1':decide ((hi:Int)<=((2*r+1:Nat):Int))=false:=decide_eq_false (by omega)
 have b1:=bT first (2*r+1) (by omega)
 have b2:=cK (first+(2*r+1)) (by omega)
 by_cases c2:2*r+1+1<hi
 ·have c2':decide (((2*r+1+1:Nat):Int)<hi)=true:=decide_eq_true (by omega)
  have f1:=bS (sz:=2) (b:=b) (c:=c) (n:=n) (i:=first+(2*r+1)) (by omega)
  have f2:=bS (sz:=2) (b:=b) (c:=c) (n:=n) (i:=first+(2*r+1)+1) (by omega)
  have g1:=aM he s1.get (i:=first+(2*r+1)) (by omega)
  have g2:=aM he s1.get (i:=first+(2*r+1)+1) (by omega)
  have st1:=λH2 s2=>step (2*r+1) H2 s2 (by omega) (by omega)
  have st2:=λH2 s2=>step (2*r+1+1) H2 s2 (by omega) c2
  rw[dif_pos (by omega:2*r+2<hi)]at r1
  simp only[c2,decide_true,Bool.true_and]at r1;rw[show 2*r+2=2*r+1+1 by omega]at r1
  generalize hq2:first+(2*r+1)+1=q2 at *
  generalize hq:first+(2*r+1)=q at *
  generalize hc2:2*r+1+1=ch2 at *;generalize hc1:2*r+1=ch at *;generalize 2*r=rr at *;simp only[F.f117_l1,a1,a2,a3,dV,aF,c1',c2',b1,b2,f1,f2,g1,g2,aB];refine hC _ _ _ _ λz H3 e3 hz =>?_;have s3:=s1.ext e3;cases hl:LT d1[q]! d1[q2]! with
  | true =>
   simp only[hl,if_true]at r1;simp only[aF,hz,hl,a3,aB];exact st2 _ s3 r1
  | false =>
   simp only[hl,if_false,Bool.false_eq_true]at r1;simp only[aF,hz,hl,aB];exact st1 _ s3 r1
 ·have c2':decide (((2*r+1+1:Nat):Int)<hi)=false:=decide_eq_false (by omega)
  have st1:=step (2*r+1) _ s1 (by omega) (by omega)
  simp only[c2,decide_false,Bool.false_and,Bool.false_eq_true,if_false]at r1;generalize hc2:2*r+1+1=ch2 at *;generalize hc1:2*r+1=ch at *;generalize 2*r=rr at *;simp only[F.f117_l1,a1,a2,a3,dV,aF,c1',c2',aB];exact st1 r1
theorem lB(hi first r:Nat)(d:Array α):(siftDown LT hi first r d).size=d.size:=by
 obtain⟨m,hm⟩:∃ m,hi - r<=m:=⟨_,Nat.le_refl _⟩
 induction m generalizing r d with
 | zero =>
  rw[siftDown,dif_pos (by omega)]
 | succ m ih =>
  rw[siftDown]
  split
  ·rfl
  ·split
   ·split
    ·rfl
    ·split
     ·rw[ih _ _ (by omega),size_swp]
     ·rfl
   ·split
    ·rfl
    ·rw[ih _ _ (by omega),size_swp]
theorem S.f104(hE:aW E)(he:fF 2 enc)(hC:iT E fv enc LT)(hg:H.get b=fN enc d tail f)(hn:d.size=n)(hsz:n<2 ^ 60)(a e:Nat)(hae:a<e)(hle:e<=n)(hQ:∀ H',aV H b enc tail f (heapSort LT d a e) H'->Q (.tuple #[]) H'):E.call 120 [slc b 0 n c,vi a,vi e,fv] H Q:=by
 apply hE.f104;have a1:=bU e a (by omega) (by omega)
 have a2:=dX (e - a) (by omega) (by omega)
 have a3:=lZ (e - a - 1) 2 (by decide) (by omega)
 unfold heapSort at hQ;have a1':aA .sub (vi e) (vi a)=some (vi ((e - a:Nat):Int)):=a1;generalize hw:e - a=w at *;have a3':aA .quo (vi ((w - 1:Nat):Int)) (vi 2)=some (vi (((w - 1) / 2:Nat):Int)):=a3;generalize hw1:w - 1=w1 at *;generalize hh:w1 / 2=h2 at *;have hh2:h2<=w1:=by rw[<- hh];exact Nat.div_le_self _ _
 simp only[F.f104,a1',a2,a3',aB];obtain⟨R,hR⟩:∃ R,R=heapPop LT a w (heapBuild LT w a (h2+1) d):=⟨_,rfl⟩;rw[<- hR]at hQ;refine aY.ind (λm l H'=>∃ (k:Nat) (d':Array α),l=[slc b 0 n c,fv,vi a,vi 0,vi w,vi ((k:Int) - 1)]/\aV H b enc tail f d' H'/\d'.size=n/\R=heapPop LT a w (heapBuild LT w a k d')/\k<=w/\m=k) ?_ (h2+1) ⟨h2+1,d,by simp,.refl hg,hn,hR,by omega,rfl⟩
 rintro m _ H1 X hX ⟨k,d1,rfl,s1,n1,r1,hk,rfl⟩;cases m with
 | succ k =>
  have e1:((k+1:Nat):Int) - 1=(k:Int):=by omega
  have hd:aA .sub (vi k) (vi 1)=some (vi ((k:Int) - 1)):=gY (by omega) (by omega)
  have c0:decide ((0:Int)<=(k:Int))=true:=decide_eq_true (by omega)
  rw[e1];simp only[F.f104_l1,dV,c0,aB];refine S.f117 hE he hC s1.get n1 hsz k w a (by omega) (by omega) λH2 s2 =>?_
  simp only[hd,aB];exact hX k (by omega) _ _ ⟨k,_,rfl,s1.trans s2,by rw[lB];exact n1,by rw[r1];rfl,by omega,rfl⟩
 | zero =>
  have hd:aA .sub (vi w) (vi 1)=some (vi ((w:Int) - 1)):=gY (by omega) (by omega)
  have c0:decide ((0:Int)<=((0:Nat):Int) - 1)=false:=by decide
  simp only[F.f104_l1,dV,c0,hd,aB];clear hX;refine aY.ind (λm l H'=>∃ (k:Nat) (d':Array α),l=[slc b 0 n c,fv,vi a,vi 0,vi ((k:Int) - 1)]/\aV H b enc tail f d' H'/\d'.size=n/\R=heapPop LT a k d'/\k<=w/\m=k) ?_ w ⟨w,d1,rfl,s1,n1,r1,Nat.le_refl _,rfl⟩;rintro m _ H2 X hX ⟨k,d2,rfl,s2,n2,r2,hk,rfl⟩;cases m with
  | succ k =>
   have e1:((k+1:Nat):Int) - 1=(k:Int):=by omega
   have hd:aA .sub (vi k) (vi 1)=some (vi ((k:Int) - 1)):=gY (by omega) (by omega)
   have b1:=bT a k (by omega)
   have f1:=bS (sz:=2) (b:=b) (c:=c) (n:=n) (i:=a) (by omega)
   have f2:=bS (sz:=2) (b:=b) (c:=c) (n:=n) (i:=a+k) (by omega)
   have g1:=aM he s2.get (i:=a) (by omega)
   have g2:=aM he s2.get (i:=a+k) (by omega)
   obtain⟨w1,w2⟩:=eN he s2.get (i:=a) (j:=a+k) (by omega) (by omega)
   have c0:decide ((0:Int)<=(k:Int))=true:=decide_eq_true (by omega)
   rw[e1];rw[heapPop]at r2;generalize hq:a+k=q at *;simp only[F.f104_l2,dV,c0,b1,f1,f2,g1,g2,w1,w2,aB];have s3:=s2.put (swp d2 a q);refine S.f117 hE he hC s3.get (by rw[size_swp];exact n2) hsz 0 k a (by omega) (by omega) λH3 s4 =>?_
   simp only[hd,aB];exact hX k (by omega) _ _ ⟨k,_,rfl,s3.trans s4,by rw[lB,size_swp];exact n2,r2,by omega,rfl⟩
  | zero =>
   have c0:decide ((0:Int)<=((0:Nat):Int) - 1)=false:=by decide
   simp only[F.f104_l2,dV,c0,aB];rw[heapPop]at r2;subst r2;exact hQ _ s2
theorem S.f115(hE:aW E)(he:fF 2 enc)(hg:H.get b=fN enc d tail f)(hn:d.size=n)(hsz:n<2 ^ 60)(a e:Nat)(hae:a<e)(hle:e<=n)(hQ:∀ H',aV H b enc tail f (reverseRange d a e) H'->Q (.tuple #[]) H'):E.call 123 [slc b 0 n c,vi a,vi e,fv] H Q:=by
 apply hE.f115;have a1:=dX e (by omega) (by omega)
 unfold reverseRange at hQ;simp only[F.f115,a1,aB];obtain⟨R,hR⟩:∃ R,R=reverseLoop a (e - 1) d:=⟨_,rfl⟩;rw[<- hR]at hQ;refine aY.ind (λm l H'=>∃ (p q:Nat) (d':Array α),l=[slc b 0 n c,vi p,vi q]/\aV H b enc tail f d' H'/\d'.size=n/\R=reverseLoop p q d'/\p<=n/\q<n/\m=q - p) ?_ (e - 1 - a) ⟨a,e - 1,d,rfl,.refl hg,hn,hR,by omega,by omega,rfl⟩
 rintro m _ H1 X hX ⟨p,q,d1,rfl,s1,n1,r1,hp,hq,rfl⟩;rw[reverseLoop]at r1
 by_cases h:p<q
 ·rw[if_pos h]at r1
  have h':decide ((p:Int)<q)=true:=decide_eq_true (by omega)
  have f1:=bS (sz:=2) (b:=b) (c:=c) (n:=n) (i:=p) (by omega)
  have f2:=bS (sz:=2) (b:=b) (c:=c) (n:=n) (i:=q) (by omega)
  have g1:=aM he s1.get (i:=p) (by omega)
  have g2:=aM he s1.get (i:=q) (by omega)
  obtain⟨w1,w2⟩:=eN he s1.get (i:=p) (j:=q) (by omega) (by omega)
  have b1:=cK p (by omega)
  have b2:=dX q (by omega) (by omega)
  simp only[F.f115_l1,aF,h',f1,f2,g1,g2,w1,w2,b1,b2,aB];exact hX (q - 1 - (p+1)) (by omega) _ _ ⟨p+1,q - 1,_,rfl,s1.put _,by rw[size_swp];exact n1,r1,by omega,by omega,rfl⟩
 ·rw[if_neg h]at r1
  subst r1;have h':decide ((p:Int)<q)=false:=decide_eq_false (by omega)
  simp only[F.f115_l1,aF,h',aB];exact hQ _ s1
end
end
section
open Go.Sort
set_option maxRecDepth 20000
section
variable {α:Type}[Inhabited α]{E:Sy}{H H':AH}{Q:Value->AH->Prop}{b c n:Nat}{enc:α->List Value}{LT:α->α->Bool}{fv:Value}{d:Array α}{tail:List Value}{f:Option Nat}
theorem S.f112(hE:aW E)(he:fF 2 enc)(hC:iT E fv enc LT)(hg:H.get b=fN enc d tail f)(hn:d.size=n)(hsz:n<2 ^ 60)(a e pivot:Nat)(h1:a<=pivot)(h2:pivot<e)(hle:e<=n)(hQ:∀ H',aV H b enc tail f (partition LT d a e pivot).2.2 H'->Q (.tuple #[vi (partition LT d a e pivot).1,vb (partition LT d a e pivot).2.1]) H'):E.call 126 [slc b 0 n c,vi a,vi e,vi pivot,fv] H Q:=by
 apply hE.f112;have f1:=bS (sz:=2) (b:=b) (c:=c) (n:=n) (i:=a) (by omega)
 have f2:=bS (sz:=2) (b:=b) (c:=c) (n:=n) (i:=pivot) (by omega)
 have g1:=aM he hg (i:=a) (by omega)
 have g2:=aM he hg (i:=pivot) (by omega)
 obtain⟨w1,w2⟩:=eN he hg (i:=a) (j:=pivot) (by omega) (by omega)
 have b1:=cK a (by omega)
 have b2:=dX e (by omega) (by omega)
 simp only[F.f112,f1,f2,g1,g2,w1,w2,b1,b2,aB];have s0:=(aV.refl hg).put (swp d a pivot);have n0:(swp d a pivot).size=n:=by rw[size_swp];exact hn
 unfold partition at hQ;generalize hd0:swp d a pivot=d0 at *;generalize H.put b (fN enc d0 tail f)=H0 at *;clear w1 w2 g1 g2 f2;simp only at hQ;obtain⟨I,hI⟩:∃ I,I=scanUp (λx=>LT x d0[a]!) d0 (e - 1) (a+1):=⟨_,rfl⟩;rw[<- hI]at hQ;obtain⟨J,hJ⟩:∃ J,J=scanDown (λx => !LT x d0[a]!) d0 I (e - 1):=⟨_,rfl⟩;rw[<- hJ]at hQ;have hIl:=aEE (λx=>LT x d0[a]!) d0 (e - 1) _ (a+1) (Nat.le_refl _);rw[<- hI]at hIl;have hJl:=tC (λx => !LT x d0[a]!) d0 I (e - 1);rw[<- hJ]at hJl;refine aY.ind (λm l H'=>aV H b enc tail f d0 H'/\∃ p:Nat,l=[slc b 0 n c,vi a,fv,vi p,vi ((e - 1:Nat):Int)]/\I=scanUp (λx=>LT x d0[a]!) d0 (e - 1) p/\a+1<=p/\p<=e/\m=e - p) ?_ (e - (a+1)) ⟨s0,a+1,rfl,hI,Nat.le_refl _,by omega,rfl⟩
 rintro m _ H1 X hX ⟨s1,p,rfl,r1,hp1,hp2,rfl⟩;rw[scanUp]at r1
 have exit1:I=p->∀ H2,aV H b enc tail f d0 H2->lp5 (F.f112_l2 E Q) [slc b 0 n c,vi a,fv,vi p,vi ((e - 1:Nat):Int)] H2:=by
  rintro rfl H2 s2;clear hX r1;refine aY.ind (λm l H'=>aV H b enc tail f d0 H'/\∃ q:Nat,l=[slc b 0 n c,vi a,fv,vi I,vi q]/\J=scanDown (λx => !LT x d0[a]!) d0 I q/\q<=e - 1/\I<=q+1/\m=q) ?_ (e - 1) ⟨s2,e - 1,rfl,hJ,Nat.le_refl _,by omega,rfl⟩
  rintro m _ H3 X hX ⟨s3,q,rfl,r1,hq1,hq2,rfl⟩
  have exit2:J=m->F.f112_l2 E Q (slc b 0 n c) (vi a) fv (vi I) (vi m) H3 X:=by
   rintro rfl;clear hX;have f1:=bS (sz:=2) (b:=b) (c:=c) (n:=n) (i:=a) (by omega)
   have f2:=bS (sz:=2) (b:=b) (c:=c) (n:=n) (i:=J) (by omega)
   have g1:=aM he s3.get (i:=a) (by omega)
   have g2:=aM he s3.get (i:=J) (by omega)
   by_cases hij:I<=J
   ·have hij':decide ((I:Int)<=J)=true:=decide_eq_true (by omega)
    have hij'':decide ((J:Int)<I)=false:=decide_eq_false (by omega)
    have hnl:LT d0[J]! d0[a]! = true:=by
     cases J with
     | zero=>omega
     | succ q =>
      rw[scanDown]at r1
      split at r1
      ·have:=tC (λx => !LT x d0[a]!) d0 I q
       omega
      ·rename_i hc
       simp at hc;exact hc (by omega)
    have f3:=bS (sz:=2) (b:=b) (c:=c) (n:=n) (i:=I) (by omega)
    have b3:=cK I (by omega)
    have b4:=dX J (by omega) (by omega)
    simp only[F.f112_l2,cS,hij',f1,f2,g1,g2,aB];refine hC _ _ _ _ λz H4 e4 hz =>?_;have s4:=s3.ext e4;have g2:=aM he s4.get (i:=J) (by omega)
    have g3:=aM he s4.get (i:=I) (by omega)
    obtain⟨w3,w4⟩:=eN he s4.get (i:=I) (j:=J) (by omega) (by omega)
    simp only[aF,cN,hz,hnl,bW,Bool.not_true,hij'',f2,f3,g2,g3,w3,w4,b3,b4,aB];rw[if_neg (by omega)]at hQ
    have s1:=s4.put (swp d0 I J);have n1:(swp d0 I J).size=n:=by rw[size_swp];exact n0
    generalize hd1:swp d0 I J=d1 at *;simp only at hQ;obtain⟨R,hR⟩:∃ R,R=partLoop LT a (I+1) (J - 1) d1:=⟨_,rfl⟩;rw[<- hR]at hQ;refine aY.ind (λm l H'=>∃ (p q:Nat) (d2:Array α),l=[slc b 0 n c,vi a,fv,vi p,vi q]/\aV H b enc tail f d2 H'/\d2.size=n/\R=partLoop LT a p q d2/\a+1<=p/\p<=q+1+1/\p<=e/\q<=e - 1/\a<=q/\m=q+1 - p) ?_ (J - 1+1 - (I+1)) ⟨I+1,J - 1,d1,rfl,s1,n1,hR,by omega,by omega,by omega,by omega,by omega,rfl⟩
    clear hR s1 n1 hd1 w3 w4 g1 g2 g3 s4 s3 s2;rintro m _ H5 X3 hX3 ⟨p,q,d2,rfl,s2,n2,r2,hp1,hp2,hpe,hq1,hqa,rfl⟩;rw[partLoop]at r2;simp only[F.f112_l3,vB,vA,vG,uX,yL];obtain⟨I2,hI2⟩:∃ I,I=scanUp (λx=>LT x d2[a]!) d2 q p:=⟨_,rfl⟩;obtain⟨J2,hJ2⟩:∃ J,J=scanDown (λx => !LT x d2[a]!) d2 I2 q:=⟨_,rfl⟩;rw[<- hI2]at r2
    try simp only at r2
    rw[<- hJ2]at r2;have hIl2:=aEE (λx=>LT x d2[a]!) d2 q _ p (Nat.le_refl _);rw[<- hI2]at hIl2;have hJl2:=tC (λx => !LT x d2[a]!) d2 I2 q;rw[<- hJ2]at hJl2
    have hI2e:I2<=q+1\/(I2=p/\q+1<p):=by
     by_cases h:p<=q+1
     ·exact .inl (hIl2.2 h)
     ·refine .inr ⟨?_,by omega⟩
      rw[hI2,scanUp,if_neg (by simp;omega)]
    have hJ2e:I2<=q+1\/J2=q:=by
     rcases hI2e with h | ⟨h,h'⟩
     ·exact .inl h
     ·right
      rw[hJ2];cases q with
      | zero=>rfl
      | succ q=>rw[scanDown,if_neg (by simp;omega)]
    refine aY.ind (λm l H'=>aV H b enc tail f d2 H'/\∃ p':Nat,l=[slc b 0 n c,vi a,fv,vi p',vi q]/\I2=scanUp (λx=>LT x d2[a]!) d2 q p'/\p<=p'/\p'<=e/\m=q+1 - p') ?_ (q+1 - p) ⟨s2,p,rfl,hI2,Nat.le_refl _,by omega,rfl⟩
    rintro m _ H6 X4 hX4 ⟨s6,p',rfl,r4,hp3,hp4,rfl⟩;rw[scanUp]at r4
    have exit4:I2=p'->∀ H7,aV H b enc tail f d2 H7->lp5 (F.f112_l5 E Q X3) [slc b 0 n c,vi a,fv,vi p',vi q] H7:=by
     rintro rfl H7 s7;clear hX4 r4;refine aY.ind (λm l H'=>aV H b enc tail f d2 H'/\∃ q':Nat,l=[slc b 0 n c,vi a,fv,vi I2,vi q']/\J2=scanDown (λx => !LT x d2[a]!) d2 I2 q'/\q'<=q/\m=q') ?_ q ⟨s7,q,rfl,hJ2,Nat.le_refl _,rfl⟩;rintro m _ H8 X5 hX5 ⟨s8,q',rfl,r5,hq3,rfl⟩
     have exit5:J2=m->∀ H9,aV H b enc tail f d2 H9->(hnl:I2<=m->LT d2[m]! d2[a]! = true)->F.f112_l5 E Q X3 (slc b 0 n c) (vi a) fv (vi I2) (vi m) H8 X5:=by
      rintro rfl H9 s9 hnl;clear hX5;have f2:=bS (sz:=2) (b:=b) (c:=c) (n:=n) (i:=J2) (by omega)
      have g1:=aM he s8.get (i:=a) (by omega)
      have g2:=aM he s8.get (i:=J2) (by omega)
      by_cases hij:I2<=J2
      ·have hij':decide ((I2:Int)<=J2)=true:=decide_eq_true (by omega)
       have hij'':decide ((J2:Int)<I2)=false:=decide_eq_false (by omega)
       have hnl:=hnl hij;have f3:=bS (sz:=2) (b:=b) (c:=c) (n:=n) (i:=I2) (by omega)
       have b3:=cK I2 (by omega)
       have b4:=dX J2 (by omega) (by omega)
       simp only[F.f112_l5,cS,hij',f1,f2,g1,g2,aB];refine hC _ _ _ _ λz H10 e10 hz =>?_;have s10:=s8.ext e10;have g2:=aM he s10.get (i:=J2) (by omega)
       have g3:=aM he s10.get (i:=I2) (by omega)
       obtain⟨w3,w4⟩:=eN he s10.get (i:=I2) (j:=J2) (by omega) (by omega)
       simp only[aF,cN,hz,hnl,bW,Bool.not_true,hij'',f2,f3,g2,g3,w3,w4,b3,b4,aB];rw[if_neg (by omega),dif_pos (by omega)]at r2
       exact hX3 (J2 - 1+1 - (I2+1)) (by omega) _ _ ⟨I2+1,J2 - 1,_,rfl,s10.put _,by rw[size_swp];exact n2,r2,by omega,by omega,by omega,by omega,by omega,rfl⟩
      ·have hij':decide ((I2:Int)<=J2)=false:=decide_eq_false (by omega)
       have hij'':decide ((J2:Int)<I2)=true:=decide_eq_true (by omega)
       rw[if_pos (by omega)]at r2
       subst r2;obtain⟨w1,w2⟩:=eN he s8.get (i:=J2) (j:=a) (by omega) (by omega)
       simp only[F.f112_l5,cS,cN,hij',hij'',f1,f2,g1,g2,w1,w2,aB];exact hQ _ (s8.put _)
     cases m with
     | zero=>exact exit5 r5 _ s8 λh=>by omega
     | succ q' =>
      by_cases hc:I2<=q'+1/\LT d2[q'+1]! d2[a]! = false
      ·rw[scanDown,if_pos (by simp[hc.1,hc.2])]at r5
       have hc':decide ((I2:Int)<=((q'+1:Nat):Int))=true:=decide_eq_true (by omega)
       have f2:=bS (sz:=2) (b:=b) (c:=c) (n:=n) (i:=q'+1) (by omega)
       have g1:=aM he s8.get (i:=a) (by omega)
       have g2:=aM he s8.get (i:=q'+1) (by omega)
       have b4:aA .sub (vi ((q'+1:Nat):Int)) (vi 1)=some (vi (q':Int)):=dX (q'+1) (by omega) (by omega)
       have hlt:=hc.2;simp only[F.f112_l5,cS,hc',f1,f2,g1,g2,aB];refine hC _ _ _ _ λz H10 e10 hz =>?_;simp only[aF,hz,hlt,bW,Bool.not_false,b4,aB];exact hX5 q' (by omega) _ _ ⟨s8.ext e10,q',rfl,r5,by omega,rfl⟩
      ·rw[scanDown,if_neg (by simpa using hc)]at r5
       exact exit5 r5 _ s8 λh=>by simpa using λh'=>hc ⟨h,h'⟩
    by_cases hc:p'<=q/\LT d2[p']! d2[a]! = true
    ·rw[if_pos (by simp[hc.1,hc.2])]at r4
     have hc':decide ((p':Int)<=q)=true:=decide_eq_true (by omega)
     have f2:=bS (sz:=2) (b:=b) (c:=c) (n:=n) (i:=p') (by omega)
     have g1:=aM he s6.get (i:=a) (by omega)
     have g2:=aM he s6.get (i:=p') (by omega)
     have b3:=cK p' (by omega)
     simp only[F.f112_l4,cS,hc',f1,f2,g1,g2,aB];refine hC _ _ _ _ λz H10 e10 hz =>?_;simp only[aF,hz,hc.2,b3,aB];exact hX4 (q+1 - (p'+1)) (by omega) _ _ ⟨s6.ext e10,p'+1,rfl,r4,by omega,by omega,rfl⟩
    ·rw[if_neg (by simpa using hc)]at r4
     by_cases hpq:p'<=q
     ·have hc':decide ((p':Int)<=q)=true:=decide_eq_true (by omega)
      have hlt:LT d2[p']! d2[a]! = false:=by simpa using λh=>hc ⟨hpq,h⟩
      have f2:=bS (sz:=2) (b:=b) (c:=c) (n:=n) (i:=p') (by omega)
      have g1:=aM he s6.get (i:=a) (by omega)
      have g2:=aM he s6.get (i:=p') (by omega)
      simp only[F.f112_l4,cS,hc',f1,f2,g1,g2,aB];refine hC _ _ _ _ λz H10 e10 hz =>?_;simp only[aF,hz,hlt,aB];exact exit4 r4 _ (s6.ext e10)
     ·have hc':decide ((p':Int)<=q)=false:=decide_eq_false (by omega)
      simp only[F.f112_l4,cS,hc',aB];exact exit4 r4 _ s6
   ·have hij':decide ((I:Int)<=J)=false:=decide_eq_false (by omega)
    have hij'':decide ((J:Int)<I)=true:=decide_eq_true (by omega)
    obtain⟨w1,w2⟩:=eN he s3.get (i:=J) (j:=a) (by omega) (by omega)
    simp only[F.f112_l2,cS,cN,hij',hij'',f1,f2,g1,g2,w1,w2,aB];rw[if_pos (by omega)]at hQ
    exact hQ _ (s3.put _)
  cases m with
  | zero=>exact exit2 r1
  | succ q =>
   by_cases hc:I<=q+1/\LT d0[q+1]! d0[a]! = false
   ·rw[scanDown,if_pos (by simp[hc.1,hc.2])]at r1
    have hc':decide ((I:Int)<=((q+1:Nat):Int))=true:=decide_eq_true (by omega)
    have f2:=bS (sz:=2) (b:=b) (c:=c) (n:=n) (i:=q+1) (by omega)
    have g1:=aM he s3.get (i:=a) (by omega)
    have g2:=aM he s3.get (i:=q+1) (by omega)
    have b4:aA .sub (vi ((q+1:Nat):Int)) (vi 1)=some (vi (q:Int)):=dX (q+1) (by omega) (by omega)
    have hlt:=hc.2;simp only[F.f112_l2,cS,hc',f1,f2,g1,g2,aB];refine hC _ _ _ _ λz H10 e10 hz =>?_;simp only[aF,hz,hlt,bW,Bool.not_false,b4,aB];exact hX q (by omega) _ _ ⟨s3.ext e10,q,rfl,r1,by omega,by omega,rfl⟩
   ·rw[scanDown,if_neg (by simpa using hc)]at r1
    exact exit2 r1
 by_cases hc:p<=e - 1/\LT d0[p]! d0[a]! = true
 ·rw[if_pos (by simp[hc.1,hc.2])]at r1
  have hc':decide ((p:Int)<=((e - 1:Nat):Int))=true:=decide_eq_true (by omega)
  have f2:=bS (sz:=2) (b:=b) (c:=c) (n:=n) (i:=p) (by omega)
  have g1:=aM he s1.get (i:=a) (by omega)
  have g2:=aM he s1.get (i:=p) (by omega)
  have b3:=cK p (by omega)
  simp only[F.f112_l1,cS,hc',f1,f2,g1,g2,aB];refine hC _ _ _ _ λz H10 e10 hz =>?_;simp only[aF,hz,hc.2,b3,aB];exact hX (e - (p+1)) (by omega) _ _ ⟨s1.ext e10,p+1,rfl,r1,by omega,by omega,rfl⟩
 ·rw[if_neg (by simpa using hc)]at r1
  have exit1:=exit1 r1
  by_cases hpq:p<=e - 1
  ·have hc':decide ((p:Int)<=((e - 1:Nat):Int))=true:=decide_eq_true (by omega)
   have hlt:LT d0[p]! d0[a]! = false:=by simpa using λh=>hc ⟨hpq,h⟩
   have f2:=bS (sz:=2) (b:=b) (c:=c) (n:=n) (i:=p) (by omega)
   have g1:=aM he s1.get (i:=a) (by omega)
   have g2:=aM he s1.get (i:=p) (by omega)
   simp only[F.f112_l1,cS,hc',f1,f2,g1,g2,aB];refine hC _ _ _ _ λz H10 e10 hz =>?_;simp only[aF,hz,hlt,aB];exact exit1 _ (s1.ext e10)
  ·have hc':decide ((p:Int)<=((e - 1:Nat):Int))=false:=decide_eq_false (by omega)
   simp only[F.f112_l1,cS,hc',aB];exact exit1 _ s1
end
end
section
open Go.Sort
set_option maxRecDepth 20000
section
variable {α:Type}[Inhabited α]{E:Sy}{H H':AH}{Q:Value->AH->Prop}{b c n:Nat}{enc:α->List Value}{LT:α->α->Bool}{fv:Value}{d:Array α}{tail:List Value}{f:Option Nat}
theorem S.f113(hE:aW E)(he:fF 2 enc)(hC:iT E fv enc LT)(hg:H.get b=fN enc d tail f)(hn:d.size=n)(hsz:n<2 ^ 60)(a e pivot:Nat)(h1:a<=pivot)(h2:pivot<e)(hle:e<=n)(hQ:∀ H',aV H b enc tail f (partitionEqual LT d a e pivot).2 H'->Q (vi (partitionEqual LT d a e pivot).1) H'):E.call 125 [slc b 0 n c,vi a,vi e,vi pivot,fv] H Q:=by
 apply hE.f113;have f1:=bS (sz:=2) (b:=b) (c:=c) (n:=n) (i:=a) (by omega)
 have f2:=bS (sz:=2) (b:=b) (c:=c) (n:=n) (i:=pivot) (by omega)
 have g1:=aM he hg (i:=a) (by omega)
 have g2:=aM he hg (i:=pivot) (by omega)
 obtain⟨w1,w2⟩:=eN he hg (i:=a) (j:=pivot) (by omega) (by omega)
 have b1:=cK a (by omega)
 have b2:=dX e (by omega) (by omega)
 simp only[F.f113,f1,f2,g1,g2,w1,w2,b1,b2,aB];have s0:=(aV.refl hg).put (swp d a pivot);have n0:(swp d a pivot).size=n:=by rw[size_swp];exact hn
 unfold partitionEqual at hQ;generalize hd0:swp d a pivot=d0 at *;generalize H.put b (fN enc d0 tail f)=H0 at *;clear w1 w2 f2 g1 g2;obtain⟨R,hR⟩:∃ R,R=partEqLoop LT a (a+1) (e - 1) d0:=⟨_,rfl⟩;rw[<- hR]at hQ;refine aY.ind (λm l H'=>∃ (p q:Nat) (d2:Array α),l=[slc b 0 n c,vi a,fv,vi p,vi q]/\aV H b enc tail f d2 H'/\d2.size=n/\R=partEqLoop LT a p q d2/\a+1<=p/\p<=q+1+1/\p<=e/\q<=e - 1/\a<=q/\m=q+1 - p) ?_ (e - 1+1 - (a+1)) ⟨a+1,e - 1,d0,rfl,s0,n0,hR,by omega,by omega,by omega,by omega,by omega,rfl⟩
 clear hR s0 n0 hd0;rintro m _ H2 X3 hX3 ⟨p,q,d2,rfl,s2,n2,r2,hp1,hp2,hpe,hq1,hqa,rfl⟩;rw[partEqLoop]at r2;simp only[F.f113_l1,vB,vA,vG,uX,yL];obtain⟨I2,hI2⟩:∃ I,I=scanUp (λx => !LT d2[a]! x) d2 q p:=⟨_,rfl⟩;obtain⟨J2,hJ2⟩:∃ J,J=scanDown (λx=>LT d2[a]! x) d2 I2 q:=⟨_,rfl⟩;rw[<- hI2]at r2
 try simp only at r2
 rw[<- hJ2]at r2;have hIl2:=aEE (λx => !LT d2[a]! x) d2 q _ p (Nat.le_refl _);rw[<- hI2]at hIl2;have hJl2:=tC (λx=>LT d2[a]! x) d2 I2 q;rw[<- hJ2]at hJl2
 have hI2e:I2<=q+1\/(I2=p/\q+1<p):=by
  by_cases h:p<=q+1
  ·exact .inl (hIl2.2 h)
  ·refine .inr ⟨?_,by omega⟩
   rw[hI2,scanUp,if_neg (by simp;omega)]
 have hJ2e:I2<=q+1\/J2=q:=by
  rcases hI2e with h | ⟨h,h'⟩
  ·exact .inl h
  ·right
   rw[hJ2];cases q with
   | zero=>rfl
   | succ q=>rw[scanDown,if_neg (by simp;omega)]
 refine aY.ind (λm l H'=>aV H b enc tail f d2 H'/\∃ p':Nat,l=[slc b 0 n c,vi a,fv,vi p',vi q]/\I2=scanUp (λx => !LT d2[a]! x) d2 q p'/\p<=p'/\p'<=e/\m=q+1 - p') ?_ (q+1 - p) ⟨s2,p,rfl,hI2,Nat.le_refl _,by omega,rfl⟩
 rintro m _ H6 X4 hX4 ⟨s6,p',rfl,r4,hp3,hp4,rfl⟩;rw[scanUp]at r4
 have exit4:I2=p'->∀ H7,aV H b enc tail f d2 H7->lp5 (F.f113_l3 E Q X3) [slc b 0 n c,vi a,fv,vi p',vi q] H7:=by
  rintro rfl H7 s7;clear hX4 r4;refine aY.ind (λm l H'=>aV H b enc tail f d2 H'/\∃ q':Nat,l=[slc b 0 n c,vi a,fv,vi I2,vi q']/\J2=scanDown (λx=>LT d2[a]! x) d2 I2 q'/\q'<=q/\m=q') ?_ q ⟨s7,q,rfl,hJ2,Nat.le_refl _,rfl⟩;rintro m _ H8 X5 hX5 ⟨s8,q',rfl,r5,hq3,rfl⟩
  have exit5:J2=m->(I2<=m->LT d2[a]! d2[m]! = false)->F.f113_l3 E Q X3 (slc b 0 n c) (vi a) fv (vi I2) (vi m) H8 X5:=by
   rintro rfl hnl;clear hX5;have f2:=bS (sz:=2) (b:=b) (c:=c) (n:=n) (i:=J2) (by omega)
   have g1:=aM he s8.get (i:=a) (by omega)
   have g2:=aM he s8.get (i:=J2) (by omega)
   by_cases hij:I2<=J2
   ·have hij':decide ((I2:Int)<=J2)=true:=decide_eq_true (by omega)
    have hij'':decide ((J2:Int)<I2)=false:=decide_eq_false (by omega)
    have hnl:=hnl hij;have f3:=bS (sz:=2) (b:=b) (c:=c) (n:=n) (i:=I2) (by omega)
    have b3:=cK I2 (by omega)
    have b4:=dX J2 (by omega) (by omega)
    simp only[F.f113_l3,cS,hij',f1,f2,g1,g2,aB];refine hC _ _ _ _ λz H10 e10 hz =>?_;have s10:=s8.ext e10;have g2:=aM he s10.get (i:=J2) (by omega)
    have g3:=aM he s10.get (i:=I2) (by omega)
    obtain⟨w3,w4⟩:=eN he s10.get (i:=I2) (j:=J2) (by omega) (by omega)
    simp only[aF,cN,hz,hnl,hij'',f2,f3,g2,g3,w3,w4,b3,b4,aB];rw[if_neg (by omega),dif_pos (by omega)]at r2
    exact hX3 (J2 - 1+1 - (I2+1)) (by omega) _ _ ⟨I2+1,J2 - 1,_,rfl,s10.put _,by rw[size_swp];exact n2,r2,by omega,by omega,by omega,by omega,by omega,rfl⟩
   ·have hij':decide ((I2:Int)<=J2)=false:=decide_eq_false (by omega)
    have hij'':decide ((J2:Int)<I2)=true:=decide_eq_true (by omega)
    rw[if_pos (by omega)]at r2
    subst r2;simp only[F.f113_l3,cS,cN,hij',hij'',aB];exact hQ _ s8
  cases m with
  | zero=>exact exit5 r5 λh=>by omega
  | succ q' =>
   by_cases hc:I2<=q'+1/\LT d2[a]! d2[q'+1]! = true
   ·rw[scanDown,if_pos (by simp[hc.1,hc.2])]at r5
    have hc':decide ((I2:Int)<=((q'+1:Nat):Int))=true:=decide_eq_true (by omega)
    have f2:=bS (sz:=2) (b:=b) (c:=c) (n:=n) (i:=q'+1) (by omega)
    have g1:=aM he s8.get (i:=a) (by omega)
    have g2:=aM he s8.get (i:=q'+1) (by omega)
    have b4:aA .sub (vi ((q'+1:Nat):Int)) (vi 1)=some (vi (q':Int)):=dX (q'+1) (by omega) (by omega)
    have hlt:=hc.2;simp only[F.f113_l3,cS,hc',f1,f2,g1,g2,aB];refine hC _ _ _ _ λz H10 e10 hz =>?_;simp only[aF,hz,hlt,b4,aB];exact hX5 q' (by omega) _ _ ⟨s8.ext e10,q',rfl,r5,by omega,rfl⟩
   ·rw[scanDown,if_neg (by simpa using hc)]at r5
    exact exit5 r5 λh=>by simpa using λh'=>hc ⟨h,h'⟩
 by_cases hc:p'<=q/\LT d2[a]! d2[p']! = false
 ·rw[if_pos (by simp[hc.1,hc.2])]at r4
  have hc':decide ((p':Int)<=q)=true:=decide_eq_true (by omega)
  have f2:=bS (sz:=2) (b:=b) (c:=c) (n:=n) (i:=p') (by omega)
  have g1:=aM he s6.get (i:=a) (by omega)
  have g2:=aM he s6.get (i:=p') (by omega)
  have b3:=cK p' (by omega)
  simp only[F.f113_l2,cS,hc',f1,f2,g1,g2,aB];refine hC _ _ _ _ λz H10 e10 hz =>?_;simp only[aF,hz,hc.2,bW,Bool.not_false,b3,aB];exact hX4 (q+1 - (p'+1)) (by omega) _ _ ⟨s6.ext e10,p'+1,rfl,r4,by omega,by omega,rfl⟩
 ·rw[if_neg (by simpa using hc)]at r4
  by_cases hpq:p'<=q
  ·have hc':decide ((p':Int)<=q)=true:=decide_eq_true (by omega)
   have hlt:LT d2[a]! d2[p']! = true:=by simpa using λh=>hc ⟨hpq,h⟩
   have f2:=bS (sz:=2) (b:=b) (c:=c) (n:=n) (i:=p') (by omega)
   have g1:=aM he s6.get (i:=a) (by omega)
   have g2:=aM he s6.get (i:=p') (by omega)
   simp only[F.f113_l2,cS,hc',f1,f2,g1,g2,aB];refine hC _ _ _ _ λz H10 e10 hz =>?_;simp only[aF,hz,hlt,bW,Bool.not_true,aB];exact exit4 r4 _ (s6.ext e10)
  ·have hc':decide ((p':Int)<=q)=false:=decide_eq_false (by omega)
   simp only[F.f113_l2,cS,hc',aB];exact exit4 r4 _ s6
end
end
section
open Go.Sort
set_option maxRecDepth 20000
section
variable {α:Type}[Inhabited α]{E:Sy}{H H':AH}{Q:Value->AH->Prop}{b c n:Nat}{enc:α->List Value}{LT:α->α->Bool}{fv:Value}{d:Array α}{tail:List Value}{f:Option Nat}
theorem S.f111(hE:aW E)(he:fF 2 enc)(hC:iT E fv enc LT)(hg:H.get b=fN enc d tail f)(hn:d.size=n)(hsz:n<2 ^ 60)(a e:Nat)(hae:a<e)(hle:e<=n)(hQ:∀ H',aV H b enc tail f (partialInsertionSort LT d a e).1 H'->Q (vb (partialInsertionSort LT d a e).2) H'):E.call 124 [slc b 0 n c,vi a,vi e,fv] H Q:=by
  apply hE.f111;have b1:=cK a (by omega)
  simp only[F.f111,b1,aB];unfold partialInsertionSort at hQ;obtain⟨R,hR⟩:∃ R,R=partialIns LT a e 5 (a+1) d:=⟨_,rfl⟩;rw[<- hR]at hQ;refine aY.ind (λm l H'=>∃ (i:Nat) (d1:Array α),l=[slc b 0 n c,vi a,vi e,fv,vi i,vi ((5 - m:Nat):Int)]/\aV H b enc tail f d1 H'/\d1.size=n/\R=partialIns LT a e m i d1/\a+1<=i/\i<=e/\m<=5) ?_ 5 ⟨a+1,d,rfl,.refl hg,hn,hR,Nat.le_refl _,by omega,Nat.le_refl _⟩
  rintro m _ H1 X hX ⟨i0,d1,rfl,s1,n1,r1,hi1,hi2,hm⟩;cases m with
  | zero =>
    have c5:decide (((5 - 0:Nat):Int)<5)=false:=by decide
    simp only[F.f111_l1,aF,c5,aB];rw[partialIns]at r1;subst r1;exact hQ _ s1
  | succ m =>
    have hms:decide (((5 - (m+1):Nat):Int)<5)=true:=decide_eq_true (by omega)
    have hmi:aA .add (vi ((5 - (m+1):Nat):Int)) (vi 1)=some (vi ((5 - m:Nat):Int)):=by
      rw[cK _ (by omega)];congr 3;omega
    have hX:∀ (i:Nat) (d2:Array α) H2,aV H b enc tail f d2 H2->d2.size=n->R=partialIns LT a e m i d2->a+1<=i->i<=e->X [slc b 0 n c,vi a,vi e,fv,vi i,vi ((5 - m:Nat):Int)] H2:=λi d2 H2 q1 q2 q3 q4 q5=>hX m (by omega) _ _ ⟨i,d2,rfl,q1,q2,q3,q4,q5,by omega⟩
    generalize hk:5 - (m+1)=k at *;generalize hk':5 - m=k' at *;simp only[F.f111_l1,aF,hms,aB];rw[partialIns_succ]at r1;obtain⟨I,hI⟩:∃ I,I=scanSorted LT d1 e i0:=⟨_,rfl⟩;rw[<- hI]at r1;refine aY.ind (λm l H'=>aV H b enc tail f d1 H'/\∃ i':Nat,l=[slc b 0 n c,vi a,vi e,fv,vi i',vi k]/\I=scanSorted LT d1 e i'/\a+1<=i'/\i'<=e/\m=e - i') ?_ (e - i0) ⟨s1,i0,rfl,hI,hi1,hi2,rfl⟩;clear s1;rintro mm _ H2 X1 hX1 ⟨s1,i',rfl,r2,hi3,hi4,rfl⟩;rw[scanSorted]at r2;have b2:aA .sub (vi e) (vi a)=some (vi ((e - a:Nat):Int)):=bU e a (by omega) (by omega)
    have hkk:aA .add (vi k) (vi 1)=some (vi k'):=hmi
    have j1:∀ (d3:Array α) H3,aV H b enc tail f d3 H3->d3.size=n->a+1<=I->I<e->R=partialIns LT a e m I (fixUp LT e I d3)->F.f111_j1 E Q X (slc b 0 n c) (vi a) (vi e) fv (vi I) (vi k) H3:=by
      intro d3 H3 s3 n3 hI3 hI4 r3;unfold fixUp at r3;have b5:aA .sub (vi e) (vi I)=some (vi ((e - I:Nat):Int)):=bU e I (by omega) (by omega)
      by_cases c3:e - I>=2
      · rw[if_pos c3]at r3
        have c3':decide ((2:Int)<=((e - I:Nat):Int))=true:=decide_eq_true (by omega)
        have b6:=cK I (by omega)
        simp only[F.f111_j1,b5,dV,c3',b6,aB];obtain⟨D,hD⟩:∃ D,D=shiftUp LT e (I+1) d3:=⟨_,rfl⟩;rw[<- hD]at r3;refine aY.ind (λmm l H'=>∃ (q:Nat) (d4:Array α),l=[slc b 0 n c,vi a,vi e,fv,vi I,vi k,vi q]/\aV H b enc tail f d4 H'/\d4.size=n/\D=shiftUp LT e q d4/\1<=q/\q<=e/\mm=e - q) ?_ (e - (I+1)) ⟨I+1,d3,rfl,s3,n3,hD,by omega,by omega,rfl⟩
        rintro mm _ H4 X5 hX5 ⟨q,d4,rfl,s4,n4,r4,hq1,hq2,rfl⟩;rw[shiftUp]at r4
        have done:D=d4->∀ H5,aV H b enc tail f d4 H5->X [slc b 0 n c,vi a,vi e,fv,vi I,vi k'] H5:=by
          rintro rfl H5 s5;exact hX I D H5 s5 n4 r3 hI3 (by omega)
        by_cases c4:q<e
        · have c4':decide ((q:Int)<e)=true:=decide_eq_true (by omega)
          rw[if_pos c4]at r4;have b7:=dX q (by omega) (by omega)
          have b8:=cK q (by omega)
          have f1:=bS (sz:=2) (b:=b) (c:=c) (n:=n) (i:=q) (by omega)
          have f2:=bS (sz:=2) (b:=b) (c:=c) (n:=n) (i:=q - 1) (by omega)
          have g1:=aM he s4.get (i:=q) (by omega)
          have g2:=aM he s4.get (i:=q - 1) (by omega)
          have hY:=λ(d5:Array α) H5 q1 q2 q3=>hX5 (e - (q+1)) (by omega) [slc b 0 n c,vi a,vi e,fv,vi I,vi k,vi ((q+1:Nat):Int)] H5 ⟨q+1,d5,rfl,q1,q2,q3,by omega,by omega,rfl⟩
          have hqn:q<n:=by omega
          have hqn':q - 1<n:=by omega
          generalize hq':q - 1=q' at *;generalize hq'':q+1=q'' at *;simp only[F.f111_l3,aF,c4',b7,f1,f2,g1,g2,aB];refine hC _ _ _ _ λz H5 e5 hz =>?_;have s5:=s4.ext e5;cases hl:LT d4[q]! d4[q']! with
          | true =>
            simp only[hl,Bool.not_true,Bool.false_eq_true,if_false]at r4;have g1:=aM he s5.get (i:=q) (by omega)
            have g2:=aM he s5.get (i:=q') (by omega)
            obtain⟨w1,w2⟩:=eN he s5.get (i:=q) (j:=q') (by omega) (by omega)
            simp only[aF,hz,hl,bW,Bool.not_true,b7,b8,f1,f2,g1,g2,w1,w2,aB];exact hY _ _ (s5.put _) (by rw[size_swp];exact n4) r4
          | false =>
            simp only[hl,Bool.not_false,if_true]at r4;simp only[aF,hz,hl,bW,Bool.not_false,hkk,aB];exact done r4 _ s5
        · have c4':decide ((q:Int)<e)=false:=decide_eq_false (by omega)
          rw[if_neg c4]at r4;simp only[F.f111_l3,aF,c4',hkk,aB];exact done r4 _ s4
      · rw[if_neg c3]at r3
        have c3':decide ((2:Int)<=((e - I:Nat):Int))=false:=decide_eq_false (by omega)
        simp only[F.f111_j1,b5,dV,c3',hkk,aB];exact hX I d3 H3 s3 n3 r3 hI3 (by omega)
    have exit:I=i'->∀ H3,aV H b enc tail f d1 H3 ->
        (opt (aA .eql (vi i') (vi e)) λv15 =>
         ifB v15 (Q (.bool true) H3) (
         opt (aA .sub (vi e) (vi a)) λv16 =>
         opt (aA .lss v16 (vi 50)) λv17 =>
         ifB v17 (Q (.bool false) H3) (
         opt (aA .sub (vi i') (vi 1)) λv18 =>
         opt (aA .sub (vi i') (vi 1)) λv19 =>
         opt (aH 2 (slc b 0 n c) v19) λv20 =>
         opt (aE 2 v20 H3) λv21 =>
         opt (aH 2 (slc b 0 n c) (vi i')) λv22 =>
         opt (aE 2 v22 H3) λv23 =>
         opt (aH 2 (slc b 0 n c) (vi i')) λv24 =>
         opt (aI 2 v24 v21 H3) λH12 =>
         opt (aH 2 (slc b 0 n c) v18) λv25 =>
         opt (aI 2 v25 v23 H12) λH13 =>
         opt (aA .sub (vi i') (vi a)) λv26 =>
         opt (aA .geq v26 (vi 2)) λv27 =>
         ifB v27 (
         opt (aA .sub (vi i') (vi 1)) λv28 =>
         aY (λl H X1=>F.f111_l4 E Q X (nth l 0) (nth l 1) (nth l 2) (nth l 3) (nth l 4) (nth l 5) (nth l 6) H X1) [slc b 0 n c,vi a,vi e,fv,vi i',vi k,v28] H13) (
         F.f111_j1 E Q X (slc b 0 n c) (vi a) (vi e) fv (vi i') (vi k) H13)))):=by
      rintro rfl H3 s3;clear hX1
      by_cases c1:I=e
      · rw[if_pos c1]at r1
        subst r1;have c1':decide ((I:Int)=e)=true:=decide_eq_true (by omega)
        simp only[dU,c1',aB];exact hQ _ s3
      rw[if_neg c1]at r1;have c1':decide ((I:Int)=e)=false:=decide_eq_false (by omega)
      by_cases c2:e - a<50
      · rw[if_pos c2]at r1
        subst r1;have c2':decide (((e - a:Nat):Int)<50)=true:=decide_eq_true (by omega)
        simp only[dU,c1',b2,aF,c2',aB];exact hQ _ s3
      rw[if_neg c2]at r1;have c2':decide (((e - a:Nat):Int)<50)=false:=decide_eq_false (by omega)
      have b3:=dX I (by omega) (by omega)
      have b4:aA .sub (vi I) (vi a)=some (vi ((I - a:Nat):Int)):=bU I a (by omega) (by omega)
      have f1:=bS (sz:=2) (b:=b) (c:=c) (n:=n) (i:=I) (by omega)
      have f2:=bS (sz:=2) (b:=b) (c:=c) (n:=n) (i:=I - 1) (by omega)
      have g1:=aM he s3.get (i:=I) (by omega)
      have g2:=aM he s3.get (i:=I - 1) (by omega)
      obtain⟨w1,w2⟩:=eN he s3.get (i:=I) (j:=I - 1) (by omega) (by omega)
      have s2:=s3.put (swp d1 I (I - 1));have n2:(swp d1 I (I - 1)).size=n:=by rw[size_swp];exact n1
      unfold fixDown at r1
      by_cases c3:I - a>=2
      · rw[if_pos c3]at r1
        have c3':decide ((2:Int)<=((I - a:Nat):Int))=true:=decide_eq_true (by omega)
        obtain⟨D,hD⟩:∃ D,D=shiftDown LT (I - 1) (swp d1 I (I - 1)):=⟨_,rfl⟩;rw[<- hD]at r1;have hI1n:I - 1<n:=by omega
        simp only[dU,c1',b2,aF,c2',b3,b4,dV,f1,f2,g1,g2,w1,w2,c3',aB];refine aY.ind (λmm l H'=>∃ (q:Nat) (d4:Array α),l=[slc b 0 n c,vi a,vi e,fv,vi I,vi k,vi q]/\aV H b enc tail f d4 H'/\d4.size=n/\D=shiftDown LT q d4/\q<n/\mm=q) ?_ (I - 1) ⟨I - 1,_,rfl,s2,n2,hD,hI1n,rfl⟩;clear s2 n2 hD g1 g2 w1 w2;rintro mm _ H4 X5 hX5 ⟨q,d4,rfl,s4,n4,r4,hq1,rfl⟩;cases mm with
        | zero =>
          have c4':decide ((1:Int)<=((0:Nat):Int))=false:=by decide
          simp only[F.f111_l4,dV,c4',aB];rw[shiftDown]at r4;subst r4;exact j1 _ _ s4 n4 hi3 (by omega) r1
        | succ q =>
          have c4':decide ((1:Int)<=((q+1:Nat):Int))=true:=decide_eq_true (by omega)
          rw[shiftDown]at r4;have b7:aA .sub (vi ((q+1:Nat):Int)) (vi 1)=some (vi (q:Int)):=dX (q+1) (by omega) (by omega)
          have f1:=bS (sz:=2) (b:=b) (c:=c) (n:=n) (i:=q+1) (by omega)
          have f2:=bS (sz:=2) (b:=b) (c:=c) (n:=n) (i:=q) (by omega)
          have g1:=aM he s4.get (i:=q+1) (by omega)
          have g2:=aM he s4.get (i:=q) (by omega)
          have hY:=λ(d5:Array α) H5 q1 q2 q3=>hX5 q (by omega) [slc b 0 n c,vi a,vi e,fv,vi I,vi k,vi (q:Int)] H5 ⟨q,d5,rfl,q1,q2,q3,by omega,rfl⟩
          generalize hq':q+1=q' at *;simp only[F.f111_l4,dV,c4',b7,f1,f2,g1,g2,aB];refine hC _ _ _ _ λz H5 e5 hz =>?_;have s5:=s4.ext e5;cases hl:LT d4[q']! d4[q]! with
          | true =>
            simp only[hl,Bool.not_true,Bool.false_eq_true,if_false]at r4;have g1:=aM he s5.get (i:=q') (by omega)
            have g2:=aM he s5.get (i:=q) (by omega)
            obtain⟨w1,w2⟩:=eN he s5.get (i:=q') (j:=q) (by omega) (by omega)
            simp only[aF,hz,hl,bW,Bool.not_true,b7,f1,f2,g1,g2,w1,w2,aB];exact hY _ _ (s5.put _) (by rw[size_swp];exact n4) r4
          | false =>
            simp only[hl,Bool.not_false,if_true]at r4;simp only[aF,hz,hl,bW,Bool.not_false,aB];subst r4;exact j1 _ _ s5 n4 hi3 (by omega) r1
      · rw[if_neg c3]at r1
        have c3':decide ((2:Int)<=((I - a:Nat):Int))=false:=decide_eq_false (by omega)
        simp only[dU,c1',b2,aF,c2',b3,b4,dV,f1,f2,g1,g2,w1,w2,c3',aB];exact j1 _ _ s2 n2 hi3 (by omega) r1
    have b7:=cK i' (by omega)
    by_cases c4:i'<e
    · have c4':decide ((i':Int)<e)=true:=decide_eq_true (by omega)
      have b6:=dX i' (by omega) (by omega)
      have f1:=bS (sz:=2) (b:=b) (c:=c) (n:=n) (i:=i') (by omega)
      have f2:=bS (sz:=2) (b:=b) (c:=c) (n:=n) (i:=i' - 1) (by omega)
      have g1:=aM he s1.get (i:=i') (by omega)
      have g2:=aM he s1.get (i:=i' - 1) (by omega)
      simp only[F.f111_l2,aF,c4',b6,f1,f2,g1,g2,aB];refine hC _ _ _ _ λz H5 e5 hz =>?_;have s5:=s1.ext e5;cases hl:LT d1[i']! d1[i' - 1]! with
      | true =>
        rw[if_neg (by simp[hl])]at r2
        simp only[aF,hz,hl,bW,Bool.not_true,aB];exact exit r2 _ s5
      | false =>
        rw[if_pos (by simp[hl,c4])]at r2
        simp only[aF,hz,hl,bW,Bool.not_false,b7,aB];exact hX1 (e - (i'+1)) (by omega) [slc b 0 n c,vi a,vi e,fv,vi ((i'+1:Nat):Int),vi k] _ ⟨s5,i'+1,rfl,r2,by omega,by omega,rfl⟩
    · have c4':decide ((i':Int)<e)=false:=decide_eq_false (by omega)
      rw[if_neg (by simp[c4])]at r2
      simp only[F.f111_l2,aF,c4',aB];exact exit r2 _ s1
end
end
section
open Go.Sort
set_option maxRecDepth 20000
section
variable {α:Type}[Inhabited α]{E:Sy}{H H':AH}{Q:Value->AH->Prop}{b c n:Nat}{enc:α->List Value}{LT:α->α->Bool}{fv:Value}{d:Array α}{tail:List Value}{f:Option Nat}
theorem S.f110(hE:aW E)(he:fF 2 enc)(hC:iT E fv enc LT)(hg:H.get b=fN enc d tail f)(hn:d.size=n)(p q:Nat)(hp:p<n)(hq:q<n)(s k:Nat)(hs:H.get s = .cells [vi k] none)(hk:k<1000)(hsb:s≠b)(hQ:∀ r1 r2 k' H',((r1=p/\r2=q)\/(r1=q/\r2=p))->dO [s] H H'->H'.get s = .cells [vi (k':Nat)] none->k'<=k+1->Q (.tuple #[vi (r1:Nat),vi (r2:Nat)]) H'):
  E.call 148 [slc b 0 n c,vi p,vi q,ptr s 0,fv] H Q:=by
 apply hE.f110;have f1:=bS (sz:=2) (b:=b) (c:=c) (n:=n) (i:=p) hp;have f2:=bS (sz:=2) (b:=b) (c:=c) (n:=n) (i:=q) hq;have g1:=aM he hg (i:=p) (by omega)
 have g2:=aM he hg (i:=q) (by omega)
 have hlt:=AH.lt_cells hs;have b1:=cK k (by omega)
 simp only[F.f110,f1,f2,g1,g2,aB];refine hC _ _ _ _ λz H1 e1 hz =>?_;have hs1:=e1.cells hs;have hlt1:=AH.lt_cells hs1;cases hl:LT d[q]! d[p]! with
 | true =>
  have st:aZ (ptr s 0) (vi ((k+1:Nat):Int)) H1=some (H1.put s (.cells [vi ((k+1:Nat):Int)] none)):=by
   rw[eX,if_pos (show plain1 (vi ((k+1:Nat):Int))=true from rfl),hs1];rfl
  have hl0:[vi (k:Int)][0]? = some (vi k):=rfl;simp only[aF,hz,hl,hs1,hl0,b1,st,aB];exact hQ q p (k+1) _ (.inr ⟨rfl,rfl⟩) (e1.only.put (.inl (by simp)) _) (AH.get_put_self _ _ hlt1) (Nat.le_refl _)
 | false =>
  simp only[aF,hz,hl,aB];exact hQ p q k _ (.inl ⟨rfl,rfl⟩) e1.only hs1 (by omega)
theorem S.f108(hE:aW E)(he:fF 2 enc)(hC:iT E fv enc LT)(hg:H.get b=fN enc d tail f)(hn:d.size=n)(p q r:Nat)(hp:p<n)(hq:q<n)(hr:r<n)(s k:Nat)(hs:H.get s = .cells [vi k] none)(hk:k<900)(hsb:s≠b)(hQ:∀ m k' H',(m=p\/m=q\/m=r)->dO [s] H H'->H'.get s = .cells [vi (k':Nat)] none->k'<=k+3->Q (vi (m:Nat)) H'):
  E.call 140 [slc b 0 n c,vi p,vi q,vi r,ptr s 0,fv] H Q:=by
 apply hE.f108;have keep:∀ {H'},dO [s] H H'->H'.get b=fN enc d tail f:=λo=>by rw[o.get (tG hg) (by simpa using Ne.symm hsb)];exact hg
 simp only[F.f108,aB];refine S.f110 hE he hC hg hn p q hp hq s k hs (by omega) hsb λa1 a2 k1 H1 e1 o1 s1 l1 =>?_
 simp only[nD,List.getElem?_cons_zero,List.getElem?_cons_succ,aB];refine S.f110 hE he hC (keep o1) hn a2 r (by omega) hr s k1 s1 (by omega) hsb λa3 a4 k2 H2 e2 o2 s2 l2 =>?_
 have o12:=o1.trans' o2;simp only[nD,List.getElem?_cons_zero,List.getElem?_cons_succ,aB];refine S.f110 hE he hC (keep o12) hn a1 a3 (by omega) (by omega) s k2 s2 (by omega) hsb λa5 a6 k3 H3 e3 o3 s3 l3 =>?_
 simp only[nD,List.getElem?_cons_zero,List.getElem?_cons_succ,aB];exact hQ a6 k3 H3 (by omega) (o12.trans' o3) s3 (by omega)
theorem S.f107(hE:aW E)(he:fF 2 enc)(hC:iT E fv enc LT)(hg:H.get b=fN enc d tail f)(hn:d.size=n)(hsz:n<2 ^ 60)(p:Nat)(hp0:1<=p)(hp:p+1<n)(s k:Nat)(hs:H.get s = .cells [vi k] none)(hk:k<900)(hsb:s≠b)(hQ:∀ m k' H',(p - 1<=m/\m<=p+1)->dO [s] H H'->H'.get s = .cells [vi (k':Nat)] none->k'<=k+3->Q (vi (m:Nat)) H'):
  E.call 139 [slc b 0 n c,vi p,ptr s 0,fv] H Q:=by
 apply hE.f107;have b1:=dX p hp0 (by omega)
 have b2:=cK p (by omega)
 simp only[F.f107,b1,b2,aB];refine S.f108 hE he hC hg hn (p - 1) p (p+1) (by omega) (by omega) hp s k hs hk hsb λm k' H' e1 o1 s1 l1=>hQ m k' H' (by omega) o1 s1 l1
theorem S.f103(hE:aW E)(he:fF 2 enc)(hC:iT E fv enc LT)(hg:H.get b=fN enc d tail f)(hn:d.size=n)(hsz:n<2 ^ 60)(a e:Nat)(hae:a+8<=e)(hle:e<=n)(hQ:∀ (m:Nat) (h:Int) H',a<=m->m<e->Ext H H'->Q (.tuple #[vi m,vi h]) H'):E.call 122 [slc b 0 n c,vi a,vi e,fv] H Q:=by
 apply hE.f103;have a1:aA .sub (vi e) (vi a)=some (vi ((e - a:Nat):Int)):=bU e a (by omega) (by omega)
 have hbl:=tG hg;generalize hw:e - a=w at *;have a2:aA .quo (vi (w:Int)) (vi 4)=some (vi ((w / 4:Nat):Int)):=lZ w 4 (by decide) (by omega)
 have hq4:w / 4*4<=w:=Nat.div_mul_le_self _ _;have hq4':1<=w / 4:=by omega
 have hq50:50<=w->12<=w / 4:=λh=>by omega
 generalize hq:w / 4=q at *;have m1:aA .mul (vi (q:Int)) (vi 1)=some (vi ((q*1:Nat):Int)):=by rw[jU (by omega) (by omega)];congr 2
 have m2:aA .mul (vi (q:Int)) (vi 2)=some (vi ((q*2:Nat):Int)):=by rw[jU (by omega) (by omega)];congr 2
 have m3:aA .mul (vi (q:Int)) (vi 3)=some (vi ((q*3:Nat):Int)):=by rw[jU (by omega) (by omega)];congr 2
 have p1:=bT a (q*1) (by omega)
 have p2:=bT a (q*2) (by omega)
 have p3:=bT a (q*3) (by omega)
 have c8:decide ((8:Int)<=w)=true:=decide_eq_true (by omega)
 have hg1:(H.new (.cells [vi 0] none)).get b=fN enc d tail f:=by rw[AH.get_new_lt _ _ hbl];exact hg
 have hs1:(H.new (.cells [vi 0] none)).get H.next = .cells [vi ((0:Nat):Int)] none:=AH.get_new_self _ _;have hsb:H.next≠b:=by omega
 have x1:Ext H (H.new (.cells [vi 0] none)):=(Ext.refl H).new _;have ext_of:∀ {H'},dO [H.next] (H.new (.cells [vi 0] none)) H'->Ext H H':=λo=>o.ext x1 (by simp)
 have keep:∀ {H'},dO [H.next] (H.new (.cells [vi 0] none)) H'->H'.get b=fN enc d tail f:=λo=>by rw[o.get (tG hg1) (by simpa using Ne.symm hsb)];exact hg1
 have last:∀ (m k:Nat) H',a<=m->m<e->Ext H H'->H'.get H.next = .cells [vi (k:Nat)] none->F.f103_j1 E Q (ptr H.next 0) (vi m) H':=by
  intro m k H' h1 h2 e1 s1;have hl0:[vi (k:Int)][0]? = some (vi k):=rfl
  by_cases k0:(k:Int)=0
  ·have d0:decide ((k:Int)=0)=true:=decide_eq_true k0
   simp only[F.f103_j1,s1,hl0,dU,d0,aB];exact hQ m _ H' h1 h2 e1
  ·have d0:decide ((k:Int)=0)=false:=decide_eq_false k0
   by_cases k12:(k:Int)=12
   ·have d12:decide ((k:Int)=12)=true:=decide_eq_true k12
    simp only[F.f103_j1,s1,hl0,dU,d0,d12,aB];exact hQ m _ H' h1 h2 e1
   ·have d12:decide ((k:Int)=12)=false:=decide_eq_false k12
    simp only[F.f103_j1,s1,hl0,dU,d0,d12,aB];exact hQ m _ H' h1 h2 e1
 have last2:∀ (x y z k:Nat) H',a<=x->x<e->a<=y->y<e->a<=z->z<e->dO [H.next] (H.new (.cells [vi 0] none)) H'->H'.get H.next = .cells [vi (k:Nat)] none->k<900->F.f103_j2 E Q (slc b 0 n c) fv (ptr H.next 0) (vi x) (vi y) (vi z) H':=by
  intro x y z k H' h1 h2 h3 h4 h5 h6 o1 s1 hk;simp only[F.f103_j2,aB];refine S.f108 hE he hC (keep o1) hn x y z (by omega) (by omega) (by omega) H.next k s1 hk hsb λm k' H2 hm o2 s2 _ =>?_
  exact last m k' H2 (by omega) (by omega) (ext_of (o1.trans' o2)) s2
 by_cases c50:50<=w
 ·have c50':decide ((50:Int)<=w)=true:=decide_eq_true (by omega)
  have hq50:=hq50 c50;have g1:a+1<=a+q*1/\a+q*1+1<e:=by omega
  have g2:a+1<=a+q*2/\a+q*2+1<e:=by omega
  have g3:a+1<=a+q*3/\a+q*3+1<e:=by omega
  generalize hx:a+q*1=x at *;generalize hy:a+q*2=y at *;generalize hz:a+q*3=z at *;generalize q*1=q1 at *;generalize q*2=q2 at *;generalize q*3=q3 at *;simp only[F.f103,bE,a1,a2,m1,m2,m3,p1,p2,p3,dV,c8,c50',aB];refine S.f107 hE he hC hg1 hn hsz x (by omega) (by omega) H.next 0 hs1 (by omega) hsb λr1 k1 H1 e1 o1 s1 l1 =>?_
  refine S.f107 hE he hC (keep o1) hn hsz y (by omega) (by omega) H.next k1 s1 (by omega) hsb λr2 k2 H2 e2 o2 s2 l2 =>?_
  refine S.f107 hE he hC (keep (o1.trans' o2)) hn hsz z (by omega) (by omega) H.next k2 s2 (by omega) hsb λr3 k3 H3 e3 o3 s3 l3 =>?_
  exact last2 r1 r2 r3 k3 H3 (by omega) (by omega) (by omega) (by omega) (by omega) (by omega) ((o1.trans' o2).trans' o3) s3 (by omega)
 ·have c50':decide ((50:Int)<=w)=false:=decide_eq_false (by omega)
  have g1:a+q*1<e:=by omega
  have g2:a+q*2<e:=by omega
  have g3:a+q*3<e:=by omega
  have g0:a<=a+q*1/\a<=a+q*2/\a<=a+q*3:=by omega
  generalize hx:a+q*1=x at *;generalize hy:a+q*2=y at *;generalize hz:a+q*3=z at *;generalize q*1=q1 at *;generalize q*2=q2 at *;generalize q*3=q3 at *;simp only[F.f103,bE,a1,a2,m1,m2,m3,p1,p2,p3,dV,c8,c50',aB];exact last2 x y z 0 _ g0.1 g1 g0.2.1 g2 g0.2.2 g3 (dO.refl _ _) hs1 (by omega)
theorem S.f102(hE:aW E)(he:fF 2 enc)(hg:H.get b=fN enc d tail f)(hn:d.size=n)(hsz:n<2 ^ 31)(a e:Nat)(hae:a+8<=e)(hle:e<=n)(hQ:∀ d' H',PermIn a e d d'->aV H b enc tail f d' H'->Q (.tuple #[]) H'):E.call 121 [slc b 0 n c,vi a,vi e,fv] H Q:=by
 apply hE.f102;have a1:aA .sub (vi e) (vi a)=some (vi ((e - a:Nat):Int)):=bU e a (by omega) (by omega)
 have hbl:=tG hg;generalize hw:e - a=w at *;have a2:aA .quo (vi (w:Int)) (vi 4)=some (vi ((w / 4:Nat):Int)):=lZ w 4 (by decide) (by omega)
 have hq4:w / 4*4<=w:=Nat.div_mul_le_self _ _;have hq4':2<=w / 4:=by omega
 generalize hq:w / 4=q at *;have m2:aA .mul (vi (q:Int)) (vi 2)=some (vi ((q*2:Nat):Int)):=by rw[jU (by omega) (by omega)];congr 2
 have p2:=bT a (q*2) (by omega)
 have p3:=dX (a+q*2) (by omega) (by omega)
 have p4:=cK (a+q*2) (by omega)
 have c8:decide ((8:Int)<=w)=true:=decide_eq_true (by omega)
 have hc:aO .u64 (vi (w:Int))=some (u64 (BitVec.ofNat 64 w)):=by rw[jZ,BitVec.ofInt_natCast]
 have hm2:2 ^ bitsLen w<=2*w:=two_pow_bitsLen_le (by omega)
 have hm1:=Nat.two_pow_pos (bitsLen w);generalize hM:2 ^ bitsLen w=M at *;have gx:a+1<=a+q*2/\a+q*2+1<e:=by omega
 generalize hx:a+q*2=x at *;generalize q*2=q2 at *;have x1:Ext H (H.new (.cells [u64 (BitVec.ofNat 64 w)] none)):=(Ext.refl H).new _;simp[F.f102,a1,a2,m2,p2,p3,c8,hc];refine S.f109 hE w (by omega) ?_
 rw[hM];simp[a2,m2,p2,p3]
 refine aY.ind (λm l H'=>∃ (j:Nat) (d1:Array α) (y:BitVec 64),l=[slc b 0 n c,vi a,vi w,ptr H.next 0,u64 (BitVec.ofNat 64 M),vi j]/\aV H b enc tail f d1 H'/\d1.size=n/\PermIn a e d d1/\H'.get H.next = .cells [u64 y] none/\a<=j/\j<=x+2/\m=x+2 - j) ?_ (x+2 - (x - 1))
  ⟨x - 1,d,_,by simp,⟨x1.only,by rw[AH.get_new_lt _ _ hbl];exact hg⟩,hn,permIn_refl _ _ _,AH.get_new_self _ _,by omega,by omega,rfl⟩
 rintro m _ H1 X hX ⟨j,d1,y,rfl,s1,n1,pp,hb1,hj1,hj2,rfl⟩
 by_cases cj:j<=x+1
 ·have cj':decide ((j:Int)<=((x+1:Nat):Int))=true:=decide_eq_true (by omega)
  have pj:=cK j (by omega)
  have fin:∀ (o:Nat) (y':BitVec 64),o<w->F.f102_j1 E Q X (slc b 0 n c) (vi a) (vi w) (ptr H.next 0) (u64 (BitVec.ofNat 64 M)) (vi j) (vi o) (H1.put H.next (.cells [u64 y'] none)):=by
   intro o y' ho;have hnb:b≠H.next:=by omega
   have s2:aV H b enc tail f d1 (H1.put H.next (.cells [u64 y'] none)):=⟨s1.only.put (.inr (Nat.le_refl _)) _,by rw[AH.get_put_ne _ _ hnb];exact s1.get⟩
   have pa:=bT a o (by omega)
   have f1:=bS (sz:=2) (b:=b) (c:=c) (n:=n) (i:=j) (by omega)
   have f2:=bS (sz:=2) (b:=b) (c:=c) (n:=n) (i:=a+o) (by omega)
   have g1:=aM he s2.get (i:=j) (by omega)
   have g2:=aM he s2.get (i:=a+o) (by omega)
   obtain⟨w1,w2⟩:=eN he s2.get (i:=j) (j:=a+o) (by omega) (by omega)
   have hpp:=swp_permIn d1 a e j (a+o) hj1 (by omega) (by omega) (by omega) (by omega)
   have hX:=hX (x+2 - (j+1)) (by omega) [slc b 0 n c,vi a,vi w,ptr H.next 0,u64 (BitVec.ofNat 64 M),vi ((j+1:Nat):Int)] _ ⟨j+1,_,y',rfl,s2.put (swp d1 j (a+o)),by rw[size_swp];exact n1,permIn_trans _ _ _ _ _ pp hpp,by rw[AH.get_put_ne _ _ (Ne.symm hnb),AH.get_put_self _ _ (AH.lt_cells hb1)],by omega,by omega,rfl⟩
   simp only[F.f102_j1,pa,f1,f2,g1,g2,w1,w2,pj,aB];exact hX
  simp only[F.f102_l1,a2,m2,p2,p4,cS,cj',aB];refine S.f121 hE H.next y hb1 λy' =>?_;have l1:(.int .u64 1:Value)=u64 1#64:=rfl
  have hsub:BitVec.ofNat 64 M - 1#64=BitVec.ofNat 64 (M - 1):=by
   apply BitVec.eq_of_toNat_eq;rw[BitVec.toNat_sub,BitVec.toNat_ofNat,BitVec.toNat_ofNat,BitVec.toNat_ofNat];omega
  have hand:(y'&&&BitVec.ofNat 64 (M - 1)).toNat<=M - 1:=by
   rw[BitVec.toNat_and];refine Nat.le_trans Nat.and_le_right ?_;rw[BitVec.toNat_ofNat];exact Nat.mod_le _ _
  have hcv:∀ z:BitVec 64,z.toNat<2 ^ 62->aO .i64 (u64 z)=some (vi (z.toNat:Int)):=by
   intro z hz;rw[eK,eQ,lX (by omega) (by omega)]
  have hcv':=hcv _ (by omega:(y'&&&BitVec.ofNat 64 (M - 1)).toNat<2 ^ 62)
  simp only[l1,aM0,hsub,aML,hcv',dV,aB];generalize (y'&&&BitVec.ofNat 64 (M - 1)).toNat=o at *
  by_cases co:w<=o
  ·have co':decide ((w:Int)<=o)=true:=decide_eq_true (by omega)
   have hs:aA .sub (vi (o:Int)) (vi (w:Int))=some (vi ((o - w:Nat):Int)):=bU o w co (by omega)
   simp only[co',hs,aB];exact fin (o - w) y' (by omega)
  ·have co':decide ((w:Int)<=o)=false:=decide_eq_false (by omega)
   simp only[co',aB];exact fin o y' (by omega)
 ·have cj':decide ((j:Int)<=((x+1:Nat):Int))=false:=decide_eq_false (by omega)
  simp only[F.f102_l1,a2,m2,p2,p4,cS,cj',aB];exact hQ d1 H1 pp s1
end
end
section
open Go.Sort
set_option maxHeartbeats 400000
set_option maxRecDepth 20000
section
variable {α:Type}[Inhabited α]{E:Sy}{H H':AH}{Q:Value->AH->Prop}{b c n:Nat}{enc:α->List Value}{LT:α->α->Bool}{fv:Value}{d:Array α}{tail:List Value}{f:Option Nat}
theorem S.f114(hE:aW E)(hS:SWO LT)(he:fF 2 enc)(hC:iT E fv enc LT):∀ (w:Nat) {H:AH} {Q:Value->AH->Prop} {d:Array α} (_:H.get b=fN enc d tail f) (_:d.size=n) (_:n<2 ^ 31) (a e:Nat) (_:a<=e) (_:e<=n) (limit:Nat) (_:limit<2 ^ 60) (_:Go.Sort.Below LT a e d) (_:e - a<=w)
    (_:∀ d' H',PermIn a e d d'->SortedIn LT a e d'->aV H b enc tail f d' H'->Q (.tuple #[]) H'),E.call 96 [slc b 0 n c,vi a,vi e,vi limit,fv] H Q:=by
  intro w
  induction w using Nat.strongRecOn with
  | _ w ih =>
  intro H Q d hg hn hsz a0 e0 hae0 he0 limit0 hlim0 hB0 hw hQ;apply hE.f114;simp only[F.f114]
  refine aY.ind (λm l H'=>∃ (a e limit:Nat) (wb wp:Bool) (d1:Array α),l=[slc b 0 n c,vi a,vi e,vi limit,fv,vb wb,vb wp]/\aV H b enc tail f d1 H'/\d1.size=n/\a<=e/\e<=n/\limit<2 ^ 60/\e - a<=w/\Go.Sort.Below LT a e d1 /\
      (∀ R,PermIn a e d1 R->SortedIn LT a e R->PermIn a0 e0 d R/\SortedIn LT a0 e0 R)/\m=e - a) ?_ (e0 - a0) ⟨a0,e0,limit0,true,true,d,rfl,.refl hg,hn,hae0,he0,hlim0,hw,hB0,λR h1 h2=>⟨h1,h2⟩,rfl⟩
  rintro m _ H1 X hX ⟨a,e,limit,wb,wp,d1,rfl,s1,n1,hae,hen,hlim,hwe,hB,fin,rfl⟩;have a1:aA .sub (vi e) (vi a)=some (vi ((e - a:Nat):Int)):=bU e a (by omega) (by omega)
  by_cases c12:e - a<=12
  · have c12':decide (((e - a:Nat):Int)<=12)=true:=decide_eq_true (by omega)
    simp only[F.f114_l1,a1,cS,c12',aB];refine S.f105 hE he hC s1.get n1 (by omega) a e hae hen λH2 s2 =>?_
    obtain⟨h1,h2⟩:=insertionSort_holds hS d1 a e hae (by omega)
    obtain⟨h3,h4⟩:=fin _ h1 h2;exact hQ _ _ h3 h4 (s1.trans s2)
  have c12':decide (((e - a:Nat):Int)<=12)=false:=decide_eq_false (by omega)
  by_cases c0:limit=0
  · subst c0
    have c0':decide (((0:Nat):Int)=0)=true:=by decide
    simp only[F.f114_l1,a1,cS,c12',dU,c0',aB];refine S.f104 hE he hC s1.get n1 (by omega) a e (by omega) hen λH2 s2 =>?_
    obtain⟨h1,h2⟩:=heapSort_holds hS d1 a e hae (by omega)
    obtain⟨h3,h4⟩:=fin _ h1 h2;exact hQ _ _ h3 h4 (s1.trans s2)
  have c0':decide ((limit:Int)=0)=false:=decide_eq_false (by omega)
  have w8:aA .quo (vi ((e - a:Nat):Int)) (vi 8)=some (vi (((e - a) / 8:Nat):Int)):=lZ (e - a) 8 (by decide) (by omega)
  have j3:∀ (d3:Array α) H3 (lim:Nat) (wb wp:Bool) (pv:Nat),aV H b enc tail f d3 H3->d3.size=n->PermIn a e d1 d3->lim<2 ^ 60->a<=pv->pv<e->F.f114_j3 E Q X (slc b 0 n c) (vi a) (vi e) (vi lim) fv (vb wb) (vb wp) (vi ((e - a:Nat):Int)) (vi pv) H3:=by
    intro d3 H3 lim wb wp pv s3 n3 p3 hlim hp1 hp2;have B3:Go.Sort.Below LT a e d3:=hB.permA permIn_all (by omega) p3
    have fin3:∀ R,PermIn a e d3 R->SortedIn LT a e R->PermIn a0 e0 d R/\SortedIn LT a0 e0 R:=λR h1 h2=>fin R (permIn_trans _ _ _ _ _ p3 h1) h2
    have part:∀ H3,aV H b enc tail f d3 H3->∀ (K:Value->AH->Prop),(K=λv15 H13 =>
         opt (ext v15 0) λv16 =>
         opt (ext v15 1) λv17 =>
         opt (aA .sub v16 (vi a)) λv18 =>
         opt (aA .sub (vi e) v16) λv19 =>
         opt (aA .quo (vi ((e - a:Nat):Int)) (vi 8)) λv20 =>
         opt (aA .lss v18 v19) λv21 =>
         ifB v21 (
         opt (aA .geq v18 v20) λv22 =>
         E.call 96 [slc b 0 n c,vi a,v16,vi lim,fv] H13 λv23 H14 =>
         opt (aA .add v16 (vi 1)) λv24 =>
         X [slc b 0 n c,v24,vi e,vi lim,fv,v22,v17] H14) (
         opt (aA .geq v19 v20) λv25 =>
         opt (aA .add v16 (vi 1)) λv26 =>
         E.call 96 [slc b 0 n c,v26,vi e,vi lim,fv] H13 λv27 H15 =>
         X [slc b 0 n c,vi a,v16,vi lim,fv,v25,v17] H15))->E.call 126 [slc b 0 n c,vi a,vi e,vi pv,fv] H3 K:=by
      rintro H3 s3 K rfl;refine S.f112 hE he hC s3.get n3 (by omega) a e pv hp1 hp2 hen λH4 s4 =>?_
      rcases hx:partition LT d3 a e pv with ⟨mid,ap,d4⟩
      rw[hx]at s4;obtain⟨g1,g2,hs4,hBa,hBr,hl,hr⟩:=round_part hS (partition_holds LT) hp1 hp2 (by omega) B3 hx
      have n4:d4.size=n:=by omega
      have s4':=s3.trans s4;have b1:aA .sub (vi mid) (vi a)=some (vi ((mid - a:Nat):Int)):=bU mid a g1 (by omega)
      have b2:aA .sub (vi e) (vi mid)=some (vi ((e - mid:Nat):Int)):=bU e mid (by omega) (by omega)
      have b3:=cK mid (by omega)
      simp only[gS,nD,List.getElem?_cons_zero,List.getElem?_cons_succ,aS,b1,b2,b3,w8,aF,dV]
      by_cases cl:mid - a<e - mid
      · have cl':((mid - a:Nat):Int)<((e - mid:Nat):Int):=by omega
        simp only[cl',decide_true,gS,oA,dV,aS];refine ih (mid - a) (by omega) s4'.get n4 hsz a mid g1 (by omega) lim hlim hBa (Nat.le_refl _) λd5 H5 p5 q5 s5 =>?_
        obtain⟨hBL,hfin⟩:=hl d5 p5 q5;have n5:d5.size=n:=by rw[p5.1];exact n4
        simp only[b3,gS,aS]
        exact hX (e - (mid+1)) (by omega) _ _ ⟨mid+1,e,lim,_,ap,d5,rfl,s4'.trans s5,n5,by omega,hen,hlim,by omega,hBL,λR h1 h2=>by
          obtain⟨h3,h4⟩:=hfin R h1 h2;exact fin3 R h3 h4,rfl⟩
      · have cl':¬ ((mid - a:Nat):Int)<((e - mid:Nat):Int):=by omega
        simp only[cl',decide_false,gS,kO,dV,aS,b3];refine ih (e - (mid+1)) (by omega) s4'.get n4 hsz (mid+1) e (by omega) hen lim hlim hBr (Nat.le_refl _) λd5 H5 p5 q5 s5 =>?_
        obtain⟨hBL,hfin⟩:=hr d5 p5 q5;have n5:d5.size=n:=by rw[p5.1];exact n4
        exact hX (mid - a) (by omega) _ _ ⟨a,mid,lim,_,ap,d5,rfl,s4'.trans s5,n5,g1,by omega,hlim,by omega,hBL,λR h1 h2=>by
          obtain⟨h3,h4⟩:=hfin R h1 h2;exact fin3 R h3 h4,rfl⟩
    by_cases ca:0<a
    · have ca':decide ((0:Int)<a)=true:=decide_eq_true (by omega)
      have b1:=dX a (by omega) (by omega)
      have f1:=bS (sz:=2) (b:=b) (c:=c) (n:=n) (i:=a - 1) (by omega)
      have f2:=bS (sz:=2) (b:=b) (c:=c) (n:=n) (i:=pv) (by omega)
      have g1:=aM he s3.get (i:=a - 1) (by omega)
      have g2:=aM he s3.get (i:=pv) (by omega)
      simp only[F.f114_j3,cN,ca',b1,f1,f2,g1,g2,aB];refine hC _ _ _ _ λz H10 e10 hz =>?_;have s10:=s3.ext e10;cases hl:LT d3[a - 1]! d3[pv]! with
      | true =>
        have part:=part _ s10 _ rfl;simp only[aF,hz,hl,bW,Bool.not_true,aB];exact part
      | false =>
        rcases hx:partitionEqual LT d3 a e pv with ⟨mid,d4⟩
        obtain⟨g3,g4,hs4,hB4,hfin⟩:=round_eq hS (partitionEqual_holds LT) ca hp1 hp2 (by omega) B3 hl hx
        have hY:=λH4 s4=>hX (e - mid) (by omega) [slc b 0 n c,vi mid,vi e,vi lim,fv,vb wb,vb wp] H4 ⟨mid,e,lim,wb,wp,d4,rfl,s4,by omega,g4,hen,hlim,by omega,hB4,λR h1 h2=>by
            obtain⟨h3,h4⟩:=hfin R h1 h2;exact fin3 R h3 h4,rfl⟩
        simp only[aF,hz,hl,bW,Bool.not_false,aB];refine S.f113 hE he hC s10.get n3 (by omega) a e pv hp1 hp2 hen λH4 s4 =>?_
        rw[hx]at s4 ⊢;exact hY H4 (s10.trans s4)
    · have ca':decide ((0:Int)<a)=false:=decide_eq_false (by omega)
      have part:=part _ s3 _ rfl;simp only[F.f114_j3,cN,ca',aB];exact part
  have j2:∀ (d3:Array α) H3 (lim:Nat) (wb wp:Bool) (pv:Nat) (hint:Int),aV H b enc tail f d3 H3->d3.size=n->PermIn a e d1 d3->lim<2 ^ 60->a<=pv->pv<e->F.f114_j2 E Q X (slc b 0 n c) (vi a) (vi e) (vi lim) fv (vb wb) (vb wp) (vi ((e - a:Nat):Int)) (vi pv) (vi hint) H3:=by
    intro d3 H3 lim wb wp pv hint s3 n3 p3 hlim hp1 hp2;have B3:Go.Sort.Below LT a e d3:=hB.permA permIn_all (by omega) p3
    have h3:=j3 d3 H3 lim wb wp pv s3 n3 p3 hlim hp1 hp2
    have try_:E.call 124 [slc b 0 n c,vi a,vi e,fv] H3 λv6 H4=>ifB v6 (Q (.tuple #[]) H4) (F.f114_j3 E Q X (slc b 0 n c) (vi a) (vi e) (vi lim) fv (vb wb) (vb wp) (vi ((e - a:Nat):Int)) (vi pv) H4):=by
      refine S.f111 hE he hC s3.get n3 (by omega) a e (by omega) hen λH4 s4 =>?_
      obtain⟨q1,q2⟩:=partialInsertionSort_holds hS d3 a e (by omega) (by omega) B3
      cases hb:(partialInsertionSort LT d3 a e).2 with
      | true =>
        obtain⟨h5,h6⟩:=fin _ (permIn_trans _ _ _ _ _ p3 q1) (q2 hb);simp only[oA];exact hQ _ _ h5 h6 (s3.trans s4)
      | false =>
        simp only[kO];exact j3 _ H4 lim wb wp pv (s3.trans s4) (by rw[q1.1];exact n3) (permIn_trans _ _ _ _ _ p3 q1) hlim hp1 hp2
    cases wb with
    | false =>
      simp only[F.f114_j2,aB];exact h3
    | true =>
      cases wp with
      | false =>
        simp only[F.f114_j2,aB];exact h3
      | true =>
        by_cases ch:hint=1
        · simp only[F.f114_j2,aJK,sE,gS,aS,dU,ch,decide_true,oA]
          exact try_
        · simp only[F.f114_j2,aJK,sE,gS,aS,dU,ch,decide_false,kO]
          exact h3
  have j1:∀ (d3:Array α) H3 (lim:Nat) (wb wp:Bool),aV H b enc tail f d3 H3->d3.size=n->PermIn a e d1 d3->lim<2 ^ 60->F.f114_j1 E Q X (slc b 0 n c) (vi a) (vi e) (vi lim) fv (vb wb) (vb wp) (vi ((e - a:Nat):Int)) H3:=by
    intro d3 H3 lim wb wp s3 n3 p3 hlim;simp only[F.f114_j1];refine S.f103 hE he hC s3.get n3 (by omega) a e (by omega) hen λpv hint H4 hp1 hp2 e4 =>?_
    have s4:=s3.ext e4;simp only[gS,nD,List.getElem?_cons_zero,List.getElem?_cons_succ,aS,dU]
    by_cases ch:hint=2
    · simp only[ch,decide_true,oA]
      refine S.f115 hE he s4.get n3 (by omega) a e (by omega) hen λH5 s5 =>?_
      have q1:=reverseRange_holds d3 a e hae (by omega)
      have b1:=dX e (by omega) (by omega)
      have b2:aA .sub (vi pv) (vi a)=some (vi ((pv - a:Nat):Int)):=bU pv a hp1 (by omega)
      have b3:aA .sub (vi ((e - 1:Nat):Int)) (vi ((pv - a:Nat):Int))=some (vi ((e - 1 - (pv - a):Nat):Int)):=bU (e - 1) (pv - a) (by omega) (by omega)
      simp only[b1,b2,b3,gS,aS];exact j2 _ H5 lim wb wp _ 1 (s4.trans s5) (by rw[q1.1];exact n3) (permIn_trans _ _ _ _ _ p3 q1) hlim (by omega) (by omega)
    · simp only[ch,decide_false,kO]
      exact j2 d3 H4 lim wb wp pv hint s4 n3 p3 hlim hp1 hp2
  cases wb with
  | true =>
    have:=j1 d1 H1 limit true wp s1 n1 (permIn_refl _ _ _) hlim;simp only[F.f114_l1,a1,c12',c0',cS,dU,bW,Bool.not_true,aB];exact this
  | false =>
    have b1:=dX limit (by omega) (by omega)
    have go:=λd' H' p' s'=>j1 d' H' (limit - 1) false wp s' (by rw[(p':PermIn a e d1 d').1];exact n1) p' (by omega)
    clear j1 j2 j3 hX;simp only[F.f114_l1,a1,c12',c0',cS,dU,bW,Bool.not_false,aB];refine S.f102 hE he s1.get n1 hsz a e (by omega) hen λd' H' p' s' =>?_
    simp only[b1,aB];exact go d' H' p' (s1.trans s')
theorem S.f100(hE:aW E)(hS:SWO LT)(he:fF 2 enc)(hC:iT E fv enc LT)(hg:H.get b=fN enc d tail f)(hn:d.size=n)(hsz:n<2 ^ 31)(hQ:∀ d' H',PermIn 0 n d d'->SortedIn LT 0 n d'->aV H b enc tail f d' H'->Q (.tuple #[]) H'):E.call 67 [slc b 0 n c,fv] H Q:=by
 apply hE.f100;have e1:(BitVec.ofNat 64 n).toNat=n:=by rw[BitVec.toNat_ofNat,Nat.mod_eq_of_lt (by omega)]
 have hc:aO .u64 (vi (n:Int))=some (u64 (BitVec.ofNat 64 n)):=by rw[jZ,BitVec.ofInt_natCast]
 simp only[F.f100,mZ,hc,aB];refine S.f61 hE _ (by rw[e1];omega) ?_
 rw[e1];have hl:bitsLen n<=31:=by rw[bitsLen_le_iff];exact hsz
 exact S.f114 hE hS he hC n hg hn hsz 0 n (Nat.zero_le _) (Nat.le_refl _) _ (by omega) (.inl rfl) (by omega) hQ
end
end
section
theorem aHm{E:Sy}(hE:aW E)(m:Nat)(hm:m<2 ^ 31):rM E m:=λhg hmd hQ=>S.f100 hE aHR aA5 (aDo hE) hg rfl (by omega) hQ
end
section
set_option maxRecDepth 20000
section
variable {E:Sy}{H H' H0 Z:AH}{Q:Value->AH->Prop}
theorem aDw:∀ l:List cR,(nO l).length=l.length
 | []=>rfl
 | x :: l=>by
  have ih:=aDw l;have hx:=(nX x.action).1;simp only[nO,mG,List.length_append,List.filter_cons,List.length_cons]at ih ⊢;have h4:gI x.action=0\/gI x.action=1\/gI x.action=2\/gI x.action=3:=by omega
  rcases h4 with h | h | h | h<;>simp[h]<;>omega
theorem aBQ{α:Type}(P:α->Bool):∀ l:List α,(l.filter P).length+(l.filter λx => !P x).length=l.length
 | []=>rfl
 | x :: l=>by
  have ih:=aBQ P l;rw[List.filter_cons,List.filter_cons];cases h:P x<;>simp<;>omega
theorem aC5:∀ (ns:List (BitVec 32)) (rs:List cR),ns.Nodup->(ns.map λn=>(gB rs n).length).sum<=rs.length
 | [],rs,_=>by simp
 | n :: ns,rs,h=>by
  have h:=List.nodup_cons.1 h;have ih:=aC5 ns (rs.filter λx => !decide (x.number=n)) h.2
  have he:(ns.map λm=>(gB (rs.filter λx => !decide (x.number=n)) m).length)=ns.map λm=>(gB rs m).length:=by
   refine List.map_congr_left λm hm =>?_;unfold gB;rw[List.filter_filter]
   congr 1
   refine List.filter_congr λx _ =>?_
   by_cases hx:x.number=m
   ·have:¬ x.number=n:=λe=>h.1 (by rw[<- e,hx];exact hm)
    simp[hx,this];rw[<- hx];exact this
   ·simp[hx]
  rw[he]at ih
  have hp:(gB rs n).length+(rs.filter λx => !decide (x.number=n)).length=rs.length:=by
   unfold gB;exact aBQ (λx=>decide (x.number=n)) rs
  rw[List.map_cons,List.sum_cons];omega
end
end
section
set_option maxRecDepth 20000
def LwD.om(s:LwD):Nat:=wPs s.parts+s.order.length
theorem oE(s:LwD)(p:aG):(s.put p).om=s.om+wPt p:=by
 simp only[LwD.om,LwD.put,wPs,List.map_append,List.sum_append,List.map_cons,List.map_nil,List.sum_cons,List.sum_nil];omega
theorem aBv(s:LwD):s.new.om=s.om:=rfl
theorem aGR(s:LwD)(a:BitVec 32):(s.act a).1.om<=s.om+1:=by
 unfold LwD.act
 split
 ·exact Nat.le_succ _
 ·simp only[LwD.om,List.length_append,List.length_cons,List.length_nil];omega
theorem qJ(n:Nat):wPt (cF n)=0:=rfl
theorem tY(i:bL):wPt (bI i)=1:=rfl
theorem aL0(h:BitVec 16)(k:BitVec 32)(t e:Nat):wPt (pIf h k t e)=3:=rfl
theorem aEy(n:Nat):wPt (oM n)=1:=rfl
theorem aDf(s:LwD)(c:bA)(n:Nat):(s.second c n).om=s.om+1:=by unfold LwD.second;simp only[oE,qJ,tY]
theorem aGV(s:LwD)(c:bA)(how:BitVec 16)(yes no:Nat):(s.order64 c how yes no).om=s.om+10:=by
 unfold LwD.order64;simp only[oE,aBv,aDf,aL0,qJ]
theorem aIP(s:LwD)(c:bA)(next yes no:Nat):(s.condOn c next yes no).om<=s.om+10:=by
 unfold LwD.condOn
 repeat' split
 all_goals simp only[oE,aDf,aGV,aL0,qJ,tY,aEy]<;>omega
theorem aFu(no:Nat)(s:LwD)(c:bA):(LwD.condStep no s c).om<=s.om+11:=by
 unfold LwD.condStep LwD.cond;have:=aIP (s.new.new.put (bI (dE (dR c.arg true)))) c (s.new.last+1) (s.last+1) no;simp only[oE,aBv,tY,qJ]at *;omega
theorem aF2(no:Nat):∀ (l:List bA) (s:LwD),(LwD.conds no l s).om<=s.om+11*l.length
 | [],s=>by simp[LwD.conds]
 | c :: l,s=>by
  have h1:=aF2 no l (LwD.condStep no s c);have h2:=aFu no s c
  show(LwD.conds no l (LwD.condStep no s c)).om<=_
  simp only[List.length_cons];omega
def vC(b:cQ):Nat:=11*b.conds.length+2
theorem aIr(s:LwD)(b:cQ):(s.branch b).om<=s.om+vC b:=by
 unfold LwD.branch vC;have h1:=aF2 (s.last+1) b.conds s.new;have h2:=aGR (LwD.conds (s.last+1) b.conds s.new) b.action;simp only[oE,aBv,aEy,qJ]at *;omega
theorem aFJ:∀ (l:List cQ) (s:LwD),(l.foldl LwD.branch s).om<=s.om+(l.map vC).sum
 | [],s=>by simp
 | b :: l,s=>by
  have h1:=aFJ l (s.branch b);have h2:=aIr s b;simp only[List.foldl_cons,List.map_cons,List.sum_cons];omega
theorem yU(st:List (BitVec 32×Nat)):∀ (f:Nat) (l:List dC) (s:LwD),l.length<f->(LwD.choose st f l s).om+(if l.length=0 then 0 else 4)<=s.om+6*l.length+1
 | 0,_,_,h=>by omega
 | f+1,l,s,h=>by
  unfold LwD.choose
  by_cases h0:l.length=0
  ·rw[if_pos h0,if_pos h0];simp only[oE,aEy];omega
  ·rw[if_neg h0,if_neg h0]
   by_cases h1:l.length=1
   ·rw[if_pos h1];simp only[oE,aL0];omega
   ·rw[if_neg h1]
    have k1:=yU st f (l.take (l.length / 2)) ((s.new.new.put (pIf 48#16 (oU l (l.length / 2)) (s.last+2) (s.last+1))).put (cF (s.last+1))) (by rw[List.length_take];omega)
    have k2:=yU st f (l.drop (l.length / 2)) ((LwD.choose st f (l.take (l.length / 2)) ((s.new.new.put (pIf 48#16 (oU l (l.length / 2)) (s.last+2) (s.last+1))).put (cF (s.last+1)))).put (cF (s.last+2))) (by rw[List.length_drop];omega)
    rw[if_neg (by rw[List.length_take];omega)]at k1
    rw[if_neg (by rw[List.length_drop];omega)]at k2
    simp only[oE,aBv,aL0,qJ,List.length_take,List.length_drop]at *;omega
theorem aCU:∀ (l:List dC) (x:LwD×List (BitVec 32×Nat)),(LwD.starts l x).1.om=x.1.om
 | [],_=>rfl
 | c :: l,x=>by
  show(LwD.starts l (LwD.start1 x c)).1.om=_
  rw[aCU l];rfl
theorem aF9(st:List (BitVec 32×Nat)):∀ (l:List dC) (s:LwD),(LwD.cases st l s).om<=s.om+(l.map λc=>(c.branches.map vC).sum+1).sum
 | [],s=>by simp[LwD.cases]
 | c :: l,s=>by
  have h1:=aF9 st l (LwD.case1 st s c)
  have h2:(LwD.case1 st s c).om<=s.om+((c.branches.map vC).sum+1):=by
   unfold LwD.case1 LwD.branches;have:=aFJ c.branches (s.put (cF (jG c.number st)));simp only[oE,qJ,aEy]at *;omega
  show(LwD.cases st l (LwD.case1 st s c)).om<=_
  simp only[List.map_cons,List.sum_cons];omega
theorem aK8:∀ (l:List (BitVec 32)) (A:List (BitVec 32×Nat)) (s:LwD),wPs (l.foldl (LwD.end1 A) s).parts=wPs s.parts+l.length
 | [],_,_=>rfl
 | a :: l,A,s=>by
  rw[List.foldl_cons,aK8 l A]
  have:wPs (LwD.end1 A s a).parts=wPs s.parts+1:=by
   simp only[LwD.end1,LwD.put,wPs,List.map_append,List.sum_append,List.map_cons,List.map_nil,List.sum_cons,List.sum_nil,qJ,tY];omega
  rw[this,List.length_cons];omega
theorem aPl(p:jS):wPs (hU p).parts<=10+6*p.cases.length+(p.cases.map λc=>(c.branches.map vC).sum+1).sum:=by
 have h0:(lower0 p.default).om<=6:=by
  have a1:=aGR LwD.zero p.default;have a2:=aGR (rY p.default) 2147483648#32;have a3:(rY p.default).om=(LwD.zero.act p.default).1.om:=rfl;have a4:LwD.zero.om=0:=rfl;unfold lower0;simp only[oE,aBv,tY,aL0,qJ];unfold low2;omega
 have h3:(eH p).1.om=(lower0 p.default).om:=aCU p.cases (lower0 p.default,[]);have h4:=yU (eH p).2 (p.cases.length+1) p.cases ((eH p).1.put (bI (dE 0#32))) (Nat.lt_succ_self _);simp only[oE,tY]at h4;have h4:(jC p).om+(if p.cases.length=0 then 0 else 4)<=(eH p).1.om+1+6*p.cases.length+1:=h4;have h5:=aF9 (eH p).2 p.cases (jC p);have h6:wPs (hU p).parts=(LwD.cases (eH p).2 p.cases (jC p)).om:=aK8 _ _ _;omega
theorem aKE:∀ (l:List aG) (now:Option (BitVec 32)),wPs (dH l now)<=wPs l
 | [],_=>Nat.le_refl _
 | p :: l,now=>by
  have ih:=aKE l;have hc:∀ (p:aG) l,wPs (p :: l)=wPt p+wPs l:=λ_ _=>rfl;rw[hc];unfold dH
  split
  ·have:=ih none;rw[hc];omega
  split
  ·split
   ·have:=ih now;omega
   ·have:=ih (some p.insn.k);rw[hc];omega
  split
  ·have:=ih none;rw[hc];omega
  ·have:=ih now;rw[hc];omega
theorem aBC{α:Type}(f g:α->Nat):∀ l:List α,(∀ x∈l,f x<=g x)->(l.map f).sum<=(l.map g).sum
 | [],_=>Nat.le_refl _
 | x :: l,h=>by
  have h1:=aBC f g l λy hy=>h y (List.mem_cons_of_mem _ hy);have h2:=h x (List.mem_cons_self ..);simp only[List.map_cons,List.sum_cons];omega
theorem zZ{α:Type}(f:α->Nat)(a b:Nat):∀ l:List α,(l.map λx=>a*f x+b).sum=a*(l.map f).sum+b*l.length
 | []=>by simp
 | x :: l=>by
  have:=zZ f a b l;simp only[List.map_cons,List.sum_cons,List.length_cons,this];rw[Nat.mul_add,Nat.mul_add];omega
theorem aJR{p:lF}{ns:List (BitVec 32)}(hn:wD p ns){a c:Nat}(h1:p.rules.length<=a)(h2:∀ x∈p.rules,x.conds.length<=c):wPs (iJ (eI p ns))<=10+6*a+((11*c+2)*a+a):=by
 have h3:=aPl (eI p ns);have h4:wPs (iJ (eI p ns))<=wPs (hU (eI p ns)).parts:=aKE _ _
 have h5:(eI p ns).cases.length<=a:=by
  have:=hn.len
  show(ns.map (mK p)).length<=_
  rw[List.length_map];omega
 have hnd:ns.Nodup:=by
  rw[List.nodup_iff_pairwise_ne];exact hn.up.imp λh e=>by rw[e]at h;omega
 have h6:=aC5 ns p.rules hnd
 have h7:((eI p ns).cases.map λc=>(c.branches.map vC).sum+1).sum<=(11*c+2)*(ns.map λn=>(gB p.rules n).length).sum+1*ns.length:=by
  rw[<- zZ]
  show((ns.map (mK p)).map _).sum<=_
  rw[List.map_map];refine aBC _ _ _ λn hn' =>?_;simp only[Function.comp];have b1:=rN (nO (gB p.rules n));rw[aDw]at b1
  have b2:=aEJ vC (11*c+2) (mK p n).branches λb hb=>by
   obtain⟨z,z1,_,z2⟩:=sN hb;have:=h2 z z1;unfold vC;omega
  have b3:(mK p n).branches.length*(11*c+2)<=(gB p.rules n).length*(11*c+2):=Nat.mul_le_mul_right _ b1;rw[Nat.mul_comm (gB p.rules n).length]at b3;omega
 have h8:(11*c+2)*(ns.map λn=>(gB p.rules n).length).sum<=(11*c+2)*a:=Nat.mul_le_mul_left _ (by omega)
 have h9:=hn.len;omega
end
section
set_option maxRecDepth 20000
theorem aJE:∀ n:BitVec 8,uS (aKG (1+(n.toNat:Int)))=true:=by decide +kernel
theorem aDl(k n:BitVec 8):uS (jT k n)=true:=by
 unfold jT
 split
 ·rfl
 split
 ·exact aJE n
 split
 ·rfl
 ·rfl
theorem aJm:∀ k:Fin 30,vX (lK k.val)=true:=by decide +kernel
theorem aG0:∀ k:Fin 11,aAN (1+k.val)≠0#64:=by decide +kernel
theorem aLh:∀ x:BitVec 8,1<=(1#8+x % 7#8).toNat/\(1#8+x % 7#8).toNat<=7:=by decide +kernel
theorem aHh(v m:BitVec 64):(v&&&m) &&& ~~~m=0#64:=by
 rw[BitVec.and_assoc,BitVec.and_not_self];exact BitVec.and_zero
theorem qK(v m:BitVec 16):(v&&&m) &&& ~~~m=0#16:=by
 rw[BitVec.and_assoc,BitVec.and_not_self];exact BitVec.and_zero
theorem aGJ(c:gD):hO c.cond=0:=by
 have ha:=aKO c;have ho:=aLh c.op;unfold hO;rw[if_neg (by omega)]
 by_cases h:1#8+c.op % 7#8=7#8
 ·have e:c.cond=⟨(c.arg % 6#8).toNat,7#8,aAN (1+c.mask.toNat % 11),aAN (c.value.toNat % 12)&&&aAN (1+c.mask.toNat % 11)⟩:=by unfold gD.cond;rw[if_pos h]
  have hm:aAN (1+c.mask.toNat % 11)≠0#64:=aG0 ⟨c.mask.toNat % 11,Nat.mod_lt _ (by decide)⟩
  rw[e];simp only[aHh];rw[if_neg (by decide),if_neg (by simp),if_neg (by simp[hm])]
 ·have e:c.cond=⟨(c.arg % 6#8).toNat,1#8+c.op % 7#8,0#64,aAN (c.value.toNat % 12)⟩:=by unfold gD.cond;rw[if_neg h]
  rw[e];simp only[h,ne_eq,not_true,and_false,false_and,if_false];rw[if_neg (by omega)]
theorem aGh:∀ {l:List bA},(∀ c∈l,hO c=0)->gR l=0
 | [],_=>rfl
 | c :: l,h=>by
  unfold gR;rw[if_pos (h c (List.mem_cons_self ..))];exact aGh λx hx=>h x (List.mem_cons_of_mem _ hx)
theorem aGO(r:rP):fV r.rule=0:=by
 unfold fV;have h1:vX r.rule.number=true:=aJm ⟨r.call.toNat % 30,Nat.mod_lt _ (by decide)⟩
 have h2:uS r.rule.action=true:=aDl _ _;have h3:r.rule.conds.length<=4:=by simp only[rP.rule,List.length_map,List.length_take];omega
 rw[h1,h2,if_neg (by decide),if_neg (by decide),if_neg (by omega)]
 refine aGh λc hc =>?_;simp only[rP.rule,List.mem_map]at hc;obtain⟨z,_,rfl⟩:=hc;exact aGJ z
theorem rules_ok:∀ {l:List cR},(∀ x∈l,fV x=0)->fQ l=0
 | [],_=>rfl
 | c :: l,h=>by
  unfold fQ;rw[if_pos (h c (List.mem_cons_self ..))];exact rules_ok λx hx=>h x (List.mem_cons_of_mem _ hx)
theorem cY.rules_ok(s:cY):∀ x∈s.pol.pol.rules,fV x=0:=by
 intro x hx;simp only[cY.pol,List.mem_map]at hx;obtain⟨y,_,rfl⟩:=hx;exact aGO y
theorem aAE(h:BitVec 16):∀ {l:List (List UInt8×BitVec 16)} {dD:List (List UInt8)},(∀ p∈l,aAn p.1=true/\kW h p.2 2047#16=true/\p.1 ∉ dD)->(l.map Prod.fst).Nodup->eV h dD l=0
 | [],_,_,_=>rfl
 | p :: l,dD,hl,hn=>by
  obtain⟨a,b,c⟩:=hl p (List.mem_cons_self ..);have hn:=List.nodup_cons.1 hn;unfold eV;rw[a,b,if_neg (by decide),if_neg (by decide),if_neg c]
  refine aAE h (λq hq =>?_) hn.2;obtain⟨a',b',c'⟩:=hl q (List.mem_cons_of_mem _ hq);refine⟨a',b',λhm =>?_⟩;rcases List.mem_append.1 hm with hm | hm
  ·exact c' hm
  ·rw[List.mem_singleton]at hm
   exact hn.1 (by rw[<- hm];exact List.mem_map_of_mem hq)
theorem aAr(h:BitVec 16):∀ {l:List (BitVec 16×BitVec 16)} {dD:List (BitVec 16)},(∀ p∈l,kW h p.2 49152#16=true/\p.1 ∉ dD)->(l.map Prod.fst).Nodup->gL h dD l=0
 | [],_,_,_=>rfl
 | p :: l,dD,hl,hn=>by
  obtain⟨b,c⟩:=hl p (List.mem_cons_self ..);have hn:=List.nodup_cons.1 hn;unfold gL;rw[b,if_neg (by decide),if_neg c]
  refine aAr h (λq hq =>?_) hn.2;obtain⟨b',c'⟩:=hl q (List.mem_cons_of_mem _ hq);refine⟨b',λhm =>?_⟩;rcases List.mem_append.1 hm with hm | hm
  ·exact c' hm
  ·rw[List.mem_singleton]at hm
   exact hn.1 (by rw[<- hm];exact List.mem_map_of_mem hq)
theorem aGj(s:cY)(i:Nat)(kind:BitVec 16):aG8 s.hd (s.right i kind)=true/\aG8 kind (s.right i kind)=true:=by
 unfold aG8 cY.right;have e1:∀ a b:BitVec 16,(a&&&b) &&& ~~~a=0#16:=λa b=>by rw[BitVec.and_comm a b,qK]
 constructor
 ·split
  ·exact decide_eq_true (e1 _ _)
  ·rename_i r _
   have e2:r&&&s.hd&&&kind=s.hd&&&(r&&&kind):=by rw[BitVec.and_comm r,BitVec.and_assoc]
   refine decide_eq_true ?_;rw[e2,e1]
 ·split
  ·exact decide_eq_true (qK _ _)
  ·exact decide_eq_true (qK _ _)
theorem aAs(s:cY):∀ n,∀ p∈s.pathsTo n,kW s.hd p.2 2047#16=true
 | 0,p,h=>by simp[cY.pathsTo]at h
 | n+1,p,h=>by
  rw[rD]at h;have ih:=aAs s n;unfold tQ at h;simp only at h
  split at h
  ·rename_i hc
   rcases List.mem_append.1 h with h | h
   ·exact ih p h
   ·rw[List.mem_singleton]at h
    subst h;obtain⟨r1,r2⟩:=aGj s n 2047#16;unfold kW;rw[r1,r2,decide_eq_true hc.2];rfl
  ·exact ih p h
theorem aAo(s:cY):∀ n,∀ p∈s.portsTo n,kW s.hd p.2 49152#16=true
 | 0,p,h=>by simp[cY.portsTo]at h
 | n+1,p,h=>by
  rw[qP]at h;have ih:=aAo s n;unfold tR at h;simp only at h
  split at h
  ·rename_i hc
   rcases List.mem_append.1 h with h | h
   ·exact ih p h
   ·rw[List.mem_singleton]at h
    subst h;obtain⟨r1,r2⟩:=aGj s n 49152#16;unfold kW;rw[r1,r2,decide_eq_true hc.2];rfl
  ·exact ih p h
theorem aNv:∀ x∈pQ,aAn x=true:=by
 have h:pQ.all aAn=true:=by decide +kernel
 exact List.all_eq_true.1 h
theorem aKU(b:BitVec 8):aCe (wF.getD (b % 3#8).toNat [])=true:=by
 have h:∀ k:Fin 3,aCe (wF.getD k.val [])=true:=by decide +kernel
 have hb:(b % 3#8).toNat<3:=by
  rw[BitVec.toNat_umod];exact Nat.mod_lt _ (by decide)
 exact h ⟨_,hb⟩
theorem aCY(s:cY){rs:List cR}(h:∀ x∈rs,fV x=0)(hl:rs.length<=64):iH { s.pol with pol:=⟨s.pol.pol.default,rs⟩ }=0:=by
 have a1:aCe s.pol.name=true:=aKU s.name;have a2:uS s.pol.pol.default=true:=aDl _ _;have a3:=tI s s.paths.length;have a4:=tA s s.ports.length;have a5:s.pol.handled &&& ~~~51199#16=0#16:=qK _ _;have a6:eV s.pol.handled [] s.pol.paths=0:=aAE _ (λp hp=>⟨aNv _ ((lL s _).2 _ (List.mem_map_of_mem hp)),aAs s _ p hp,by simp⟩) (lL s _).1
 have a7:gL s.pol.handled [] s.pol.ports=0:=aAr _ (λp hp=>⟨aAo s _ p hp,by simp⟩) (qO s _).1
 have a8:=rules_ok h;unfold iH;simp only[a1,a2,a5,a6,a7,a8];rw[if_neg (by decide),if_neg (by decide),if_neg (by show ¬ (64<rs.length\/32<(s.pathsTo s.paths.length).length\/32<(s.portsTo s.ports.length).length);omega)]
 simp
end
section
set_option maxRecDepth 20000
section
variable {E:Sy}{H H' H0 Z Z2:AH}{Q:Value->AH->Prop}{L L' L2 X:List Res}{tb:Nat}{s:Option Nat}
theorem Has.merge(h:Has H0 Z H L)(g:Has H Z2 H' L2):Has H0 Z H' (L++L2):=by
 have k:=h.grow g.ext;refine⟨k.ext,k.sub,λr hr =>?_,?_⟩
 ·rcases List.mem_append.1 hr with hr | hr
  ·exact k.all r hr
  ·obtain⟨h1,h2⟩:=g.all r hr
   exact⟨h1,λb hb=>⟨Nat.le_trans h.ext.1 (h2 b hb).1,(h2 b hb).2.1,AH.get_ge _ (Nat.le_trans h.sub.1 (h2 b hb).1)⟩⟩
 ·rw[List.flatMap_append,List.nodup_append]
  refine⟨h.nd,g.nd,λa ha b hb =>?_⟩;obtain⟨y,hy,ha⟩:=List.mem_flatMap.1 ha;obtain⟨z,hz,hb⟩:=List.mem_flatMap.1 hb;have:=((h.all y hy).2 a ha).2.1;have:=((g.all z hz).2 b hb).1;omega
theorem Has.tbl(h:Has H0 Z H L){k:Nat}(hk:L[k]? = some (dY tb s)):wS Z H tb s :=
 ⟨h.sub,h.get hk,λb hb=>((h.all _ (List.mem_of_getElem? hk)).2 b hb).2.2⟩
def qA(H0 Z H:AH)(fp:Nat)(cp:List bL)(fq:Nat)(cq:List bL)(X:List Res):Prop:=∃ lv n1 n2,Fil H0 Z H fp cp (bJ fq [lv,vi n1,vi n2] :: bB 4 lv (cJ cq) :: X)
theorem qA.swap{fp fq:Nat}{cp cq:List bL}(h:qA H0 Z H fp cp fq cq X):qA H0 Z H fq cq fp cp X:=by
 obtain⟨lv,n1,n2,lw,n3,n4,g⟩:=h;refine⟨lw,n3,n4,lv,n1,n2,g.perm ?_⟩;generalize bJ fp _=a;generalize bB 4 lw _=b;generalize bJ fq _=c;generalize bB 4 lv _=d;refine List.Perm.trans (l₂:=[c,d]++([a,b]++X)) ?_ (List.Perm.refl _);exact(List.perm_append_comm_assoc [a,b] [c,d] X)
theorem qA.run(hE:aW E){r:aU}(hr:r.ok){fp fq:Nat}{cp cq:List bL}(hok:iK cp)(hlen:cp.length<=4096)(h:qA H0 Z H fp cp fq cq X)(hQ:∀ n H',qA H0 Z H' fp cp fq cq X->Q (.tuple #[u32 (gM r cp.length cp 0#32),vi (n:Nat)]) H'):
  E.call 10 [ptr fp 0,r.v] H Q:=by
 obtain⟨lv,n1,n2,g⟩:=h;exact S.f132 hE hr hok hlen g λn H' _ g'=>hQ n H' ⟨lv,n1,n2,g'⟩
theorem qA.get{fp fq:Nat}{cp cq:List bL}(h:qA H0 Z H fp cp fq cq X){k:Nat}{r:Res}(hk:X[k]? = some r):r.P H:=by
 obtain⟨lv,n1,n2,lw,n3,n4,g⟩:=h;exact g.get (k:=k+4) (by simpa using hk)
theorem qA.newbox{fp fq:Nat}{cp cq:List bL}(h:qA H0 Z H fp cp fq cq X)(c:List Value):qA H0 Z (H.new (.cells c none)) fp cp fq cq (X++[bJ H.next c]):=by
 obtain⟨lv,n1,n2,lw,n3,n4,g⟩:=h;exact⟨lv,n1,n2,lw,n3,n4,g.newbox c⟩
theorem qA.dropLast{r:Res}{fp fq:Nat}{cp cq:List bL}(h:qA H0 Z H fp cp fq cq (X++[r])):qA H0 Z H fp cp fq cq X:=by
 obtain⟨lv,n1,n2,lw,n3,n4,g⟩:=h;exact⟨lv,n1,n2,lw,n3,n4,Has.dropLast (L:=_ :: _ :: _ :: _ :: X) g⟩
theorem qA.box{fp fq:Nat}{cp cq:List bL}{t:Nat}{c:List Value}(h:qA H0 Z H fp cp fq cq (X++[bJ t c])):H.get t = .cells c none:=by
 obtain⟨lv,n1,n2,lw,n3,n4,g⟩:=h;exact(g.all (bJ t c) (by simp)).1
theorem aJg(hE:aW E){fp fq:Nat}{cp cq:List bL}(op:iK cp)(lp:cp.length<=4096)(oq:iK cq)(lq:cq.length<=4096){r:Nat}{K:List (BitVec 32)}{rv:Value}{l':List aU}(hok:∀ x∈l',aU.ok x)(hsame:∀ x∈l',x.number∈K\/x.arch≠3221225534#32->gM x cp.length cp 0#32=gM x cq.length cq 0#32)(hl:l'.length<2 ^ 60)(h:qA H0 Z H fp cp fq cq (bB 9 rv (l'.map aU.cells) :: dP u32 vb r (K.map λk=>(k,true)) :: X))(hQ:∀ H',Q (vb true) H'):
  lp6 (F.f78_l3 E Q) [.map (some r),ptr fp 0,ptr fq 0,rv,vi l'.length,vi 0] H:=by
 have i0:vi 0=vi ((0:Nat):Int):=rfl;rw[i0];refine aY.count l'.length (λk ls H'=>ls=[.map (some r),ptr fp 0,ptr fq 0,rv,vi l'.length,vi k]/\qA H0 Z H' fp cp fq cq (bB 9 rv (l'.map aU.cells) :: dP u32 vb r (K.map λk=>(k,true)) :: X)) ?_ ⟨rfl,h⟩;rintro k _ H1 X1 hk ih ⟨rfl,g⟩;rcases Nat.lt_or_ge k l'.length with hlt | hge
 rotate_left
 ·have hlt':decide ((k:Int)<l'.length)=false:=decide_eq_false (by omega)
  simp only[F.f78_l3,aF,hlt',aB];exact hQ _
 have hlt':decide ((k:Int)<l'.length)=true:=decide_eq_true (by omega)
 have hrw:Rows H1 9 rv (l'.map aU.cells):=(show dL zH H1 9 rv (l'.map aU.cells) from g.get (k:=0) rfl).toRows;obtain⟨bb,o,f1,f2⟩:=hrw.ix (i:=k) (by simpa using hlt)
 simp only[List.getElem_map]at f2;have hr:=hok l'[k] (List.getElem_mem hlt);have hsm:=hsame l'[k] (List.getElem_mem hlt);have lo:aE 9 (ptr bb o) H1=some l'[k].v:=by rw[aL,f2];rfl
 have hinc:=bN (i:=k) (by omega)
 have ih:=ih hlt;generalize l'[k]=x at *;have hr9:=gN hr;have hst:aI 9 (ptr H1.next 0) x.v (H1.new (.cells [(.int .u32 0),(.int .u32 0),(.int .u64 0),(.int .u64 0),(.int .u64 0),(.int .u64 0),(.int .u64 0),(.int .u64 0),(.int .u64 0)] none))=some (H1.new (.cells x.cells none)):=tJ rfl hr9 (by simp[aU.cells])
 have hlo2:aE 9 (ptr H1.next 0) (H1.new (.cells x.cells none))=some x.v:=rK hr9;have g1:=g.newbox x.cells;simp only[F.f78_l3,aF,hlt',f1,lo,bE,hst,hlo2,aB];generalize H1.new (.cells x.cells none)=H2 at *;generalize H1.next=t at *;refine g1.run hE hr op lp λn1 H3 g3 =>?_;have b3:H3.get t = .cells x.cells none:=qA.box (X:=bB 9 rv (l'.map aU.cells) :: dP u32 vb r (K.map λk=>(k,true)) :: X) g3;have lr:aE 9 (ptr t 0) H3=some x.v:=by rw[aL,b3,dF _ _ 9 hr9];rfl
 simp only[lr,aB];refine g3.swap.run hE hr oq lq λn2 H4 g4 =>?_;have g4:=g4.swap;have b4:H4.get t = .cells x.cells none:=qA.box (X:=bB 9 rv (l'.map aU.cells) :: dP u32 vb r (K.map λk=>(k,true)) :: X) g4;have hm:dS u32 vb H4 r (K.map λk=>(k,true)):=g4.get (k:=1) (r:=dP u32 vb r (K.map λk=>(k,true))) rfl;have c0:x.cells[0]? = some (u32 x.number):=rfl;have c1:x.cells[1]? = some (u32 x.arch):=rfl;have hlk:=λz hz=>uJ hm (kd:=0) (λa b=>iA a b) x.number (z:=z) hz;have qa:(.int .u32 3221225534:Value)=u32 3221225534#32:=rfl;have done:=ih _ _ ⟨rfl,g4.dropLast (X:=bB 9 rv (l'.map aU.cells) :: dP u32 vb r (K.map λk=>(k,true)) :: X)⟩
 by_cases hn:x.number∈K
 ·have e:=hsm (.inl hn)
  have d:decide (gM x cp.length cp 0#32≠gM x cq.length cq 0#32)=false:=decide_eq_false (by simpa using e)
  simp only[b4,c0,hlk true (by simp[hn]),wY,d,hinc,aB]
  exact done
 ·by_cases ha:x.arch=3221225534#32
  ·have d:decide (x.arch≠3221225534#32)=false:=decide_eq_false (by simpa using ha)
   simp only[b4,c0,c1,hlk false (by simp[hn]),qa,wY,d,hinc,aB]
   exact done
  ·have e:=hsm (.inr ha)
   have d1:decide (x.arch≠3221225534#32)=true:=decide_eq_true ha;have d:decide (gM x cp.length cp 0#32≠gM x cq.length cq 0#32)=false:=decide_eq_false (by simpa using e)
   simp only[b4,c0,c1,hlk false (by simp[hn]),qa,wY,d1,d,hinc,aB]
   exact done
end
end
section
set_option maxRecDepth 20000
section
variable {E:Sy}{H H' H0 Z Z2:AH}{Q:Value->AH->Prop}{L L' L2 X:List Res}{tb:Nat}{s:Option Nat}
theorem aFr{K:Type}[DecidableEq K](k:K):∀ l:List K,k∈l->fB k true (l.map λk=>(k,true))=l.map λk=>(k,true)
 | [],h=>by simp at h
 | a :: l,h=>by
  rw[List.map_cons,fB]
  by_cases e:a=k
  ·rw[if_pos e,e]
  ·rw[if_neg e,aFr k l ((List.mem_cons.1 h).resolve_left λh=>e h.symm)]
def aDp(K:List (BitVec 32))(n:BitVec 32):List (BitVec 32):=if n∈K then K else K++[n]
theorem aLi(K:List (BitVec 32))(n:BitVec 32):fB n true (K.map λk=>(k,true))=(aDp K n).map λk=>(k,true):=by
 unfold aDp
 by_cases h:n∈K
 ·rw[if_pos h,aFr n K h]
 ·rw[if_neg h,uN n K h]
theorem aNb(K:List (BitVec 32))(n m:BitVec 32):m∈aDp K n↔m∈K\/m=n:=by
 unfold aDp
 split
 ·rename_i h
  exact⟨.inl,λk=>k.elim id λe=>e▸h⟩
 ·rw[List.mem_append,List.mem_singleton]
def aBL(tb tp tq r:Nat)(pc qc:List Value)(K:List (BitVec 32)):List Res:=[dY tb none,bJ tp pc,bJ tq qc,dP u32 vb r (K.map λk=>(k,true))]
theorem aI5(hE:aW E){tp tq r t2:Nat}{pc qc:List Value}{pv x2 x3:Value}{rs:List cR}(hv:cO eA Z 3 pv rs)(hl:rs.length<2 ^ 60)(h:Has H0 Z H (aBL tb tp tq r pc qc []))(next:∀ K H',Has H0 Z H' (aBL tb tp tq r pc qc K)->(∀ n,n∈K↔∃ x∈rs,x.number=n) ->
   opt (aE 8 (ptr t2 0) H') λv8=>E.call 7 [v8] H' λv9 H4=>opt (aAh v9 2) λv10=>opt (lenSlc v10) λv11 =>
    lp9 (F.f78_l2 E Q) [x2,x3,ptr tb 0,ptr tp 0,ptr tq 0,.map (some r),v10,v11,vi 0] H4):
  aKa (F.f78_l1 E Q) [x2,x3,ptr t2 0,ptr tb 0,ptr tp 0,ptr tq 0,.map (some r),pv,vi rs.length,vi 0] H:=by
 have i0:vi 0=vi ((0:Nat):Int):=rfl;rw[i0];refine aY.count rs.length (λj ls H'=>∃ K,ls=[x2,x3,ptr t2 0,ptr tb 0,ptr tp 0,ptr tq 0,.map (some r),pv,vi rs.length,vi j]/\Has H0 Z H' (aBL tb tp tq r pc qc K)/\∀ n,n∈K↔∃ x∈rs.take j,x.number=n) ?_ ⟨[],rfl,h,by simp⟩
 rintro j _ H1 X1 hj ih ⟨K,rfl,g,hK⟩;rcases Nat.lt_or_ge j rs.length with hlt | hge
 rotate_left
 ·have hlt':decide ((j:Int)<rs.length)=false:=decide_eq_false (by omega)
  rw[List.take_of_length_le hge]at hK;have:=next K H1 g hK;simp only[F.f78_l1,aF,hlt',aB];exact this
 have hlt':decide ((j:Int)<rs.length)=true:=decide_eq_true (by omega)
 obtain⟨rows,r1,r2,r3⟩:=hv;obtain⟨b,o,f1,f2⟩:=(r1.sub g.sub).ix (i:=j) (by rw[r2];exact hlt)
 have hr:=r3 j hlt (by rw[r2];exact hlt)
 have hinc:=bN (i:=j) (by omega)
 have htk:rs.take (j+1)=rs.take j++[rs[j]]:=List.take_succ_eq_append_getElem hlt;have ih:=ih hlt;rw[htk]at ih;generalize rs[j]=y at *;generalize rows[j]'(by rw[r2];exact hlt)=cs at *
 obtain⟨_,cv,rfl,hcv⟩:=hr
 have hcp:([u32 y.number,u32 y.action,cv]:List Value).all plain1=true:=by
  have:=hcv.plain;simp[this]
 have lo:aE 3 (ptr b o) H1=some (.agg #[u32 y.number,u32 y.action,cv]):=by rw[aL,f2];rfl
 have hst:=aBZ [u32 y.number,u32 y.action,cv] rfl hcp H1;have g1:=g.newbox [u32 y.number,u32 y.action,cv];have bp:=AH.get_new_self H1 (.cells [u32 y.number,u32 y.action,cv] none);simp only[F.f78_l1,aF,hlt',f1,lo,bE,hst,bp,aB];generalize H1.new (.cells [u32 y.number,u32 y.action,cv] none)=H2 at *;obtain⟨H3,s1,g3⟩:=g1.mapset (n:=3) (kd:=0) (fk:=u32) (fv:=vb) (r:=r) (l:=K.map λk=>(k,true)) rfl (λa b=>iA a b) y.number true;rw[aLi]at g3;simp only[s1,hinc,aB];refine ih _ _ ⟨aDp K y.number,rfl,Has.dropLast (L:=aBL tb tp tq r pc qc (aDp K y.number)) g3,λn =>?_⟩;rw[aNb,hK];constructor
 ·rintro(⟨x,h1,h2⟩ | rfl)
  ·exact⟨x,List.mem_append_left _ h1,h2⟩
  ·exact⟨y,by simp,rfl⟩
 ·rintro⟨x,h1,h2⟩
  rcases List.mem_append.1 h1 with h1 | h1
  ·exact .inl ⟨x,h1,h2⟩
  ·rw[List.mem_singleton]at h1
   subst h1;exact .inr h2.symm
def nS(K:List (BitVec 32))(l:List cR):List cR:=(l.filter λx=>decide (x.number ∉ K)).reverse
theorem aI4(hE:aW E){tp tq r:Nat}{pc:List Value}{K:List (BitVec 32)}{uv x2 x3:Value}{x:oO}{us:List cR}(hv:cO eA Z 3 uv us)(hl:us.length<1000)(hx:x.pol.rules.length<1000){qc:List Value}(hq:jH Z x qc)(h:Has H0 Z H (aBL tb tp tq r pc qc K))(next:∀ Z' qc' H',Sub Z Z'->Has H0 Z' H' (aBL tb tp tq r pc qc' K)->jH Z' { x with pol:=⟨x.pol.default,nS K us++x.pol.rules⟩ } qc' ->
   ∀ X0,F.f78_l2 E Q x2 x3 (ptr tb 0) (ptr tp 0) (ptr tq 0) (.map (some r)) uv (vi us.length) (vi us.length) H' X0):
  lp9 (F.f78_l2 E Q) [x2,x3,ptr tb 0,ptr tp 0,ptr tq 0,.map (some r),uv,vi us.length,vi 0] H:=by
 have i0:vi 0=vi ((0:Nat):Int):=rfl;rw[i0];refine aY.count us.length (λj ls H'=>∃ Z' qc',ls=[x2,x3,ptr tb 0,ptr tp 0,ptr tq 0,.map (some r),uv,vi us.length,vi j]/\Sub Z Z'/\Has H0 Z' H' (aBL tb tp tq r pc qc' K)/\jH Z' { x with pol:=⟨x.pol.default,nS K (us.take j)++x.pol.rules⟩ } qc') ?_ ⟨Z,qc,rfl,Sub.refl _,h,hq⟩
 rintro j _ H1 X1 hj ih ⟨Z1,qc1,rfl,hz,g,hq1⟩;rcases Nat.lt_or_ge j us.length with hlt | hge
 rotate_left
 ·have hj0:j=us.length:=by omega
  subst hj0;rw[List.take_length]at hq1;exact next Z1 qc1 H1 hz g hq1 X1
 have hlt':decide ((j:Int)<us.length)=true:=decide_eq_true (by omega)
 obtain⟨rows,r1,r2,r3⟩:=hv;obtain⟨b,o,f1,f2⟩:=(r1.sub (hz.trans g.sub)).ix (i:=j) (by rw[r2];exact hlt)
 have hr:=r3 j hlt (by rw[r2];exact hlt)
 have hinc:=bN (i:=j) (by omega)
 have htk:us.take (j+1)=us.take j++[us[j]]:=List.take_succ_eq_append_getElem hlt;have ih:=ih hlt;rw[htk]at ih
 have hlen:(nS K (us.take j)).length<=j:=by
  unfold nS;rw[List.length_reverse];exact Nat.le_trans (List.length_filter_le _ _) (by rw[List.length_take];omega)
 generalize us[j]=y at *;generalize us.take j=ut at *;generalize rows[j]'(by rw[r2];exact hlt)=cs at *
 have hr':=hr;obtain⟨_,cv,rfl,hcv⟩:=hr'
 have hcp:([u32 y.number,u32 y.action,cv]:List Value).all plain1=true:=by
  have:=hcv.plain;simp[this]
 have lo:aE 3 (ptr b o) H1=some (.agg #[u32 y.number,u32 y.action,cv]):=by rw[aL,f2];rfl
 have hst:=aBZ [u32 y.number,u32 y.action,cv] rfl hcp H1;have g1:=g.newbox [u32 y.number,u32 y.action,cv];have bp:=AH.get_new_self H1 (.cells [u32 y.number,u32 y.action,cv] none);have lo2:aE 3 (ptr H1.next 0) (H1.new (.cells [u32 y.number,u32 y.action,cv] none))=some (.agg #[u32 y.number,u32 y.action,cv]):=rK (c:=[u32 y.number,u32 y.action,cv]) rfl;have c0:([u32 y.number,u32 y.action,cv]:List Value)[0]? = some (u32 y.number):=rfl;simp only[F.f78_l2,aF,hlt',f1,lo,bE,hst,bp,c0,aB];generalize H1.new (.cells [u32 y.number,u32 y.action,cv] none)=H2 at *;generalize H1.next=t at *;have hlk:=λz hz=>uJ (g1.mapAt (k:=3) (fk:=u32) (fv:=vb) (r:=r) (l:=K.map λk=>(k,true)) rfl) (kd:=0) (λa b=>iA a b) y.number (z:=z) hz
 by_cases hm:y.number∈K
 ·have he:nS K (ut++[y])=nS K ut:=by
   unfold nS;rw[List.filter_append];simp[hm]
  rw[he]at ih;simp only[hlk true (by simp[hm]),bW,Bool.not_true,hinc,aB]
  exact ih _ _ ⟨Z1,qc1,rfl,hz,Has.dropLast (L:=aBL tb tp tq r pc qc1 K) g1,hq1⟩
 ·have he:nS K (ut++[y])=y :: nS K ut:=by
   unfold nS;rw[List.filter_append];simp[hm]
  rw[he]at ih;obtain⟨rv,pv,qv,rfl,hrv,hpv,hqv⟩:=hq1;obtain⟨rows2,s1,s2,s3⟩:=hrv;have hbS:bV 1 3 #[(.int .u32 0),(.int .u32 0),(.slice none 0 0)] [(0,.agg #[u32 y.number,u32 y.action,cv])]=some (.cells [u32 y.number,u32 y.action,cv] none,fI 1 1):=cV 3 [u32 0#32,u32 0#32,cB] [u32 y.number,u32 y.action,cv] rfl rfl
  have hG:dL zH (H2.new (.cells [u32 y.number,u32 y.action,cv] none)) 3 (slc H2.next 0 1 1) [[u32 y.number,u32 y.action,cv]]:=dL.made (nQ _) (AH.get_new_self _ _) (.inl rfl) rfl (by
   intro r hr;rw[List.mem_singleton]at hr;subst hr;exact⟨rfl,hcp⟩)
  have g2:=g1.add (bB 3 (slc H2.next 0 1 1) [[u32 y.number,u32 y.action,cv]]) ((Ext.refl H2).new _) hG (by simp[bB,mA,blk]) (by simp[bB,mA,blk])
  have bq:=g2.box (k:=2) (b:=tq) (c:=[str x.name,u32 x.pol.default,rv,u16 x.handled,pv,qv]) rfl;simp only[hlk false (by simp[hm]),bW,Bool.not_false,lo2,hbS,AM.aT,cT,aB]
  generalize H2.new (.cells [u32 y.number,u32 y.action,cv] none)=H3 at *;generalize H2.next=tn at *
  have hpl2:∀ r∈rows2,r.all plain1=true:=λr hr=>by
   obtain⟨k,hk,rfl⟩:=List.getElem_of_mem hr;obtain⟨_,cv2,e2,hcv2⟩:=s3 k (by rw[<- s2];exact hk) hk
   rw[e2];have:=hcv2.plain;simp[this]
  have hs2:rows2.length<=2000:=by
   rw[s2]
   show(nS K ut++x.pol.rules).length<=_
   rw[List.length_append];omega
  obtain⟨v',H4,a1,a2,g4⟩:=g2.app (k:=5) (sz:=3) (v:=slc tn 0 1 1) (rows:=[[u32 y.number,u32 y.action,cv]]) (bytes:=32) rfl (s1.sub g2.sub) hpl2 (by decide) (by decide) (by simp;omega) (by simp;omega)
  have bq4:=g4.box (k:=2) (b:=tq) (c:=[str x.name,u32 x.pol.default,rv,u16 x.handled,pv,qv]) rfl;have cq:([str x.name,u32 x.pol.default,rv,u16 x.handled,pv,qv]:List Value)[2]? = some rv:=rfl;have hst4:=st1 bq4 (k:=2) (by simp) (v:=v') a2
  have g5:=g4.put (k:=2) (b:=tq) (c:=[str x.name,u32 x.pol.default,rv,u16 x.handled,pv,qv]) rfl [str x.name,u32 x.pol.default,v',u16 x.handled,pv,qv];simp only[bq,cq,a1,hst4,hinc,aB];obtain⟨Z2,z1,z2,g6⟩:=g5.freeze (k:=5) (r:=bB 3 v' ([[u32 y.number,u32 y.action,cv]]++rows2)) rfl;refine ih _ _ ⟨Z2,[str x.name,u32 x.pol.default,v',u16 x.handled,pv,qv],rfl,hz.trans z1.1,Has.dropLast (L:=aBL tb tp tq r pc [str x.name,u32 x.pol.default,v',u16 x.handled,pv,qv] K) g6,v',pv,qv,rfl,?_,hpv.sub z1.1,hqv.sub z1.1⟩;refine⟨[u32 y.number,u32 y.action,cv] :: rows2,z2.toRows,by simp[s2],λk k1 k2 =>?_⟩
  cases k with
  | zero=>exact eA.sub (eA.sub hr hz) z1.1
  | succ k=>exact eA.sub (s3 k (by simpa using k1) (by simpa using k2)) z1.1
end
end
end Go.AM
