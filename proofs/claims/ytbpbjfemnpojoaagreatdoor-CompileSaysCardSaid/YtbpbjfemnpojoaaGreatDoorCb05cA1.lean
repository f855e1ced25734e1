/- THE ABSTRACT MACHINE. -/
import Derived.Test.YtbpbjfemnpojoaaGreatDoorCb05cA0
set_option linter.all false
namespace Go.AM
section
open Go.RowKit (Below)
section
variable {P:Program}
theorem aHE{d:Option Nat}{l:List Nat}(h:aNA d l=false)(x:Nat)(hx:d=some x):x ∉ l:=by
 subst hx;intro hm;simp only[aNA]at h;rw[List.contains_iff_mem.2 hm]at h;exact Bool.noConfusion h
theorem aGj{a b:Option Nat}(h:aDM a b=false)(x:Nat)(hx:a=some x):b≠some x:=by
 subst hx;rintro rfl;simp[aDM]at h
structure aEg(P:Program)(ops:List Oper)(l0 pre:List (Nat×Nat))(i B:Nat)(o:Oper):Prop where
 at_:ops[i]? = some o
 deps:∀ e∈nC o,∃ p∈pre,p.1=e
 mask:∀ x,B.testBit x=true->∃ e∈nC o,e=x\/(sS l0 e).testBit x=true
 new:∀ p∈pre,p.1≠i
 muts:∀ p∈pre,∀ oj,ops[p.1]? = some oj->isM P oj=true->B.testBit p.1=true
 dst:∀ p∈pre,∀ oj,ops[p.1]? = some oj->∀ t,oj.dst=some t->o.dst≠some t
 ord:∀ p∈pre,∀ oj,ops[p.1]? = some oj->B.testBit p.1=true\/((∀ t,oj.dst=some t->t ∉ qF ops o)/\(∀ t,o.dst=some t->t ∉ qF ops oj))
 nosel:∀ cs b,o.op ≠ .select cs b
theorem aIx{l0:List (Nat×Nat)}{x:Nat}:∀ (l:List Nat) (s:Nat),(l.foldl (λs e=>s|||2 ^ e|||sS l0 e) s).testBit x=true->s.testBit x=true\/∃ e∈l,e=x\/(sS l0 e).testBit x=true:=by
 intro l
 induction l with
 | nil=>intro s h;exact .inl h
 | cons e l ih =>
  intro s h;rcases ih _ h with h | ⟨e',he',h⟩
  ·simp only[Nat.testBit_or,Bool.or_eq_true,Nat.testBit_two_pow,decide_eq_true_eq]at h
   rcases h with (h | h) | h
   ·exact .inl h
   ·exact .inr ⟨e,by simp,.inl h⟩
   ·exact .inr ⟨e,by simp,.inr h⟩
  ·exact .inr ⟨e',by simp[he'],h⟩
theorem aEN{ops:List Oper}{l0:List (Nat×Nat)}:∀ (suf pre:List (Nat×Nat)) (d:List aOh) (done muts:Nat),
  (∀ p∈pre,∀ oj,ops[p.1]? = some oj->(⟨p.1,oj.dst,qF ops oj⟩:aOh)∈d)->d.length=pre.length ->
  (∀ x,done.testBit x=true↔∃ p∈pre,p.1=x) ->
  (∀ p∈pre,∀ oj,ops[p.1]? = some oj->isM P oj=true->muts.testBit p.1=true) ->
  aCf P ops l0 suf d done muts=true ->
  (∀ p1 i B s1,suf=p1++(i,B) :: s1->∃ o,aEg P ops l0 (pre++p1) i B o)/\pre.length+suf.length=ops.length/\∀ i,i<ops.length->∃ p∈pre++suf,p.1=i:=by
 intro suf
 induction suf with
 | nil =>
  intro pre d done muts hd hl hdone hm h;simp only[aCf,Bool.and_eq_true,beq_iff_eq,List.all_eq_true,List.mem_range]at h;refine⟨λp1 i B s1 h=>by simp at h,by simp;omega,λi hi =>?_⟩
  obtain⟨p,hp,e⟩:=(hdone i).1 (h.2 i hi);exact⟨p,by simp[hp],e⟩
 | cons q suf ih =>
  obtain⟨i,B⟩:=q;intro pre d done muts hd hl hdone hm h;simp only[aCf]at h;cases ho:ops[i]? with
  | none=>rw[ho]at h;simp at h
  | some o =>
   rw[ho]at h;simp only[Bool.and_eq_true,Bool.not_eq_true',List.all_eq_true,Bool.or_eq_true]at h;obtain⟨⟨⟨⟨⟨⟨h1,h2⟩,h3⟩,h4⟩,h5⟩,h6⟩,h7⟩:=h
   have hF:aEg P ops l0 pre i B o:=by
    refine⟨ho,λe he=>(hdone e).1 (h2 e he),?_,?_,?_,?_,?_,?_⟩
    ·intro x hx
     rw[eq_of_beq h3]at hx;rcases aIx _ _ hx with h | h
     ·simp at h
     ·exact h
    ·rintro p hp rfl
     rw[(hdone p.1).2 ⟨p,hp,rfl⟩]at h1;exact Bool.noConfusion h1
    ·intro p hp oj hj hmj
     have:=congrArg (·.testBit p.1) (eq_of_beq h4);simp only[Nat.testBit_and]at this;rw[hm p hp oj hj hmj]at this
     simpa using this
    ·intro p hp oj hj t ht
     have:=(h5 _ (hd p hp oj hj)).1;exact aGj (by simpa using this) t ht
    ·intro p hp oj hj
     rcases(h5 _ (hd p hp oj hj)).2 with h | h
     ·exact .inl h
     ·simp only[Bool.or_eq_false_iff]at h
      exact .inr ⟨aHE h.1,aHE h.2⟩
    ·intro cs b e
     rw[e]at h6;exact Bool.noConfusion h6
   obtain⟨r1,r2,r3⟩:=ih (pre++[(i,B)]) _ _ _ (by
     intro p hp oj hj;rcases List.mem_append.1 hp with hp | hp
     ·exact List.mem_cons_of_mem _ (hd p hp oj hj)
     ·simp only[List.mem_singleton]at hp;subst hp
      rw[ho]at hj;simp only[Option.some.injEq]at hj;subst hj;exact List.mem_cons_self) (by simp[hl]) (by
     intro x;simp only[Nat.testBit_or,Bool.or_eq_true,Nat.testBit_two_pow,decide_eq_true_eq,hdone x];constructor
     ·rintro(⟨p,hp,e⟩ | e)
      ·exact⟨p,by simp[hp],e⟩
      ·exact⟨(i,B),by simp,e⟩
     ·rintro⟨p,hp,e⟩
      rcases List.mem_append.1 hp with hp | hp
      ·exact .inl ⟨p,hp,e⟩
      ·simp only[List.mem_singleton]at hp;subst hp;exact .inr e) (by
     intro p hp oj hj hmj;rcases List.mem_append.1 hp with hp | hp
     ·split
      ·rw[Nat.testBit_or,hm p hp oj hj hmj];rfl
      ·exact hm p hp oj hj hmj
     ·simp only[List.mem_singleton]at hp;subst hp
      rw[ho]at hj;simp only[Option.some.injEq]at hj;subst hj;rw[hmj];simp[Nat.testBit_or,Nat.testBit_two_pow]) h7
   refine⟨?_,by simp at r2 ⊢; omega,by simpa using r3⟩
   intro p1 j B' s1 he;cases p1 with
   | nil =>
    simp only[List.nil_append,List.cons.injEq,Prod.mk.injEq]at he;obtain⟨⟨rfl,rfl⟩,rfl⟩:=he;exact⟨o,by simpa using hF⟩
   | cons z p1 =>
    simp only[List.cons_append,List.cons.injEq]at he;obtain⟨rfl,he⟩:=he;obtain⟨o',ho'⟩:=r1 p1 j B' s1 he;exact⟨o',by simpa using ho'⟩
structure aF0(P:Program)(ops:List Oper)(l0:List (Nat×Nat)):Prop where
 fair:∀ pre i B suf,l0=pre++(i,B) :: suf->∃ o,aEg P ops l0 pre i B o
 len:l0.length=ops.length
 all:∀ i,i<ops.length->∃ p∈l0,p.1=i
theorem aEY{ops:List Oper}{l0:List (Nat×Nat)}(h:aDP P ops l0=true):aF0 P ops l0:=by
 obtain⟨h1,h2,h3⟩:=aEN l0 [] [] 0 0 (by simp) rfl (by simp) (by simp) h
 exact⟨λpre i B suf e=>by simpa using h1 pre i B suf e,by simpa using h2,by simpa using h3⟩
section
variable {ops:List Oper}{l0:List (Nat×Nat)}(D:aF0 P ops l0)
include D
theorem aF0.one{p q:Nat×Nat}(hp:p∈l0)(hq:q∈l0)(e:p.1=q.1):p=q:=by
 obtain⟨s,t,hs⟩:=List.append_of_mem hp;have hp2:=hq;rw[hs]at hq;rcases List.mem_append.1 hq with h | h
 ·obtain⟨o,F⟩:=D.fair s p.1 p.2 t hs
  exact absurd e.symm (F.new q h)
 ·rcases List.mem_cons.1 h with h | h
  ·exact h.symm
  ·obtain⟨s',t',ht⟩:=List.append_of_mem h
   obtain⟨o,F⟩:=D.fair (s++p :: s') q.1 q.2 t' (by rw[hs,ht];simp)
   exact absurd e (F.new p (by simp))
theorem aF0.mask{i B:Nat}(h:(i,B)∈l0):sS l0 i=B:=by
 have:∀ l:List (Nat×Nat),(∀ p∈l,p∈l0)->(i,B)∈l->sS l i=B:=by
  intro l
  induction l with
  | nil=>intro _ h;simp at h
  | cons q l ih =>
   intro hs hm;unfold sS
   split
   ·rename_i e
    have:=D.one (hs q (by simp)) h (eq_of_beq e)
    rw[this]
   ·rename_i e
    rcases List.mem_cons.1 hm with hm | hm
    ·rw[<- hm]at e;simp at e
    ·exact ih (λp hp=>hs p (by simp[hp])) hm
 exact this l0 (λ_ h=>h) h
theorem aF0.writer{p q:Nat×Nat}(hp:p∈l0)(hq:q∈l0){o o':Oper}(ho:ops[p.1]? = some o)(ho':ops[q.1]? = some o'){t:Nat}(ht:o.dst=some t)(ht':o'.dst=some t):p=q:=by
 obtain⟨s,r,hs⟩:=List.append_of_mem hp;rw[hs]at hq;rcases List.mem_append.1 hq with h | h
 ·obtain⟨o2,F⟩:=D.fair s p.1 p.2 r hs
  have:=F.at_;rw[ho]at this;simp only[Option.some.injEq]at this;subst this;exact absurd ht (F.dst q h o' ho' t ht')
 ·rcases List.mem_cons.1 h with h | h
  ·exact h.symm
  ·obtain⟨s',t',ht2⟩:=List.append_of_mem h
   obtain⟨o2,F⟩:=D.fair (s++p :: s') q.1 q.2 t' (by rw[hs,ht2];simp)
   have:=F.at_;rw[ho']at this;simp only[Option.some.injEq]at this;subst this;exact absurd ht' (F.dst p (by simp) o ho t ht)
end
theorem aIL{ops:List Oper}{o:Oper}{x:Operand}{t:Nat}(hx:x∈o.op.operands)(e:x = .tmp t):t∈qF ops o:=by
 subst e;refine List.mem_append_left _ (List.mem_flatMap.2 ⟨.tmp t,by simpa using hx,?_⟩)
 simp[aHJ]
theorem aB2{ops:List Oper}{o:Oper}{T T':Env}(h:∀ t∈qF ops o,T t=T' t):∀ x∈o.op.operands,ev T x=ev T' x:=by
 intro x hx;cases x with
 | tmp t=>exact h t (aIL hx rfl)
 | _=>rfl
theorem wO{ops:List Oper}{o:Oper}{T T':Env}(h:∀ t∈qF ops o,T t=T' t){j:Nat}{b:Bool}(hg:o.guard=some (j,b)):sI ops T j=sI ops T' j:=by
 unfold sI;cases hj:ops[j]? with
 | none=>rfl
 | some oj =>
  simp only;cases hd:oj.dst with
  | none=>rfl
  | some d=>exact h d (List.mem_append_right _ (by simp[hg,hj,hd]))
end
end
section
open Go.RowKit (Below)
section
variable {P:Program}{w0:World}{ρ0:Inj}{n0 N:Nat}{call:cJ}{ops:Array Oper}{l0:List (Nat×Nat)}
def Lst(listed:Array Bool)(i:Nat):Prop:=listed.getD i false=true
def aCC(P:Program)(n0:Nat)(ops:List Oper)(H:AH)(ps:List (Nat×(AH->Prop)))(ρ:Inj)(bl:Option Nat)(i:Nat)(o:Oper)(Ti:Env)(v:Value):Prop :=
  (bl=none/\v=oX/\∃ j want,o.guard=some (j,want)/\aMl (sI ops Ti j) want) \/
  ((∀ j want,o.guard=some (j,want)->sI ops Ti j = .bool want) /\
    ((bl=none/\moved Ti o.op=some v)\/(bl=none/\evP P Ti o.op=some v) \/
     (bl=none/\evR P Ti o.op H=some v/\∃ c,(i,c)∈ps/\∀ Hx,c Hx->evR P Ti o.op Hx=some v) \/
     (∃ b obj m,bl=some b/\evA P Ti o.op=some (obj,m)/\v=m b/\H.get b=obj/\ρ.loc b=none/\ρ.base<=b/\n0<=b/\b<H.next/\∃ c,(i,c)∈ps/\∀ Hx,c Hx->Hx.get b=obj)))
structure Inv(P:Program)(w0:World)(ρ0:Inj)(n0 N:Nat)(ops:Array Oper)(l0 pre l:List (Nat×Nat))(ps:List (Nat×(AH->Prop)))(T0 T:Env)(H:AH)(ρ:Inj)(TS:Env)(bl:Nat->Option Nat)(listed:Array Bool)(a:Act)(w:World):Prop where
 split:l0=pre++l
 size:listed.size=ops.size
 later:∀ p∈l,¬ Lst listed p.1
 muts:∀ p∈pre,∀ o,ops.toList[p.1]? = some o->isM P o=true->Lst listed p.1
 closed:∀ p∈l0,Lst listed p.1->∀ x,p.2.testBit x=true->Lst listed x
 st:St P w0 ρ0 n0 N ρ TS H a w
 ts1:∀ t,∀ p∈pre,∀ o,ops.toList[p.1]? = some o->o.dst=some t->¬ Lst listed p.1->TS t=T0 t
 ts2:∀ t,(∀ p∈pre,∀ o,ops.toList[p.1]? = some o->o.dst=some t->Lst listed p.1)->TS t=T t
 t0:∀ t,(∀ p∈pre,∀ o,ops.toList[p.1]? = some o->o.dst≠some t)->T t=T0 t
 pend:∀ pr i B sf o,pre=pr++(i,B) :: sf->¬ Lst listed i->ops.toList[i]? = some o->∃ Ti v,(∀ d,o.dst=some d->T d=v) /\
  (∀ t,(∀ p∈pr,∀ oj,ops.toList[p.1]? = some oj->oj.dst≠some t)->Ti t=T0 t)/\(∀ t,∀ p∈pr,∀ oj,ops.toList[p.1]? = some oj->oj.dst=some t->Ti t=T t) /\
  aCC P n0 ops.toList H ps ρ (bl i) i o Ti v
 inj:∀ i j b,bl i=some b->bl j=some b->i=j
 fresh:∀ i b,bl i=some b->b<H.next
section
variable (D:aF0 P ops.toList l0){pre l:List (Nat×Nat)}{ps:List (Nat×(AH->Prop))}{T0 T TS:Env}{H:AH}{ρ:Inj}{bl:Nat->Option Nat}{listed:Array Bool}{a:Act}{w:World}(I:Inv P w0 ρ0 n0 N ops l0 pre l ps T0 T H ρ TS bl listed a w)
include D I
theorem Inv.ahead{pr sf:List (Nat×Nat)}{i B:Nat}{o:Oper}(hs:l0=pr++(i,B) :: sf)(F:aEg P ops.toList l0 pr i B o)(hd:∀ e∈nC o,Lst listed e):∀ x,B.testBit x=true->Lst listed x:=by
 intro x hx;obtain⟨e,he,h⟩:=F.mask x hx;rcases h with rfl | h
 ·exact hd e he
 ·obtain⟨q,hq,rfl⟩:=F.deps e he
  have hq0:q∈l0:=by rw[hs];simp[hq]
  rw[D.mask (i:=q.1) (B:=q.2) hq0]at h;exact I.closed q hq0 (hd _ he) x h
theorem Inv.reads_pend{pr sf:List (Nat×Nat)}{i B:Nat}{o:Oper}(hs:pre=pr++(i,B) :: sf)(F:aEg P ops.toList l0 pr i B o)(hi:¬ Lst listed i)(hd:∀ e∈nC o,Lst listed e){Ti:Env}(h0:∀ t,(∀ p∈pr,∀ oj,ops.toList[p.1]? = some oj->oj.dst≠some t)->Ti t=T0 t)(h1:∀ t,∀ p∈pr,∀ oj,ops.toList[p.1]? = some oj->oj.dst=some t->Ti t=T t):
  ∀ t∈qF ops.toList o,Ti t=TS t:=by
 intro t ht;have hs0:l0=pr++(i,B) :: (sf++l):=by rw[I.split,hs];simp
 have hB:=I.ahead D hs0 F hd;have hin:∀ p∈pre,p∈l0:=λp hp=>by rw[I.split];simp[hp]
 by_cases h:∃ p∈pr,∃ oj,ops.toList[p.1]? = some oj/\oj.dst=some t
 ·obtain⟨p,hp,oj,ho,hdt⟩:=h
  rw[h1 t p hp oj ho hdt];refine(I.ts2 t λq hq o' ho' hdt' =>?_).symm;have:=D.writer (hin q hq) (hin p (by rw[hs];simp[hp])) ho' ho hdt' hdt
  subst this;rcases F.ord q hp oj ho with h | h
  ·exact hB _ h
  ·exact absurd ht (h.1 t hdt)
 ·have hno:∀ p∈pr,∀ oj,ops.toList[p.1]? = some oj->oj.dst≠some t:=λp hp oj ho hdt=>h ⟨p,hp,oj,ho,hdt⟩
  rw[h0 t hno]
  by_cases h':∃ p∈pre,∃ oj,ops.toList[p.1]? = some oj/\oj.dst=some t
  ·obtain⟨p,hp,oj,ho,hdt⟩:=h'
   refine(I.ts1 t p hp oj ho hdt ?_).symm;rw[hs]at hp;rcases List.mem_append.1 hp with hp' | hp'
   ·exact absurd hdt (hno p hp' oj ho)
   ·rcases List.mem_cons.1 hp' with rfl | hp'
    ·exact hi
    ·obtain⟨s,r,hr⟩:=List.append_of_mem hp'
     obtain⟨o2,F2⟩:=D.fair (pr++(i,B) :: s) p.1 p.2 (r++l) (by rw[hs0,hr];simp)
     have:=F2.at_;rw[ho]at this;simp only[Option.some.injEq]at this;subst this;intro hl;rcases F2.ord (i,B) (by simp) o F.at_ with h | h
     ·exact hi (I.closed p (hin p (by rw[hs];simp[hp'])) hl _ h)
     ·exact h.2 t hdt ht
  ·have hno':∀ p∈pre,∀ oj,ops.toList[p.1]? = some oj->oj.dst≠some t:=λp hp oj ho hdt=>h' ⟨p,hp,oj,ho,hdt⟩
   rw[I.ts2 t (λp hp oj ho hdt=>absurd hdt (hno' p hp oj ho)),I.t0 t hno']
theorem Inv.reads_head{l':List (Nat×Nat)}{i B:Nat}{o:Oper}(hl:l=(i,B) :: l')(F:aEg P ops.toList l0 pre i B o)(hd:∀ e∈nC o,Lst listed e):∀ t∈qF ops.toList o,T t=TS t:=by
 intro t ht;have hB:=I.ahead D (by rw[I.split,hl]) F hd
 refine(I.ts2 t λq hq o' ho' hdt' =>?_).symm;rcases F.ord q hq o' ho' with h | h
 ·exact hB _ h
 ·exact absurd ht (h.1 t hdt')
end
def aAC(P:Program)(call:cJ)(ops:List Oper)(o:Oper)(T:Env)(H:AH)(KV:Value->AH->Prop):Prop :=
 match o.guard with
 | none=>lP P call T o.op H KV
 | some (j,want)=>gd (sI ops T j) want (lP P call T o.op H) H KV
theorem pM{ops:List Oper}{o:Oper}{T:Env}{H:AH}{K:Env->AH->Prop}(h:tO P call ops o T H K):aAC P call ops o T H (λv H'=>K (vA T o.dst v) H'):=h
theorem aFb{ops:List Oper}{o:Oper}{T T':Env}{H:AH}{KV:Value->AH->Prop}(h:∀ t∈qF ops o,T t=T' t):aAC P call ops o T H KV=aAC P call ops o T' H KV:=by
 unfold aAC
 split
 ·rw[aAn (aB2 h)]
 ·rename_i j want hg
  rw[wO h hg]
  congr 1
  funext K
  rw[aAn (aB2 h)]
theorem aFu(hcall:jR P call){ρ:Inj}{T:Env}{H:AH}{a:Act}{w:World}(hR:R P ρ w0 H w)(hT:lL ρ T a){i:Nat}{o:Oper}(hi:ops[i]? = some o)(ho:pU P N o=true){Q:Exit->Act->World->Prop}{KV:Value->AH->Prop}(hk:aAC P call ops.toList o T H KV){next:Act->World->Prop}(hn:∀ v' w',pR P ρ w0 H.next KV v' w'->next (a.put o.dst v') w'):wpOp P ops Q i next a w:=by
 obtain⟨hok,hty,hd⟩:=rF ho;unfold wpOp;rw[hi];simp only
 have run:lP P call T o.op H KV->o.wp P a w next Q:=λhr =>
  vC (ops:=ops) (aAw hcall hR hT hok hty hr) hn
 unfold aAC at hk
 split at hk
 ·rename_i hg
  have:Region.wanted o (yielded ops a.tmps)=true:=by simp[Region.wanted,hg]
  rw[this,if_pos rfl];exact .inl (run hk)
 ·rename_i j want hg
  rcases aAD hT hg hk with ⟨e,hm⟩ | ⟨e,hm⟩
  ·rw[e,if_pos rfl]
   exact .inl (run hm)
  ·rw[e]
   simp only[Bool.false_eq_true,if_false];exact hn _ _ (eY (Nat.le_refl _) hR .skip hm)
theorem aGO{ρ:Inj}{Ti TS:Env}{H:AH}{a:Act}{w:World}(hR:R P ρ w0 H w)(hT:lL ρ TS a){i:Nat}{o:Oper}(hi:ops[i]? = some o)(ho:pU P N o=true){Q:Exit->Act->World->Prop}{ps:List (Nat×(AH->Prop))}{bl:Option Nat}{v:Value}(hrd:∀ t∈qF ops.toList o,Ti t=TS t)(hp:aCC P n0 ops.toList H ps ρ bl i o Ti v){next:Act->World->Prop}(hn:∀ ρ' v' w',ρ.le ρ'->(∀ y,(∀ b,bl=some b->y≠b)->ρ'.loc y=ρ.loc y)->(∀ b,bl=some b->n0<=b)->R P ρ' w0 H w'->aL ρ' v v'->next (a.put o.dst v') w'):wpOp P ops Q i next a w:=by
 obtain⟨hok,hty,hd⟩:=rF ho;have hev:=aB2 hrd;unfold wpOp;rw[hi];simp only;rcases hp with ⟨hb,rfl,j,want,hg,hgv⟩ | ⟨hg,hp⟩
 ·have:Region.wanted o (yielded ops a.tmps)=false:=by
   rw[wO hrd hg]at hgv;rcases hgv with hgv | hgv
   ·simp only[Region.wanted,hg,aDF hT hgv]
    cases want<;>rfl
   ·simp only[Region.wanted,hg,xF hT hgv]
    rfl
  rw[this];simp only[Bool.false_eq_true,if_false];exact hn ρ _ w ρ.le_refl (λ_ _=>rfl) (λb h=>by rw[hb]at h;simp at h) hR .skip
 ·have:Region.wanted o (yielded ops a.tmps)=true:=by
   cases hq:o.guard with
   | none=>simp[Region.wanted,hq]
   | some g =>
    obtain⟨j,want⟩:=g;have hgv:=hg j want hq;rw[wO hrd hq]at hgv;simp only[Region.wanted,hq,aDF hT hgv];cases want<;>rfl
  rw[this,if_pos rfl];refine .inl ?_
  have value:∀ v' w',(execOp a.eval o).run P w = .ok (.value v') w'->next (a.put o.dst v') w'->o.wp P a w next Q:=by
   intro v' w' h1 h2;unfold Oper.wp;rw[h1];exact h2
  rcases hp with ⟨hb,hmv⟩ | ⟨hb,hpv⟩ | ⟨hb,hrv,_⟩ | ⟨b,obj,m,hb,hav,rfl,hgt,hloc,hbase,hn0,hlt,_⟩
  ·rw[aAt hev]at hmv
   have:∃ x,(o.op = .move x\/o.op = .assign x)/\v=ev TS x:=by
    unfold moved at hmv
    split at hmv
    ·simp at hmv;exact⟨_,.inl (by assumption),hmv.symm⟩
    ·simp at hmv;exact⟨_,.inr (by assumption),hmv.symm⟩
    ·simp at hmv
   obtain⟨x,hx,rfl⟩:=this;have hr:=cB hR.glob hT (hok x (by rcases hx with e | e<;>rw[e]<;>simp[Op.operands]))
   refine value (a.eval x) w (by rcases hx with e | e<;>simp[execOp,e]) (hn ρ _ w ρ.le_refl (λ_ _=>rfl) (λb h=>by rw[hb]at h;simp at h) hR hr)
  ·rw[aC2 hev]at hpv
   obtain⟨v',hr,hrun⟩:=aCV hR.glob hT hok hty hpv;exact value v' w (hrun w) (hn ρ _ w ρ.le_refl (λ_ _=>rfl) (λb h=>by rw[hb]at h;simp at h) hR hr)
  ·rw[aC8 hev]at hrv
   obtain⟨v',hr,hrun⟩:=aDx hR hT hok hty hrv;exact value v' w hrun (hn ρ _ w ρ.le_refl (λ_ _=>rfl) (λb h=>by rw[hb]at h;simp at h) hR hr)
  ·rw[aC6 hev]at hav
   obtain⟨ρ',v',w',r1,r2,r3,r4,r5⟩:=aCO hR hT hok hty hav hbase hlt hloc hgt;exact value v' w' r5 (hn ρ' _ w' r1 (λy hy=>r2 y (hy b hb)) (λb' h=>by rw[hb]at h;simp only[Option.some.injEq]at h;omega) r3 r4)
end
end
section
open Go.RowKit (Below)
section
variable {P:Program}{w0:World}{ρ0:Inj}{n0 N:Nat}{call:cJ}{ops:Array Oper}{l0:List (Nat×Nat)}(D:aF0 P ops.toList l0){pre l:List (Nat×Nat)}{ps:List (Nat×(AH->Prop))}{T0 T TS:Env}{H:AH}{ρ:Inj}{bl:Nat->Option Nat}{listed:Array Bool}{a:Act}{w:World}
theorem Lst.set{listed:Array Bool}{i j:Nat}(h:Lst listed j):Lst (listed.setIfInBounds i true) j:=getD_set_true h
theorem Lst.set_ne{listed:Array Bool}{i j:Nat}(h:Lst (listed.setIfInBounds i true) j)(e:j≠i):Lst listed j:=by
 unfold Lst at *; rwa [getD_set_ne false (Ne.symm e)]at h
theorem Lst.self{listed:Array Bool}{i:Nat}(h:i<listed.size):Lst (listed.setIfInBounds i true) i:=by
 simp[Lst,h]
theorem jI{d:Option Nat}{v:Value}{t:Nat}(h:d≠some t):vA T d v t=T t:=by
 cases d with
 | none=>rfl
 | some d=>simp only[vA,upd];rw[if_neg (by rintro rfl;exact h rfl)]
theorem uK{v:Value}{t:Nat}:vA T (some t) v t=v:=by simp[vA,upd]
theorem aCC.rho{ops:List Oper}{ρ ρ':Inj}{bl:Option Nat}{i:Nat}{o:Oper}{Ti:Env}{v:Value}(h:aCC P n0 ops H ps ρ bl i o Ti v)(hb:ρ'.base=ρ.base)(hl:∀ b,bl=some b->ρ'.loc b=ρ.loc b):aCC P n0 ops H ps ρ' bl i o Ti v:=by
 rcases h with h | ⟨h1,h | h | h | ⟨b,obj,m,h2,h3,h4,h5,h6,h7,h8,h9,h10⟩⟩
 ·exact .inl h
 ·exact .inr ⟨h1,.inl h⟩
 ·exact .inr ⟨h1,.inr (.inl h)⟩
 ·exact .inr ⟨h1,.inr (.inr (.inl h))⟩
 ·exact .inr ⟨h1,.inr (.inr (.inr ⟨b,obj,m,h2,h3,h4,h5,by rw[hl b h2];exact h6,by rw[hb];exact h7,h8,h9,h10⟩))⟩
include D in
theorem Inv.late(I:Inv P w0 ρ0 n0 N ops l0 pre l ps T0 T H ρ TS bl listed a w){pr sf:List (Nat×Nat)}{i B:Nat}{o:Oper}(hs:pre=pr++(i,B) :: sf)(F:aEg P ops.toList l0 pr i B o)(hi:¬ Lst listed i)(hd:∀ e∈nC o,Lst listed e)(hdN:∀ d,o.dst=some d->d<N){v v':Value}{ρ':Inj}{w':World}(hv:∀ d,o.dst=some d->T d=v)(hle:ρ.le ρ')(hl:∀ y,(∀ b,bl i=some b->y≠b)->ρ'.loc y=ρ.loc y)(hn:∀ b,bl i=some b->n0<=b)(hR:R P ρ' w0 H w')(hr:aL ρ' v v'):
    Inv P w0 ρ0 n0 N ops l0 pre l ps T0 T H ρ' (vA TS o.dst v) bl (listed.setIfInBounds i true) (a.put o.dst v') w':=by
  have hs0:l0=pr++(i,B) :: (sf++l):=by rw[I.split,hs];simp
  have hB:=I.ahead D hs0 F hd;have hin:∀ p∈pre,p∈l0:=λp hp=>by rw[I.split];simp[hp]
  have hip:(i,B)∈pre:=by rw[hs];simp
  have ho:ops.toList[i]? = some o:=F.at_;have hne:∀ p∈l0,p≠(i,B)->p.1≠i:=λp hp hne e=>hne (D.one hp (hin _ hip) e)
  have hlt:i<listed.size:=by
    rw[I.size];rcases Nat.lt_or_ge i ops.size with g | g
    · exact g
    · rw[List.getElem?_eq_none (by simpa using g)]at ho;simp at ho
  refine { split:=I.split,size:=by simp[I.size],later :=?_,muts:=λp hp o ho hm=>(I.muts p hp o ho hm).set,closed :=?_,st :=?_,ts1 :=?_,ts2 :=?_,t0:=I.t0,pend :=?_,inj:=I.inj,fresh:=I.fresh }
  · intro p hp hL
    refine I.later p hp (hL.set_ne λe =>?_);obtain⟨s,r,hr'⟩:=List.append_of_mem hp;obtain⟨o2,F2⟩:=D.fair (pre++s) p.1 p.2 r (by rw[I.split,hr'];simp)
    exact F2.new (i,B) (by simp[hip]) e.symm
  · intro p hp hL x hx
    by_cases e:p=(i,B)
    · subst e;exact(hB x hx).set
    · exact(I.closed p hp (hL.set_ne (hne p hp e)) x hx).set
  · exact { le := Inj.le_trans I.st.le hle, hole := λb hb => by rw[hl b (λb' h => by have := hn b' h;omega)];exact I.st.hole b hb, nn := I.st.nn, r := hR,
            t:=(I.st.t.mono hle).put (by rw[I.st.s];exact hdN) hr,d:=by rw[aBG];exact I.st.d,s:=by rw[aFM];exact I.st.s }
  · intro t p hp o' ho' hdt hL
    have hpi:p≠(i,B):=by rintro rfl;exact hL (Lst.self hlt)
    have:o.dst≠some t:=λe=>hpi (D.writer (hin p hp) (hin _ hip) ho' ho hdt e);rw[jI this];exact I.ts1 t p hp o' ho' hdt λh=>hL h.set
  · intro t ht
    by_cases e:o.dst=some t
    · rw[e,uK];exact(hv t e).symm
    · rw[jI e]
      refine I.ts2 t λp hp o' ho' hdt=>(ht p hp o' ho' hdt).set_ne λe' =>?_;have hq:=D.one (hin p hp) (hin _ hip) e';subst hq;rw[ho]at ho'; simp only[Option.some.injEq]at ho'; subst ho';exact e hdt
  · intro pr' k B' sf' o' hs' hk ho'
    have hki:k≠i:=by rintro rfl;exact hk (Lst.self hlt)
    obtain⟨Ti,u,h1,h2,h3,h4⟩:=I.pend pr' k B' sf' o' hs' (λh=>hk h.set) ho';exact⟨Ti,u,h1,h2,h3,h4.rho hle.1 λb hb=>hl b λb' hb' e=>hki (I.inj k i b hb (e▸hb'))⟩
theorem aCC.later{ops:List Oper}{ρ:Inj}{bl:Option Nat}{i:Nat}{o:Oper}{Ti:Env}{v:Value}(h:aCC P n0 ops H ps ρ bl i o Ti v)(H':AH)(hH:H'=H\/∃ ob,H'=H.new ob){ps':List (Nat×(AH->Prop))}(hps:∀ x∈ps,x∈ps'):
  aCC P n0 ops H' ps' ρ bl i o Ti v:=by
 have hnx:H.next<=H'.next:=by
  rcases hH with rfl | ⟨ob,rfl⟩
  ·exact Nat.le_refl _
  ·exact Nat.le_succ _
 rcases h with h | ⟨h1,h | h | ⟨h2,h3,c,h4,h5⟩ | ⟨b,obj,m,h2,h3,h4,h5,h6,h7,h8,h9,c,h10,h11⟩⟩
 ·exact .inl h
 ·exact .inr ⟨h1,.inl h⟩
 ·exact .inr ⟨h1,.inr (.inl h)⟩
 ·refine .inr ⟨h1,.inr (.inr (.inl ⟨h2,?_,c,hps _ h4,h5⟩))⟩
  rcases hH with rfl | ⟨ob,rfl⟩
  ·exact h3
  ·exact aNf ob h3
 ·refine .inr ⟨h1,.inr (.inr (.inr ⟨b,obj,m,h2,h3,h4,?_,h6,h7,h8,by omega,c,hps _ h10,h11⟩))⟩
  rcases hH with rfl | ⟨ob,rfl⟩
  ·exact h5
  ·rw[AH.get_new_ne _ _ (by omega)];exact h5
include D in
theorem Inv.go(I:Inv P w0 ρ0 n0 N ops l0 pre l ps T0 T H ρ TS bl listed a w){i B:Nat}{l':List (Nat×Nat)}{o:Oper}(hl:l=(i,B) :: l')(F:aEg P ops.toList l0 pre i B o)(hM:isM P o=false){v:Value}{H':AH}(hH:H'=H\/∃ ob,H'=H.new ob){ps':List (Nat×(AH->Prop))}(hps:∀ x∈ps,x∈ps'){bi:Option Nat}(hbi:∀ b,bi=some b->b=H.next/\b<H'.next)(hp:aCC P n0 ops.toList H' ps' ρ bi i o T v):
  Inv P w0 ρ0 n0 N ops l0 (pre++[(i,B)]) l' ps' T0 (vA T o.dst v) H' ρ TS (λk=>if k=i then bi else bl k) listed a w:=by
 have ho:ops.toList[i]? = some o:=F.at_;have hin:∀ p∈pre,p∈l0:=λp hp=>by rw[I.split];simp[hp]
 have hil:(i,B)∈l0:=by rw[I.split,hl];simp
 have hiu:¬ Lst listed i:=I.later (i,B) (by rw[hl];simp)
 have huniq:∀ p∈pre,∀ o',ops.toList[p.1]? = some o'->∀ t,o'.dst=some t->o.dst≠some t:=λp hp o' ho' t ht e =>
  F.new p hp (congrArg Prod.fst (D.writer (hin p hp) hil ho' ho ht e))
 have hnx:H.next<=H'.next:=by
  rcases hH with rfl | ⟨ob,rfl⟩
  ·exact Nat.le_refl _
  ·exact Nat.le_succ _
 refine { split:=by rw[I.split,hl];simp,size:=I.size,later:=λp hp=>I.later p (by rw[hl];simp[hp]),muts :=?_,closed:=I.closed,st :=?_,ts1 :=?_,ts2 :=?_,t0 :=?_,pend :=?_,inj :=?_,fresh :=?_ }
 ·intro p hp o' ho' hm
  rcases List.mem_append.1 hp with hp | hp
  ·exact I.muts p hp o' ho' hm
  ·simp only[List.mem_singleton]at hp;subst hp
   rw[ho]at ho'; simp only[Option.some.injEq]at ho'; subst ho';rw[hM]at hm;exact Bool.noConfusion hm
 ·rcases hH with rfl | ⟨ob,rfl⟩
  ·exact I.st
  ·exact { le:=I.st.le,hole:=I.st.hole,nn:=Nat.le_succ_of_le I.st.nn,r:=I.st.r.new ob,t:=I.st.t,d:=I.st.d,s:=I.st.s }
 ·intro t p hp o' ho' hdt hL
  rcases List.mem_append.1 hp with hp | hp
  ·exact I.ts1 t p hp o' ho' hdt hL
  ·simp only[List.mem_singleton]at hp;subst hp
   rw[ho]at ho'; simp only[Option.some.injEq]at ho'; subst ho';have hno:∀ p∈pre,∀ oj,ops.toList[p.1]? = some oj->oj.dst≠some t:=λp hp oj hj e=>huniq p hp oj hj t e hdt;rw[I.ts2 t (λp hp oj hj e=>absurd e (hno p hp oj hj)),I.t0 t hno]
 ·intro t ht
  have hne:o.dst≠some t:=λe=>hiu (ht (i,B) (by simp) o ho e)
  rw[jI hne];exact I.ts2 t λp hp o' ho' hdt=>ht p (by simp[hp]) o' ho' hdt
 ·intro t ht
  rw[jI (ht (i,B) (by simp) o ho)]
  exact I.t0 t λp hp o' ho'=>ht p (by simp[hp]) o' ho'
 ·intro pr k B' sf o' hs hk ho'
  by_cases e:k=i
  ·subst e
   rw[ho]at ho'; simp only[Option.some.injEq]at ho'; subst ho'
   have hpr:pr=pre/\sf=[]:=by
    rcases List.eq_nil_or_concat sf with h | ⟨sf',z,h⟩
    ·subst h
     have:=List.append_inj' hs (by simp)
     exact⟨this.1.symm,rfl⟩
    ·exfalso
     subst h;have hs2:pre++[(k,B)]=(pr++(k,B') :: sf')++[z]:=by rw[hs];simp
     have:=List.append_inj' hs2 (by simp)
     exact F.new (k,B') (by rw[this.1];simp) rfl
   obtain⟨rfl,rfl⟩:=hpr;refine⟨T,v,λd hd=>by rw[hd,uK],I.t0,λt p hp oj hj hdt=>(jI (huniq p hp oj hj t hdt)).symm,?_⟩
   simp only[if_true];exact hp
  ·have hs':∃ sf',pre=pr++(k,B') :: sf':=by
    rcases List.eq_nil_or_concat sf with h | ⟨sf',z,h⟩
    ·subst h
     have:=List.append_inj' hs (by simp)
     simp only[List.cons.injEq,Prod.mk.injEq,and_true]at this;exact absurd this.2.1.symm e
    ·subst h
     have hs2:pre++[(i,B)]=(pr++(k,B') :: sf')++[z]:=by rw[hs];simp
     exact⟨sf',(List.append_inj' hs2 (by simp)).1⟩
   obtain⟨sf',hs'⟩:=hs';obtain⟨Ti,u,h1,h2,h3,h4⟩:=I.pend pr k B' sf' o' hs' hk ho';have hkp:(k,B')∈pre:=by rw[hs'];simp
   refine⟨Ti,u,λd hd=>by rw[jI (huniq _ hkp o' ho' d hd)];exact h1 d hd,h2,λt p hp oj hj hdt=>by
    rw[jI (huniq p (by rw[hs'];simp[hp]) oj hj t hdt)];exact h3 t p hp oj hj hdt,?_⟩
   rw[if_neg e];exact h4.later H' hH hps
 ·intro x y b hx hy
  split at hx
  ·rename_i ex
   split at hy
   ·rename_i ey;rw[ex,ey]
   ·have:=I.fresh y b hy;have:=(hbi b hx).1;omega
  ·split at hy
   ·have:=I.fresh x b hx;have:=(hbi b hy).1;omega
   ·exact I.inj x y b hx hy
 ·intro x b hx
  split at hx
  ·exact(hbi b hx).2
  ·exact Nat.lt_of_lt_of_le (I.fresh x b hx) hnx
include D in
theorem Inv.head(I:Inv P w0 ρ0 n0 N ops l0 pre l ps T0 T H ρ TS bl listed a w){i B:Nat}{l':List (Nat×Nat)}{o:Oper}(hl:l=(i,B) :: l')(F:aEg P ops.toList l0 pre i B o)(hd:∀ e∈nC o,Lst listed e)(hdN:∀ d,o.dst=some d->d<N){v v':Value}{ρ':Inj}{H':AH}{w':World}(hle:ρ.le ρ')(hlo:∀ b,b<H.next->ρ'.loc b=ρ.loc b)(hnx:H.next<=H'.next)(hR:R P ρ' w0 H' w')(hr:aL ρ' v v')(hpend:∀ k c,(k,c)∈ps->B.testBit k=false->c H'):
  Inv P w0 ρ0 n0 N ops l0 (pre++[(i,B)]) l' ps T0 (vA T o.dst v) H' ρ' (vA TS o.dst v) bl (listed.setIfInBounds i true) (a.put o.dst v') w':=by
 have ho:ops.toList[i]? = some o:=F.at_;have hin:∀ p∈pre,p∈l0:=λp hp=>by rw[I.split];simp[hp]
 have hs0:l0=pre++(i,B) :: l':=by rw[I.split,hl]
 have hil:(i,B)∈l0:=by rw[hs0];simp
 have hiu:¬ Lst listed i:=I.later (i,B) (by rw[hl];simp)
 have hB:=I.ahead D hs0 F hd
 have huniq:∀ p∈pre,∀ o',ops.toList[p.1]? = some o'->∀ t,o'.dst=some t->o.dst≠some t:=λp hp o' ho' t ht e =>
  F.new p hp (congrArg Prod.fst (D.writer (hin p hp) hil ho' ho ht e))
 have hlt:i<listed.size:=by
  rw[I.size];rcases Nat.lt_or_ge i ops.size with g | g
  ·exact g
  ·rw[List.getElem?_eq_none (by simpa using g)]at ho;simp at ho
 refine { split:=by rw[hs0];simp,size:=by simp[I.size],later :=?_,muts :=?_,closed :=?_,st:=I.st.put hdN hle hlo hnx hR hr,ts1 :=?_,ts2 :=?_,t0 :=?_,pend :=?_,inj:=I.inj,fresh:=λk b hb=>Nat.lt_of_lt_of_le (I.fresh k b hb) hnx }
 ·intro p hp hL
  refine I.later p (by rw[hl];simp[hp]) (hL.set_ne λe =>?_)
  obtain⟨s,r,hr'⟩:=List.append_of_mem hp;obtain⟨o2,F2⟩:=D.fair (pre++(i,B) :: s) p.1 p.2 r (by rw[hs0,hr'];simp)
  exact F2.new (i,B) (by simp) e.symm
 ·intro p hp o' ho' hm
  rcases List.mem_append.1 hp with hp | hp
  ·exact(I.muts p hp o' ho' hm).set
  ·simp only[List.mem_singleton]at hp;subst hp;exact Lst.self hlt
 ·intro p hp hL x hx
  by_cases e:p.1=i
  ·have:=D.one hp hil e
   subst this;exact(hB x hx).set
  ·exact(I.closed p hp (hL.set_ne e) x hx).set
 ·intro t p hp o' ho' hdt hL
  rcases List.mem_append.1 hp with hp | hp
  ·rw[jI (huniq p hp o' ho' t hdt)]
   exact I.ts1 t p hp o' ho' hdt λh=>hL h.set
  ·simp only[List.mem_singleton]at hp;subst hp;exact absurd (Lst.self hlt) hL
 ·intro t ht
  by_cases e:o.dst=some t
  ·rw[e,uK,uK]
  ·rw[jI e,jI e]
   exact I.ts2 t λp hp o' ho' hdt=>(ht p (by simp[hp]) o' ho' hdt).set_ne (F.new p hp)
 ·intro t ht
  rw[jI (ht (i,B) (by simp) o ho)]
  exact I.t0 t λp hp o' ho'=>ht p (by simp[hp]) o' ho'
 ·intro pr k B' sf o' hs hk ho'
  have hki:k≠i:=by rintro rfl;exact hk (Lst.self hlt)
  have hs':∃ sf',pre=pr++(k,B') :: sf':=by
   rcases List.eq_nil_or_concat sf with h | ⟨sf',z,h⟩
   ·subst h
    have:=List.append_inj' hs (by simp)
    simp only[List.cons.injEq,Prod.mk.injEq,and_true]at this;exact absurd this.2.1.symm hki
   ·subst h
    have hs2:pre++[(i,B)]=(pr++(k,B') :: sf')++[z]:=by rw[hs];simp
    exact⟨sf',(List.append_inj' hs2 (by simp)).1⟩
  obtain⟨sf',hs'⟩:=hs';have hku:¬ Lst listed k:=λh=>hk h.set;obtain⟨Ti,u,h1,h2,h3,h4⟩:=I.pend pr k B' sf' o' hs' hku ho';have hkp:(k,B')∈pre:=by rw[hs'];simp
  have hkB:B.testBit k=false:=by
   cases hq:B.testBit k with
   | false=>rfl
   | true=>exact absurd (hB k hq) hku
  refine⟨Ti,u,λd hd=>by rw[jI (huniq _ hkp o' ho' d hd)];exact h1 d hd,h2,λt p hp oj hj hdt=>by
   rw[jI (huniq p (by rw[hs'];simp[hp]) oj hj t hdt)];exact h3 t p hp oj hj hdt,?_⟩
  rcases h4 with h | ⟨g,h | h | ⟨q2,q3,c,q4,q5⟩ | ⟨b,obj,m,q2,q3,q4,q5,q6,q7,q8,q9,c,q10,q11⟩⟩
  ·exact .inl h
  ·exact .inr ⟨g,.inl h⟩
  ·exact .inr ⟨g,.inr (.inl h)⟩
  ·exact .inr ⟨g,.inr (.inr (.inl ⟨q2,q5 _ (hpend k c q4 hkB),c,q4,q5⟩))⟩
  ·exact .inr ⟨g,.inr (.inr (.inr ⟨b,obj,m,q2,q3,q4,q11 _ (hpend k c q10 hkB),by rw[hlo b q9];exact q6,by rw[hle.1];exact q7,q8,Nat.lt_of_lt_of_le q9 hnx,c,q10,q11⟩))⟩
end
end
section
open Go.RowKit (Below)
section
variable {P:Program}{w0:World}{ρ0:Inj}{n0 N:Nat}{call:cJ}{ops:Array Oper}{l0:List (Nat×Nat)}(D:aF0 P ops.toList l0){pre l:List (Nat×Nat)}{ps:List (Nat×(AH->Prop))}{T0 T TS:Env}{H:AH}{ρ:Inj}{bl:Nat->Option Nat}{listed:Array Bool}{a:Act}{w:World}{K:Env->AH->Prop}
theorem aOP{g:Value}{want:Bool}{m:(Value->AH->Prop)->Prop}{KV:Value->AH->Prop}(h:gd g want m H KV):(g = .bool want/\m KV)\/(aMl g want/\KV oX H):=by
 unfold gd at h
 split at h
 ·rename_i hs;exact .inr ⟨.inr hs,h⟩
 cases want with
 | true =>
  rcases xT h with ⟨e,h⟩ | ⟨e,h⟩
  ·exact .inl ⟨e,h⟩
  ·exact .inr ⟨.inl e,h⟩
 | false =>
  rcases xT h with ⟨e,h⟩ | ⟨e,h⟩
  ·exact .inr ⟨.inl e,h⟩
  ·exact .inl ⟨e,h⟩
theorem zK{ops:List Oper}{o:Oper}{KV:Value->AH->Prop}(h:aAC P call ops o T H KV):
  ((∃ j want,o.guard=some (j,want)/\aMl (sI ops T j) want)/\KV oX H)\/((∀ j want,o.guard=some (j,want)->sI ops T j = .bool want)/\lP P call T o.op H KV):=by
 unfold aAC at h
 split at h
 ·rename_i hg
  exact .inr ⟨λj want e=>by rw[hg]at e;simp at e,h⟩
 ·rename_i j want hg
  rcases aOP h with ⟨e,h⟩ | ⟨e,h⟩
  ·exact .inr ⟨λj' want' e'=>by rw[hg]at e'; simp only[Option.some.injEq,Prod.mk.injEq]at e'; obtain⟨rfl,rfl⟩:=e'; exact e,h⟩
  ·exact .inl ⟨⟨j,want,hg,e⟩,h⟩
theorem aLP{ops:List Oper}{o:Oper}{c:Prop}(hg:∀ j want,o.guard=some (j,want)->sI ops T j = .bool want)(h:gdO ops T o c):c:=by
 unfold gdO at h
 split at h
 ·exact h
 ·rename_i j want e
  rw[hg j want e]at h;cases want<;>exact h
include D in
theorem Inv.advance:∀ (l pre:List (Nat×Nat)) (ps:List (Nat×(AH->Prop))) (T:Env) (H:AH) (bl:Nat->Option Nat),Inv P w0 ρ0 n0 N ops l0 pre l ps T0 T H ρ TS bl listed a w->jG P call ops.toList l ps T H K ->
  ∃ pre' l' ps' T' H' bl',Inv P w0 ρ0 n0 N ops l0 pre' l' ps' T0 T' H' ρ TS bl' listed a w/\jG P call ops.toList l' ps' T' H' K /\
   (l'=[]\/∃ i B l'' o,l'=(i,B) :: l''/\ops.toList[i]? = some o/\isM P o=true):=by
 intro l
 induction l with
 | nil=>intro pre ps T H bl I h;exact⟨pre,[],ps,T,H,bl,I,h,.inl rfl⟩
 | cons q l ih =>
  obtain⟨i,B⟩:=q;intro pre ps T H bl I h;obtain⟨o,F⟩:=D.fair pre i B l I.split
  by_cases hM:isM P o=true
  ·exact⟨pre,_,ps,T,H,bl,I,h,.inr ⟨i,B,l,o,rfl,F.at_,hM⟩⟩
  ·have hM':isM P o=false:=by simpa using hM
   have h':=h;unfold jG at h;rw[F.at_]at h;simp only at h
   have moved_no:∀ v,moved T o.op=some v->cls P o.op = .P:=by
    intro v hv;unfold moved at hv
    split at hv
    ·rename_i e;rw[e];rfl
    ·rename_i e;rw[e];rfl
    ·simp at hv
   have fin:∀ (ps':List (Nat×(AH->Prop))) (v:Value) (H':AH) (bi:Option Nat),(H'=H\/∃ ob,H'=H.new ob)->(∀ x∈ps,x∈ps')->(∀ b,bi=some b->b=H.next/\b<H'.next) ->
     aCC P n0 ops.toList H' ps' ρ bi i o T v->jG P call ops.toList l ps' (vA T o.dst v) H' K ->
     ∃ pre' l' ps' T' H' bl',Inv P w0 ρ0 n0 N ops l0 pre' l' ps' T0 T' H' ρ TS bl' listed a w/\jG P call ops.toList l' ps' T' H' K /\
      (l'=[]\/∃ i B l'' o,l'=(i,B) :: l''/\ops.toList[i]? = some o/\isM P o=true):=by
    intro ps' v H' bi e1 e2 e3 e4 e5;exact ih _ ps' _ H' _ (I.go D rfl F hM' e1 e2 e3 e4) e5
   have self:∀ x∈ps,x∈ps:=λx h=>h;have cons:∀ z,∀ x∈ps,x∈z :: ps:=λz x h=>List.mem_cons_of_mem _ h;cases hc:cls P o.op with
   | P =>
    rw[hc]at h;simp only at h;rcases zK (pM h) with ⟨hg,hk⟩ | ⟨hg,hr⟩
    ·exact fin ps oX H none (.inl rfl) self (λb e=>by simp at e) (.inl ⟨rfl,rfl,hg⟩) hk
    ·unfold lP at hr
     split at hr
     ·rename_i v hv
      exact fin ps v H none (.inl rfl) self (λb e=>by simp at e) (.inr ⟨hg,.inl ⟨rfl,hv⟩⟩) hr
     ·rw[hc]at hr
      obtain⟨v,hv,hk⟩:=jN hr;exact fin ps v H none (.inl rfl) self (λb e=>by simp at e) (.inr ⟨hg,.inr (.inl ⟨rfl,hv⟩)⟩) hk
   | R =>
    rw[hc]at h;simp only at h;rcases zK (pM h) with ⟨hg,hk⟩ | ⟨hg,hr⟩
    ·exact fin _ oX H none (.inl rfl) (cons _) (λb e=>by simp at e) (.inl ⟨rfl,rfl,hg⟩) hk
    ·unfold lP at hr
     split at hr
     ·rename_i v hv
      rw[moved_no v hv]at hc;exact absurd hc (by simp)
     ·rw[hc]at hr
      obtain⟨v,hv,hk⟩:=jN hr
      exact fin _ v H none (.inl rfl) (cons _) (λb e=>by simp at e)
       (.inr ⟨hg,.inr (.inr (.inl ⟨rfl,hv,_,List.mem_cons_self,λHx hx=>(aLP hg hx).trans hv⟩))⟩) hk
   | A =>
    rw[hc]at h;simp only at h;rcases zK (pM h) with ⟨hg,hk⟩ | ⟨hg,hr⟩
    ·exact fin _ oX H none (.inl rfl) (cons _) (λb e=>by simp at e) (.inl ⟨rfl,rfl,hg⟩) hk
    ·unfold lP at hr
     split at hr
     ·rename_i v hv
      rw[moved_no v hv]at hc;exact absurd hc (by simp)
     ·rw[hc]at hr
      obtain⟨obj,m,hm,hk⟩:=aB3 hr
      have hnone:ρ.loc H.next=none:=by
       cases hq:ρ.loc H.next with
       | none=>rfl
       | some q=>have:=(I.st.r.own _ _ hq).2.1;omega
      exact fin _ (m H.next) (H.new obj) (some H.next) (.inr ⟨obj,rfl⟩) (cons _) (λb e=>by simp only[Option.some.injEq]at e;subst e;exact⟨rfl,Nat.lt_succ_self _⟩)
       (.inr ⟨hg,.inr (.inr (.inr ⟨H.next,obj,m,rfl,hm,rfl,AH.get_new_self _ _,hnone,I.st.r.nxt,I.st.nn,Nat.lt_succ_self _,_,List.mem_cons_self,λHx hx=>(aLP hg hx).trans (AH.get_new_self _ _)⟩))⟩) hk
   | M=>unfold isM at hM;rw[hc]at hM;exact absurd rfl hM
theorem aFh{B:Nat}{R:Prop}:∀ (ps:List (Nat×(AH->Prop))),pI B H R ps->R/\∀ k c,(k,c)∈ps->B.testBit k=false->c H:=by
 intro ps
 induction ps with
 | nil=>intro h;exact⟨h,λk c h=>by simp at h⟩
 | cons p ps ih =>
  obtain⟨j,c⟩:=p;intro h;unfold pI at h
  split at h
  ·rename_i hb
   obtain⟨h1,h2⟩:=ih h;refine⟨h1,λk c' hm hk =>?_⟩;rcases List.mem_cons.1 hm with e | e
   ·simp only[Prod.mk.injEq]at e;obtain⟨rfl,rfl⟩:=e;rw[hb]at hk;exact Bool.noConfusion hk
   ·exact h2 k c' e hk
  ·obtain⟨h1,h2⟩:=ih h.2
   refine⟨h1,λk c' hm hk =>?_⟩;rcases List.mem_cons.1 hm with e | e
   ·simp only[Prod.mk.injEq]at e;obtain⟨rfl,rfl⟩:=e;exact h.1
   ·exact h2 k c' e hk
theorem aIH{α:Type}(p q:α->Bool):∀ l:List α,(∀ x,q x=true->p x=true)->(∃ x∈l,p x=true/\q x=false)->l.countP q<l.countP p:=by
 intro l;have le:∀ l:List α,(∀ x,q x=true->p x=true)->l.countP q<=l.countP p:=λl h=>List.countP_mono_left λx _=>h x
 induction l with
 | nil=>rintro _ ⟨x,hx,_⟩;simp at hx
 | cons y l ih =>
  rintro h ⟨x,hx,h1,h2⟩;rw[List.countP_cons,List.countP_cons];rcases List.mem_cons.1 hx with rfl | hx
  ·rw[h1,h2];have:=le l h;simp;omega
  ·have:=ih h ⟨x,hx,h1,h2⟩
   by_cases hq:q y=true
   ·rw[hq,h y hq];simpa using this
   ·rw[if_neg hq]
    split<;>omega
def aHL(P:Program)(w0:World)(ρ0:Inj)(n0 N:Nat)(call:cJ)(ops:Array Oper)(l0:List (Nat×Nat))(T0:Env)(K:Env->AH->Prop)(listed:Array Bool)(a:Act)(w:World):Prop :=
 ∃ pre l ps T H ρ TS bl,Inv P w0 ρ0 n0 N ops l0 pre l ps T0 T H ρ TS bl listed a w/\jG P call ops.toList l ps T H K /\
  (l=[]\/∃ i B l' o,l=(i,B) :: l'/\ops.toList[i]? = some o/\isM P o=true)
theorem aCD{o:Oper}{listed:Array Bool}(h:∀ e∈o.after,Region.binds .any e=true->listed.getD e.on false=true):∀ e∈nC o,Lst listed e:=by
 intro e he;simp only[nC,List.mem_map,List.mem_filter]at he;obtain⟨x,⟨h1,h2⟩,rfl⟩:=he;exact h x (by simpa using h1) h2
theorem aHL.done(h:aHL P w0 ρ0 n0 N call ops l0 T0 K listed a w)(hall:∀ p∈l0,Lst listed p.1):Nx P w0 ρ0 n0 N K a w:=by
 obtain⟨pre,l,ps,T,H,ρ,TS,bl,I,hk,hl⟩:=h
 have:l=[]:=by
  cases l with
  | nil=>rfl
  | cons p l=>exact absurd (hall p (by rw[I.split];simp)) (I.later p (by simp))
 subst this;have:TS=T:=funext λt=>I.ts2 t λp hp o ho _=>hall p (by rw[I.split];simp[hp])
 subst this;exact⟨ρ,TS,H,I.st,hk⟩
include D in
theorem aIY{listed:Array Bool}(hsz:listed.size=ops.size)(h:Region.ready .any ops listed=[]):∀ p∈l0,Lst listed p.1:=by
 have key:∀ (n:Nat) (pr sf:List (Nat×Nat)),pr.length=n->l0=pr++sf->∀ p∈pr,Lst listed p.1:=by
  intro n
  induction n with
  | zero=>intro pr sf hl _ p hp;rw[List.eq_nil_of_length_eq_zero hl]at hp;simp at hp
  | succ n ih =>
   intro pr sf hl hs p hp;rcases List.eq_nil_or_concat pr with e | ⟨pr',z,e⟩
   ·subst e;simp at hl
   ·rw[List.concat_eq_append]at e
    subst e;have hs':l0=pr'++(z.1,z.2) :: sf:=by rw[hs];simp
    have ihp:=ih pr' _ (by simpa using hl) hs'
    rcases List.mem_append.1 hp with hp | hp
    ·exact ihp p hp
    ·simp only[List.mem_singleton]at hp;subst hp
     apply Classical.byContradiction;intro hu;obtain⟨o,F⟩:=D.fair pr' p.1 p.2 sf hs'
     have hlt:p.1<listed.size:=by
      rw[hsz];rcases Nat.lt_or_ge p.1 ops.size with g | g
      ·exact g
      ·have:=F.at_;rw[List.getElem?_eq_none (by simpa using g)]at this;simp at this
     have:p.1∈Region.ready .any ops listed:=by
      rw[mem_ready];refine⟨?_,o,by simpa using F.at_,λe he hb =>?_⟩
      ·unfold Lst at hu
       simp only[Array.getD_eq_getD_getElem?,Array.getElem?_eq_getElem hlt,Option.getD_some]at hu ⊢
       simpa using hu
      ·obtain⟨q,hq,hqe⟩:=F.deps e.on (by simp only[nC,List.mem_map,List.mem_filter];exact⟨e,⟨by simpa using he,hb⟩,rfl⟩)
       have:=ihp q hq
       rwa [hqe]at this
     rw[h]at this;simp at this
 exact λp hp=>key _ l0 [] rfl (by simp) p hp
include D in
theorem aG1(hcall:jR P call)(hok:∀ o∈ops.toList,pU P N o=true){Q:Exit->Act->World->Prop}(hq:∀ a w,Nx P w0 ρ0 n0 N K a w->Q .normal a w):
  ∀ (fuel:Nat) (listed:Array Bool) (a:Act) (w:World),listed.size=ops.size->aHL P w0 ρ0 n0 N call ops l0 T0 K listed a w->l0.countP (λp => !listed.getD p.1 false)<=fuel->wpAny P .any ops Q fuel listed a w:=by
 intro fuel
 induction fuel with
 | zero =>
  intro listed a w hsz h hc
  have hall:∀ p∈l0,Lst listed p.1:=by
   intro p hp;have:l0.countP (λp => !listed.getD p.1 false)=0:=by omega
   rw[List.countP_eq_zero]at this;have:=this p hp
   simpa[Lst] using this
  refine⟨?_,hq _ _ (h.done hall)⟩;apply List.eq_nil_iff_forall_not_mem.2;intro i hi;rw[mem_ready]at hi;obtain⟨hu,o,ho,_⟩:=hi
  have hlt:i<ops.size:=by
   rcases Nat.lt_or_ge i ops.size with g | g
   ·exact g
   ·rw[Array.getElem?_eq_none g]at ho;simp at ho
  obtain⟨p,hp,rfl⟩:=D.all i (by simpa using hlt)
  have:=hall p hp;unfold Lst at this;simp only[Array.getD_eq_getD_getElem?]at this hu;cases hq:listed[p.1]?<;>simp_all
 | succ fuel ih =>
  intro listed a w hsz h hc;refine⟨λhr=>hq _ _ (h.done (aIY D hsz hr)),λi hi =>?_⟩;rw[mem_ready]at hi;obtain⟨hu,o,ho,hdeps⟩:=hi;have hd:=aCD hdeps
  have hlt:i<listed.size:=by
   rw[hsz];rcases Nat.lt_or_ge i ops.size with g | g
   ·exact g
   ·rw[Array.getElem?_eq_none g]at ho;simp at ho
  have hiu:¬ Lst listed i:=by
   unfold Lst;simp only[Array.getD_eq_getD_getElem?,Array.getElem?_eq_getElem hlt,Option.getD_some]at hu ⊢;simp[hu]
  obtain⟨q,hq0,hqi⟩:=D.all i (by rw[hsz]at hlt;simpa using hlt)
  have next:∀ a' w',aHL P w0 ρ0 n0 N call ops l0 T0 K (listed.setIfInBounds i true) a' w'->wpAny P .any ops Q fuel (listed.setIfInBounds i true) a' w':=by
   intro a' w' h';refine ih _ a' w' (by simp[hsz]) h' ?_
   have:l0.countP (λp => !(listed.setIfInBounds i true).getD p.1 false)<l0.countP (λp => !listed.getD p.1 false):=by
    refine aIH _ _ l0 (λx hx =>?_) ⟨q,hq0,?_,?_⟩
    ·cases hg:listed.getD x.1 false with
     | false=>rfl
     | true=>rw[getD_set_true hg]at hx;exact Bool.noConfusion hx
    ·unfold Lst at hiu;rw[hqi];simpa using hiu
    ·rw[hqi];have:=Lst.self (listed:=listed) hlt;unfold Lst at this;rw[this];rfl
   omega
  have hoL:ops.toList[i]? = some o:=by simpa using ho
  have hoo:=hok o (List.mem_of_getElem? hoL);obtain⟨hok1,hty,hdN⟩:=rF hoo;obtain⟨pre,l,ps,T,H,ρ,TS,bl,I,hk,hl⟩:=h;have hqm:q∈pre++l:=by rw[<- I.split];exact hq0
  obtain⟨qi,B⟩:=q;simp only at hqi;subst hqi;rcases List.mem_append.1 hqm with hqp | hql
  ·
   obtain⟨pr,sf,hs⟩:=List.append_of_mem hqp;have hs0:l0=pr++(qi,B) :: (sf++l):=by rw[I.split,hs];simp
   obtain⟨o',F⟩:=D.fair pr qi B _ hs0;have:=F.at_;rw[hoL]at this;simp only[Option.some.injEq]at this;subst this;obtain⟨Ti,v,h1,h2,h3,h4⟩:=I.pend pr qi B sf o hs hiu hoL;refine aGO I.st.r I.st.t ho hoo (I.reads_pend D hs F hiu hd h2 h3) h4 ?_;intro ρ' v' w' r1 r2 r3 r4 r5;exact next _ _ ⟨pre,l,ps,T,H,ρ',_,bl,I.late D hs F hiu hd hdN h1 r1 r2 r3 r4 r5,hk,hl⟩
  ·rcases hl with rfl | ⟨j,B',l',o',rfl,hj,hM⟩
   ·simp at hql
   ·obtain⟨o2,F⟩:=D.fair pre j B' l' I.split
    have e2:=F.at_;rw[hj]at e2;simp only[Option.some.injEq]at e2;subst e2;rcases List.mem_cons.1 hql with e | hql'
    ·
     simp only[Prod.mk.injEq]at e;obtain⟨rfl,rfl⟩:=e;rw[hoL]at hj;simp only[Option.some.injEq]at hj;subst hj;have hrd:=I.reads_head D rfl F hd;have hk':=hk;unfold jG at hk';rw[hoL]at hk'
     have hcM:cls P o.op = .M:=by
      unfold isM at hM;cases hc:cls P o.op with
      | M=>rfl
      | P=>rw[hc]at hM;exact Bool.noConfusion hM
      | R=>rw[hc]at hM;exact Bool.noConfusion hM
      | A=>rw[hc]at hM;exact Bool.noConfusion hM
     simp only[hcM]at hk';have hk2:=pM hk';rw[aFb hrd]at hk2;refine aFu hcall I.st.r I.st.t ho hoo hk2 ?_;rintro v' w' ⟨ρ',v,H',r1,r2,r3,r4,r5,r6⟩;obtain⟨r7,r8⟩:=aFh _ r6;have I':=I.head D rfl F hd hdN r1 r2 r3 r4 r5 r8;obtain⟨pre2,l2,ps2,T2,H2,bl2,I2,hk3,hl3⟩:=Inv.advance D l' _ ps _ H' bl I' r7;exact next _ _ ⟨pre2,l2,ps2,T2,H2,ρ',_,bl2,I2,hk3,hl3⟩
    ·
     exfalso;obtain⟨s,r,hr'⟩:=List.append_of_mem hql';have hs0:l0=(pre++(j,B') :: s)++(qi,B) :: r:=by rw[I.split,hr'];simp
     obtain⟨o3,F3⟩:=D.fair _ qi B r hs0;have e3:=F3.at_;rw[hoL]at e3;simp only[Option.some.injEq]at e3;subst e3;have hB:=I.ahead D hs0 F3 hd;exact I.later (j,B') (by simp) (hB j (F3.muts (j,B') (by simp) o' hj hM))
end
section
variable {P:Program}{w0:World}{ρ0:Inj}{n0 N:Nat}{call:cJ}{ops:Array Oper}{l0:List (Nat×Nat)}{T:Env}{H:AH}{ρ:Inj}{a:Act}{w:World}{K:Env->AH->Prop}
theorem aEB(hmix:P.follows .mixedOrders=true)(hcall:jR P call)(hok:∀ o∈ops.toList,pU P N o=true)(hd:aDP P ops.toList l0=true)(h:St P w0 ρ0 n0 N ρ T H a w)(hk:jG P call ops.toList l0 [] T H K){Q:Exit->Act->World->Prop}(hq:∀ a w,Nx P w0 ρ0 n0 N K a w->Q .normal a w){id:Nat}:(Code.region id ops true).wp P Q a w:=by
  have D:=aEY hd;refine wp_region_any hmix ?_
  have none:∀ i,¬ Lst (Array.replicate ops.size false) i:=by
    intro i hL;unfold Lst at hL;simp only[Array.getD_eq_getD_getElem?,Array.getElem?_replicate]at hL
    split at hL<;>simp at hL
  have I:Inv P w0 ρ0 n0 N ops l0 [] l0 [] T T H ρ T (λ_=>Option.none) (Array.replicate ops.size false) a { w with drawn:=w.drawn+1 } :=
    { split:=rfl,size:=by simp,later:=λp _=>none p.1,muts:=λp hp=>by simp at hp,closed:=λp _ hL=>absurd hL (none p.1),
      st:={ le:=h.le,hole:=h.hole,nn:=h.nn,r:=h.r.drew,t:=h.t,d:=h.d,s:=h.s },ts1:=λt p hp=>by simp at hp,ts2:=λt _=>rfl,t0:=λt _=>rfl,
      pend:=λpr i B sf o hs=>by simp at hs,inj:=λi j b hb=>by simp at hb,fresh:=λi b hb=>by simp at hb }
  obtain⟨pre,l,ps,T',H',bl,I',hk',hl⟩:=Inv.advance D l0 [] [] T H _ I hk;refine aG1 (T0:=T) D hcall hok hq ops.size _ a _ (by simp) ⟨pre,l,ps,T',H',ρ,T,bl,I',hk',hl⟩ ?_
  have:=D.len;have h2:l0.countP (λp => !(Array.replicate ops.size false).getD p.1 false)<=l0.length:=List.countP_le_length;rw[this]at h2
  simpa using h2
end
end
section
open Go.RowKit (Below)
section
variable {P:Program}{w0:World}{ρ0:Inj}{n0 N:Nat}{call:cJ}{kp:nA}
def fK(P:Program)(N:Nat):Code->Bool
 | .region _ ops _=>ops.toList.all (pU P N)
 | .seq a b=>fK P N a&&fK P N b
 | .cond c a b=>wJ P c&&fK P N a&&fK P N b
 | .block _ c=>fK P N c
 | .loop c=>fK P N c
 | .scope c=>fK P N c
 | _=>true
def QC(P:Program)(w0:World)(ρ0:Inj)(n0 N:Nat)(K:nJ->Env->AH->Prop):Exit->Act->World->Prop
 | .normal,a,w=>Nx P w0 ρ0 n0 N (K .normal) a w
 | .exit id,a,w=>Nx P w0 ρ0 n0 N (K (.exit id)) a w
 | .goto l,a,w=>Nx P w0 ρ0 n0 N (K (.goto l)) a w
 | .ret,a,w=>Nx P w0 ρ0 n0 N (K .ret) a w
 | _,_,_=>False
theorem aH2{ρ:Inj}{T:Env}{a:Act}(h:lL ρ T a)(keep:List Nat):lL ρ (restr keep T) a:=by
 intro t;unfold restr
 induction keep with
 | nil=>exact .any _
 | cons s keep ih =>
  simp only[List.map_cons,aMK]
  split
  ·rename_i e;rw[e];exact h s
  ·exact ih
theorem St.restr{ρ:Inj}{T:Env}{H:AH}{a:Act}{w:World}(h:St P w0 ρ0 n0 N ρ T H a w)(keep:List Nat):St P w0 ρ0 n0 N ρ (restr keep T) H a w :=
 { h with t:=aH2 h.t keep }
theorem aGp{c:Code}{keep:List Nat}(ih:∀ (T:Env) (H:AH) (K:nJ->Env->AH->Prop) (ρ:Inj) (a:Act) (w:World),iH P call kp c T H K->St P w0 ρ0 n0 N ρ T H a w->c.wp P (QC P w0 ρ0 n0 N K) a w){T:Env}{H:AH}{K:nJ->Env->AH->Prop}{ρ:Inj}{a:Act}{w:World}(h:aN2 keep (λT H K=>iH P call kp c T H K) T H K)(hst:St P w0 ρ0 n0 N ρ T H a w):
  (Code.loop c).wp P (QC P w0 ρ0 n0 N K) a w:=by
 intro b k cs
 have key:=h (λT H=>∀ ρ a w,St P w0 ρ0 n0 N ρ T H a w->∃ e a' w',QC P w0 ρ0 n0 N K e a' w'/\Arrives P (lone (b.at a (.code c :: .inLoop c :: k)) cs w) b k cs e a' w') (by
  intro T H hB ρ a w hst;obtain⟨e,a₁,w₁,hq,harr⟩:=ih T H _ ρ a w hB hst b (.inLoop c :: k) cs;cases e with
  | normal =>
   obtain⟨ρ',T',H',hst',hX⟩:=hq;obtain⟨e₂,a₂,w₂,hq₂,harr₂⟩:=hX ρ' a₁ w₁ (hst'.restr keep);exact⟨e₂,a₂,w₂,hq₂,.of_steps (Steps.trans harr (.one step_inLoop)) harr₂⟩
  | exit id=>exact⟨.exit id,a₁,w₁,hq,.pass (x := .inLoop c) rfl (λ_ _ => .inl (by simp)) harr⟩
  | goto l=>exact⟨.goto l,a₁,w₁,hq,.pass (x := .inLoop c) rfl (λ_ _ => .inl (by simp)) harr⟩
  | ret=>exact⟨.ret,a₁,w₁,hq,.pass (x := .inLoop c) rfl (λ_ _ => .inl (by simp)) harr⟩
  | panic ch=>exact hq.elim
  | outgrown=>exact hq.elim) ρ a w (hst.restr keep)
 obtain⟨e,a',w',hq,harr⟩:=key;exact⟨e,a',w',hq,.of_steps (.one step_loop) harr⟩
theorem aDV(hmix:P.follows .mixedOrders=true)(hcall:jR P call):∀ (c:Code),fK P N c=true->∀ (T:Env) (H:AH) (K:nJ->Env->AH->Prop) (ρ:Inj) (a:Act) (w:World),iH P call kp c T H K ->
  St P w0 ρ0 n0 N ρ T H a w->c.wp P (QC P w0 ρ0 n0 N K) a w:=by
 intro c
 induction c with
 | skip=>intro _ T H K ρ a w h hst;exact wp_skip ⟨ρ,T,H,hst,h⟩
 | label l=>intro _ T H K ρ a w h hst;exact wp_label ⟨ρ,T,H,hst,h⟩
 | exit id=>intro _ T H K ρ a w h hst;exact wp_exit ⟨ρ,T,H,hst,h⟩
 | goto l=>intro _ T H K ρ a w h hst;exact wp_goto ⟨ρ,T,H,hst,h⟩
 | ret=>intro _ T H K ρ a w h hst;exact wp_ret ⟨ρ,T,H,hst,h⟩
 | seq x y ihx ihy =>
  intro hok T H K ρ a w h hst;simp only[fK,Bool.and_eq_true]at hok;obtain⟨J,hb,ha⟩:=h;refine wp_seq (wp_mono (ihx hok.1 T H _ ρ a w ha hst) ?_);intro e a' w' hq;cases e with
  | normal =>
   obtain⟨ρ',T',H',hst',hJ⟩:=hq;exact ihy hok.2 T' H' K ρ' a' w' (hb T' H' hJ) hst'
  | _=>exact hq
 | cond c x y ihx ihy =>
  intro hok T H K ρ a w h hst;simp only[fK,Bool.and_eq_true]at hok;have hr:=cB hst.r.glob hst.t hok.1.1;rcases xT h with ⟨e,h⟩ | ⟨e,h⟩
  ·rw[e]at hr
   exact wp_cond_true (hr.flat rfl) (ihx hok.1.2 T H K ρ a w h hst)
  ·rw[e]at hr
   exact wp_cond_false (hr.flat rfl) (ihy hok.2 T H K ρ a w h hst)
 | block id c ih =>
  intro hok T H K ρ a w h hst;refine wp_block (wp_mono (ih hok T H _ ρ a w h hst) ?_);intro e a' w' hq;cases e with
  | exit id' =>
   simp only[Exit.inBlock]
   by_cases hid:id'=id
   ·rw[if_pos hid]
    subst hid;obtain⟨ρ',T',H',hst',hk⟩:=hq;simp only[aGD,beq_self_eq_true]at hk;exact⟨ρ',T',H',hst',hk⟩
   ·rw[if_neg hid]
    obtain⟨ρ',T',H',hst',hk⟩:=hq;have:(id' == id)=false:=by simp[hid]
    simp only[aGD,this]at hk;exact⟨ρ',T',H',hst',hk⟩
  | _=>exact hq
 | loop c ih =>
  intro hok T H K ρ a w h hst;exact aGp (λT H K ρ a w h hst=>ih hok T H K ρ a w h hst) h hst
 | scope c ih =>
  intro hok T H K ρ a w h hst;refine wp_scope_straight (wp_mono (ih hok T H _ ρ a w h hst) ?_);intro e a' w' hq;cases e with
  | goto l=>obtain⟨_,_,_,_,hk⟩:=hq;exact hk.elim
  | _=>exact hq
 | region id ops draw =>
  intro hok T H K ρ a w h hst;simp only[fK,List.all_eq_true]at hok;cases draw with
  | false =>
   have:=aFl (w0:=w0) (ρ0:=ρ0) (n0:=n0) hcall hok (Q:=QC P w0 ρ0 n0 N K) (K:=λT' H'=>K .normal T' H') (λa w h=>h) ops.toList 0 (by simp) ρ _ H a w (hst.restr _) h
   exact wp_region (by simpa[List.range_eq_range'] using this)
  | true =>
   simp only[iH]at h
   split at h
   ·rename_i hd
    exact aEB hmix hcall hok hd (hst.restr _) h (λa w h=>h)
   ·exact h.elim
 | _=>intro _ T H K ρ a w h hst;exact h.elim
theorem aGd{ρ:Inj}{T:Env}{H:AH}{a:Act}{w:World}(hR:R P ρ w0 H w)(hT:lL ρ T a){r:ResultVar}{v:Value}(h:aM3 P T H r=some v):
  ∃ v',aL ρ v v'/\(match r with
   | .tmp t=>(pure (a.tmps.getD t undef):Sem Value)
   | .cell x t=>do loadVar t (<- asAddr (a.tmps.getD x undef))).run P w = .ok v' w:=by
 cases r with
 | tmp t =>
  simp only[aM3,Option.some.injEq]at h;subst h;exact⟨_,hT t,rfl⟩
 | cell x t =>
  simp only[aM3]at h
  have conv:∀ v',(Instr.loadAt t (a.tmps.getD x undef)).run P w = .ok v' w->(do loadVar t (<- asAddr (a.tmps.getD x undef)):Sem Value).run P w = .ok v' w:=by
   intro v' hv
   revert hv
   generalize a.tmps.getD x undef=p;intro hv;cases p with
   | pointer o =>
    cases o with
    | some A=>simpa[Instr.loadAt,Instr.sureAddr,asAddr] using hv
    | none=>simp[Instr.loadAt,Instr.sureAddr]at hv
   | _=>simp[Instr.loadAt,Instr.sureAddr]at hv
  split at h
  ·rename_i n h1 h2
   obtain⟨v',hr,hv⟩:=aAq hR h1 h2 h (hT x);exact⟨v',hr,conv v' hv⟩
  ·rename_i h1 h2
   obtain⟨v',hr,hv⟩:=aAg hR h1 h (hT x);exact⟨v',hr,conv v' hv⟩
  ·simp at h
theorem aEI{ρ:Inj}{T:Env}{H:AH}{a:Act}{w:World}(hR:R P ρ w0 H w)(hT:lL ρ T a)(f:ResultVar->Sem Value)(hf:∀ r,f r=match r with
   | .tmp t=>(pure (a.tmps.getD t undef):Sem Value)
   | .cell x t=>do loadVar t (<- asAddr (a.tmps.getD x undef))):∀ (rs:List ResultVar) (K:List Value->Prop),aBP P T H rs K->∃ vs vs',K vs/\bG ρ vs vs'/\(rs.mapM f).run P w = .ok vs' w:=by
 intro rs
 induction rs with
 | nil=>intro K h;exact⟨[],[],h,bG.nil,rfl⟩
 | cons r rs ih =>
  intro K h;obtain⟨v,hv,h⟩:=jN h;obtain⟨v',hr,hrun⟩:=aGd hR hT hv;obtain⟨vs,vs',hk,hl,hrun2⟩:=ih _ h;refine⟨v :: vs,v' :: vs',hk,bG.cons hr hl,?_⟩;rw[<- hf r]at hrun;simp[hrun,hrun2]
theorem aCw{ρ:Inj}{T:Env}{H:AH}{a:Act}{w:World}(hR:R P ρ w0 H w)(hT:lL ρ T a){fn:Func}{Q:Value->AH->Prop}(h:results P fn.results.toList T H Q):
  ∃ v v',Q v H/\aL ρ v v'/\(Go.results fn a.tmps).run P w = .ok v' w:=by
 obtain⟨vs,vs',hq,hl,hrun⟩:=aEI hR hT _ (λr=>rfl) _ _ h;refine⟨one vs,if h:vs'.toArray.size=1 then vs'.toArray[0] else .tuple vs'.toArray,hq,?_,?_⟩
 ·match vs,vs',hl with
  | [],vs',hl=>rw[hl.cases_nil];exact bG.nil.tuple
  | [x],vs',hl =>
   obtain⟨y,k,rfl,hxy,hk⟩:=hl.cases_cons;rw[hk.cases_nil];exact hxy
  | x :: y :: l,vs',hl =>
   obtain⟨x',k,rfl,_,hk⟩:=hl.cases_cons;obtain⟨y',k,rfl,_,_⟩:=hk.cases_cons
   simpa[one] using hl.tuple
 ·unfold Go.results
  rw[Array.mapM_eq_mapM_toList];simp only[map_eq_pure_bind,bind_assoc,pure_bind,Sem.run_bind]
  erw [hrun]
  rfl
def aHn(X:cJ):Prop:=∀ f args H (K K':Value->AH->Prop),(∀ v H',K v H'->K' v H')->X f args H K->X f args H K'
structure aOF(P:Program)(f:FuncId)(fn:Func):Prop where
 at_:P.funcs[f]? = some fn
 enters:fn.body.isNone=false
 name : (fn.name == "runtime.NumGoroutine") = false
 ok:fK P fn.ntmps (dF fn)=true
def lR(P:Program)(kps:FuncId->nA)(ext:cJ):cJ:=λf args H Q =>
 ∀ X:cJ,aHn X->(∀ f args H Q,(∃ fn,aOF P f fn/\qU P X (kps f) fn args H Q)\/ext f args H Q->X f args H Q)->X f args H Q
theorem sM.ok:jR P (sM P):=λ_ _ _ _ h=>h
theorem pR.mono{ρ:Inj}{n:Nat}{K K':Value->AH->Prop}{v':Value}{w':World}(hk:∀ v H,K v H->K' v H)(h:pR P ρ w0 n K v' w'):pR P ρ w0 n K' v' w':=by
 obtain⟨ρ',v,H',r1,r2,r3,r4,r5,r6⟩:=h;exact⟨ρ',v,H',r1,r2,r3,r4,r5,hk _ _ r6⟩
theorem sM.mono:aHn (sM P):=λ_ _ _ _ _ hk h=>h.imp (λh=>⟨h.1,λρ w0 w args' hR ha=>(h.2 ρ w0 w args' hR ha).mono λ_ _ ⟨v',e,hp⟩=>⟨v',e,hp.mono hk⟩⟩)
 λh ρ w0 w args' hR ha=>let ⟨v',w',h1,h2⟩:=h ρ w0 w args' hR ha; ⟨v',w',h1,h2.mono hk⟩
theorem aFZ{N':Nat}(hN:N<=N'):∀ c:Code,fK P N c=true->fK P N' c=true:=by
 intro c
 induction c with
 | region id ops d =>
  simp only[fK,List.all_eq_true];intro h o ho;have:=h o ho;simp only[pU,Bool.and_eq_true]at this ⊢;refine⟨this.1,?_⟩;have h2:=this.2;cases hd:o.dst with
  | none=>rfl
  | some d=>rw[hd]at h2;exact decide_eq_true (Nat.lt_of_lt_of_le (of_decide_eq_true h2) hN)
 | seq a b iha ihb=>simp only[fK,Bool.and_eq_true];exact λh=>⟨iha h.1,ihb h.2⟩
 | cond c a b iha ihb=>simp only[fK,Bool.and_eq_true];exact λh=>⟨⟨h.1.1,iha h.1.2⟩,ihb h.2⟩
 | block id c ih=>exact ih
 | loop c ih=>exact ih
 | scope c ih=>exact ih
 | _=>intro _;rfl
theorem aFF(hmix:P.follows .mixedOrders=true)(hcall:jR P call){f:FuncId}{fn:Func}(g:aOF P f fn){args:List Value}{H:AH}{Q:Value->AH->Prop}(h:qU P call kp fn args H Q):sM P f args H Q:=by
 refine .inl ⟨⟨fn,g.at_,g.enters,g.name⟩,λρ w0 w args' hR ha =>?_⟩;unfold qU at h
 split at h
 ·rename_i c hc
  have hok:fK P (max fn.ntmps args'.size) c=true:=aFZ (Nat.le_max_left _ _) _ (by have:=g.ok;unfold dF at this;rw[hc]at this;exact this)
  have hT:lL ρ (mD args) { tmps:=args'++Array.replicate (fn.ntmps - args'.size) undef,defers:=[] }:=by
   intro t;unfold mD;have hlen:args.length=args'.size:=by rw[ha.1];simp
   by_cases hlt:t<args.length
   ·have e1:args.getD t undef=args[t]:=by simp[List.getD_eq_getElem?_getD,hlt]
    have e2:(args'++Array.replicate (fn.ntmps - args'.size) undef).getD t undef=args'[t]'(by omega):=by
     rw[Array.getD_eq_getD_getElem?,Array.getElem?_append_left (by omega)]
     simp[show t<args'.size by omega]
    rw[e1,e2];exact ha.2 t _ _ (List.getElem?_eq_getElem hlt) (by simp[show t<args'.size by omega])
   ·have e1:args.getD t undef=undef:=by simp[List.getD_eq_getElem?_getD,List.getElem?_eq_none (show args.length<=t by omega)]
    rw[e1];exact .any _
  have hst:St P w0 ρ H.next (max fn.ntmps args'.size) ρ (mD args) H { tmps:=args'++Array.replicate (fn.ntmps - args'.size) undef,defers:=[] } w :=
   { le:=ρ.le_refl,hole:=λ_ _=>rfl,nn:=Nat.le_refl _,r:=hR,t:=hT,d:=rfl,s:=by simp only[Array.size_append,Array.size_replicate];omega }
  refine calls_of_wp g.at_ hc (wp_mono (aDV hmix hcall c hok _ _ _ ρ _ w h hst) ?_)
  have fin:∀ a' w',Nx P w0 ρ H.next (max fn.ntmps args'.size) (λT H=>results P fn.results.toList T H Q) a' w' ->
    a'.defers=[]/\∃ v,(Go.results fn a'.tmps).run P w' = .ok v w'/\∃ v',Ending.returned v = .returned v'/\pR P ρ w0 H.next Q v' w':=by
   rintro a' w' ⟨ρ',T',H',hst',hk⟩;obtain⟨v,v',hq,hr,hrun⟩:=aCw hst'.r hst'.t hk;exact⟨hst'.d,v',hrun,v',rfl,ρ',v,H',hst'.le,hst'.hole,hst'.nn,hst'.r,hr,hq⟩
  intro e a' w' hq;cases e with
  | normal=>exact fin a' w' hq
  | ret=>exact fin a' w' hq
  | exit id=>obtain⟨_,_,_,_,hk⟩:=hq;exact hk.elim
  | goto id=>obtain⟨_,_,_,_,hk⟩:=hq;exact hk.elim
  | _=>exact hq.elim
 ·exact h.elim
theorem aCn(hmix:P.follows .mixedOrders=true){kps:FuncId->nA}{ext:cJ}(hext:jR P ext){f:FuncId}{args:List Value}{H:AH}{Q:Value->AH->Prop}(h:lR P kps ext f args H Q):sM P f args H Q :=
 h (sM P) sM.mono λf args H Q h=>by
  rcases h with ⟨fn,g,hb⟩ | he
  ·exact aFF hmix sM.ok g hb
  ·exact hext _ _ _ _ he
end
end
section
section
variable {P:Program}{call call':cJ}{kp:nA}{T:Env}{H:AH}
def LeC(call call':cJ):Prop:=∀ f args H (K K':Value->AH->Prop),(∀ v H',K v H'->K' v H')->call f args H K->call' f args H K'
theorem jX{α:Type}{o:Option α}{K K':α->Prop}(h:∀ x,K x->K' x)(hh:opt o K):opt o K':=by
 obtain⟨x,e,hk⟩:=jN hh;rw[e];exact h _ hk
theorem qO{α β:Type}{o:Option (α×β)}{K K':α->β->Prop}(h:∀ x y,K x y->K' x y)(hh:gN o K):gN o K':=by
 obtain⟨x,y,e,hk⟩:=sQ hh;rw[e];exact h _ _ hk
theorem aDY{o:Option (cT×(Nat->Value))}{K K':Value->AH->Prop}(h:∀ x y,K x y->K' x y)(hh:AM.mk o H K):AM.mk o H K':=by
 obtain⟨x,y,e,hk⟩:=aB3 hh;rw[e];exact h _ _ hk
theorem yC{v:Value}{A A' B B':Prop}(ha:A->A')(hb:B->B')(h:ifB v A B):ifB v A' B':=by
 unfold ifB at *
 split at h<;>simp_all
set_option linter.unusedVariables false
theorem aEk(hc:LeC call call'){c:Call}{K K':Value->AH->Prop}(hk:∀ v H',K v H'->K' v H')(h:uM P call T c H K):uM P call' T c H K':=by
 unfold uM at h ⊢
 split at h
 ·rename_i e; (try simp only[e]);exact hc _ _ _ _ _ hk h
 ·rename_i f hf e
  have:fQ call' (ev T f) (c.args.toList.map (ev T)) H K':=by
   unfold fQ at h ⊢
   split at h
   ·rename_i e2; (try simp only[e2]);exact hc _ _ _ _ _ hk h
   ·exact h.elim
  cases f with
  | func g=>exact absurd rfl (hf g)
  | _=>(try simp only[e]);exact this
 ·rename_i e
  (try simp only[e])
  split at h
  ·rename_i e0 e1 e2 e3
   (try simp only[e0,e1,e2,e3])
   split at h
   ·rename_i z b zv g1 g2 g3
    (try simp only[g1,g2,g3])
    split at h
    ·rename_i g; (try simp only[g]);exact qO hk h
    ·exact h.elim
   ·exact h.elim
  ·rename_i e0 e1 e2 e3
   (try simp only[e0,e1,e2,e3])
   split at h
   ·rename_i z b zv g1 g2 g3
    (try simp only[g1,g2,g3])
    split at h
    ·rename_i g; (try simp only[g]);exact qO hk h
    ·exact h.elim
   ·exact h.elim
  ·exact h.elim
 ·rename_i e
  (try simp only[e])
  split at h
  ·rename_i e0 e1 e2
   (try simp only[e0,e1,e2])
   split at h
   ·rename_i g; (try simp only[g]);exact qO hk h
   ·exact h.elim
  ·exact h.elim
 ·rename_i e
  (try simp only[e])
  split at h
  ·rename_i e0 e1 e2
   (try simp only[e0,e1,e2])
   split at h
   ·rename_i g; (try simp only[g]);exact jX (λx=>hk _ x) h
   ·exact h.elim
  ·exact h.elim
 ·rename_i e
  (try simp only[e])
  split at h
  ·rename_i e0 e1
   (try simp only[e0,e1])
   split at h
   ·rename_i g; (try simp only[g]);exact jX (λx=>hk _ x) h
   ·exact h.elim
  ·exact h.elim
 ·exact h.elim
theorem aG4{it:Value}{K K':Value->AH->Prop}(hk:∀ v H',K v H'->K' v H')(h:xC it H K):xC it H K':=by
 unfold xC at h ⊢
 split at h
 ·split at h
  ·exact hk _ _ h
  ·split at h
   ·exact⟨h.1,λe he hn=>hk _ _ (h.2.1 e he hn),λho=>hk _ _ (h.2.2 ho)⟩
   ·exact h.elim
  ·exact h.elim
 ·exact h.elim
theorem aK9(hc:LeC call call'){op:Op}{K K':Value->AH->Prop}(hk:∀ v H',K v H'->K' v H')(h:evM P call T op H K):evM P call' T op H K':=by
 unfold evM at h ⊢
 split at h
 ·split at h
  ·rename_i e0 e1; (try simp only[e0,e1]);exact jX (λx=>hk _ x) h
  ·rename_i e0 e1; (try simp only[e0,e1]);exact jX (λx=>hk _ x) h
  ·exact h.elim
 ·split at h
  ·rename_i e0; (try simp only[e0])
   split at h
   ·rename_i e1; (try simp only[e1]);exact jX (λx=>hk _ x) h
   ·exact h.elim
  ·exact h.elim
 ·split at h
  ·rename_i e0; (try simp only[e0])
   split at h
   ·rename_i e1; (try simp only[e1]);exact jX (λx=>hk _ x) h
   ·exact h.elim
  ·exact h.elim
 ·split at h
  ·rename_i e0; (try simp only[e0])
   split at h
   ·rename_i e1 e2; (try simp only[e1,e2]);exact qO hk h
   ·exact h.elim
  ·exact h.elim
 ·exact jX (λx=>hk _ x) h
 ·split at h
  ·rename_i e0; (try simp only[e0]);exact aDY hk h
  ·rename_i e0; (try simp only[e0]);exact aDY hk h
  ·exact h.elim
 ·exact qO hk h
 ·exact aG4 hk h
 ·exact aEk hc hk h
 ·exact h.elim
theorem wQ(hc:LeC call call'){op:Op}{K K':Value->AH->Prop}(hk:∀ v H',K v H'->K' v H')(h:lP P call T op H K):lP P call' T op H K':=by
 unfold lP at h ⊢
 split at h
 ·rename_i e; (try simp only[e]);exact hk _ _ h
 ·rename_i e; (try simp only[e])
  split at h
  ·rename_i e; (try simp only[e]);exact jX (λx=>hk _ _) h
  ·rename_i e; (try simp only[e]);exact jX (λx=>hk _ _) h
  ·rename_i e; (try simp only[e]);exact aDY hk h
  ·rename_i e; (try simp only[e]);exact aK9 hc hk h
theorem pB(hc:LeC call call'){ops:List Oper}{o:Oper}{K K':Env->AH->Prop}(hk:∀ v H',K v H'->K' v H')(h:tO P call ops o T H K):tO P call' ops o T H K':=by
 unfold tO at h ⊢
 split at h
 ·rename_i e; (try simp only[e]);exact wQ hc (λ_ _=>hk _ _) h
 ·rename_i j want e
  (try simp only[e])
  unfold gd at h ⊢;generalize mV (sI ops T j)=sk at h ⊢;cases sk with
  | true=>exact hk _ _ h
  | false =>
   cases want with
   | true=>exact yC (wQ hc (λ_ _=>hk _ _)) (hk _ _) h
   | false=>exact yC (hk _ _) (wQ hc (λ_ _=>hk _ _)) h
theorem aG9(hc:LeC call call'){ops:List Oper}{K K':Env->AH->Prop}(hk:∀ v H',K v H'->K' v H'):∀ (l:List Oper) (T:Env) (H:AH),aC9 P call ops l T H K->aC9 P call' ops l T H K':=by
 intro l
 induction l with
 | nil=>intro T H h;exact hk _ _ h
 | cons o l ih=>intro T H h;exact pB hc (λT' H' h=>ih T' H' h) h
theorem aEs{B:Nat}{R R':Prop}(hr:R->R'):∀ ps:List (Nat×(AH->Prop)),pI B H R ps->pI B H R' ps:=by
 intro ps
 induction ps with
 | nil=>exact hr
 | cons p ps ih =>
  intro h;unfold pI at h ⊢
  split at h
  ·rename_i e; (try simp only[e]);exact ih h
  ·rename_i e; (try simp only[e]);exact⟨h.1,ih h.2⟩
theorem aFX(hc:LeC call call'){ops:List Oper}{K K':Env->AH->Prop}(hk:∀ v H',K v H'->K' v H'):∀ (l:List (Nat×Nat)) (ps:List (Nat×(AH->Prop))) (T:Env) (H:AH),jG P call ops l ps T H K->jG P call' ops l ps T H K':=by
 intro l
 induction l with
 | nil=>intro ps T H h;exact hk _ _ h
 | cons p l ih =>
  obtain⟨i,B⟩:=p;intro ps T H h;unfold jG at h ⊢
  split at h
  ·exact h.elim
  ·rename_i o e
   (try simp only[e])
   split at h
   ·rename_i e; (try simp only[e]);exact pB hc (λT' H' h=>ih _ T' H' h) h
   ·rename_i e; (try simp only[e]);exact pB hc (λT' H' h=>ih _ T' H' h) h
   ·rename_i e; (try simp only[e]);exact pB hc (λT' H' h=>ih _ T' H' h) h
   ·rename_i e; (try simp only[e]);exact pB hc (λT' H' h=>aEs (ih _ T' H') _ h) h
theorem aFY(hc:LeC call call'):∀ (c:Code) (T:Env) (H:AH) (K K':nJ->Env->AH->Prop),(∀ e T H,K e T H->K' e T H)->iH P call kp c T H K->iH P call' kp c T H K':=by
 intro c
 induction c with
 | seq a b iha ihb =>
  rintro T H K K' hk ⟨J,hb,ha⟩;refine⟨J,λT' H' hJ=>ihb _ _ _ _ hk (hb T' H' hJ),iha _ _ _ _ ?_ ha⟩;intro e T H h;cases e<;>first | exact h | exact hk _ _ _ h
 | cond c a b iha ihb=>intro T H K K' hk h;exact yC (iha _ _ _ _ hk) (ihb _ _ _ _ hk) h
 | block id c ih =>
  intro T H K K' hk h;refine ih _ _ _ _ ?_ h;intro e T H h;cases e with
  | exit id' =>
   simp only[aGD]at h ⊢
   split at h
   ·rename_i e; (try simp only[e]);exact hk _ _ _ h
   ·rename_i e; (try simp only[e]);exact hk _ _ _ h
  | _=>exact hk _ _ _ h
 | loop c ih =>
  intro T H K K' hk h X hX;refine h X λT H hB=>hX T H (ih _ _ _ _ ?_ hB);intro e T H h;cases e<;>first | exact h | exact hk _ _ _ h
 | scope c ih =>
  intro T H K K' hk h;refine ih _ _ _ _ ?_ h;intro e T H h;cases e<;>first | exact h.elim | exact hk _ _ _ h
 | region id ops d =>
  intro T H K K' hk h;cases d with
  | false=>exact aG9 hc (λT' H' h=>hk _ _ _ h) _ _ _ h
  | true =>
   simp only[iH]at h ⊢
   split at h
   ·rename_i e; (try simp only[e]);exact aFX hc (λT' H' h=>hk _ _ _ h) _ _ _ _ h
   ·exact h.elim
 | rangeFunc f ps a b=>intro T H K K' hk h;exact h.elim
 | refuse=>intro T H K K' hk h;exact h.elim
 | skip=>intro T H K K' hk h;exact hk _ _ _ h
 | label l=>intro T H K K' hk h;exact hk _ _ _ h
 | exit l=>intro T H K K' hk h;exact hk _ _ _ h
 | goto l=>intro T H K K' hk h;exact hk _ _ _ h
 | ret=>intro T H K K' hk h;exact hk _ _ _ h
theorem aF8{rs:List ResultVar}{K K':List Value->Prop}(hk:∀ vs,K vs->K' vs)(h:aBP P T H rs K):aBP P T H rs K':=by
 induction rs generalizing K K' with
 | nil=>exact hk _ h
 | cons r rs ih=>exact jX (λv h=>ih (λvs h=>hk _ h) h) h
theorem aEW(hc:LeC call call'){fn:Func}{args:List Value}{Q Q':Value->AH->Prop}(hq:∀ v H,Q v H->Q' v H)(h:qU P call kp fn args H Q):qU P call' kp fn args H Q':=by
 unfold qU at h ⊢
 split at h
 ·rename_i c e
  (try simp only[e])
  refine aFY hc c _ _ _ _ ?_ h;intro e T H h;cases e<;>first | exact h.elim | exact aF8 (λvs h=>hq _ _ h) h
 ·exact h.elim
theorem lR.mono{kps:FuncId->nA}{ext:cJ}:aHn (lR P kps ext):=λf args H K K' hk h X hX hcl=>hX _ _ _ _ _ hk (h X hX hcl)
theorem lR.fold{kps:FuncId->nA}{ext:cJ}{f:FuncId}{fn:Func}(g:aOF P f fn){args:List Value}{Q:Value->AH->Prop}(h:qU P (lR P kps ext) (kps f) fn args H Q):lR P kps ext f args H Q :=
 λX hX hcl=>hcl _ _ _ _ (.inl ⟨fn,g,aEW (λf args H K K' hk h=>hX _ _ _ _ _ hk (h X hX hcl)) (λ_ _ h=>h) h⟩)
theorem lR.ext{kps:FuncId->nA}{ext:cJ}{f:FuncId}{args:List Value}{Q:Value->AH->Prop}(h:ext f args H Q):lR P kps ext f args H Q :=
 λ_ _ hcl=>hcl _ _ _ _ (.inr h)
end
end
section
open Go.RowKit (Below)
section
variable {P:Program}
noncomputable def wY(w:World)(b:Nat):cT :=
 match w.heap[b]? with
 | some (.cells _ _ _) => .ro (λi=>match w.cell? ⟨b,i,none⟩ with
  | some v=>open Classical in if gM w.heap.size v then some v else none
  | none=>none)
 | some (.map es cl)=>open Classical in if ∀ e∈es.toList,gM w.heap.size e.key/\gM w.heap.size e.val then .map es.toList cl false else .dead
 | _ => .dead
noncomputable def sK(w:World):AH:={ next:=w.heap.size,raw:=wY w }
theorem aOe{w:World}(hg:P.globals.size<=w.heap.size):R P ⟨w.heap.size,λ_=>none⟩ w (sK w) w where
 size:=Nat.le_refl _
 glob:=hg
 nxt:=Nat.le_refl _
 below:=Below.refl _ _
 ro b hb:=by
  have hb:b<w.heap.size:=hb;have:(sK w).get b=wY w b:=by simp[AH.get,sK,hb]
  rw[this];unfold wY
  split
  ·intro i v hv
   simp only at hv
   split at hv
   ·rename_i u hu
    split at hv
    ·rename_i hc
     simp only[Option.some.injEq]at hv;subst hv;exact⟨hu,hc⟩
    ·simp at hv
   ·simp at hv
  ·rename_i es cl hh
   split
   ·rename_i hc
    exact⟨rfl,by rw[hh],hc⟩
   ·trivial
  ·trivial
 own b l h:=by simp at h
 inj b b' l l' h:=by simp at h
theorem aB5{w:World}:∀ {l:List Value},(∀ v∈l,gM w.heap.size v)->bG ⟨w.heap.size,λ_=>none⟩ l l
 | [],_=>bG.nil
 | v :: l,h=>bG.cons (h v (by simp)) (aB5 λx hx=>h x (by simp[hx]))
theorem entry{f:FuncId}(hent:aBt P f)(hmix:P.follows .mixedOrders=true){kps:FuncId->nA}{ext:cJ}(hext:jR P ext){args:Array Value}{w:World}(hg:P.globals.size<=w.heap.size)(hc:∀ v∈args.toList,gM w.heap.size v)(h:lR P kps ext f args.toList (sK w) (λv _=>v = .bool true)):Calls P f args w (λe w'=>e = .returned (.bool true)/\Below w.heap.size w w'):=by
 have ht:∀ ρ w0 w' args',R P ρ w0 (sK w) w'->bG ρ args.toList args'.toList->Calls P f args' w' (λe w''=>∃ v',e = .returned v'/\pR P ρ w0 (sK w).next (λv _=>v = .bool true) v' w''):=by
  rcases aCn hmix hext h with h | h
  ·exact h.2
  ·intro ρ w0 w' args' hR ha
   obtain⟨v',w'',h1,_⟩:=h ρ w0 w' args' hR ha;rw[mL hent]at h1;cases h1
 refine(ht _ _ _ args (aOe hg) (aB5 hc)).mono ?_;rintro e w' ⟨v',rfl,ρ',v,H',_,_,_,hR,hv,rfl⟩;have hb:=hR.below;exact⟨by rw[hv.flat rfl],hb⟩
end
open Go.WideShapes Go.ChangeShapes in
theorem aCq{H:Type}{enc:TypeId×Value->H}{P:Program}{f:Func}{s:ChangeSpec}{apart fresh handsOn again:Bool}{W W':World}{args:Array Value}{v:Value}{ds gs:List (DataW H)}{before pa pv:List MemPlace}(hW:DataW.Whole enc P f.params.toList s.vars apart W args.toList ds gs before)(hres:∀ (b:Nat) (sp:Nat->Bool) (hd:Bool),DataW.TrodAll enc P W' b sp hd f.resultTypes.toList (v.resultList f.resultTypes.size) (s.fn H (ds++gs)).results [])(hargs:∀ sp:Nat->Bool,(∀ p∈before,sp p.block=true)->DataW.TrodAll enc P W' 0 sp true f.params.toList args.toList (s.fn H (ds++gs)).args pa)(hvars:∀ sp:Nat->Bool,(∀ p∈before,sp p.block=true)->DataW.TrodVars enc P W' sp s.vars (s.fn H (ds++gs)).vars pv)(hps:before=pa++pv)(hb:Below W.heap.size W W')(hok:∀ (j:Nat) (t:TypeId) (r:Value),f.resultTypes[j]? = some t->(v.resultList f.resultTypes.size)[j]? = some r->Value.okWide P W' .any 0 t r):
  s.post enc P f apart fresh handsOn again W args v W':=by
 have hold:∀ p∈before,(λb=>decide (b<W.heap.size)) p.block=true:=λp hp=>by simpa using hW.lt p hp
 have hlt:∀ p∈before,p.block<W.heap.size:=λp hp=>hW.lt p hp;refine⟨ds,gs,before,[],pa,pv,hW,hres _ _ _,hargs _ hold,hvars _ hold,World.keptBut_mono (λp hp=>⟨hp,?_⟩) (hb.frame _),λ_ =>?_⟩
 ·rw[hps,List.mem_append]at hp
  exact Or.inr hp
 ·obtain⟨_,_,_,_,_,hz,hn⟩:=hW
  refine⟨hok,_,_,([]++pa)++pv,⟨[]++pa,pv,trodAll_append (hargs _ (λ_ _=>rfl)) (hres _ _ _),hvars _ (λ_ _=>rfl),rfl,?_,?_⟩,?_⟩
  ·intro b off hp
   have hin:MemPlace.cell b off∈before:=by rw[hps];simpa using hp
   rw[hb.frozen (p:=⟨b,off,none⟩) (hlt _ hin)];exact hz b off hin
  ·intro ha
   have:=hn ha;rw[hps]at this
   simpa using this
  ·intro p hp _
   rw[hps]
   simpa using hp
end
section
section
variable {P:Program}
theorem pY{f : FuncId}{fn : Func}{e : Array Value -> Sem Value}(hfn : P.funcs[f]? = some fn)(hb : fn.body.isNone = true)(hn : (fn.name == "runtime.NumGoroutine") = false)(hx : Extern.findNext fn = none)(he : Extern.find fn = some e)(args:Array Value)(w:World){v:Value}{w':World}(h:(e args).run P w = .ok v w'):(callFunc f args).run P w = .ok (.value v) w':=by
 unfold callFunc;simp only[Sem.run_bind,run_program,Result.andThen_ok,hfn,hb,hn,Bool.false_eq_true,if_false,if_true,run_mark,hx,he];simp[h]
theorem aBr{f : FuncId}{fn : Func}(hfn : P.funcs[f]? = some fn)(hb : fn.body.isNone = true)(hn : (fn.name == "runtime.NumGoroutine") = false)(hx : Extern.findNext fn = none)(he : Extern.find fn = some (Extern.Atomic.update (Op.intArith .add) .i64 true)){args:List Value}{H:AH}{K:Value->AH->Prop}(h:∃ x y,args=[x,y]/\mG x y H K):sM P f args H K:=by
 refine .inr λρ w0 w args' hR ha =>?_;obtain⟨x,y,rfl,h⟩:=h
 obtain⟨x',y',rfl,hx',hy'⟩:∃ x' y',args' = #[x',y']/\aL ρ x x'/\aL ρ y y':=by
  have hl:=ha.1;obtain⟨l⟩:=args'
  match l,hl with
  | [a,b],_=>exact⟨a,b,rfl,ha.2 0 _ _ rfl rfl,ha.2 1 _ _ rfl rfl⟩
 unfold mG at h
 split at h
 ·rename_i b o d
  obtain rfl:=hy'.flat rfl
  split at h
  ·rename_i c fx hg
   split at h
   ·rename_i n hc
    cases hx' with
    | ptr _ A' r =>
     have hlt:o<c.length:=(List.getElem?_eq_some_iff.1 hc).1;obtain⟨y0,hy0,hr0⟩:=hR.cell r (i:=0) (x := .int .i64 n) rfl (by simp only[Nat.add_zero];rw[hg];exact hc)
     obtain rfl:=hr0.flat rfl;rw[add_zero]at hy0;obtain⟨w',h1,h2⟩:=hR.stored r rfl hg 0 (vs:=[.int .i64 (IntKind.i64.wrap (n+d))]) (vs':=[.int .i64 (IntKind.i64.wrap (n+d))]) (by simp;omega) (bG.cons (.int _ _) bG.nil) (by rfl)
     simp only[Nat.add_zero]at h1;rw[aBE hlt]at h1;rw[add_zero]at h2;refine⟨.int .i64 (IntKind.i64.wrap (n+d)),w',pY hfn hb hn hx he _ _ ?_,ρ,.int .i64 (IntKind.i64.wrap (n+d)),H.put b (.cells (c.set o (.int .i64 (IntKind.i64.wrap (n+d)))) fx),ρ.le_refl,λ_ _=>rfl,Nat.le_refl _,h1,.int _ _,h⟩
     have hst:(store A' (.int .i64 (IntKind.i64.wrap (n+d))) .atomic).run P w = .ok () w':=by
      simp[storeCells,add_zero]at h2;simp[store,Sem.run,hy0]at h2 ⊢;exact h2
     change Sem.run P (do
      let a' <- asAddr (.pointer (some A'))
      let old <- Extern.Atomic.read (.int .i64) a'
      let new <- Op.intArith .add .i64 (<- asInt old) (<- asInt (.int .i64 d))
      store a' new .atomic
      pure (if true then new else old)) w=_
     simp[Extern.Atomic.read,asAddr,asInt,asIntOf,hy0,Op.intArith,hst,Result.andThen]
   ·exact h.elim
  ·exact h.elim
 ·exact h.elim
theorem aF7{f : FuncId}{fn : Func}{e : Array Value -> Sem Value}(hfn : P.funcs[f]? = some fn)(hb : fn.body.isNone = true)(hn : (fn.name == "runtime.NumGoroutine") = false)(hx : Extern.findNext fn = none)(he : Extern.find fn = some e){x y v:Value}(fx:flat x=true)(fy:flat y=true)(fv:∀ ρ:Inj,aL ρ v v)(hr:∀ w,(e #[x,y]).run P w = .ok v w){H:AH}{K:Value->AH->Prop}(h:K v H):sM P f [x,y] H K:=by
 refine .inr λρ w0 w args' hR ha =>?_
 obtain⟨x',y',rfl,hx',hy'⟩:∃ x' y',args' = #[x',y']/\aL ρ x x'/\aL ρ y y':=by
  have hl:=ha.1;obtain⟨l⟩:=args'
  match l,hl with
  | [a,b],_=>exact⟨a,b,rfl,ha.2 0 _ _ rfl rfl,ha.2 1 _ _ rfl rfl⟩
 obtain rfl:=hx'.flat fx;obtain rfl:=hy'.flat fy;exact⟨v,w,pY hfn hb hn hx he _ _ (hr w),ρ,v,H,ρ.le_refl,λ_ _=>rfl,Nat.le_refl _,hR,fv _,h⟩
theorem aA4{f : FuncId}{fn : Func}(hfn : P.funcs[f]? = some fn)(hb : fn.body.isNone = true)(hn : (fn.name == "runtime.NumGoroutine") = false)(hx : Extern.findNext fn = none)(he : Extern.find fn = some Extern.BytealgCount.count){args:List Value}{H:AH}{K:Value->AH->Prop}(h:∃ x y,args=[x,y]/\uS x y H K):sM P f args H K:=by
 obtain⟨x,y,rfl,h⟩:=h;unfold uS at h
 split at h
 ·exact aF7 hfn hb hn hx he rfl rfl (λ_ => .int _ _) (λw=>Lib.run_countString _ _ w) h
 ·exact h.elim
theorem aBs{f : FuncId}{fn : Func}(hfn : P.funcs[f]? = some fn)(hb : fn.body.isNone = true)(hn : (fn.name == "runtime.NumGoroutine") = false)(hx : Extern.findNext fn = none)(he : Extern.find fn = some Extern.BytealgIndexByte.indexByte){args:List Value}{H:AH}{K:Value->AH->Prop}(h:∃ x y,args=[x,y]/\uQ x y H K):sM P f args H K:=by
 obtain⟨x,y,rfl,h⟩:=h;unfold uQ at h
 split at h
 ·exact aF7 hfn hb hn hx he rfl rfl (λ_ => .int _ _) (λw=>Lib.run_indexByteString _ _ w) h
 ·exact h.elim
end
end
section
abbrev aHc:=nJ->Env->AH->Prop
abbrev Stk:=Nat->List Value->AH->Prop
def Stk.shift(S:Stk):Stk:=λn=>S (n+1)
def Stk.cons(X:List Value->AH->Prop)(S:Stk):Stk
 | 0=>X
 | n+1=>S n
def nth:List Value->Nat->Value
 | l,0=>l.headD undef
 | l,n+1=>nth l.tail n
def aDW:List Nat->List Value->Env
 | [],_=>λ_=>undef
 | k :: ks,l=>λn=>if n=k then l.headD undef else aDW ks l.tail n
def aZ(B:List Value->AH->(List Value->AH->Prop)->Prop)(l:List Value)(H:AH):Prop :=
 ∀ X:List Value->AH->Prop,(∀ l H,B l H X->X l H)->X l H
abbrev vT:=List (Nat×(Stk->Env->AH->Prop))
def vT.get:vT->Nat->Option (Stk->Env->AH->Prop)
 | [],_=>none
 | a :: l,p=>match a.1 == p with | true=>some a.2 | false=>vT.get l p
section
variable (P:Program)(call:cJ)(kp:nA)(pl:vT)
def evD:Code->Stk->Nat->Env->AH->aHc->Prop
 | .skip,_,_,T,H,K=>K .normal T H
 | .label _,_,_,T,H,K=>K .normal T H
 | .exit id,_,_,T,H,K=>K (.exit id) T H
 | .goto l,_,_,T,H,K=>K (.goto l) T H
 | .ret,_,_,T,H,K=>K .ret T H
 | .seq a b,S,p,T,H,K=>evD a S (2*p) T H (aJq (match pl.get (2*p+1) with | some J=>J S | none=>λT' H'=>evD b S (2*p+1) T' H' K) K)
 | .cond c a b,S,p,T,H,K=>ifB (ev T c) (evD a S (2*p) T H K) (evD b S (2*p+1) T H K)
 | .block id c,S,p,T,H,K=>evD c S (2*p) T H (aGD id K)
 | .loop c,S,p,T,H,_=>match pl.get p with
  | some B=>aZ (λl H X=>B (S.cons X) (aDW (kp.keep (eN c)) l) H) ((kp.keep (eN c)).map T) H
  | none=>False
 | .scope c,S,p,T,H,K=>evD c S (2*p) T H (aD9 K)
 | .region id ops false,_,_,T,H,K=>aC9 P call ops.toList ops.toList (restr (kp.keep id) T) H (λT' H'=>K .normal T' H')
 | .region id ops true,_,_,T,H,K =>
  match aDP P ops.toList (kp.order id) with
  | true=>jG P call ops.toList (kp.order id) [] (restr (kp.keep id) T) H (λT' H'=>K .normal T' H')
  | false=>False
 | _,_,_,_,_,_=>False
def aN4(b:Code)(p:Nat)(Kf:Stk->aHc):Stk->aHc:=λS=>aJq (match pl.get (2*p+1) with | some J=>J S | none=>λT' H'=>evD P call kp pl b S (2*p+1) T' H' (Kf S)) (Kf S)
def aDb(ks:List Nat)(Kf:Stk->aHc):Stk->aHc:=λS=>aJq (λT' H'=>S 0 (ks.map T') H') (Kf S.shift)
def lA:Code->Nat->(Stk->aHc)->List ((Stk->Env->AH->Prop)×(Stk->Env->AH->Prop))
 | .seq a b,p,Kf=>(match pl.get (2*p+1) with | some J=>[(J,λS T H=>evD P call kp pl b S (2*p+1) T H (Kf S))] | none=>[]) ++
   (lA a (2*p) (aN4 P call kp pl b p Kf)++lA b (2*p+1) Kf)
 | .cond _ a b,p,Kf=>lA a (2*p) Kf++lA b (2*p+1) Kf
 | .block id c,p,Kf=>lA c (2*p) (λS=>aGD id (Kf S))
 | .scope c,p,Kf=>lA c (2*p) (λS=>aD9 (Kf S))
 | .loop c,p,Kf=>(match pl.get p with | some B=>[(B,λS T H=>evD P call kp pl c S (2*p) T H (aDb (kp.keep (eN c)) Kf S))] | none=>[]) ++
   lA c (2*p) (aDb (kp.keep (eN c)) Kf)
 | _,_,_=>[]
end
section
variable {P:Program}{call:cJ}{kp:nA}{pl:vT}
theorem aBj(T:Env):∀ ks:List Nat,aDW ks (ks.map T)=restr ks T
 | []=>rfl
 | k :: ks=>by
  funext n
  have:=congrFun (aBj T ks) n;simp only[aDW,List.map_cons,List.headD_cons,List.tail_cons,restr,aMK]at this ⊢
  by_cases h:n=k
  ·subst h;simp
  ·simp only[h,if_false];exact this
theorem aJd:∀ (code:Code) (p:Nat) (Kf:Stk->aHc),(∀ pr∈lA P call kp pl code p Kf,pr.1=pr.2)->∀ S T H,evD P call kp pl code S p T H (Kf S)->iH P call kp code T H (Kf S):=by
 intro code
 induction code with
 | seq a b iha ihb =>
  intro p Kf ho S T H h;simp only[lA,List.mem_append]at ho;simp only[iH];refine⟨match pl.get (2*p+1) with | some J=>J S | none=>λT' H'=>evD P call kp pl b S (2*p+1) T' H' (Kf S),λT' H' hj =>?_,?_⟩
  ·apply ihb (2*p+1) Kf (λpr hp=>ho pr (.inr (.inr hp)))
   cases hg:pl.get (2*p+1) with
   | none=>rw[hg]at hj;exact hj
   | some J =>
    rw[hg]at hj;have:=ho (J,λS T H=>evD P call kp pl b S (2*p+1) T H (Kf S)) (.inl (by rw[hg];simp))
    have e:=congrFun (congrFun (congrFun this S) T') H';simp only at e;rw[<- e];exact hj
  ·exact iha (2*p) (aN4 P call kp pl b p Kf) (λpr hp=>ho pr (.inr (.inl hp))) S T H h
 | cond c a b iha ihb =>
  intro p Kf ho S T H h;simp only[lA,List.mem_append]at ho;simp only[iH];simp only[evD]at h;exact yC (iha _ _ (λpr hp=>ho pr (.inl hp)) S T H) (ihb _ _ (λpr hp=>ho pr (.inr hp)) S T H) h
 | block id c ih =>
  intro p Kf ho S T H h;exact ih (2*p) (λS=>aGD id (Kf S)) ho S T H h
 | scope c ih =>
  intro p Kf ho S T H h;exact ih (2*p) (λS=>aD9 (Kf S)) ho S T H h
 | loop c ih =>
  intro p Kf ho S T H h;simp only[lA,List.mem_append]at ho;simp only[evD]at h;simp only[iH];cases hg:pl.get p with
  | none=>rw[hg]at h;exact h.elim
  | some B =>
   rw[hg]at h;simp only at h;intro X hX;have hB:=ho (B,λS T H=>evD P call kp pl c S (2*p) T H (aDb (kp.keep (eN c)) Kf S)) (.inl (by rw[hg];simp))
   have:=h (λl H=>X (aDW (kp.keep (eN c)) l) H) (λl H hb=>by
    apply hX;have e:=congrFun (congrFun (congrFun hB (S.cons λl H=>X (aDW (kp.keep (eN c)) l) H)) (aDW (kp.keep (eN c)) l)) H;have:=ih (2*p) (aDb (kp.keep (eN c)) Kf) (λpr hp=>ho pr (.inr hp)) _ _ _ (Eq.mp e hb)
    have k:aDb (kp.keep (eN c)) Kf (S.cons λl H=>X (aDW (kp.keep (eN c)) l) H)=aJq (λT' H'=>X (restr (kp.keep (eN c)) T') H') (Kf S):=by
     unfold aDb
     have:(λ(T':Env) (H':AH)=>S.cons (λl H=>X (aDW (kp.keep (eN c)) l) H) 0 (List.map T' (kp.keep (eN c))) H')=λT' H'=>X (restr (kp.keep (eN c)) T') H':=by
      funext T' H'; simp only[Stk.cons,aBj]
     rw[this];rfl
    rw[k]at this;exact this)
   rw[aBj]at this;exact this
 | region id ops d =>
  intro p Kf ho S T H h;cases d<;>exact h
 | _=>intro p Kf ho S T H h;exact h
theorem aAj{α:Type}:∀ {l:List (α×α)},l.map (·.1)=l.map (·.2)->∀ p∈l,p.1=p.2
 | [],_=>by simp
 | a :: l,h=>by
  simp only[List.map_cons,List.cons.injEq]at h;intro p hp;rcases List.mem_cons.1 hp with rfl | hp
  ·exact h.1
  ·exact aAj h.2 p hp
def vO:Stk:=λ_ _ _=>False
theorem aIW(fn:Func)(args:List Value)(H:AH)(Q:Value->AH->Prop)(code:Code)(hc:fn.body=some code){G:Prop}(ho:(lA P call kp pl code 1 (λ_=>gG P fn.results.toList Q)).map (·.1)=(lA P call kp pl code 1 (λ_=>gG P fn.results.toList Q)).map (·.2))(hg:G=evD P call kp pl code vO 1 (mD args) H (gG P fn.results.toList Q))(h:G):qU P call kp fn args H Q:=by
 unfold qU;rw[hc];exact aJd code 1 (λ_=>gG P fn.results.toList Q) (aAj ho) vO _ _ (hg▸h)
end
end
section
section
variable {B:List Value->AH->(List Value->AH->Prop)->Prop}{l:List Value}{H:AH}
theorem aZ.ind(I:Nat->List Value->AH->Prop)(h:∀ n l H (X:List Value->AH->Prop),(∀ m,m<n->∀ l' H',I m l' H'->X l' H')->I n l H->B l H X)(n:Nat)(h0:I n l H):aZ B l H:=by
 intro X hX
 have key:∀ n l H,I n l H->X l H:=by
  intro n
  induction n using Nat.strongRecOn with
  | _ n ih =>
   intro l H hI;exact hX l H (h n l H X (λm hm l' H' hI'=>ih m hm _ _ hI') hI)
 exact key n _ _ h0
theorem aZ.count(n:Nat)(I:Nat->List Value->AH->Prop)(h:∀ i l H (X:List Value->AH->Prop),i<=n->(i<n->∀ l' H',I (i+1) l' H'->X l' H')->I i l H->B l H X)(h0:I 0 l H):aZ B l H:=by
 refine aZ.ind (λm l H=>∃ i,i<=n/\m=n - i/\I i l H) ?_ n ⟨0,by omega,by omega,h0⟩
 rintro m l H X hX ⟨i,hi,rfl,hI⟩;exact h i l H X hi (λhlt l' H' hI'=>hX (n - (i+1)) (by omega) l' H' ⟨i+1,by omega,rfl,hI'⟩) hI
theorem aZ.step(h:∀ X:List Value->AH->Prop,(∀ l H,aZ B l H->X l H)->B l H X):aZ B l H:=by
 intro X hX;exact hX _ _ (h X λl H hl=>hl X hX)
end
@[congr] theorem aPf{v v':Value}{A B:Prop}(h:v=v'):ifB v A B=ifB v' A B:=by rw[h]
@[congr] theorem aO5{α:Type}{o o':Option α}{K:α->Prop}(h:o=o'):opt o K=opt o' K:=by rw[h]
@[congr] theorem aPX{o o':Option (cT×(Nat->Value))}{H:AH}{K:Value->AH->Prop}(h:o=o'):AM.mk o H K=AM.mk o' H K:=by rw[h]
@[congr] theorem aNY{c:cJ}{f f':Value}{a a':List Value}{H H':AH}{K:Value->AH->Prop}(h1:f=f')(h2:a=a')(h3:H=H'):fQ c f a H K=fQ c f' a' H' K:=by rw[h1,h2,h3]
@[congr] theorem aPW{v v':Value}{b:Bool}{m:(Value->AH->Prop)->Prop}{H:AH}{K:Value->AH->Prop}(h:v=v'):gd v b m H K=gd v' b m H K:=by rw[h]
def zs(n:Nat)(v:Value):List Value:=List.replicate n v
@[simp] theorem aO7(n:Nat)(v:Value):(zs n v).length=n:=List.length_replicate
@[simp] theorem aNB(n i:Nat)(v:Value):(zs n v).drop i=zs (n - i) v:=List.drop_replicate
@[simp] theorem aMJ(v:Value):zs 0 v=[]:=rfl
abbrev ptr(b off:Nat):Value := .pointer (some ⟨b,off,none⟩)
abbrev slc(b off n c:Nat):Value := .slice (some ⟨b,off,none⟩) n c
abbrev vi(n:Int):Value := .int .i64 n
abbrev vb(b:Bool):Value := .bool b
abbrev vs(s:ByteArray):Value := .string s
abbrev bY:Value := .slice none 0 0
def u8(x:BitVec 8):Value := .int .u8 (x.toNat:Int)
def u16(x:BitVec 16):Value := .int .u16 (x.toNat:Int)
def u32(x:BitVec 32):Value := .int .u32 (x.toNat:Int)
def u64(x:BitVec 64):Value := .int .u64 (x.toNat:Int)
@[simp] theorem sH(v:Value)(l:List Value):nth (v :: l) 0=v:=rfl
@[simp] theorem aQD(v:Value)(l:List Value)(n:Nat):nth (v :: l) (n+1)=nth l n:=rfl
@[simp] theorem sA(a b:Value)(l:List Value):nth (a :: b :: l) 1=b:=rfl
@[simp] theorem sF(a b c:Value)(l:List Value):nth (a :: b :: c :: l) 2=c:=rfl
@[simp] theorem sG(a b c d:Value)(l:List Value):nth (a :: b :: c :: d :: l) 3=d:=rfl
@[simp] theorem vD(a b c d e:Value)(l:List Value):nth (a :: b :: c :: d :: e :: l) 4=e:=rfl
@[simp] theorem aCe(a b c d e f:Value)(l:List Value):nth (a :: b :: c :: d :: e :: f :: l) 5=f:=rfl
@[simp] theorem aDr(a b c d e f g:Value)(l:List Value):nth (a :: b :: c :: d :: e :: f :: g :: l) 6=g:=rfl
@[simp] theorem aHx(a b c d e f g h:Value)(l:List Value):nth (a :: b :: c :: d :: e :: f :: g :: h :: l) 7=h:=rfl
@[simp] theorem aKU(a b c d e f g h i:Value)(l:List Value):nth (a :: b :: c :: d :: e :: f :: g :: h :: i :: l) 8=i:=rfl
@[simp] theorem aKO(a b c d e f g h i j:Value)(l:List Value):nth (a :: b :: c :: d :: e :: f :: g :: h :: i :: j :: l) 9=j:=rfl
@[simp] theorem aK4(a b c d e f g h i j k:Value)(l:List Value):nth (a :: b :: c :: d :: e :: f :: g :: h :: i :: j :: k :: l) 10=k:=rfl
@[simp] theorem aOD(a b c d e f g h i j k m:Value)(l:List Value):nth (a :: b :: c :: d :: e :: f :: g :: h :: i :: j :: k :: m :: l) 11=m:=rfl
@[simp] theorem aOJ(a b c d e f g h i j k m n:Value)(l:List Value):nth (a :: b :: c :: d :: e :: f :: g :: h :: i :: j :: k :: m :: n :: l) 12=n:=rfl
@[simp] theorem aOE(a b c d e f g h i j k m n o:Value)(l:List Value):nth (a :: b :: c :: d :: e :: f :: g :: h :: i :: j :: k :: m :: n :: o :: l) 13=o:=rfl
@[simp] theorem aO0(a b c d e f g h i j k m n o p:Value)(l:List Value):nth (a :: b :: c :: d :: e :: f :: g :: h :: i :: j :: k :: m :: n :: o :: p :: l) 14=p:=rfl
@[simp] theorem aOq(a b c d e f g h i j k m n o p q:Value)(l:List Value):nth (a :: b :: c :: d :: e :: f :: g :: h :: i :: j :: k :: m :: n :: o :: p :: q :: l) 15=q:=rfl
@[simp] theorem aQw(a b c d e f g h i j k m n o p q r:Value)(l:List Value):nth (a :: b :: c :: d :: e :: f :: g :: h :: i :: j :: k :: m :: n :: o :: p :: q :: r :: l) 16=r:=rfl
@[simp] theorem aQp(a b c d e f g h i j k m n o p q r s:Value)(l:List Value):nth (a :: b :: c :: d :: e :: f :: g :: h :: i :: j :: k :: m :: n :: o :: p :: q :: r :: s :: l) 17=s:=rfl
@[simp] theorem aQs(a b c d e f g h i j k m n o p q r s t:Value)(l:List Value):nth (a :: b :: c :: d :: e :: f :: g :: h :: i :: j :: k :: m :: n :: o :: p :: q :: r :: s :: t :: l) 18=t:=rfl
@[simp] theorem aQv(a b c d e f g h i j k m n o p q r s t u:Value)(l:List Value):nth (a :: b :: c :: d :: e :: f :: g :: h :: i :: j :: k :: m :: n :: o :: p :: q :: r :: s :: t :: u :: l) 19=u:=rfl
@[simp] theorem aQC(a:Value)(l:List Value)(n:Nat):nth (a :: l) (OfNat.ofNat (n+1))=nth l n:=rfl
theorem zG{a b:Prop}(h:a=b):a=b:=Eq.trans h rfl
@[simp] theorem aP{α:Type}(x:α)(K:α->Prop):opt (some x) K=K x:=zG rfl
@[simp] theorem nZ{α β:Type}(x:α)(y:β)(K:α->β->Prop):gN (some (x,y)) K=K x y:=zG rfl
@[simp] theorem aQ(o:cT)(m:Nat->Value)(H:AH)(K:Value->AH->Prop):AM.mk (some (o,m)) H K=K (m H.next) (H.new o):=zG rfl
theorem uA{p:Prop}[Decidable p](A B:Prop):ifB (.bool (decide p)) A B=if p then A else B:=by by_cases h:p<;>simp[h,ifB]
theorem dO{p:Prop}[Decidable p]{A B:Prop}(h1:p->A)(h2:¬p->B):ifB (.bool (decide p)) A B:=by rw[uA];split<;>simp_all
@[simp] theorem oO(A B:Prop):ifB (.bool true) A B=A:=zG rfl
@[simp] theorem kY(A B:Prop):ifB (.bool false) A B=B:=zG rfl
@[simp] theorem aL7(m:(Value->AH->Prop)->Prop)(H:AH)(K:Value->AH->Prop):gd (.bool true) true m H K=m K:=zG rfl
@[simp] theorem aPR(m:(Value->AH->Prop)->Prop)(H:AH)(K:Value->AH->Prop):gd (.bool true) false m H K=K oX H:=zG rfl
@[simp] theorem aLl(m:(Value->AH->Prop)->Prop)(H:AH)(K:Value->AH->Prop):gd (.bool false) true m H K=K oX H:=zG rfl
@[simp] theorem aPV(m:(Value->AH->Prop)->Prop)(H:AH)(K:Value->AH->Prop):gd (.bool false) false m H K=m K:=zG rfl
@[simp] theorem aW(cs:List Value)(H:AH)(K:Value->AH->Prop):bI cs H K=K (ptr H.next 0) (H.new (.cells cs none)):=zG rfl
@[simp] theorem aQh(H:AH)(K:Value->AH->Prop):pD H K=K (.map (some H.next)) (H.new (.map [] 0 true)):=zG rfl
@[simp] theorem aKp(b:Nat):oP b=ptr b 0:=rfl
@[simp] theorem cL(n c b:Nat):fC n c b=slc b 0 n c:=rfl
attribute [simp] AH.next_put AH.next_new AH.get_new_self
@[simp] theorem AH.get_new_lt(H:AH)(o:cT){x:Nat}(h:x<H.next):(H.new o).get x=H.get x:=AH.get_new_ne H o (Nat.ne_of_lt h)
@[simp] theorem AH.get_put_s(H:AH){b:Nat}(o:cT)(h:b<H.next):(H.put b o).get b=o:=AH.get_put_self H o h
@[simp] theorem rS(b o n:Nat):aB (ptr b o) n=some (ptr b (o+n)):=by
 simp only[aB,ptr,Addr.add]
 by_cases h:n=0
 ·subst h;simp
 ·simp[h]
@[simp] theorem eM(b o:Nat)(H:AH):aD (ptr b o) H=(H.get b).cell o:=by simp[aD]
@[simp] theorem aJ(n b o:Nat)(H:AH):aE n (ptr b o) H=((H.get b).row o n).map λl => .agg l.toArray:=by simp[aE]
@[simp] theorem aGT(c:List Value)(f:Option Nat)(i:Nat):(cT.cells c f).cell i=c[i]? :=rfl
@[simp] theorem kR(c:List Value)(f:Option Nat)(i n:Nat):(cT.cells c f).row i n=if i+n<=c.length then some ((c.drop i).take n) else none:=rfl
@[simp] theorem aKG(a:Array Value):eQ (.agg a)=some (.cells a.toList none,oP):=rfl
@[simp] theorem eK(b o:Nat)(v:Value)(H:AH):bD (ptr b o) v H=if plain1 v=true then(match H.get b with
   | .cells c fx=>if o<c.length then some (H.put b (.cells (c.set o v) fx)) else none
   | _=>none) else none:=by
 simp only[bD,Option.isSome_none,Bool.false_or];cases h:plain1 v<;>simp
 cases H.get b<;>rfl
@[simp] theorem cM(n b o:Nat)(a:Array Value)(H:AH):aH n (ptr b o) (.agg a) H=(match H.get b with
   | .cells c fx=>if a.size=n/\o+n<=c.length/\a.toList.all plain1 then some (H.put b (.cells (aT c o a.toList) fx)) else none
   | _=>none):=by
 simp only[aH,Option.isSome_none,Bool.false_eq_true,if_false];cases H.get b<;>rfl
theorem AH.ext'{H H':AH}(h1:H.next=H'.next)(h2:H.raw=H'.raw):H=H':=by cases H;cases H'; simp_all
@[simp] theorem AH.new_put(H:AH)(o o':cT):(H.new o).put H.next o'=H.new o':=by
 refine AH.ext' (Eq.refl (H.next+1)) ?_
 funext x
 simp only[AH.put,AH.new]
 split<;>rfl
theorem AH.new_put_eq(H:AH)(o o':cT){b:Nat}(h:b=H.next):(H.new o).put b o'=H.new o':=by subst h;exact AH.new_put H o o'
theorem AH.new_put_ne(H:AH)(o o':cT){b:Nat}(h:b≠H.next):(H.new o).put b o'=(H.put b o').new o:=by
 refine AH.ext' (Eq.refl (H.next+1)) ?_
 funext x
 simp only[AH.put,AH.new]
 by_cases h1:x=b
 ·subst h1;simp[h]
 ·simp[h1]
@[simp] theorem AH.new_put_if(H:AH)(o o':cT)(b:Nat):(H.new o).put b o'=if b=H.next then H.new o' else(H.put b o').new o:=by
 by_cases h:b=H.next
 ·rw[if_pos h];exact AH.new_put_eq _ _ _ h
 ·rw[if_neg h];exact AH.new_put_ne _ _ _ h
@[simp] theorem AH.put_put(H:AH)(o o':cT)(b:Nat):(H.put b o).put b o'=H.put b o':=by
 refine AH.ext' (Eq.refl H.next) ?_
 funext x
 simp only[AH.put]
 split<;>rfl
theorem AH.put_get(H:AH){b:Nat}(h:b<H.next):H.put b (H.get b)=H:=by
 refine AH.ext' (Eq.refl H.next) ?_
 funext x
 simp only[AH.put,AH.get,if_pos h]
 split
 ·rename_i e;rw[e]
 ·rfl
@[simp] theorem aO3(o:Option Addr)(n c:Nat):lenSlc (.slice o n c)=some (.int .i64 n):=rfl
@[simp] theorem aOR(s:ByteArray):fV (.string s)=some (.int .i64 s.size):=rfl
@[simp] theorem uC(sz b o n c:Nat)(i:Nat)(h:i<n):aI sz (slc b o n c) (vi i)=some (ptr b (o+i*sz)):=by
 simp only[aI];have:(0:Int)<=i/\(i:Int)<n:=by omega
 rw[if_pos this];simp only[Int.toNat_natCast,Addr.add]
 by_cases hz:i*sz=0
 ·simp[hz]
 ·simp[hz]
theorem zX(len sz b o i:Nat)(j:Int)(hj:j=(i:Int))(h:i<len):oQ len sz (ptr b o) (vi j)=some (ptr b (o+i*sz)):=by
 subst hj;simp only[oQ];have:(0:Int)<=i/\(i:Int)<len:=by omega
 rw[if_pos this];simp only[Int.toNat_natCast,Addr.add]
 by_cases hz:i*sz=0
 ·simp[hz]
 ·simp[hz]
@[simp] theorem aDs(len sz b o i:Nat)(h:i<len):oQ len sz (ptr b o) (vi (i:Int))=some (ptr b (o+i*sz)):=zX len sz b o i _ rfl h
@[simp] theorem aI0(a:Array Value)(i:Nat):aER (.agg a) i=a[i]? :=rfl
@[simp] theorem aPq(a:Array Value)(i n:Nat):aFW (.agg a) i n=some (.agg (a.extract i (i+n))):=rfl
@[simp] theorem nX(a b:Value)(l:List Value)(i:Nat):ext (.tuple (a :: b :: l).toArray) i=(a :: b :: l)[i]? :=by
 have:mV (.tuple (a :: b :: l).toArray)=false:=by cases a<;>rfl
 simp[ext,this]
@[simp] theorem aPO(b:Bool)(i:Nat):ext (.tuple #[.bool b]) i=[Value.bool b][i]? :=by
 have:mV (.tuple #[.bool b])=false:=rfl;simp[ext,this]
@[simp] theorem aDS(want:Bool)(m:(Value->AH->Prop)->Prop)(H:AH)(K:Value->AH->Prop):gd oX want m H K=K oX H:=zG rfl
@[simp] theorem aPw(want:Bool)(c:Prop):gdC oX want c=True:=rfl
@[simp] theorem aMe(b:Bool):un .not (.bool b)=some (.bool !b):=rfl
@[simp] theorem aPi(x y:Value):pick (.bool true) x y=some x:=rfl
@[simp] theorem aBY(x y:Value):pick (.bool false) x y=some y:=rfl
@[simp] theorem aN7(a b:Bool):uJ .eql (.bool a) (.bool b)=some (.bool (a == b)):=rfl
@[simp] theorem aNZ(a b:Bool):uJ .neq (.bool a) (.bool b)=some (.bool !(a == b)):=rfl
theorem fA(k j:IntKind)(n:Int):aS k (.int j n)=some (.int k (k.wrap n)):=rfl
section ints
variable (k:IntKind)(a b:Int)
theorem qT:aA .add (.int k a) (.int k b)=some (.int k (k.wrap (a+b))):=by simp[aA]
theorem aCm:aA .sub (.int k a) (.int k b)=some (.int k (k.wrap (a - b))):=by simp[aA]
theorem aBi:aA .mul (.int k a) (.int k b)=some (.int k (k.wrap (a*b))):=by simp[aA]
theorem vU:aA .and (.int k a) (.int k b)=some (.int k (k.wrap (BitVec.ofInt k.bits a&&&BitVec.ofInt k.bits b).toNat)):=by simp[aA]
theorem zJ:aA .or (.int k a) (.int k b)=some (.int k (k.wrap (BitVec.ofInt k.bits a|||BitVec.ofInt k.bits b).toNat)):=by simp[aA]
theorem aGE:aA .xor (.int k a) (.int k b)=some (.int k (k.wrap (BitVec.ofInt k.bits a ^^^ BitVec.ofInt k.bits b).toNat)):=by simp[aA]
theorem pW:aA .andNot (.int k a) (.int k b)=some (.int k (k.wrap (BitVec.ofInt k.bits a &&& ~~~(BitVec.ofInt k.bits b)).toNat)):=by simp[aA]
theorem aA3(h:b≠0):aA .quo (.int k a) (.int k b)=some (.int k (k.wrap (a.tdiv b))):=by simp[aA,h]
theorem vW(h:b≠0):aA .rem (.int k a) (.int k b)=some (.int k (a.tmod b)):=by simp[aA,h]
theorem pA:aA .eql (.int k a) (.int k b)=some (.bool (decide (a=b))):=by simp[aA];rfl
theorem kO:aA .neq (.int k a) (.int k b)=some (.bool (decide (a≠b))):=by
 simp[aA]
 by_cases h:a=b<;>simp[h]
theorem lU:aA .lss (.int k a) (.int k b)=some (.bool (decide (a<b))):=by simp[aA]
theorem wE:aA .leq (.int k a) (.int k b)=some (.bool (decide (a<=b))):=by simp[aA]
theorem lS:aA .gtr (.int k a) (.int k b)=some (.bool (decide (b<a))):=by simp[aA]
theorem wV:aA .geq (.int k a) (.int k b)=some (.bool (decide (b<=a))):=by simp[aA]
end ints
theorem mS{n:Int}(h : -9223372036854775808<=n)(h':n<9223372036854775808):IntKind.i64.wrap n=n:=by
 simp only[IntKind.wrap,IntKind.bits,IntKind.signed,Bool.true_and]
 split<;>simp at *<;>omega
theorem eB{a b:Int}(h : -9223372036854775808<=a+b)(h':a+b<9223372036854775808):aA .add (vi a) (vi b)=some (vi (a+b)):=by rw[qT,mS h h']
theorem iF{a b:Int}(h : -9223372036854775808<=a - b)(h':a - b<9223372036854775808):aA .sub (vi a) (vi b)=some (vi (a - b)):=by rw[aCm,mS h h']
theorem kD{a b:Int}(h : -9223372036854775808<=a*b)(h':a*b<9223372036854775808):aA .mul (vi a) (vi b)=some (vi (a*b)):=by rw[aBi,mS h h']
theorem bE{i:Nat}(h:i<9223372036854775807):aA .add (vi i) (vi 1)=some (vi ((i+1:Nat):Int)):=by
 rw[eB (by omega) (by omega)];simp
section unsigned
variable {w:Nat}
theorem lH(k:IntKind)(hk:k.signed=false)(x:BitVec k.bits):k.wrap (x.toNat:Int)=(x.toNat:Int):=by
 simp only[IntKind.wrap,hk,Bool.false_and,Bool.false_eq_true,if_false];have:=x.isLt;apply Int.emod_eq_of_lt
 ·omega
 ·exact_mod_cast this
theorem eX(k:IntKind)(hk:k.signed=false)(z:Int):k.wrap z=((BitVec.ofInt k.bits z).toNat:Int):=by
 simp only[IntKind.wrap,hk,Bool.false_and,Bool.false_eq_true,if_false]
 have hp:((2 ^ k.bits:Nat):Int)≠0:=by
  have:=Nat.two_pow_pos k.bits;omega
 rw[BitVec.toNat_ofInt,Int.toNat_of_nonneg (Int.emod_nonneg _ hp)];simp
end unsigned
end
section
def aA0(b o:Nat)(K:Value->AH->Prop)(H:AH):Prop :=
 match H.get b with
 | .cells c fx=>(c[o]?).isSome=true/\c[o+1]? = some (.int .i32 1)/\K (.tuple #[]) (H.put b (.cells ((c.set o (.int .u32 1)).set (o+1) (.int .i32 0)) fx))
 | _=>False
def aBz(g:FuncId)(call:cJ)(x y:Value)(H:AH)(K:Value->AH->Prop):Prop :=
 ∃ b o r c fx d s,x = .pointer (some ⟨b,o,none⟩)/\y = .func (.func g) ⟨[r]⟩ ⟨[]⟩/\H.get b = .cells c fx/\c[o]? = some (.int .u32 d)/\c[o+1]? = some (.int .i32 s) /\
  ((d≠0/\K (.tuple #[]) H)\/(d=0/\s=0/\call g [r] (H.put b (.cells (c.set (o+1) (.int .i32 1)) fx)) λ_ H'=>aA0 b o K H'))
theorem aFR{g:FuncId}{call call':cJ}(hc:∀ f args H K,call f args H K->call' f args H K){x y:Value}{H:AH}{K:Value->AH->Prop}(h:aBz g call x y H K):aBz g call' x y H K:=by
 obtain⟨b,o,r,c,fx,d,s,h1,h2,h3,h4,h5,h6⟩:=h;exact⟨b,o,r,c,fx,d,s,h1,h2,h3,h4,h5,h6.imp id λh=>⟨h.1,h.2.1,hc _ _ _ _ h.2.2⟩⟩
section
variable {P:Program}{ρ:Inj}{w0 w:World}{H:AH}
theorem R.setc(hR:R P ρ w0 H w){b:Nat}{l:Loc}(hl:ρ.loc b=some l){c:List Value}{fx:Option Nat}(hg:H.get b = .cells c fx){o:Nat}(ho:o<c.length){x:Value}(hx:aL ρ x x):
  w.frozen? ⟨l.block,l.shift+o,none⟩=false/\(∃ y,w.cell? ⟨l.block,l.shift+o,none⟩=some y/\aL ρ (c[o]'ho) y)/\R P ρ w0 (H.put b (.cells (c.set o x) fx)) (w.setCell ⟨l.block,l.shift+o,none⟩ x):=by
 obtain⟨_,_,hbl,hbw,hob⟩:=hR.own _ _ hl;rw[hg]at hob;obtain⟨hfx,C,e,fr,hC,hsz,hle,hfr,hcell⟩:=hob;refine⟨?_,?_,?_⟩
 ·unfold World.frozen?
  obtain⟨lo,hi⟩:=fr;simp only[hC];have:=hfr (l.shift+o) (by omega)
  simp only at this
  by_cases h1:lo<=l.shift+o
  ·have h2:¬ l.shift+o<hi:=λh=>this ⟨h1,h⟩
   simp[h1,h2]
  ·simp[h1]
 ·obtain⟨y,hy,hr⟩:=hcell o _ (List.getElem?_eq_getElem ho)
  refine⟨y,?_,hr⟩;unfold World.cell?;simp only[hC];exact hy
 ·rw[aAv hC]
  refine hR.wrote hl (by rw[hg];simp) _ (.cells (C.setIfInBounds (l.shift+o) x) e fr) ⟨hfx,_,e,fr,rfl,?_,?_,hfr,?_⟩
  ·rw[Array.size_setIfInBounds];exact hsz
  ·rw[List.length_set];exact hle
  ·intro i v hv
   rw[List.getElem?_set]at hv;rw[Array.getElem?_setIfInBounds]
   by_cases hi:o=i
   ·subst hi
    rw[if_pos rfl,if_pos ho]at hv;cases hv;exact⟨_,by rw[if_pos rfl,if_pos (by omega)],hx⟩
   ·rw[if_neg hi]at hv
    obtain⟨y,hy,hr⟩:=hcell i v hv;exact⟨y,by rw[if_neg (by omega)];exact hy,hr⟩
theorem aIP{f g:FuncId}(hent:aBt P f)(hentg:aBt P g)(again:∀ (a:Addr) (d:Int),¬ d=0->∀ (fv:Value) (w:World),w.cell? a=some (.int .u32 d)->Calls P f #[.pointer (some a),fv] w λe w'=>e = .returned (.tuple #[])/\w'=w)(first:∀ (b off:Nat) (r:Value) (K:World->Prop) (w:World),w.cell? ⟨b,off,none⟩=some (.int .u32 0)->w.cell? ⟨b,off+1,none⟩=some (.int .i32 0)->w.frozen? ⟨b,off,none⟩=false->w.frozen? ⟨b,off+1,none⟩=false ->
   (Calls P g #[r] (w.setCell ⟨b,off+1,none⟩ (.int .i32 1)) λe w'=>(∃ v,e = .returned v)/\(∃ y,w'.cell? ⟨b,off,none⟩=some y)/\w'.cell? ⟨b,off+1,none⟩=some (.int .i32 1)/\w'.frozen? ⟨b,off,none⟩=false/\w'.frozen? ⟨b,off+1,none⟩=false/\K ((w'.drew.setCell ⟨b,off,none⟩ (.int .u32 1)).setCell ⟨b,off+1,none⟩ (.int .i32 0))) ->
   Calls P f #[.pointer (some ⟨b,off,none⟩),.func (.func g) #[r] #[]] w λe w'=>e = .returned (.tuple #[])/\K w'){args:List Value}{H:AH}{K:Value->AH->Prop}(h:∃ x y,args=[x,y]/\aBz g (sM P) x y H K):sM P f args H K:=by
 refine .inl ⟨hent,λρ w0 w args' hR ha =>?_⟩;obtain⟨x,y,rfl,b,o,r,c,fx,d,s,rfl,rfl,hg,c0,c1,h⟩:=h
 obtain⟨x',y',rfl,hx',hy'⟩:∃ x' y',args' = #[x',y']/\aL ρ (.pointer (some ⟨b,o,none⟩)) x'/\aL ρ (.func (.func g) ⟨[r]⟩ ⟨[]⟩) y':=by
  have hl:=ha.1;obtain⟨l⟩:=args'
  match l,hl with
  | [a,b],_=>exact⟨a,b,rfl,ha.2 0 _ _ rfl rfl,ha.2 1 _ _ rfl rfl⟩
 cases hx' with
 | ptr _ A' ra =>
  cases hy' with
  | func _ _ f' _ c' hf hfv hc _ =>
   obtain⟨r',rfl⟩:∃ r',f'=[r']:=by
    match f',hf with
    | [q],_=>exact⟨q,rfl⟩
   obtain rfl:c'=[]:=List.eq_nil_of_length_eq_zero hc.symm;have hr:aL ρ r r':=hfv 0 _ _ rfl rfl;have ho:o<c.length:=(List.getElem?_eq_some_iff.1 c0).1;have ho1:o+1<c.length:=(List.getElem?_eq_some_iff.1 c1).1;rcases ra with ⟨hb,rfl⟩ | ⟨hb,_,l,hl,rfl⟩
   ·have:=hR.ro _ hb
    rw[hg]at this;exact this.elim
   ·have e0:c[o]'ho = .int .u32 d:=(List.getElem?_eq_some_iff.1 c0).2
    have e1:c[o+1]'ho1 = .int .i32 s:=(List.getElem?_eq_some_iff.1 c1).2;obtain⟨z0,⟨y0,hy0,hv0⟩,_⟩:=hR.setc hl hg ho (aL.int .u32 1);obtain⟨z1,⟨y1,hy1,hv1⟩,r1⟩:=hR.setc hl hg ho1 (aL.int .i32 1);rw[e0]at hv0;rw[e1]at hv1;obtain rfl:=hv0.flat rfl;obtain rfl:=hv1.flat rfl;rcases h with ⟨hd,hk⟩ | ⟨rfl,rfl,hk⟩
    ·refine(again ⟨l.block,l.shift+o,none⟩ d hd _ w hy0).mono ?_
     rintro e w' ⟨rfl,rfl⟩;exact⟨_,rfl,eY (Nat.le_refl _) hR (.any _) hk⟩
    ·refine(first l.block (l.shift+o) r' (λw'=>pR P ρ w0 H.next K (.tuple #[]) w') w hy0 hy1 z0 z1 ?_).mono ?_
     ·have hlr:bG ρ [r] #[r'].toList:=bG.cons hr bG.nil
      have told:∀ ρ1 w1 w2 args2,R P ρ1 w1 (H.put b (.cells (c.set (o+1) (.int .i32 1)) fx)) w2->bG ρ1 [r] args2.toList->Calls P g args2 w2 (λe w'=>∃ v',e = .returned v'/\pR P ρ1 w1 (H.put b (.cells (c.set (o+1) (.int .i32 1)) fx)).next (λ_ H'=>aA0 b o K H') v' w'):=by
       rcases hk with k | k
       ·exact k.2
       ·intro ρ1 w1 w2 args2 hR2 ha2
        obtain⟨v',w'',h1,_⟩:=k ρ1 w1 w2 args2 hR2 ha2;rw[mL hentg]at h1;cases h1
      refine(told ρ w0 _ #[r'] r1 hlr).mono ?_;rintro e w' ⟨v',rfl,ρ',v,H',q1,q2,q3,q4,q5,q6⟩;have hbn:b<H.next:=(hR.own _ _ hl).2.1;have hl':ρ'.loc b=some l:=by rw[q2 b (show b<H.next from hbn)];exact hl
      unfold aA0 at q6
      split at q6
      ·rename_i c2 fx2 hg2
       obtain⟨k0,k1,k2⟩:=q6;obtain⟨x0,hx0⟩:=Option.isSome_iff_exists.1 k0;have o0:o<c2.length:=(List.getElem?_eq_some_iff.1 hx0).1;have o1:o+1<c2.length:=(List.getElem?_eq_some_iff.1 k1).1;obtain⟨a1,⟨a2,a3,_⟩,_⟩:=q4.setc hl' hg2 o0 (aL.int .u32 1);obtain⟨b1,⟨b2,b3,b4⟩,_⟩:=q4.setc hl' hg2 o1 (aL.int .i32 1);rw[(List.getElem?_eq_some_iff.1 k1).2]at b4;obtain rfl:=b4.flat rfl;refine⟨⟨_,rfl⟩,⟨_,a3⟩,b3,a1,b1,?_⟩;have hd:=q4.drew;obtain⟨_,_,r2⟩:=R.setc hd hl' hg2 o0 (aL.int .u32 1);have hbn':b<H'.next:=(q4.own _ _ hl').2.1;have hg3:(H'.put b (.cells (c2.set o (.int .u32 1)) fx2)).get b = .cells (c2.set o (.int .u32 1)) fx2:=AH.get_put_self _ _ hbn';obtain⟨_,_,r3⟩:=R.setc r2 hl' hg3 (by rw[List.length_set];exact o1) (aL.int .i32 0)
       rw[AH.put_put]at r3;exact⟨ρ',.tuple #[],H'.put b (.cells ((c2.set o (.int .u32 1)).set (o+1) (.int .i32 0)) fx2),q1,λk hk=>q2 k (show k<H.next from hk),(show H.next<=H'.next from q3),r3,.any _,k2⟩
      ·exact q6.elim
     ·rintro e w' ⟨rfl,hp⟩
      exact⟨_,rfl,hp⟩
end
end
section
theorem dC{w:Nat}(x:BitVec w):BitVec.ofInt w (x.toNat:Int)=x:=by
 rw[BitVec.ofInt_natCast,BitVec.ofNat_toNat,BitVec.setWidth_eq]
theorem aEK(w:Nat)(a b:Int):BitVec.ofInt w (a - b)=BitVec.ofInt w a - BitVec.ofInt w b:=by
 apply BitVec.eq_of_toInt_eq;simp[BitVec.toInt_ofInt,BitVec.toInt_sub]
theorem nD{w:Nat}(x y:BitVec w):((x.toNat:Int)=(y.toNat:Int))↔x=y:=by
 rw[Int.natCast_inj,BitVec.toNat_inj]
theorem aOM{w:Nat}(x:BitVec w)(n:Nat):((x.toNat:Int).fdiv (2 ^ (min n w):Int))=((x >>> n).toNat:Int):=by
 rw[BitVec.toNat_ushiftRight,Nat.shiftRight_eq_div_pow];have:(2 ^ (min n w):Int)=((2 ^ (min n w):Nat):Int):=by simp
 rw[this,Int.fdiv_eq_ediv_of_nonneg _ (Int.natCast_nonneg _),<- Int.natCast_ediv]
 congr 1
 by_cases h:n<=w
 ·rw[Nat.min_eq_left h]
 ·have h1:=x.isLt
  rw[Nat.min_eq_right (by omega),Nat.div_eq_of_lt h1,Nat.div_eq_of_lt]
  exact Nat.lt_of_lt_of_le h1 (Nat.pow_le_pow_right (by omega) (by omega))
theorem aN9{w:Nat}(x:BitVec w)(n:Nat):BitVec.ofInt w ((x.toNat:Int)*(2 ^ (min n w):Int))=x <<< n:=by
 have:(x.toNat:Int)*(2 ^ (min n w):Int)=((x.toNat*2 ^ (min n w):Nat):Int):=by simp
 rw[this,BitVec.ofInt_natCast];apply BitVec.eq_of_toNat_eq;rw[BitVec.toNat_ofNat,BitVec.toNat_shiftLeft,Nat.shiftLeft_eq]
 by_cases h:n<=w
 ·rw[Nat.min_eq_left h]
 ·rw[Nat.min_eq_right (by omega)]
  rw[Nat.mul_mod_left,Nat.mod_eq_zero_of_dvd];exact Nat.dvd_trans (Nat.pow_dvd_pow 2 (by omega:w<=n)) (Nat.dvd_mul_left _ _)
@[simp] theorem cZ(a b:Int):aA .eql (vi a) (vi b)=some (.bool (decide (a=b))):=pA ..
@[simp] theorem eG(a b:Int):aA .neq (vi a) (vi b)=some (.bool (decide (a≠b))):=kO ..
@[simp] theorem aF(a b:Int):aA .lss (vi a) (vi b)=some (.bool (decide (a<b))):=lU ..
@[simp] theorem cS(a b:Int):aA .leq (vi a) (vi b)=some (.bool (decide (a<=b))):=wE ..
@[simp] theorem cI(a b:Int):aA .gtr (vi a) (vi b)=some (.bool (decide (b<a))):=lS ..
@[simp] theorem dW(a b:Int):aA .geq (vi a) (vi b)=some (.bool (decide (b<=a))):=wV ..
@[simp] theorem aMD(a b:Int):oV max2 [vi a,vi b]=some (vi (if b > a then b else a)):=rfl
@[simp] theorem aHk(a b:Int):oV min2 [vi a,vi b]=some (vi (if b<a then b else a)):=rfl
theorem gE(x:BitVec 8):u8 x = .int .u8 (x.toNat:Int):=rfl
theorem jO(x:BitVec 16):u16 x = .int .u16 (x.toNat:Int):=rfl
theorem fH(x:BitVec 32):u32 x = .int .u32 (x.toNat:Int):=rfl
theorem dP(x:BitVec 64):u64 x = .int .u64 (x.toNat:Int):=rfl
@[simp] theorem aQB(n:Nat)(h:n<2 ^ 8):(.int .u8 (no_index (OfNat.ofNat n)):Value)=u8 (BitVec.ofNat 8 n):=by
 rw[gE,BitVec.toNat_ofNat,Nat.mod_eq_of_lt h];rfl
@[simp] theorem aQa:(.int .u8 0:Value)=u8 0#8:=rfl
@[simp] theorem aP8:(.int .u8 1:Value)=u8 1#8:=rfl
@[simp] theorem aQb(x:BitVec 8):jV (u8 x)=true:=rfl
@[simp] theorem aPk(x:BitVec 8):plain1 (u8 x)=true:=rfl
@[simp] theorem aPE(x:BitVec 8):(u8 x).cells = #[u8 x]:=rfl
@[simp] theorem aQd(x y:BitVec 8):cA 0 (u8 x) (u8 y)=some (decide (x=y)):=by
 simp only[gE,cA,if_true];congr 1;rw[Bool.eq_iff_iff];simp[nD,BitVec.toNat_inj]
@[simp] theorem aPC(sz:Nat)(v:Value)(x:BitVec 8):aI sz v (u8 x)=aI sz v (vi (x.toNat:Int)):=by
 simp only[gE];cases v<;>first | rfl | (rename_i a;cases a<;>rfl) | (rename_i a n c;cases a<;>rfl)
@[simp] theorem aJP(v:Value)(x:BitVec 8):iY v (u8 x)=iY v (vi (x.toNat:Int)):=by
 simp only[gE];cases v<;>first | rfl | (rename_i a;cases a<;>rfl) | (rename_i a n c;cases a<;>rfl)
@[simp] theorem aQn(x y:BitVec 8):aA .add (u8 x) (u8 y)=some (u8 (x+y)):=by
 simp only[gE];rw[qT,eX .u8 rfl];simp only[IntKind.bits,BitVec.ofInt_add,dC]
@[simp] theorem eJ(x y:BitVec 8):aA .eql (u8 x) (u8 y)=some (.bool (decide (x=y))):=by
 simp only[gE];rw[pA];simp only[nD]
@[simp] theorem aCj(x y:BitVec 8):aA .neq (u8 x) (u8 y)=some (.bool (decide (x≠y))):=by
 simp only[gE];rw[kO];simp only[nD,ne_eq]
@[simp] theorem aG5(x y:BitVec 8):aA .lss (u8 x) (u8 y)=some (.bool (decide (x.toNat<y.toNat))):=by
 simp only[gE];rw[lU];simp only[Int.ofNat_lt]
@[simp] theorem aGv(x y:BitVec 8):aA .gtr (u8 x) (u8 y)=some (.bool (decide (y.toNat<x.toNat))):=by
 simp only[gE];rw[lS];simp only[Int.ofNat_lt]
@[simp] theorem aQq(x y:BitVec 8)(h:y≠0#8):aA .quo (u8 x) (u8 y)=some (u8 (x / y)):=by
 simp only[gE];rw[aA3 _ _ _ (λk=>h (BitVec.eq_of_toNat_eq (by have:y.toNat=0:=(by exact_mod_cast k);simpa using this))),<- Int.ofNat_tdiv,<- BitVec.toNat_udiv]
 exact congrArg (λz=>some (Value.int .u8 z)) (lH .u8 rfl _)
@[simp] theorem aQy(x y:BitVec 8)(h:y≠0#8):aA .rem (u8 x) (u8 y)=some (u8 (x % y)):=by
 simp only[gE];rw[vW _ _ _ (λk=>h (BitVec.eq_of_toNat_eq (by have:y.toNat=0:=(by exact_mod_cast k);simpa using this))),<- Int.ofNat_tmod,<- BitVec.toNat_umod]
@[simp] theorem aPg(x:BitVec 8):aS .u16 (u8 x)=some (u16 (x.setWidth 16)):=by
 simp only[gE,jO,fH,dP];rw[fA,eX .u16 rfl];simp only[IntKind.bits,BitVec.ofInt_natCast,BitVec.ofNat_toNat]
@[simp] theorem aJx(x:BitVec 8):aS .u64 (u8 x)=some (u64 (x.setWidth 64)):=by
 simp only[gE,jO,fH,dP];rw[fA,eX .u64 rfl];simp only[IntKind.bits,BitVec.ofInt_natCast,BitVec.ofNat_toNat]
@[simp] theorem qA(x:BitVec 8):aS .i64 (u8 x)=some (vi (x.toNat:Int)):=by
 have:=x.isLt;simp only[gE];rw[fA,mS (by omega) (by omega)]
@[simp] theorem aI7(n:Int):aS .u8 (vi n)=some (u8 (BitVec.ofInt 8 n)):=by
 simp only[gE];rw[fA,eX .u8 rfl];simp only[IntKind.bits]
@[simp] theorem aQm(n:Nat)(h:n<2 ^ 16):(.int .u16 (no_index (OfNat.ofNat n)):Value)=u16 (BitVec.ofNat 16 n):=by
 rw[jO,BitVec.toNat_ofNat,Nat.mod_eq_of_lt h];rfl
@[simp] theorem aPT:(.int .u16 0:Value)=u16 0#16:=rfl
@[simp] theorem aP1:(.int .u16 1:Value)=u16 1#16:=rfl
@[simp] theorem aPs(x:BitVec 16):jV (u16 x)=true:=rfl
@[simp] theorem aOk(x:BitVec 16):plain1 (u16 x)=true:=rfl
@[simp] theorem aPh(x:BitVec 16):(u16 x).cells = #[u16 x]:=rfl
@[simp] theorem xG(x y:BitVec 16):cA 0 (u16 x) (u16 y)=some (decide (x=y)):=by
 simp only[jO,cA,if_true];congr 1;rw[Bool.eq_iff_iff];simp[nD,BitVec.toNat_inj]
@[simp] theorem aHD(x y:BitVec 16):aA .and (u16 x) (u16 y)=some (u16 (x&&&y)):=by
 simp only[jO];rw[vU];simp only[IntKind.bits,dC];exact congrArg (λz=>some (Value.int .u16 z)) (lH .u16 rfl _)
@[simp] theorem aQz(x y:BitVec 16):aA .or (u16 x) (u16 y)=some (u16 (x|||y)):=by
 simp only[jO];rw[zJ];simp only[IntKind.bits,dC];exact congrArg (λz=>some (Value.int .u16 z)) (lH .u16 rfl _)
@[simp] theorem jD(x y:BitVec 16):aA .andNot (u16 x) (u16 y)=some (u16 (x &&& ~~~y)):=by
 simp only[jO];rw[pW];simp only[IntKind.bits,dC];exact congrArg (λz=>some (Value.int .u16 z)) (lH .u16 rfl _)
@[simp] theorem cE(x y:BitVec 16):aA .eql (u16 x) (u16 y)=some (.bool (decide (x=y))):=by
 simp only[jO];rw[pA];simp only[nD]
@[simp] theorem yH(x y:BitVec 16):aA .neq (u16 x) (u16 y)=some (.bool (decide (x≠y))):=by
 simp only[jO];rw[kO];simp only[nD,ne_eq]
@[simp] theorem aP9(n:Nat)(h:n<2 ^ 32):(.int .u32 (no_index (OfNat.ofNat n)):Value)=u32 (BitVec.ofNat 32 n):=by
 rw[fH,BitVec.toNat_ofNat,Nat.mod_eq_of_lt h];rfl
@[simp] theorem aP3:(.int .u32 0:Value)=u32 0#32:=rfl
@[simp] theorem aPU:(.int .u32 1:Value)=u32 1#32:=rfl
@[simp] theorem aPS(x:BitVec 32):jV (u32 x)=true:=rfl
@[simp] theorem aOz(x:BitVec 32):plain1 (u32 x)=true:=rfl
@[simp] theorem aPj(x:BitVec 32):(u32 x).cells = #[u32 x]:=rfl
@[simp] theorem lE(x y:BitVec 32):cA 0 (u32 x) (u32 y)=some (decide (x=y)):=by
 simp only[fH,cA,if_true];congr 1;rw[Bool.eq_iff_iff];simp[nD,BitVec.toNat_inj]
@[simp] theorem aQc(x y:BitVec 32):aA .add (u32 x) (u32 y)=some (u32 (x+y)):=by
 simp only[fH];rw[qT,eX .u32 rfl];simp only[IntKind.bits,BitVec.ofInt_add,dC]
@[simp] theorem aHg(x y:BitVec 32):aA .and (u32 x) (u32 y)=some (u32 (x&&&y)):=by
 simp only[fH];rw[vU];simp only[IntKind.bits,dC];exact congrArg (λz=>some (Value.int .u32 z)) (lH .u32 rfl _)
@[simp] theorem aQr(x y:BitVec 32):aA .or (u32 x) (u32 y)=some (u32 (x|||y)):=by
 simp only[fH];rw[zJ];simp only[IntKind.bits,dC];exact congrArg (λz=>some (Value.int .u32 z)) (lH .u32 rfl _)
@[simp] theorem aOQ(x y:BitVec 32):aA .andNot (u32 x) (u32 y)=some (u32 (x &&& ~~~y)):=by
 simp only[fH];rw[pW];simp only[IntKind.bits,dC];exact congrArg (λz=>some (Value.int .u32 z)) (lH .u32 rfl _)
@[simp] theorem pL(x y:BitVec 32):aA .eql (u32 x) (u32 y)=some (.bool (decide (x=y))):=by
 simp only[fH];rw[pA];simp only[nD]
@[simp] theorem yK(x y:BitVec 32):aA .neq (u32 x) (u32 y)=some (.bool (decide (x≠y))):=by
 simp only[fH];rw[kO];simp only[nD,ne_eq]
@[simp] theorem aNu(x y:BitVec 32):aA .lss (u32 x) (u32 y)=some (.bool (decide (x.toNat<y.toNat))):=by
 simp only[fH];rw[lU];simp only[Int.ofNat_lt]
@[simp] theorem aNe(x y:BitVec 32):aA .leq (u32 x) (u32 y)=some (.bool (decide (x.toNat<=y.toNat))):=by
 simp only[fH];rw[wE];simp only[Int.ofNat_le]
@[simp] theorem aDL(x y:BitVec 32):aA .gtr (u32 x) (u32 y)=some (.bool (decide (y.toNat<x.toNat))):=by
 simp only[fH];rw[lS];simp only[Int.ofNat_lt]
@[simp] theorem aHu(x y:BitVec 32):aA .geq (u32 x) (u32 y)=some (.bool (decide (y.toNat<=x.toNat))):=by
 simp only[fH];rw[wV];simp only[Int.ofNat_le]
@[simp] theorem aNj(x y:BitVec 32)(h:y≠0#32):aA .rem (u32 x) (u32 y)=some (u32 (x % y)):=by
 simp only[fH];rw[vW _ _ _ (λk=>h (BitVec.eq_of_toNat_eq (by have:y.toNat=0:=(by exact_mod_cast k);simpa using this))),<- Int.ofNat_tmod,<- BitVec.toNat_umod]
@[simp] theorem aGC(x:BitVec 32):aS .u64 (u32 x)=some (u64 (x.setWidth 64)):=by
 simp only[gE,jO,fH,dP];rw[fA,eX .u64 rfl];simp only[IntKind.bits,BitVec.ofInt_natCast,BitVec.ofNat_toNat]
@[simp] theorem aBZ(x:BitVec 32):aS .i64 (u32 x)=some (vi (x.toNat:Int)):=by
 have:=x.isLt;simp only[fH];rw[fA,mS (by omega) (by omega)]
@[simp] theorem aBh(n:Int):aS .u32 (vi n)=some (u32 (BitVec.ofInt 32 n)):=by
 simp only[fH];rw[fA,eX .u32 rfl];simp only[IntKind.bits]
@[simp] theorem aHB(n:Nat)(h:n<2 ^ 64):(.int .u64 (no_index (OfNat.ofNat n)):Value)=u64 (BitVec.ofNat 64 n):=by
 rw[dP,BitVec.toNat_ofNat,Nat.mod_eq_of_lt h];rfl
@[simp] theorem aP5:(.int .u64 0:Value)=u64 0#64:=rfl
@[simp] theorem aPv:(.int .u64 1:Value)=u64 1#64:=rfl
@[simp] theorem aPK(x:BitVec 64):jV (u64 x)=true:=rfl
@[simp] theorem aOn(x:BitVec 64):plain1 (u64 x)=true:=rfl
@[simp] theorem aPe(x:BitVec 64):(u64 x).cells = #[u64 x]:=rfl
@[simp] theorem aPA(x y:BitVec 64):cA 0 (u64 x) (u64 y)=some (decide (x=y)):=by
 simp only[dP,cA,if_true];congr 1;rw[Bool.eq_iff_iff];simp[nD,BitVec.toNat_inj]
@[simp] theorem aNz(x y:BitVec 64):aA .add (u64 x) (u64 y)=some (u64 (x+y)):=by
 simp only[dP];rw[qT,eX .u64 rfl];simp only[IntKind.bits,BitVec.ofInt_add,dC]
@[simp] theorem aHI(x y:BitVec 64):aA .sub (u64 x) (u64 y)=some (u64 (x - y)):=by
 simp only[dP];rw[aCm,eX .u64 rfl];simp only[IntKind.bits,aEK,dC]
@[simp] theorem aP6(x y:BitVec 64):aA .mul (u64 x) (u64 y)=some (u64 (x*y)):=by
 simp only[dP];rw[aBi,eX .u64 rfl];simp only[IntKind.bits,BitVec.ofInt_mul,dC]
@[simp] theorem aNF(x y:BitVec 64):aA .and (u64 x) (u64 y)=some (u64 (x&&&y)):=by
 simp only[dP];rw[vU];simp only[IntKind.bits,dC];exact congrArg (λz=>some (Value.int .u64 z)) (lH .u64 rfl _)
@[simp] theorem aKH(x y:BitVec 64):aA .or (u64 x) (u64 y)=some (u64 (x|||y)):=by
 simp only[dP];rw[zJ];simp only[IntKind.bits,dC];exact congrArg (λz=>some (Value.int .u64 z)) (lH .u64 rfl _)
@[simp] theorem aND(x y:BitVec 64):aA .xor (u64 x) (u64 y)=some (u64 (x ^^^ y)):=by
 simp only[dP];rw[aGE];simp only[IntKind.bits,dC];exact congrArg (λz=>some (Value.int .u64 z)) (lH .u64 rfl _)
@[simp] theorem aHd(x y:BitVec 64):aA .andNot (u64 x) (u64 y)=some (u64 (x &&& ~~~y)):=by
 simp only[dP];rw[pW];simp only[IntKind.bits,dC];exact congrArg (λz=>some (Value.int .u64 z)) (lH .u64 rfl _)
@[simp] theorem aAY(x:BitVec 64)(k:IntKind)(n:Nat):aA .shr (u64 x) (.int k (n:Int))=some (u64 (x >>> n)):=by
 have h:¬ ((n:Int)<0):=by omega
 simp only[dP,aA,h,if_false,Int.toNat_natCast,IntKind.bits,aOM]
@[simp] theorem aDZ(x:BitVec 64)(k:IntKind)(n:Nat):aA .shl (u64 x) (.int k (n:Int))=some (u64 (x <<< n)):=by
 have h:¬ ((n:Int)<0):=by omega
 simp only[dP,aA,h,if_false,Int.toNat_natCast];rw[eX .u64 rfl];simp only[IntKind.bits,aN9]
@[simp] theorem aAy(x:BitVec 64)(k:IntKind)(n:Nat):aA .shr (u64 x) (.int k (no_index (OfNat.ofNat n)))=some (u64 (x >>> n)):=aAY x k n
@[simp] theorem aN8(x:BitVec 64)(y:BitVec 64):aA .shr (u64 x) (u64 y)=some (u64 (x >>> y.toNat)):=aAY x .u64 y.toNat
@[simp] theorem aN1(x:BitVec 64)(y:BitVec 64):aA .shl (u64 x) (u64 y)=some (u64 (x <<< y.toNat)):=aDZ x .u64 y.toNat
@[simp] theorem yG(x y:BitVec 64):aA .eql (u64 x) (u64 y)=some (.bool (decide (x=y))):=by
 simp only[dP];rw[pA];simp only[nD]
@[simp] theorem aDC(x y:BitVec 64):aA .neq (u64 x) (u64 y)=some (.bool (decide (x≠y))):=by
 simp only[dP];rw[kO];simp only[nD,ne_eq]
@[simp] theorem aQi(x y:BitVec 64):aA .lss (u64 x) (u64 y)=some (.bool (decide (x.toNat<y.toNat))):=by
 simp only[dP];rw[lU];simp only[Int.ofNat_lt]
@[simp] theorem aQe(x y:BitVec 64):aA .leq (u64 x) (u64 y)=some (.bool (decide (x.toNat<=y.toNat))):=by
 simp only[dP];rw[wE];simp only[Int.ofNat_le]
@[simp] theorem aP7(x y:BitVec 64):aA .gtr (u64 x) (u64 y)=some (.bool (decide (y.toNat<x.toNat))):=by
 simp only[dP];rw[lS];simp only[Int.ofNat_lt]
@[simp] theorem aEi(x y:BitVec 64):aA .geq (u64 x) (u64 y)=some (.bool (decide (y.toNat<=x.toNat))):=by
 simp only[dP];rw[wV];simp only[Int.ofNat_le]
@[simp] theorem aCP(x:BitVec 64):aS .u8 (u64 x)=some (u8 (x.setWidth 8)):=by
 simp only[gE,jO,fH,dP];rw[fA,eX .u8 rfl];simp only[IntKind.bits,BitVec.ofInt_natCast,BitVec.ofNat_toNat]
@[simp] theorem qS(x:BitVec 64):aS .u32 (u64 x)=some (u32 (x.setWidth 32)):=by
 simp only[gE,jO,fH,dP];rw[fA,eX .u32 rfl];simp only[IntKind.bits,BitVec.ofInt_natCast,BitVec.ofNat_toNat]
@[simp] theorem kL(n:Int):aS .u64 (vi n)=some (u64 (BitVec.ofInt 64 n)):=by
 simp only[dP];rw[fA,eX .u64 rfl];simp only[IntKind.bits]
end
section
def cU:Value->List Value
 | .agg a=>a.toList
 | v=>[v]
@[simp] theorem aOH(a:Array Value):cU (.agg a)=a.toList:=rfl
@[simp] theorem aOs(k:IntKind)(n:Int):cU (.int k n)=[.int k n]:=rfl
@[simp] theorem aNR(b:Bool):cU (.bool b)=[.bool b]:=rfl
@[simp] theorem aMx(b:ByteArray):cU (.string b)=[.string b]:=rfl
@[simp] theorem aMO(o:Option Addr)(n c:Nat):cU (.slice o n c)=[.slice o n c]:=rfl
@[simp] theorem aL0(o:Option Addr):cU (.pointer o)=[.pointer o]:=rfl
@[simp] theorem aOT(o:Option Nat):cU (.map o)=[.map o]:=rfl
@[simp] theorem aNV(g:Fn)(a b:Array Value):cU (.func g a b)=[.func g a b]:=rfl
@[simp] theorem aKg:cU .nilFunc=[.nilFunc]:=rfl
@[simp] theorem aNH(t:TypeId)(v:Value):cU (.iface t v)=[.iface t v]:=rfl
@[simp] theorem aJy:cU .nilIface=[.nilIface]:=rfl
@[simp] theorem aO6(x:BitVec 8):cU (u8 x)=[u8 x]:=rfl
@[simp] theorem aOi(x:BitVec 16):cU (u16 x)=[u16 x]:=rfl
@[simp] theorem aOC(x:BitVec 32):cU (u32 x)=[u32 x]:=rfl
@[simp] theorem aO2(x:BitVec 64):cU (u64 x)=[u64 x]:=rfl
theorem yP(v:Value):v.cells.toList=cU v:=by cases v<;>rfl
@[simp] theorem aPB(a:Array Value):jV (.agg a)=true:=rfl
@[simp] theorem aPP(k:IntKind)(n:Int):jV (.int k n)=true:=rfl
@[simp] theorem aO9(b:Bool):jV (.bool b)=true:=rfl
@[simp] theorem aN3(b:ByteArray):jV (.string b)=true:=rfl
@[simp] theorem aOO(o:Option Addr)(n c:Nat):jV (.slice o n c)=true:=rfl
@[simp] theorem aM5(o:Option Addr):jV (.pointer o)=true:=rfl
@[simp] theorem aPL(o:Option Nat):jV (.map o)=true:=rfl
@[simp] theorem aPr(g:Fn)(a b:Array Value):jV (.func g a b)=true:=rfl
@[simp] theorem aNp:jV .nilFunc=true:=rfl
@[simp] theorem aOd(t:TypeId)(v:Value):jV (.iface t v)=true:=rfl
@[simp] theorem aMv:jV .nilIface=true:=rfl
@[simp] theorem aOp(k:IntKind)(n:Int):plain1 (.int k n)=true:=rfl
@[simp] theorem aN0(b:Bool):plain1 (.bool b)=true:=rfl
@[simp] theorem aMA(b:ByteArray):plain1 (.string b)=true:=rfl
@[simp] theorem aNr(o:Option Addr)(n c:Nat):plain1 (.slice o n c)=true:=rfl
@[simp] theorem aJK(o:Option Addr):plain1 (.pointer o)=true:=rfl
@[simp] theorem aOB(o:Option Nat):plain1 (.map o)=true:=rfl
@[simp] theorem aNW(g:Fn)(a b:Array Value):plain1 (.func g a b)=true:=rfl
@[simp] theorem aKe:plain1 .nilFunc=true:=rfl
@[simp] theorem aNi(t:TypeId)(v:Value):plain1 (.iface t v)=true:=rfl
@[simp] theorem aJz:plain1 .nilIface=true:=rfl
def sU(place:Nat->Option (Nat×Nat))(cells:List Value):List (Nat×Value)->Option (List Value)
 | []=>some cells
 | (i,v) :: rest =>
  match place i with
  | none=>none
  | some (off,size)=>if(cU v).length=size/\off+size<=cells.length then sU place (aT cells off (cU v)) rest else none
theorem aFi(vs:List Value):∀ (off k:Nat) (cells:Array Value),off+k+vs.length<=cells.size ->
  (vs.zipIdx k).foldl (λcs (p:Value×Nat)=>cs.setIfInBounds (off+p.2) p.1) cells=(aT cells.toList (off+k) vs).toArray:=by
 induction vs with
 | nil=>intro off k cells h;simp[aT]
 | cons v vs ih =>
  intro off k cells h;simp only[List.length_cons]at h;simp only[List.zipIdx_cons,List.foldl_cons];rw[ih off (k+1) _ (by simp;omega)]
  apply Array.toList_inj.1;simp only[Array.toList_setIfInBounds,aT];apply List.ext_getElem?;intro i;have hl:off+k<cells.toList.length:=by simp;omega
  simp only[List.getElem?_append,List.length_append,List.length_take,List.length_set,List.length_cons]
  by_cases h1:i<off+k
  ·have e1:i<min (off+(k+1)) cells.toList.length:=by omega
   have e2:i<min (off+k) cells.toList.length:=by omega
   simp[e1,e2,h1,List.getElem?_take,List.getElem?_set,show ¬ (off+k=i) by omega,show i<off+(k+1) by omega,show i<min (off+(k+1)) cells.toList.length+vs.length by omega,show i<min (off+k) cells.toList.length+(vs.length+1) by omega]
   have e3:i<cells.size:=by omega
   simp[show i<min (off+(k+1)) cells.size by omega,show i<min (off+k) cells.size by omega,show i<min (off+(k+1)) cells.size+vs.length by omega,show i<min (off+k) cells.size+(vs.length+1) by omega]
  ·by_cases h2:i=off+k
   ·subst h2
    simp[List.getElem?_take,show off+k<cells.size by omega,show off+k<min (off+(k+1)) cells.size by omega,show ¬ off+k<min (off+k) cells.size by omega,show off+k<min (off+(k+1)) cells.size+vs.length by omega,show off+k<min (off+k) cells.size+(vs.length+1) by omega,show off+k - min (off+k) cells.size=0 by omega]
   ·have e4:¬ i<min (off+(k+1)) cells.size:=by omega
    have e5:¬ i<min (off+k) cells.size:=by omega
    have m1:min (off+(k+1)) cells.size=off+k+1:=by omega
    have m2:min (off+k) cells.size=off+k:=by omega
    simp only[Array.length_toList,m1,m2]
    by_cases h3:i<off+k+1+vs.length
    ·simp[h3,show ¬ i<off+k+1 by omega,show ¬ i<off+k by omega,show i<off+k+(vs.length+1) by omega]
     rw[show i - (off+k)=(i - (off+k+1))+1 by omega,List.getElem?_cons_succ]
    ·simp[h3,show ¬ i<off+k+(vs.length+1) by omega]
     have:i≠off+k:=by omega
     rw[show off+(k+1)+vs.length+(i - (off+k+1+vs.length))=i by omega,show off+k+(vs.length+1)+(i - (off+k+(vs.length+1)))=i by omega]
     simp[List.getElem?_set,Ne.symm this]
theorem aB4(place:Nat->Option (Nat×Nat)):∀ (parts:List (Nat×Value)) (cells:Array Value),Instr.fill place cells parts=(sU place cells.toList parts).map (·.toArray):=by
 intro parts
 induction parts with
 | nil=>intro cells;simp[Instr.fill,sU]
 | cons p rest ih =>
  intro cells;obtain⟨i,v⟩:=p;simp only[Instr.fill,sU];cases place i with
  | none=>rfl
  | some q =>
   obtain⟨off,size⟩:=q;simp only;have e:v.cells.size=(cU v).length:=by rw[<- yP];simp
   by_cases h:(cU v).length=size/\off+size<=cells.toList.length
   ·rw[if_pos h]
    have hc:((v.cells.size≠size:Bool)||decide (off+v.cells.size > cells.size))=false:=by
     have h2:=h.2;simp only[Array.length_toList]at h2;simp[e,h.1];omega
    rw[hc];simp only[Bool.false_eq_true,if_false];rw[ih]
    have hz:(v.cells.zipIdx.foldl (λcs (c,j)=>cs.setIfInBounds (off+j) c) cells)=(aT cells.toList off (cU v)).toArray:=by
     have:=aFi (cU v) off 0 cells (by have h2:=h.2;simp only[Array.length_toList]at h2;omega)
     rw[<- yP]at this ⊢;rw[show off+0=off from rfl]at this;rw[<- this];rw[<- Array.foldl_toList,Array.toList_zipIdx]
    rw[hz]
   ·rw[if_neg h]
    have hc:((v.cells.size≠size:Bool)||decide (off+v.cells.size > cells.size))=true:=by
     simp only[Array.length_toList]at h;simp[e];omega
    rw[hc];rfl
theorem aDG(len size:Nat)(zero:Array Value)(h:zero.size=size):sL (len*size) zero=(List.replicate len zero.toList).flatten:=by
 apply List.ext_getElem?;intro i;simp only[sL,Array.toList_map,Array.toList_range,List.getElem?_map]
 by_cases hz:size=0
 ·have:zero.toList=[]:=by apply List.eq_nil_of_length_eq_zero;simp[h,hz]
  simp[hz,this]
 by_cases hi:i<len*size
 ·rw[List.getElem?_range hi]
  have hm:i % size<zero.size:=by rw[h];exact Nat.mod_lt _ (by omega)
  have key:∀ (n j:Nat),j<n*size->(List.replicate n zero.toList).flatten[j]? = some (zero[j % size]!):=by
   intro n
   induction n with
   | zero=>intro j hj;simp at hj
   | succ n ih =>
    intro j hj;simp only[List.replicate_succ,List.flatten_cons]
    by_cases hj2:j<size
    ·rw[List.getElem?_append_left (by simp[h];exact hj2)]
     rw[Nat.mod_eq_of_lt hj2];have:j<zero.size:=by omega
     simp[this]
    ·rw[List.getElem?_append_right (by simp[h];omega)]
     simp only[Array.length_toList,h];rw[Nat.succ_mul]at hj;rw[ih (j - size) (by omega)]
     rw[Nat.mod_eq_sub_mod (by omega:j>=size)]
  rw[key len i hi];simp[h]
 ·rw[List.getElem?_eq_none (by simp;omega),List.getElem?_eq_none]
  ·rfl
  ·simp[h,List.length_flatten,List.map_replicate,List.sum_replicate_nat];omega
@[simp] theorem gX(places:List (Nat×Nat))(zero:List Value)(parts:List (Nat×Value)):
  aK places zero.toArray parts=if parts.all (λp=>jV p.2) then(sU (places[·]?) zero parts).map (λl => .agg l.toArray) else none:=by
 unfold aK;rw[aB4]
 split<;>simp[Option.map_map,Function.comp_def]
@[simp] theorem fN(len size:Nat)(zero:List Value)(parts:List (Nat×Value))(h:zero.length=size):
  bO len size zero.toArray parts=if parts.all (λp=>jV p.2) then(sU (λi=>some (i*size,size)) (List.replicate len zero).flatten parts).map (λl=>(.cells l none,λb=>slc b 0 len len)) else none:=by
 unfold bO;rw[aB4,aDG len size _ (by simpa using h)]
 split
 ·simp[Option.map_map,Function.comp_def]
  rfl
 ·rfl
@[simp] theorem aO8(place:Nat->Option (Nat×Nat))(cells:List Value):sU place cells []=some cells:=rfl
@[simp] theorem aHa(place:Nat->Option (Nat×Nat))(cells:List Value)(i:Nat)(v:Value)(rest:List (Nat×Value)):
  sU place cells ((i,v) :: rest)=match place i with
   | none=>none
   | some (off,size)=>if(cU v).length=size/\off+size<=cells.length then sU place (aT cells off (cU v)) rest else none:=rfl
def Ext(H H':AH):Prop:=H.next<=H'.next/\∀ b,b<H.next->H'.get b=H.get b
@[simp] theorem Ext.refl(H:AH):Ext H H:=⟨Nat.le_refl _,λ_ _=>rfl⟩
theorem Ext.trans{H H' H'':AH}(h:Ext H H')(h':Ext H' H''):Ext H H'':=⟨Nat.le_trans h.1 h'.1,λb hb=>(h'.2 b (Nat.lt_of_lt_of_le hb h.1)).trans (h.2 b hb)⟩
@[simp] theorem Ext.new{H H':AH}(h:Ext H H')(o:cT):Ext H (H'.new o):=⟨Nat.le_succ_of_le h.1,λb hb=>by rw[AH.get_new_lt _ _ (Nat.lt_of_lt_of_le hb h.1)];exact h.2 b hb⟩
@[simp] theorem Ext.put{H H':AH}(h:Ext H H'){b:Nat}(hb:H.next<=b)(o:cT):Ext H (H'.put b o):=⟨h.1,λx hx=>by rw[AH.get_put_ne _ _ (by omega)];exact h.2 x hx⟩
theorem Ext.get{H H':AH}(h:Ext H H'){b:Nat}(hb:b<H.next):H'.get b=H.get b:=h.2 b hb
theorem Ext.cells{H H':AH}(h:Ext H H'){b:Nat}{c:List Value}{f:Option Nat}(hb:H.get b = .cells c f):H'.get b = .cells c f:=by
 rw[h.2 b (AH.lt_of_get (by rw[hb];simp)),hb]
theorem Ext.obj{H H':AH}(h:Ext H H'){b:Nat}{o:cT}(ho:o ≠ .dead)(hb:H.get b=o):H'.get b=o:=by
 rw[h.2 b (AH.lt_of_get (by rw[hb];exact ho)),hb]
theorem AH.lt_cells{H:AH}{b:Nat}{c:List Value}{f:Option Nat}(hb:H.get b = .cells c f):b<H.next:=AH.lt_of_get (by rw[hb];simp)
end
section
theorem aAi(f:Nat->Option Value):∀ (n i:Nat) (l:List Value),xM f i n=some l->l.length=n
 | 0,i,l,h=>by simp[xM]at h;subst h;rfl
 | n+1,i,l,h=>by
  simp only[xM]at h;cases hf:f i with
  | none=>simp[hf]at h
  | some v =>
   simp only[hf,Option.bind_some]at h;cases hr:xM f (i+1) n with
   | none=>simp[hr]at h
   | some k=>simp[hr]at h;subst h;simp[aAi f n _ _ hr]
theorem aA8(f:Nat->Option Value):∀ (n i:Nat) (l:List Value),xM f i n=some l->∀ j,j<n->f (i+j)=l[j]?
 | 0,i,l,h,j,hj=>by omega
 | n+1,i,l,h,j,hj=>by
  simp only[xM]at h;cases hf:f i with
  | none=>simp[hf]at h
  | some v =>
   simp only[hf,Option.bind_some]at h;cases hr:xM f (i+1) n with
   | none=>simp[hr]at h
   | some k =>
    simp[hr]at h;subst h;cases j with
    | zero=>simpa using hf
    | succ j=>rw[List.getElem?_cons_succ,<- aA8 f n (i+1) k hr j (by omega)];congr 1;omega
theorem zU(f:Nat->Option Value):∀ (n i:Nat) (l:List Value),l.length=n->(∀ j,j<n->f (i+j)=l[j]?)->xM f i n=some l
 | 0,i,l,h,_=>by have:=List.eq_nil_of_length_eq_zero h;subst this;rfl
 | n+1,i,[],h,_=>by simp at h
 | n+1,i,v :: l,h,hf=>by
  have h0:=hf 0 (by omega)
  simp at h0;simp only[xM,h0,Option.bind_some];rw[zU f n (i+1) l (by simpa using h) (λj hj=>by have:=hf (j+1) (by omega);rw[List.getElem?_cons_succ]at this;rw[<- this];congr 1;omega)]
  rfl
theorem lD{o:cT}{i n:Nat}{l:List Value}(h:o.row i n=some l){j:Nat}(hj:j<n):o.cell (i+j)=l[j]? :=by
 cases o with
 | cells c f =>
  simp only[kR]at h;split at h<;>simp at h;subst h
  simp[cT.cell,hj]
 | ro f=>exact aA8 f n i l h j hj
 | _=>simp[cT.row]at h
theorem xR{o:cT}{i n:Nat}{l:List Value}(h:o.row i n=some l){j m:Nat}(hj:j+m<=n):o.row (i+j) m=some ((l.drop j).take m):=by
 cases o with
 | cells c f =>
  simp only[kR]at h ⊢; split at h<;>simp at h;subst h
  rw[if_pos (by omega)]
  congr 1
  rw[List.drop_take,List.drop_drop,List.take_take,Nat.min_eq_left (by omega)]
 | ro f =>
  have hl:=aAi f n i l h;refine zU f m (i+j) _ (by simp;omega) λk hk =>?_
  rw[Nat.add_assoc,aA8 f n i l h (j+k) (by omega)]
  simp[List.getElem?_take,hk]
 | _=>simp[cT.row]at h
theorem iD{o:cT}{i n:Nat}{l:List Value}(h:o.row i n=some l):o ≠ .dead:=by
 rintro rfl;simp[cT.row]at h
theorem lI{α:Type}{sz:Nat}:∀ (rows:List (List α)),(∀ r∈rows,r.length=sz)->∀ i (h:i<rows.length),((rows.flatten).drop (i*sz)).take sz=rows[i]
 | [],_,i,h=>by simp at h
 | r :: rows,hl,0,h=>by
  have:=hl r (by simp)
  simp[<- this]
 | r :: rows,hl,i+1,h=>by
  have h1:=hl r (by simp)
  have ih:=lI rows (λx hx=>hl x (by simp[hx])) i (by simpa using h)
  simp only[List.flatten_cons,List.getElem_cons_succ];rw[<- ih,Nat.succ_mul,List.drop_append,List.drop_eq_nil_of_le (by omega),h1]
  simp
theorem gY{α:Type}{sz:Nat}(rows:List (List α))(hl:∀ r∈rows,r.length=sz):rows.flatten.length=rows.length*sz:=by
 induction rows with
 | nil=>simp
 | cons r rows ih=>simp[hl r (by simp),ih (λx hx=>hl x (by simp[hx])),Nat.succ_mul,Nat.add_comm]
theorem wZ{α:Type}{sz:Nat}:∀ (rows:List (List α)),(∀ r∈rows,r.length=sz)->∀ i,(rows.flatten).drop (i*sz)=(rows.drop i).flatten
 | [],_,i=>by simp
 | r :: rows,hl,0=>by simp
 | r :: rows,hl,i+1=>by
  have h1:=hl r (by simp)
  have ih:=wZ rows (λx hx=>hl x (by simp[hx])) i
  simp only[List.flatten_cons,List.drop_succ_cons];rw[<- ih,Nat.succ_mul,List.drop_append,List.drop_eq_nil_of_le (by omega),h1]
  simp
theorem yA{α:Type}{sz:Nat}:∀ (rows:List (List α)),(∀ r∈rows,r.length=sz)->∀ i,(rows.flatten).take (i*sz)=(rows.take i).flatten
 | [],_,i=>by simp
 | r :: rows,hl,0=>by simp
 | r :: rows,hl,i+1=>by
  have h1:=hl r (by simp)
  have ih:=yA rows (λx hx=>hl x (by simp[hx])) i
  simp only[List.flatten_cons,List.take_succ_cons];rw[<- ih,Nat.succ_mul,List.take_append,List.take_of_length_le (by omega),h1]
  simp
structure Rows(H:AH)(sz:Nat)(v:Value)(rows:List (List Value)):Prop where
 len:∀ r∈rows,r.length=sz
 at_:(rows=[]/\∃ a,v = .slice a 0 0)\/∃ b o c,v=slc b o rows.length c/\rows.length<=c/\fits sz (H.get b)=true/\(H.get b).row o (rows.length*sz)=some rows.flatten
section
variable {H H':AH}{sz:Nat}{v:Value}{rows:List (List Value)}
theorem Rows.mono(h:Rows H sz v rows)(e:Ext H H'):Rows H' sz v rows:=by
 refine⟨h.len,?_⟩;rcases h.at_ with h | ⟨b,o,c,h1,h2,h3,h4⟩
 ·exact .inl h
 ·have:=e.get (AH.lt_of_get (iD h4))
  exact .inr ⟨b,o,c,h1,h2,by rw[this];exact h3,by rw[this];exact h4⟩
theorem Rows.lenSlc(h:Rows H sz v rows):AM.lenSlc v=some (vi rows.length):=by
 rcases h.at_ with ⟨rfl,c,rfl⟩ | ⟨b,o,c,rfl,_⟩<;>rfl
theorem Rows.ix(h:Rows H sz v rows){i:Nat}(hi:i<rows.length):∃ b o,aI sz v (vi i)=some (ptr b o)/\(H.get b).row o sz=some rows[i]:=by
 rcases h.at_ with ⟨rfl,c,rfl⟩ | ⟨b,o,c,rfl,h2,h3,h4⟩
 ·simp at hi
 ·refine⟨b,o+i*sz,uC sz b o _ c i hi,?_⟩
  have hle:i*sz+sz<=rows.length*sz:=by rw[<- Nat.succ_mul];exact Nat.mul_le_mul_right _ hi
  rw[xR h4 hle,lI rows h.len i hi]
theorem Rows.nil(H:AH)(sz:Nat)(a:Option Addr):Rows H sz (.slice a 0 0) []:=⟨by simp,.inl ⟨rfl,a,rfl⟩⟩
def oJ(sz:Nat)(v:Value)(i j:Nat):Value :=
 match v with
 | .slice none _ c => .slice none (j - i) (c - i)
 | .slice (some a) _ c => .slice (some (if c=i then a else a.add (i*sz))) (j - i) (c - i)
 | v=>v
theorem Rows.slice'(h:Rows H sz v rows){lo hi:Option Value}{i j:Nat}(hlo:lo=some (vi i)\/lo=none/\i=0)(hhi:hi=some (vi j)\/hi=none/\j=rows.length)(hij:i<=j)(hj:j<=rows.length):
  kV sz v lo hi none H=some (oJ sz v i j)/\Rows H sz (oJ sz v i j) ((rows.take j).drop i):=by
 have hb:∀ (n c:Nat),rows.length=n->n<=c->(bnd hi n c)=some j/\bnd lo 0 j=some i:=by
  intro n c hn hc;constructor
  ·rcases hhi with rfl | ⟨rfl,rfl⟩
   ·simp only[bnd];rw[if_pos (by omega)];simp
   ·simp only[bnd,hn]
  ·rcases hlo with rfl | ⟨rfl,rfl⟩
   ·simp only[bnd];rw[if_pos (by omega)];simp
   ·simp only[bnd]
 have hlen:∀ r∈(rows.take j).drop i,r.length=sz:=λr hr=>h.len r (List.mem_of_mem_take (List.mem_of_mem_drop hr));rcases h.at_ with ⟨rfl,c,rfl⟩ | ⟨b,o,c,rfl,h2,h3,h4⟩
 ·simp at hj;subst hj
  have:i=0:=by omega
  subst this;obtain⟨e1,e2⟩:=hb 0 0 rfl (by omega)
  have e0:bnd (none:Option Value) 0 0=some 0:=rfl;cases c with
  | none=>exact⟨by simp[kV,e0,e1,e2,oJ],by simpa[oJ] using Rows.nil _ _ none⟩
  | some a=>exact⟨by simp[kV,e0,e1,e2,oJ],by simpa[oJ] using Rows.nil _ _ (some a)⟩
 ·obtain⟨e1,e2⟩:=hb rows.length c rfl h2
  have hl:((rows.take j).drop i).length=j - i:=by simp;omega
  simp only[oJ];refine⟨?_,hlen,.inr ?_⟩
  ·have e0:bnd (none:Option Value) c c=some c:=rfl
   simp only[kV,Option.isSome_none,Bool.false_and,h3,Bool.or_true,Bool.not_true,Bool.or_self,Bool.false_eq_true,if_false,e0,Option.bind_some,e1,e2];rw[if_pos (by omega)]
  ·have hrow:∀ o',o'=o+i*sz->(H.get b).row o' ((j - i)*sz)=some ((rows.take j).drop i).flatten:=by
    rintro o' rfl;have hle:i*sz+(j - i)*sz<=rows.length*sz:=by rw[<- Nat.add_mul];exact Nat.mul_le_mul_right _ (by omega)
    rw[xR h4 hle,wZ rows h.len]
    congr 1
    rw[yA (rows.drop i) (λr hr=>h.len r (List.mem_of_mem_drop hr))]
    congr 1
    rw[List.drop_take]
   rw[hl]
   by_cases hci:c=i
   ·have hij0:j - i=0:=by omega
    refine⟨b,o,c - i,by rw[if_pos hci],by omega,h3,?_⟩
    have:((rows.take j).drop i)=[]:=List.eq_nil_of_length_eq_zero (by rw[hl,hij0])
    rw[this,hij0];have:=xR h4 (j:=0) (m:=0) (by omega)
    simpa using this
   ·refine⟨b,o+i*sz,c - i,?_,by omega,h3,hrow _ rfl⟩
    rw[if_neg hci];simp only[Addr.add]
    by_cases hz:i*sz=0
    ·simp[hz]
    ·simp[hz]
theorem Rows.slice(h:Rows H sz v rows){lo hi:Option Value}{i j:Nat}(hlo:lo=some (vi i)\/lo=none/\i=0)(hhi:hi=some (vi j)\/hi=none/\j=rows.length)(hij:i<=j)(hj:j<=rows.length):
  ∃ v',kV sz v lo hi none H=some v'/\Rows H sz v' ((rows.take j).drop i):=⟨_,(h.slice' hlo hhi hij hj).1,(h.slice' hlo hhi hij hj).2⟩
theorem Rows.made{H:AH}{b sz n:Nat}{f:Option Nat}(hg:H.get b = .cells rows.flatten f)(hf:f=none\/f=some sz)(hn:rows.length=n)(hl:∀ r∈rows,r.length=sz):Rows H sz (slc b 0 n n) rows:=by
 subst hn;refine⟨hl,.inr ⟨b,0,rows.length,rfl,Nat.le_refl _,?_,?_⟩⟩
 ·rw[hg];rcases hf with rfl | rfl<;>simp[fits]
 ·rw[hg];simp only[kR]
  rw[if_pos (by rw[gY rows hl];omega)]
  simp only[List.drop_zero,<- gY rows hl,List.take_length]
end
abbrev iT(H:AH)(v:Value)(l:List Value):Prop:=Rows H 1 v (l.map λx=>[x])
theorem oF(l:List Value):(l.map λx=>[x]).flatten=l:=by
 induction l with
 | nil=>rfl
 | cons x l ih=>simp[ih]
section
variable {H:AH}{v:Value}{l:List Value}
theorem iT.lenSlc(h:iT H v l):AM.lenSlc v=some (vi l.length):=by simpa using Rows.lenSlc h
theorem iT.mono{H':AH}(h:iT H v l)(e:Ext H H'):iT H' v l:=Rows.mono h e
theorem iT.elem(h:iT H v l){i:Nat}(hi:i<l.length):∃ b o,aI 1 v (vi i)=some (ptr b o)/\(H.get b).cell o=some l[i]:=by
 obtain⟨b,o,h1,h2⟩:=Rows.ix h (i:=i) (by simpa using hi)
 refine⟨b,o,h1,?_⟩;have:=lD h2 (j:=0) (by omega)
 simpa using this
theorem iT.made{H:AH}{b n:Nat}{f:Option Nat}(hg:H.get b = .cells l f)(hf:f=none\/f=some 1)(hn:l.length=n):iT H (slc b 0 n n) l :=
 Rows.made (by rw[oF];exact hg) hf (by simpa using hn) (by simp)
theorem iT.slice(h:iT H v l){lo hi:Option Value}{i j:Nat}(hlo:lo=some (vi i)\/lo=none/\i=0)(hhi:hi=some (vi j)\/hi=none/\j=l.length)(hij:i<=j)(hj:j<=l.length):
  ∃ v',kV 1 v lo hi none H=some v'/\iT H v' ((l.take j).drop i):=by
 have:=Rows.slice h (lo:=lo) (hi:=hi) (i:=i) (j:=j) hlo (by simpa using hhi) hij (by simpa using hj)
 simpa[iT,List.map_drop,List.map_take] using this
end
def blk:Value->Option Nat
 | .slice (some a) _ _=>some a.block
 | _=>none
section
variable {H0 H H':AH}{sz:Nat}{v:Value}{rows:List (List Value)}
theorem aCt(h:Rows H sz v rows):pT sz rows.length v H=some rows.flatten:=by
 rcases h.at_ with ⟨rfl,c,rfl⟩ | ⟨b,o,c,rfl,_,_,h4⟩
 ·cases c<;>simp[pT,gR]
 ·unfold pT
  split
  ·rename_i h5 _
   have:rows=[]:=List.eq_nil_of_length_eq_zero h5;simp[this]
  ·simp[gR,h4]
theorem uR(h:Rows H sz v rows):aBe v=some rows.length:=by
 rcases h.at_ with ⟨rfl,c,rfl⟩ | ⟨b,o,c,rfl,_⟩<;>rfl
theorem aAf{p:Value->Bool}{rows:List (List Value)}(h:∀ r∈rows,r.all p=true):rows.flatten.all p=true:=by
 simp only[List.all_eq_true,List.mem_flatten]at h ⊢;rintro x ⟨r,hr,hx⟩;exact h r hr x hx
end
end
section
def str(l:List UInt8):Value := .string ⟨l.toArray⟩
theorem yS(l:List UInt8):str l = .string ⟨l.toArray⟩:=rfl
@[simp] theorem aQf(l:List UInt8):(.string ⟨l.toArray⟩:Value)=str l:=rfl
theorem aOg(s:ByteArray):(.string s:Value)=str s.data.toList:=by simp[yS]
@[simp] theorem aPZ(l:List UInt8):jV (str l)=true:=rfl
@[simp] theorem aOU(l:List UInt8):plain1 (str l)=true:=rfl
@[simp] theorem aOK(l:List UInt8):cU (str l)=[str l]:=rfl
@[simp] theorem aPa(l:List UInt8):(str l).cells = #[str l]:=rfl
theorem aIO(l:List UInt8):(⟨l.toArray⟩:ByteArray).toList=l:=by rw[ByteArray.toList_eq]
@[simp] theorem aNb(l:List UInt8):(⟨l.toArray⟩:ByteArray).size=l.length:=by simp[ByteArray.size]
@[simp] theorem oT(l:List UInt8):fV (str l)=some (vi l.length):=by simp only[yS,fV,aNb]
@[simp] theorem rT(a b:List UInt8):mA .eql (str a) (str b)=some (.bool (decide (a=b))):=by
 simp only[yS,mA,aIO];congr 2;rw[Bool.eq_iff_iff];simp
@[simp] theorem tU(x y:List UInt8):cA 1 (str x) (str y)=some (decide (x=y)):=by
 simp only[yS,cA];congr 1;rw[Bool.eq_iff_iff]
 show(x.toArray == y.toArray)=true↔_
 simp
@[simp] theorem aPM(x y:Int):cA 0 (vi x) (vi y)=some (decide (x=y)):=by
 simp only[cA,if_true];congr 1
theorem aAU(l:List UInt8)(i:Nat)(h:i<l.length):iY (str l) (vi i)=some (u8 l[i].toBitVec):=by
 simp only[yS,iY];rw[if_pos (by omega)]
 simp only[Int.toNat_natCast];rw[getElem?_pos _ _ (by simpa using h)]
 rfl
@[simp] theorem aMw:bH [] [] []=some true:=rfl
@[simp] theorem aKz(k:Nat)(ks:List Nat)(x y:Value)(xs ys:List Value):bH (k :: ks) (x :: xs) (y :: ys)=(cA k x y).bind λb=>(bH ks xs ys).map (b && ·):=rfl
end
section
open Go.RowKit (Below)
inductive Sh where
 | int (k:IntKind)
 | bool
 | str
 | slice (size:Nat) (e:Sh)
 | struct (l:List Sh)
 | arr (n:Nat) (e:Sh)
def Sh.size:Sh->Nat
 | .struct l=>sizes l
 | .arr n e=>n*e.size
 | _=>1
where sizes:List Sh->Nat
 | []=>0
 | s :: l=>s.size+sizes l
mutual
def SV(H:AH):Sh->List Value->Prop
 | .int k,cs=>∃ n,cs=[.int k n]/\k.has n
 | .bool,cs=>∃ b,cs=[.bool b]
 | .str,cs=>∃ l:List UInt8,cs=[AM.str l]/\l.length<=9223372036854775807
 | .slice size e,cs=>∃ v rows,cs=[v]/\Rows H size v rows/\rows.length<=9223372036854775807/\∀ r∈rows,SV H e r
 | .struct l,cs=>SVs H l cs
 | .arr n e,cs=>∃ rows:List (List Value),rows.length=n/\cs=rows.flatten/\∀ r∈rows,SV H e r
def SVs(H:AH):List Sh->List Value->Prop
 | [],cs=>cs=[]
 | s :: l,cs=>∃ c1 c2,cs=c1++c2/\SV H s c1/\SVs H l c2
end
def tB(H:AH)(sh:Sh)(v:Value):Prop :=
 match sh with
 | .struct l=>∃ cs,v = .agg cs.toArray/\SVs H l cs
 | .arr n e=>∃ cs,v = .agg cs.toArray/\SV H (.arr n e) cs
 | s=>SV H s [v]
def tW(f:TypeId->Option Sh)(size:TypeId->Nat):List Field->Nat->Option (List Sh)
 | [],_=>some []
 | x :: l,off=>if x.offset=off then(f x.type).bind λs=>(tW f size l (off+size x.type)).map (s :: ·) else none
def zT(P:Program):Nat->TypeId->Option Sh
 | 0,_=>none
 | d+1,t =>
  match P.underlying t with
  | some (.int k)=>some (.int k)
  | some .bool=>some .bool
  | some .string=>some .str
  | some (.slice e)=>if P.cellsOf e=0 then none else(zT P d e).map (.slice (P.cellsOf e))
  | some (.struct fs)=>if(fs.toList.map λx=>P.cellsOf x.type).sum=P.cellsOf t then(tW (zT P d) P.cellsOf fs.toList 0).map .struct else none
  | some (.array n e)=>if n*P.cellsOf e=P.cellsOf t then(zT P d e).map (.arr n) else none
  | _=>none
theorem aFK{α β:Type}{f:α->Option β}:∀ {l:List α} {ys:List β},l.mapM f=some ys->ys.length=l.length/\∀ i (h:i<l.length),∃ y,f l[i]=some y/\ys[i]? = some y
 | [],ys,h=>by simp at h;subst h;simp
 | x :: l,ys,h=>by
  simp only[List.mapM_cons,Option.bind_eq_bind,Option.bind_eq_some_iff,Option.pure_def,Option.some.injEq]at h;obtain⟨y,hy,ys',hys,rfl⟩:=h;obtain⟨h1,h2⟩:=aFK hys;refine⟨by simp[h1],λi hi =>?_⟩
  cases i with
  | zero=>exact⟨y,hy,rfl⟩
  | succ i=>simpa using h2 i (by simpa using hi)
section
variable {Hh:Type}{enc:TypeId×Value->Hh}{P:Program}{W:World}
theorem aNy{a:Addr}{v:Value}(h:W.cell? a=some v):a.block<W.heap.size/\a.spot=none/\∃ c e fr,W.heap[a.block]? = some (.cells c e fr):=by
 unfold World.cell? at h
 split at h
 ·rename_i c e fr hb
  refine⟨(Array.getElem?_eq_some_iff.1 hb).1,?_,c,e,fr,hb⟩;cases hs:a.spot with
  | none=>rfl
  | some _=>rw[hs]at h;simp at h
 ·simp at h
theorem zS{a:Addr}{n:Nat}{cs:List Value}(h:W.cells? 0 a n=some cs):cs.length=n/\∀ i,i<n->W.cell? (a.add i)=cs[i]? :=by
 unfold World.cells? at h;rw[if_pos (Nat.zero_le _)]at h;obtain⟨h1,h2⟩:=aFK h;refine⟨by simpa using h1,λi hi =>?_⟩
 obtain⟨y,hy,hc⟩:=h2 i (by simpa using hi)
 simp at hy;rw[hy,hc]
theorem aL6{b o:Nat}{cs:List Value}(hb:∃ c e fr,W.heap[b]? = some (.cells c e fr))(h:∀ i,i<cs.length->W.cell? ⟨b,o+i,none⟩=cs[i]?)(hc:∀ v∈cs,gM W.heap.size v):
  ((sK W).get b).row o cs.length=some cs/\∀ s,fits s ((sK W).get b)=true:=by
 obtain⟨c,e,fr,hb⟩:=hb;have hlt:b<W.heap.size:=(Array.getElem?_eq_some_iff.1 hb).1;have hs:(sK W).get b=wY W b:=by simp[AH.get,sK,hlt]
 rw[hs];unfold wY;rw[hb];refine⟨?_,λs=>rfl⟩;refine zU _ _ _ _ rfl λj hj =>?_;rw[h j hj,List.getElem?_eq_getElem hj];simp only;rw[if_pos (hc _ (List.getElem_mem _))]
theorem aJV{a:Addr}(hs:a.spot=none)(n:Nat):a.add n=⟨a.block,a.off+n,none⟩:=by
 obtain⟨b,o,s⟩:=a;simp only at hs;subst hs;simp only[Addr.add]
 by_cases h:n=0
 ·simp[h]
 ·simp[h]
theorem tQ{f:TypeId->Option Sh}{size:TypeId->Nat}{Ok:TypeId->List Value->Prop}(hf:∀ t sh cs,f t=some sh->Ok t cs->SV (sK W) sh cs/\∀ v∈cs,gM W.heap.size v)(cs:List Value):
  ∀ (fs:List Field) (off:Nat) (l:List Sh),tW f size fs off=some l->(∀ x∈fs,Ok x.type ((cs.drop x.offset).take (size x.type)))->∀ n,n=(fs.map (λx=>size x.type)).sum ->
   SVs (sK W) l ((cs.drop off).take n)/\∀ v∈(cs.drop off).take n,gM W.heap.size v
 | [],off,l,h,_,n,hn=>by
  simp[tW]at h;subst h;simp at hn;subst hn;simp[SVs]
 | x :: fs,off,l,h,hok,n,hn=>by
  simp only[tW]at h;rw[Option.ite_none_right_eq_some]at h;obtain⟨hoff,h⟩:=h;simp only[Option.bind_eq_some_iff,Option.map_eq_some_iff]at h;obtain⟨s,hs,l',hl',rfl⟩:=h;have h1:=hf x.type s _ hs (hok x (by simp))
  rw[hoff]at h1;have h2:=tQ hf cs fs (off+size x.type) l' hl' (λy hy=>hok y (by simp[hy])) _ rfl
  simp only[List.map_cons,List.sum_cons]at hn
  have e:(cs.drop off).take n=(cs.drop off).take (size x.type)++(cs.drop (off+size x.type)).take (fs.map (λx=>size x.type)).sum:=by
   rw[hn,List.take_add,List.drop_drop]
  rw[e];refine⟨⟨_,_,rfl,h1.1,h2.1⟩,λv hv =>?_⟩;rcases List.mem_append.1 hv with hv | hv
  ·exact h1.2 v hv
  ·exact h2.2 v hv
theorem aCB{α:Type}{n s:Nat}:∀ (cs:List α),cs.length=n*s->cs=((List.range n).map λi=>(cs.drop (i*s)).take s).flatten:=by
 induction n with
 | zero=>intro cs h;simp at h;simp[h]
 | succ n ih =>
  intro cs h;have hs:(n+1)*s=n*s+s:=Nat.succ_mul n s;have h1:=ih (cs.take (n*s)) (by simp;omega)
  rw[List.range_succ,List.map_append,List.flatten_append]
  have e1:((List.range n).map λi=>(cs.drop (i*s)).take s)=((List.range n).map λi=>((cs.take (n*s)).drop (i*s)).take s):=by
   apply List.map_congr_left;intro i hi;have hi:i<n:=List.mem_range.1 hi;have:i*s+s<=n*s:=by rw[<- Nat.succ_mul];exact Nat.mul_le_mul_right _ hi
   rw[List.drop_take,List.take_take,Nat.min_eq_left (by omega)]
  rw[e1,<- h1];simp only[List.map_cons,List.map_nil,List.flatten_cons,List.flatten_nil,List.append_nil];rw[List.take_of_length_le (l:=cs.drop (n*s)) (by simp;omega),List.take_append_drop]
theorem aCl{e:TypeId}{fuel:Nat}{a:Addr}{i:Nat}{y:DataW Hh×List MemPlace}(h:((W.cells? 0 (a.add (i*P.cellsOf e)) (P.cellsOf e)).bind (DataW.trod enc P W 0 (λ_=>true) true fuel e))=some y):
  ∃ cs,W.cells? 0 (a.add (i*P.cellsOf e)) (P.cellsOf e)=some cs/\DataW.trod enc P W 0 (λ_=>true) true fuel e cs=some y:=by
 simpa only[Option.bind_eq_some_iff] using h
theorem aNd:∀ (d:Nat) (t:TypeId) (sh:Sh) (fuel:Nat) (cs:List Value) (x:DataW Hh×List MemPlace),zT P d t=some sh->DataW.trod enc P W 0 (λ_=>true) true fuel t cs=some x ->
  SV (sK W) sh cs/\∀ v∈cs,gM W.heap.size v:=by
 intro d
 induction d with
 | zero=>intro t sh fuel cs x h;simp[zT]at h
 | succ d ih =>
  intro t sh fuel cs x h ht;simp only[zT]at h
  split at h
  ·rename_i k hu
   simp only[Option.some.injEq]at h;subst h;obtain⟨n,rfl,_,hw⟩:=DataW.trod_int hu ht;simp only[Lit.wf,Bool.and_eq_true,decide_eq_true_eq]at hw;exact⟨⟨n,rfl,hw⟩,by simp;exact .int _ _⟩
  ·rename_i hu
   simp only[Option.some.injEq]at h;subst h;obtain⟨b,rfl,_⟩:=DataW.trod_bool hu ht;exact⟨⟨b,rfl⟩,by simp;exact .bool _⟩
  ·rename_i hu
   simp only[Option.some.injEq]at h;subst h;obtain⟨s,rfl,_,hs⟩:=DataW.trod_string hu ht;refine⟨⟨s.data.toList,by rw[aOg],?_⟩,by simp;exact .string _⟩
   have:s.data.toList.length=s.size:=rfl;rw[this];unfold maxLen at hs;omega
  ·rename_i e hu
   rw[Option.ite_none_left_eq_some]at h;obtain⟨hsz,h⟩:=h;simp only[Option.map_eq_some_iff]at h;obtain⟨se,hse,rfl⟩:=h;rcases DataW.trod_slice hu ht with ⟨rfl,_⟩ | ⟨a,len,cap,elems,rest,n,rfl,rfl,_,_,hlc,hcm,hel,h1,h2,_⟩
   ·exact⟨⟨_,[],rfl,Rows.nil _ _ none,by simp,by simp⟩,by simp;exact .snil _ _⟩
   obtain⟨hrl,h2⟩:=h2 rfl
   have hall:∀ i,i<cap->∃ cs y,W.cells? 0 (a.add (i*P.cellsOf e)) (P.cellsOf e)=some cs/\DataW.trod enc P W 0 (λ_=>true) true n e cs=some y:=by
    intro i hi
    by_cases hil:i<len
    ·have:=h1 i hil
     rw[List.getElem?_eq_getElem (by omega)]at this
     obtain⟨cs,q1,q2⟩:=aCl this;exact⟨cs,_,q1,q2⟩
    ·have:=h2 (i - len) (by omega)
     rw[List.getElem?_eq_getElem (by omega),show len+(i - len)=i by omega]at this
     obtain⟨cs,q1,q2⟩:=aCl this;exact⟨cs,_,q1,q2⟩
   by_cases hc0:cap=0
   ·subst hc0
    have:len=0:=by omega
    subst this;exact⟨⟨_,[],rfl,Rows.nil _ _ (some a),by simp,by simp⟩,by simp;exact .slc _ _ _ _ _ (.inr (.inr ⟨rfl,rfl,rfl,rfl⟩))⟩
   obtain⟨c0,y0,hc1,_⟩:=hall 0 (by omega)
   obtain⟨hc2,hc3⟩:=zS hc1;have hcell:=hc3 0 (by omega)
   rw[List.getElem?_eq_getElem (by omega)]at hcell
   obtain⟨hlt,hsp,hblk⟩:=aNy hcell;have ea:((a.add (0*P.cellsOf e)).add 0)=a:=by rw[Nat.zero_mul];simp[Addr.add]
   rw[ea]at hlt hsp hblk;have hcl:gM W.heap.size (.slice (some a) len cap) := .slc _ _ _ _ _ (.inl ⟨.inl ⟨hlt,rfl⟩,.inl rfl⟩)
   let rows:List (List Value):=(List.range len).map λi=>(W.cells? 0 (a.add (i*P.cellsOf e)) (P.cellsOf e)).getD []
   have hrows:∀ i (hi:i<len),∃ y,W.cells? 0 (a.add (i*P.cellsOf e)) (P.cellsOf e)=some (rows[i]'(by simp[rows,hi]))/\DataW.trod enc P W 0 (λ_=>true) true n e (rows[i]'(by simp[rows,hi]))=some y:=by
    intro i hi;obtain⟨cs,y,q1,q2⟩:=hall i (by omega)
    have:rows[i]'(by simp[rows,hi])=cs:=by simp[rows,q1]
    rw[this];exact⟨y,q1,q2⟩
   have hmem:∀ r∈rows,r.length=P.cellsOf e/\SV (sK W) se r/\∀ v∈r,gM W.heap.size v:=by
    intro r hr;obtain⟨i,hi,rfl⟩:=List.getElem_of_mem hr;have hil:i<len:=by simpa[rows] using hi
    obtain⟨y,q1,q2⟩:=hrows i hil;exact⟨(zS q1).1,ih e se n _ y hse q2⟩
   have hlenr:rows.length=len:=by simp[rows]
   have hfl:=gY rows λr hr=>(hmem r hr).1
   have hfc:∀ j,j<rows.flatten.length->W.cell? ⟨a.block,a.off+j,none⟩=rows.flatten[j]? :=by
    intro j hj;rw[hfl,hlenr]at hj;have hpos:0<P.cellsOf e:=by omega
    have hq:j / P.cellsOf e<len:=(Nat.div_lt_iff_lt_mul hpos).2 hj;obtain⟨y,q1,_⟩:=hrows _ hq;have hm:j % P.cellsOf e<P.cellsOf e:=Nat.mod_lt _ hpos;have:=(zS q1).2 _ hm;have hfp:=lI rows (λr hr=>(hmem r hr).1) (j / P.cellsOf e) (by omega)
    rw[<- hfp,List.getElem?_take,if_pos hm,List.getElem?_drop]at this;rw[show j / P.cellsOf e*P.cellsOf e+j % P.cellsOf e=j by rw[Nat.mul_comm];exact Nat.div_add_mod _ _]at this
    rw[<- this];have e2:a.add (j / P.cellsOf e*P.cellsOf e)=⟨a.block,a.off+j / P.cellsOf e*P.cellsOf e,none⟩:=aJV hsp _;rw[e2,aJV rfl];simp only;rw[Nat.add_assoc,show j / P.cellsOf e*P.cellsOf e+j % P.cellsOf e=j by rw[Nat.mul_comm];exact Nat.div_add_mod _ _]
   obtain⟨r1,r2⟩:=aL6 (o:=a.off) (cs:=rows.flatten) hblk hfc (by
    intro v hv;obtain⟨r,hr,hv⟩:=List.mem_flatten.1 hv;exact(hmem r hr).2.2 v hv)
   rw[hfl]at r1;refine⟨⟨_,rows,rfl,⟨λr hr=>(hmem r hr).1,.inr ⟨a.block,a.off,cap,?_,by omega,r2 _,r1⟩⟩,?_,λr hr=>(hmem r hr).2.1⟩,by simpa using hcl⟩
   ·obtain⟨b,o,sp⟩:=a
    simp only at hsp;subst hsp;rw[hlenr]
   ·rw[hlenr];unfold maxLen at hcm;omega
  ·rename_i fs hu
   rw[Option.ite_none_right_eq_some]at h;obtain⟨hsum,h⟩:=h;simp only[Option.map_eq_some_iff]at h;obtain⟨l,hl,rfl⟩:=h;obtain⟨xs,n,rfl,_,hlen,hxs,hf⟩:=DataW.trod_struct hu ht
   have:=tQ (W:=W) (f:=zT P d) (size:=P.cellsOf) (Ok:=λt cs=>∃ x,DataW.trod enc P W 0 (λ_=>true) true n t cs=some x) (λt sh cs h1 ⟨x,h2⟩=>ih t sh n cs x h1 h2) cs fs.toList 0 l hl (by
    intro f hfm;obtain⟨i,hi,rfl⟩:=List.getElem_of_mem hfm;have hi':i<fs.size:=by simpa using hi
    have:=hf i fs[i] (by simp[hi'])
    rw[List.getElem?_eq_getElem (by omega)]at this
    exact⟨_,by simpa using this⟩) _ rfl
   rw[hsum,List.drop_zero,List.take_of_length_le (by omega)]at this
   exact⟨this.1,this.2⟩
  ·rename_i m e hu
   rw[Option.ite_none_right_eq_some]at h;obtain⟨hsum,h⟩:=h;simp only[Option.map_eq_some_iff]at h;obtain⟨se,hse,rfl⟩:=h;obtain⟨xs,n,rfl,_,hlen,hxs,hf⟩:=DataW.trod_array hu ht;have hch:=aCB (n:=m) (s:=P.cellsOf e) cs (by omega)
   have hr:∀ r∈(List.range m).map (λi=>(cs.drop (i*P.cellsOf e)).take (P.cellsOf e)),SV (sK W) se r/\∀ v∈r,gM W.heap.size v:=by
    intro r hr;obtain⟨i,hi,rfl⟩:=List.mem_map.1 hr;have hi:i<m:=List.mem_range.1 hi;have:=hf i hi;rw[List.getElem?_eq_getElem (by omega)]at this
    exact ih e se n _ _ hse this
   refine⟨⟨_,by simp,hch,λr h=>(hr r h).1⟩,λv hv =>?_⟩
   rw[hch]at hv;obtain⟨r,h1,h2⟩:=List.mem_flatten.1 hv;exact(hr r h1).2 v h2
  ·simp at h
end
def lT(H:AH):List Sh->List Value->Prop
 | [],[]=>True
 | s :: ss,v :: vs=>tB H s v/\lT H ss vs
 | _,_=>False
theorem lT.nil_inv{H:AH}{args:List Value}(h:lT H [] args):args=[]:=by cases args<;>simp[lT]at h ⊢
theorem lT.cons_inv{H:AH}{s:Sh}{ss:List Sh}{args:List Value}(h:lT H (s :: ss) args):∃ v vs,args=v :: vs/\tB H s v/\lT H ss vs:=by
 cases args with
 | nil=>simp[lT]at h
 | cons v vs=>exact⟨v,vs,rfl,h.1,h.2⟩
theorem SV.u8{H:AH}{cs:List Value}(h:SV H (.int .u8) cs):∃ x:BitVec 8,cs=[u8 x]:=by
 obtain⟨n,rfl,h1,h2⟩:=h;have e1:IntKind.u8.min=0:=rfl;have e2:IntKind.u8.max=2 ^ 8 - 1:=rfl;rw[e1]at h1;rw[e2]at h2;simp only[Int.reducePow,Int.reduceSub]at h2;refine⟨BitVec.ofInt 8 n,?_⟩;rw[gE,BitVec.toNat_ofInt,Int.toNat_of_nonneg (Int.emod_nonneg _ (by decide)),Int.emod_eq_of_lt h1 (by omega)]
theorem SV.u16{H:AH}{cs:List Value}(h:SV H (.int .u16) cs):∃ x:BitVec 16,cs=[u16 x]:=by
 obtain⟨n,rfl,h1,h2⟩:=h;have e1:IntKind.u16.min=0:=rfl;have e2:IntKind.u16.max=2 ^ 16 - 1:=rfl;rw[e1]at h1;rw[e2]at h2;simp only[Int.reducePow,Int.reduceSub]at h2;refine⟨BitVec.ofInt 16 n,?_⟩;rw[jO,BitVec.toNat_ofInt,Int.toNat_of_nonneg (Int.emod_nonneg _ (by decide)),Int.emod_eq_of_lt h1 (by omega)]
theorem SV.u32{H:AH}{cs:List Value}(h:SV H (.int .u32) cs):∃ x:BitVec 32,cs=[u32 x]:=by
 obtain⟨n,rfl,h1,h2⟩:=h;have e1:IntKind.u32.min=0:=rfl;have e2:IntKind.u32.max=2 ^ 32 - 1:=rfl;rw[e1]at h1;rw[e2]at h2;simp only[Int.reducePow,Int.reduceSub]at h2;refine⟨BitVec.ofInt 32 n,?_⟩;rw[fH,BitVec.toNat_ofInt,Int.toNat_of_nonneg (Int.emod_nonneg _ (by decide)),Int.emod_eq_of_lt h1 (by omega)]
theorem SV.u64{H:AH}{cs:List Value}(h:SV H (.int .u64) cs):∃ x:BitVec 64,cs=[u64 x]:=by
 obtain⟨n,rfl,h1,h2⟩:=h;have e1:IntKind.u64.min=0:=rfl;have e2:IntKind.u64.max=2 ^ 64 - 1:=rfl;rw[e1]at h1;rw[e2]at h2;simp only[Int.reducePow,Int.reduceSub]at h2;refine⟨BitVec.ofInt 64 n,?_⟩;rw[dP,BitVec.toNat_ofInt,Int.toNat_of_nonneg (Int.emod_nonneg _ (by decide)),Int.emod_eq_of_lt h1 (by omega)]
theorem SV.i64{H:AH}{cs:List Value}(h:SV H (.int .i64) cs):∃ n:Int,cs=[vi n] /\ -9223372036854775808<=n/\n<9223372036854775808:=by
 obtain⟨n,rfl,h1,h2⟩:=h;have e1:IntKind.i64.min = -9223372036854775808:=rfl;have e2:IntKind.i64.max=9223372036854775807:=rfl;rw[e1]at h1;rw[e2]at h2;exact⟨n,rfl,h1,by omega⟩
theorem aBK{α:Type}{f:α->Value}:∀ {rows:List (List Value)},(∀ r∈rows,∃ x,r=[f x])->∃ l:List α,rows=l.map λx=>[f x]
 | [],_=>⟨[],rfl⟩
 | r :: rows,h=>by
  obtain⟨x,rfl⟩:=h r (by simp)
  obtain⟨l,rfl⟩:=aBK (rows:=rows) (λr hr=>h r (by simp[hr]))
  exact⟨x :: l,rfl⟩
theorem SV.vals{α:Type}{f:α->Value}{H:AH}{e:Sh}{cs:List Value}(hf:∀ r,SV H e r->∃ x,r=[f x])(h:SV H (.slice 1 e) cs):∃ v,∃ l:List α,cs=[v]/\iT H v (l.map f)/\l.length<=9223372036854775807:=by
 obtain⟨v,rows,rfl,h1,h2,h3⟩:=h;obtain⟨l,rfl⟩:=aBK λr hr=>hf r (h3 r hr);refine⟨v,l,rfl,?_,by simpa using h2⟩
 simpa[iT,List.map_map,Function.comp_def] using h1
end
section
open Go.RowKit (Below okWide_bool_mk shut_bool)
open Go.ChangeShapes Go.WideShapes
section
variable {Hh:Type}{enc:TypeId×Value->Hh}{P:Program}{W:World}
theorem aEG{B:Nat}{v:Value}(h:∀ x∈v.cells.toList,gM B x):gM B v:=by
 cases v with
 | agg a =>
  refine .agg a.toList a.toList rfl λi x y hx hy =>?_;rw[hx]at hy;simp only[Option.some.injEq]at hy;subst hy;exact h _ (List.mem_of_getElem? hx)
 | _=>exact h _ (by simp[Value.cells])
theorem aOY{t:TypeId}{sh:Sh}{d:Nat}{v:Value}{x:DataW Hh}{ps:List MemPlace}{b0:Nat}(hsh:zT P d t=some sh)(hval:Value.okWide P W .any b0 t v)(h:DataW.Trod enc P W 0 (λ_=>true) true t v x ps):
  tB (sK W) sh v/\gM W.heap.size v:=by
 obtain⟨fuel,h⟩:=h;obtain⟨h1,h2⟩:=aNd d t sh fuel _ _ hsh h;refine⟨?_,aEG h2⟩;cases d with
 | zero=>simp[zT]at hsh
 | succ d =>
 simp only[zT]at hsh
 split at hsh
 ·rename_i k hu
  simp only[Option.some.injEq]at hsh;subst hsh;obtain⟨n,rfl⟩:=okWide_int hu hval;exact h1
 ·rename_i hu
  simp only[Option.some.injEq]at hsh;subst hsh;obtain⟨n,rfl⟩:=okWide_bool hu hval;exact h1
 ·rename_i hu
  simp only[Option.some.injEq]at hsh;subst hsh;obtain⟨n,rfl⟩:=okWide_string hu hval;exact h1
 ·rename_i e hu
  rw[Option.ite_none_left_eq_some]at hsh;obtain⟨_,hsh⟩:=hsh;simp only[Option.map_eq_some_iff]at hsh;obtain⟨se,_,rfl⟩:=hsh;obtain⟨a,n,c,rfl⟩:=okWide_slice hu hval;exact h1
 ·rename_i fs hu
  rw[Option.ite_none_right_eq_some]at hsh;obtain⟨_,hsh⟩:=hsh;simp only[Option.map_eq_some_iff]at hsh;obtain⟨se,_,rfl⟩:=hsh;obtain⟨cs,rfl,_⟩:=okWide_struct hu hval;exact⟨cs.toList,by simp,h1⟩
 ·rename_i m e hu
  rw[Option.ite_none_right_eq_some]at hsh;obtain⟨_,hsh⟩:=hsh;simp only[Option.map_eq_some_iff]at hsh;obtain⟨se,_,rfl⟩:=hsh
  have:∃ cs,v = .agg cs/\cs.size=P.cellsOf t:=by
   simp only[Value.okWide,hu]at hval;obtain⟨cs,h1,h2,_⟩:=hval;exact⟨cs,h1,h2⟩
  obtain⟨cs,rfl,_⟩:=this;exact⟨cs.toList,by simp,h1⟩
 ·simp at hsh
theorem aHK{d:Nat}{b0:Nat}:∀ {ts:List TypeId} {shs:List Sh} {vs:List Value} {ds:List (DataW Hh)} {ps:List MemPlace},ts.mapM (zT P d)=some shs ->
  (∀ (j:Nat) t v,ts[j]? = some t->vs[j]? = some v->Value.okWide P W .any b0 t v)->DataW.TrodAll enc P W 0 (λ_=>true) true ts vs ds ps ->
  lT (sK W) shs vs/\(∀ v∈vs,gM W.heap.size v)/\ds.length=ts.length
 | [],shs,vs,ds,ps,h,_,ht=>by
  simp at h;subst h;cases vs<;>cases ds<;>simp[DataW.TrodAll,lT]at ht ⊢
 | t :: ts,shs,vs,ds,ps,h,hv,ht=>by
  simp only[List.mapM_cons,Option.bind_eq_bind,Option.bind_eq_some_iff,Option.pure_def,Option.some.injEq]at h;obtain⟨s,hs,ss,hss,rfl⟩:=h;cases vs with
  | nil=>cases ds<;>simp[DataW.TrodAll]at ht
  | cons v vs =>
   cases ds with
   | nil=>simp[DataW.TrodAll]at ht
   | cons x ds =>
    simp only[DataW.TrodAll]at ht;obtain⟨p,q,h1,h2,rfl⟩:=ht;obtain⟨g1,g2⟩:=aOY hs (hv 0 t v rfl rfl) h1;obtain⟨g3,g4,g5⟩:=aHK hss (λj t v a b=>hv (j+1) t v (by simpa using a) (by simpa using b)) h2
    exact⟨⟨g1,g3⟩,by simpa using⟨g2,g4⟩,by simp[g5]⟩
theorem vJ(hl:laidOutB P=true){W':World}{sp:Nat->Bool}:∀ {ts:List TypeId} {vs:List Value} {ds:List (DataW Hh)} {ps:List MemPlace},(∀ t∈ts,P.readableRec t=true/\t<P.types.size) ->
  DataW.TrodAll enc P W 0 (λ_=>true) true ts vs ds ps->(∀ x∈ps,W.sameAt W' x)->(∀ x∈ps,sp x.block=true)->DataW.TrodAll enc P W' 0 sp true ts vs ds ps
 | [],vs,ds,ps,_,ht,_,_=>by cases vs<;>cases ds<;>simp[DataW.TrodAll]at ht ⊢; exact ht
 | t :: ts,vs,ds,ps,hr,ht,hs,hp=>by
  cases vs with
  | nil=>cases ds<;>simp[DataW.TrodAll]at ht
  | cons v vs =>
   cases ds with
   | nil=>simp[DataW.TrodAll]at ht
   | cons x ds =>
    simp only[DataW.TrodAll]at ht ⊢;obtain⟨p,q,h1,h2,rfl⟩:=ht;refine⟨p,q,?_,?_,rfl⟩
    ·exact WideElems.Trod_stays hl (hr t (by simp)).1 (hr t (by simp)).2 h1 (λx hx=>hs x (by simp[hx])) (λx hx=>hp x (by simp[hx]))
    ·exact vJ hl (λt ht=>hr t (by simp[ht])) h2 (λx hx=>hs x (by simp[hx])) (λx hx=>hp x (by simp[hx]))
end
theorem aMc{C:Checked}{H:Type}{enc:TypeId×Value->H}{f:FuncId}{fn:Func}{s:ChangeSpec}{tb:TypeId}{shs:List Sh}{d:Nat}{kps:FuncId->nA}{ext:cJ}(hfn:C.prog.funcs[f]? = some fn)(hs:∀ ds:List (DataW H),ds.length=fn.params.toList.length->s.fn H ds={ results:=[.lit (.bool true)],args:=ds })(hv:s.vars=[])(hres:fn.resultTypes = #[tb])(htb:C.prog.underlying tb=some .bool)(hl:laidOutB C.prog=true)(hread:(fn.params.toList.all fun t=>C.prog.readableRec t&&decide (t<C.prog.types.size))=true)(hsh : fn.params.toList.mapM (zT C.prog d) = some shs)(hmix : C.prog.follows .mixedOrders = true)(hbody : fn.body.isNone = false)(hname : (fn.name == "runtime.NumGoroutine") = false)(hext : jR C.prog ext)(law:∀ (H:AH) (args:List Value) (Q:Value->AH->Prop),lT H shs args->(∀ H',Q (.bool true) H')->lR C.prog kps ext f args H Q){W:World}{base:Nat}{args:Array Value}{ds gs:List (DataW H)}{before:List MemPlace}(hval0:∀ (j:Nat) t v,fn.params[j]? = some t->args[j]? = some v->Value.okWide C.prog W .any base t v)(hW:DataW.Whole enc C.prog fn.params.toList s.vars false W args.toList ds gs before)(hglob:C.prog.globals.size<=W.heap.size):
  Calls C.prog f args W λe W'=>∃ v,e = .returned v/\s.post enc C.prog fn false true false false W args v W':=by
 have hW':=hW;obtain⟨p,q,hA,hV,rfl,hfz,hnd⟩:=hW;rw[hv]at hV
 have hgq:gs=[]/\q=[]:=by
  cases gs with
  | nil=>simpa[DataW.TrodVars] using hV
  | cons g gs=>simp[DataW.TrodVars]at hV
 obtain⟨rfl,rfl⟩:=hgq;obtain⟨g1,g2,g3⟩:=aHK hsh (λj t v a b=>hval0 j t v (by simpa using a) (by simpa using b)) hA
 have hcall:=entry (f:=f) ⟨fn,hfn,hbody,hname⟩ hmix hext (kps:=kps) (args:=args) (w:=W) hglob g2 (law (sK W) args.toList _ g1 λ_=>rfl);refine hcall.mono ?_;rintro e W' ⟨rfl,hb⟩;refine⟨_,rfl,?_⟩;have hsd:=hs ds g3;have hrl:(Value.bool true).resultList fn.resultTypes.size=[.bool true]:=by rw[hres];rfl
 refine aCq (pa:=p) (pv:=[]) hW' ?_ ?_ ?_ rfl hb ?_
 ·intro b sp hd
  rw[List.append_nil,hsd,hrl,hres];exact⟨[],[],shut_bool htb true,rfl,rfl⟩
 ·intro sp hsp
  rw[List.append_nil,hsd];refine vJ hl (λt ht =>?_) hA (λx hx=>hb.same ?_) (λx hx=>hsp x (by simpa using hx))
  ·have:=List.all_eq_true.1 hread t ht
   simpa using this
  ·exact hW'.lt x (by simpa using hx)
 ·intro sp _
  rw[List.append_nil,hsd,hv]
  rfl
 ·intro j t r hj hr
  rw[hres]at hj;rw[hrl]at hr;cases j with
  | zero =>
   simp at hj hr;subst hj;subst hr;exact okWide_bool_mk htb true
  | succ j=>simp at hr
def aL3(P:Program):Bool:=match P.globals.size with
 | 0=>true
 | g+1=>(((begin P (λ_ _=>0) default).world.heap[g]?).bind Obj.row?).isSome
theorem aKJ{P:Program}{w:World}(h:aL3 P=true)(hs:w.ShapedOpen P):P.globals.size<=w.heap.size:=by
 unfold aL3 at h
 split at h
 ·rename_i e;omega
 ·rename_i g e
  rw[Option.isSome_iff_exists]at h;obtain⟨⟨z,t⟩,h⟩:=h;obtain⟨cs,hc,_⟩:=hs.1 g z t (by omega) h
  rw[e];exact(Array.getElem?_eq_some_iff.1 hc).1
theorem aLt{C:Checked}{os:Os}{H:Type}{enc:TypeId×Value->H}{f:FuncId}{fn:Func}{s:ChangeSpec}{conds:List PathCond}{tb:TypeId}{shs:List Sh}{d:Nat}{kps:FuncId->nA}{ext:cJ}{l:List (String×DataW Unit)}(own:ownKnob C.prog.godebug=none)(started:os.Started)(noInit:C.prog.inits.idxOf? f=none)(hfn:C.prog.funcs[f]? = some fn)(witness:∃ (w:World) (tape:Tape) (i:Input),w.os=os/\(w.forCall tape i).Shaped C.prog/\i.vars=[]/\Input.okWide C.prog (w.forCall tape i) .any w.heap.size f i /\
   ((s.pre enc C.prog fn conds false (w.forCall tape i).memory i.args/\laidMetH C.prog l (w.forCall tape i).memory)/\sizedMet enc C.prog fn (OpenSpec.ofChange s) false (w.forCall tape i).memory i.args)/\Assume.holds {} C.prog (lone (Frame.enter C.prog f i.args .normal) [] (w.forCall tape i)))(hs:∀ ds:List (DataW H),ds.length=fn.params.toList.length->s.fn H ds={ results:=[.lit (.bool true)],args:=ds })(hv:s.vars=[])(hres:fn.resultTypes = #[tb])(htb:C.prog.underlying tb=some .bool)(hl:laidOutB C.prog=true)(hread:(fn.params.toList.all fun t=>C.prog.readableRec t&&decide (t<C.prog.types.size))=true)(hsh : fn.params.toList.mapM (zT C.prog d) = some shs)(hmix : C.prog.follows .mixedOrders = true)(hglob : aL3 C.prog = true)(hbody : fn.body.isNone = false)(hname : (fn.name == "runtime.NumGoroutine") = false)(hext : jR C.prog ext)(law:∀ (H:AH) (args:List Value) (Q:Value->AH->Prop),lT H shs args->(∀ H',Q (.bool true) H')->lR C.prog kps ext f args H Q):
  ReturnsInHanded {} C os f .any (λw args=>(s.pre enc C.prog fn conds false w args/\laidMetH C.prog l w)/\sizedMet enc C.prog fn (OpenSpec.ofChange s) false w args) (s.post enc C.prog fn false true false false):=by
 refine returnsInHanded_of_calls own started noInit witness ?_;intro w tape i _ hsh' _ hok hpre hholds;obtain⟨_,_,_,fn',hfn',_,_,_,_,hval⟩:=hok;have e:fn'=fn:=Option.some.inj (hfn'.symm.trans hfn);subst e;obtain⟨⟨⟨ds,gs,before,hw,hc⟩,_⟩,hz⟩:=hpre;have hw':=DataW.Whole.of_heap (w':=w.forCall tape i) (by rfl) hw
 refine(aMc hfn hs hv hres htb hl hread hsh hmix hbody hname hext law hval hw' (aKJ hglob hsh')).mono λe W' ⟨v,he,hp⟩ =>?_;subst he;exact ChangeSpec.post_blind hp
end
end Go.AM
