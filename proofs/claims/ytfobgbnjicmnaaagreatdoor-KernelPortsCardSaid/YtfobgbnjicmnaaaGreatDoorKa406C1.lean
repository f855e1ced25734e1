/- CONTRACTS ON THE PRINTED FUNCTIONS. -/
import Derived.Test.YtfobgbnjicmnaaaGreatDoorKa406C0
set_option linter.all false
section
namespace Go.AM
open Go.Sort (SWO PermIn SortedIn insertionSort)
set_option maxRecDepth 20000
abbrev PlV:={v:Value // plain1 v=true}
structure bZ where
 r:lK
 v:PlV
def bZ.cells (x:bZ):List Value:=[u32 x.r.number,u32 x.r.action,x.v.1]
instance:Inhabited bZ:=⟨⟨⟨0,0,[]⟩,⟨bL,rfl⟩⟩⟩
structure eE where
 c:iG
 v:PlV
def eE.cells (x:eE):List Value:=[u32 x.c.number,x.v.1]
instance:Inhabited eE:=⟨⟨⟨0,[]⟩,⟨bL,rfl⟩⟩⟩
theorem oV:mZ 3 bZ.cells:=⟨fun _=>rfl,fun x=>by simp [bZ.cells,x.v.2]⟩
theorem aDh:mZ 2 eE.cells:=⟨fun _=>rfl,fun x=>by simp [eE.cells,x.v.2]⟩
def rkR (x:bZ):Nat:=tT x.r.action
def ltC (x y:eE):Bool:=decide (x.c.number.toNat<y.c.number.toNat)
theorem aLH:SWO ltC:=⟨fun x=>by simp [ltC],fun x y z=>by simp only [ltC,decide_eq_true_eq]; omega,fun x y z=>by simp only [ltC,decide_eq_false_iff_not]; omega⟩
def kD (n:Nat) (H:AH) (c:iG) (cs:List Value):Prop:=∃ v,cs=[u32 c.number,v]/\dH (fF n) H 2 v c.branches
def pJ (H:AH) (p:sM) (cs:List Value):Prop:=∃ v,cs=[v,u32 p.default]/\dH (kD 0) H 2 v p.cases
theorem iA.zero (v:Value):iA 0 v:=fun _ _=>Nat.zero_le _
theorem kD.sub {n:Nat} {H H':AH} {c:iG} {cs:List Value} (h:kD n H c cs) (e:Sub H H'):kD n H' c cs:=by
 obtain ⟨v,h1,h2⟩:=h;exact ⟨v,h1,h2.sub (fun _ _ _ _ h e=>fF.sub h e) e⟩
section
variable {E:Sy} {H H' H0 Z:AH} {Q:Value->AH->Prop} {L:List Res}
theorem aAy {v:Value} {l:List lK} (h:dH jT H 3 v l):∃ es:List bZ,es.map bZ.r=l/\Rows H 3 v (es.map bZ.cells)/\∀ e∈es,jT H e.r e.cells:=by
 obtain ⟨rows,h1,h2,h3⟩:=h
 have key:∀ (l:List lK) (rows:List (List Value)),rows.length=l.length->(∀ i (h1:i<l.length) (h2:i<rows.length),jT H l[i] rows[i])->∃ es:List bZ,es.map bZ.r=l/\es.map bZ.cells=rows/\∀ e∈es,jT H e.r e.cells:=by
  intro l
  induction l with
  | nil =>
   intro rows h1 _;have:rows=[]:=List.length_eq_zero_iff.1 h1;subst this;exact ⟨[],rfl,rfl,by simp⟩
  | cons r l ih =>
   intro rows h1 h2
   match rows,h1 with
   | row :: rows,h1 =>
    obtain ⟨es,e1,e2,e3⟩:=ih rows (by simpa using h1) fun i a b=>h2 (i+1) (by simpa using a) (by simpa using b)
    have h0:=h2 0 (by simp) (by simp)
    simp only [List.getElem_cons_zero] at h0;obtain ⟨hl,cv,hc,hr⟩:=id h0;have he:bZ.cells ⟨r,⟨cv,hr.plain⟩⟩=row:=by rw [hc]; rfl
    refine ⟨⟨r,⟨cv,hr.plain⟩⟩ :: es,by simp [e1],by simp [e2,he],fun e hm =>?_⟩
    rcases List.mem_cons.1 hm with rfl | hm
    ·rw [he]; exact h0
    ·exact e3 e hm
 obtain ⟨es,e1,e2,e3⟩:=key l rows h2 h3;exact ⟨es,e1,by rw [e2]; exact h1,e3⟩
theorem aAE {v:Value} {es:List bZ} (h:Rows H 3 v (es.map bZ.cells)) (ha:∀ e∈es,jT H e.r e.cells):dH jT H 3 v (es.map bZ.r) :=
 ⟨_,h,by simp,fun i h1 h2=>by
  simp only [List.getElem_map];exact ha _ (List.getElem_mem _)⟩
theorem aHm (hE:aU E):aA9 E (.func (.func (E.fid i.f37)) #[] #[]) bZ.cells (ltK rkR):=by
 intro x y H K hK;rw [cG];simp only [List.nil_append,List.append_nil];apply hE.f37;have x2:Ext H ((H.new (.cells x.cells none)).new (.cells y.cells none)):=((Ext.refl _).new _).new _;have b1:((H.new (.cells x.cells none)).new (.cells y.cells none)).get H.next = .cells x.cells none:=by rw [AH.get_new_ne _ _ (by rw [AH.next_new]; omega),AH.get_new_self]
 have b2:((H.new (.cells x.cells none)).new (.cells y.cells none)).get (H.next+1) = .cells y.cells none:=AH.get_new_self (H.new _) _;have c1:∀ z:bZ,z.cells[1]? = some (u32 z.r.action):=fun _=>rfl;simp only [F.f37,aZ,AM.aW,aS,List.toList_toArray,AH.next_new_z,b1,b2,c1,aD];refine S.f42 hE _ fun H3 e3 =>?_;refine ⟨by rw [aN,aN,e3.cells b2]; simp only [dG,b2],?_⟩
 refine S.f42 hE _ fun H4 e4 =>?_;refine S.f9 hE _ _ ?_;refine hK _ _ (x2.trans (e3.trans e4)) ?_;unfold aND ltK rkR
 by_cases h:tT x.r.action<tT y.r.action
 ·rw [if_pos (by omega)]; simp [h]
 ·rw [if_neg (by omega)]
  split <;> simp [h]
theorem aGi (hE:aU E):aA9 E (.func (.func (E.fid i.f38)) #[] #[]) eE.cells ltC:=by
 intro x y H K hK;rw [cG];simp only [List.nil_append,List.append_nil];apply hE.f38;have x2:Ext H ((H.new (.cells x.cells none)).new (.cells y.cells none)):=((Ext.refl _).new _).new _;have b1:((H.new (.cells x.cells none)).new (.cells y.cells none)).get H.next = .cells x.cells none:=by rw [AH.get_new_ne _ _ (by rw [AH.next_new]; omega),AH.get_new_self]
 have b2:((H.new (.cells x.cells none)).new (.cells y.cells none)).get (H.next+1) = .cells y.cells none:=AH.get_new_self (H.new _) _;have c0:∀ z:eE,z.cells[0]? = some (u32 z.c.number):=fun _=>rfl;simp only [F.f38,aZ,AM.aW,aS,List.toList_toArray,AH.next_new_z,b1,b2,c0,aD];refine S.f10 hE _ _ ?_;refine hK _ _ x2 ?_;unfold aJ6 ltC
 by_cases h:x.c.number.toNat<y.c.number.toNat
 ·rw [if_pos h]; simp [h]
 ·rw [if_neg h]
  split <;> simp [h]
def aAl (E:Sy) (m:Nat):Prop:=∀ {H:AH} {Q:Value->AH->Prop} {b c:Nat} {d:Array eE} {tail:List Value} {f:Option Nat},H.get b=lW eE.cells d tail f->d.size<=m ->
 (∀ d' H',PermIn 0 d.size d d'->SortedIn ltC 0 d.size d'->gB H b eE.cells tail f d' H'->Q (.tuple #[]) H')->E.call (E.fid i.f149) [slc b 0 d.size c,.func (.func (E.fid i.f38)) #[] #[]] H Q
def uE (E:Sy) (m:Nat):Prop:=∀ {H:AH} {Q:Value->AH->Prop} {b c:Nat} {d:Array bZ} {tail:List Value} {f:Option Nat},H.get b=lW bZ.cells d tail f->d.size<=m ->
 (∀ d' H',d'.toList=eW rkR d.toList 4->gB H b bZ.cells tail f d' H'->Q (.tuple #[]) H')->E.call (E.fid i.f150) [slc b 0 d.size c,.func (.func (E.fid i.f37)) #[] #[]] H Q
theorem aE0 (hE:aU E):aAl E 12:=fun hg hm hQ=>S.slices_SortFunc_few hE aLH aDh (aGi hE) hg rfl hm hQ
theorem aMm (x:bZ):rkR x<4:=by have:=(aC4 x.r.action).1; unfold rkR; omega
theorem aEn (hE:aU E):uE E 19:=fun {H Q b c d tail f} hg hm hQ=>by
 refine S.slices_SortStableFunc_few hE oV (aHm hE) hg rfl (by omega) fun H' s=>hQ _ _ ?_ s
 obtain ⟨h1,h2⟩:=Go.Sort.insertionSort_holds (aLb rkR) d 0 d.size (Nat.zero_le _) (Nat.le_refl _);have hsz:=h1.1;have h2:SortedIn (ltK rkR) 0 (insertionSort (ltK rkR) d 0 d.size).size (insertionSort (ltK rkR) d 0 d.size):=by rw [hsz]; exact h2
 exact aGp rkR (rP rkR d 0 d.size (Nat.le_refl _)) (tO rkR h2) fun x _=>aMm x
theorem dO.arrE {α:Type} [Inhabited α] {enc:α->List Value} {sz:Nat} {v:Value} {l:List α} (h:dO zH H sz v (l.map enc)) (he:mZ sz enc) (hne:l≠[]) :
  ∃ b c tail f,v=slc b 0 l.length c/\H.get b=lW enc l.toArray tail f/\∀ (d':Array α) H',d'.size=l.length->gB H b enc tail f d' H'->Upd (bP sz v (l.map enc)) (bP sz v (d'.toList.map enc)) H H':=by
 rcases h.2 with ⟨h0,_⟩ | ⟨b,f,c,cs,g1,rfl,g3,g4,g5,g6,g7⟩
 ·exact (hne (List.map_eq_nil_iff.1 h0)).elim
 ·rw [List.length_map] at g4 g6 ⊢
  have hfl:(l.map enc).flatten=l.flatMap enc:=(List.flatMap_def).symm;rw [hfl] at g6
  have hcs:cs=l.flatMap enc++cs.drop (l.length*sz):=by
   conv=>lhs; rw [<- List.take_append_drop (l.length*sz) cs,g6]
  refine ⟨b,c,cs.drop (l.length*sz),f,rfl,by rw [g3]; unfold lW; rw [<- hcs],fun d' H' hd s=>⟨?_,?_,?_,by have h:=xX (slc b 0 l.length c); exact h⟩⟩
  ·exact s.only
  ·refine ⟨fun r hr =>?_,.inr ⟨b,f,c,d'.toList.flatMap enc++cs.drop (l.length*sz),g1,?_,s.get,?_,?_,?_,g7⟩⟩
   ·obtain ⟨x,_,rfl⟩:=List.mem_map.1 hr
    exact ⟨he.len x,he.plain x⟩
   ·simp [hd]
   ·simp [hd,g4]
   ·have h1:(d'.toList.flatMap enc).length=l.length*sz:=by rw [he.flat]; simp [hd]
    have h2:=he.flat l;have h3:=congrArg List.length hcs;rw [List.length_append,h2] at h3;rw [List.length_append,h1];omega
   ·have h1:(d'.toList.flatMap enc).length=l.length*sz:=by rw [he.flat]; simp [hd]
    rw [List.length_map,show d'.toList.length=l.length by simp [hd],<- h1,List.take_left]
    exact List.flatMap_def
  ·intro x hx
   refine ⟨.inl hx,?_⟩
   have hb:x=b:=by
    have:jM (slc b 0 l.length c)=[b]:=rfl;have hx:x∈jM (slc b 0 l.length c):=hx;rw [this] at hx
    simpa using hx
   subst hb;exact aCp s.get
end
end Go.AM
end
section
namespace Go.AM
open Go.Sort (SWO PermIn SortedIn insertionSort)
set_option maxRecDepth 20000
structure dE where
 n:BitVec 32
 v:PlV
 l:List bZ
def dE.kv (e:dE):BitVec 32×PlV:=(e.n,e.v)
def mK (e:dE):Res:=bP 3 e.v.1 (e.l.map bZ.cells)
def pv (v:PlV):Value:=v.1
def aBx (es:List bZ) (n:BitVec 32):List bZ:=es.filter fun x=>decide (x.r.number=n)
structure Grp (es:List bZ) (al:List dE):Prop where
 nd:(al.map dE.n).Nodup
 all:∀ e∈al,e.l=aBx es e.n/\e.l≠[]
 mem:∀ x∈es,x.r.number∈al.map dE.n
section
variable {E:Sy} {H H' H0 Z:AH} {Q:Value->AH->Prop} {L:List Res}
theorem aAJ:∀ (al:List dE) (n:BitVec 32),cE n (al.map dE.kv)=(al.find? fun e=>decide (n=e.n)).map dE.v
 | [],n=>rfl
 | e :: al,n=>by
  rw [List.map_cons,kE,List.find?_cons]
  by_cases h:n=e.n
  ·simp [h,dE.kv]
  ·simp [h,dE.kv,aAJ al n]
theorem qA (es:List bZ) (x:bZ) (n:BitVec 32):aBx (es++[x]) n=if x.r.number=n then aBx es n++[x] else aBx es n:=by
 unfold aBx;rw [List.filter_append]
 by_cases h:x.r.number=n <;> simp [h]
theorem Grp.old {es:List bZ} {al:List dE} (g:Grp es al) {x:bZ} {i:Nat} (hi:i<al.length) (hn:al[i].n=x.r.number) (v':PlV):Grp (es++[x]) (al.set i ⟨al[i].n,v',al[i].l++[x]⟩):=by
 have hnm:(al.set i ⟨al[i].n,v',al[i].l++[x]⟩).map dE.n=al.map dE.n:=by
  rw [List.map_set]
  show (al.map dE.n).set i al[i].n=_
  have:=List.set_getElem_self (as:=al.map dE.n) (i:=i) (by simpa using hi)
  rw [List.getElem_map] at this;exact this
 refine ⟨by rw [hnm]; exact g.nd,fun e he =>?_,fun y hy =>?_⟩
 ·obtain ⟨j,hj,rfl⟩:=List.getElem_of_mem he
  have hj':j<al.length:=by simpa using hj
  rw [List.getElem_set]
  split
  ·rename_i hij
   subst hij;obtain ⟨h1,_⟩:=g.all _ (List.getElem_mem hi);refine ⟨?_,by simp⟩
   simp only;rw [qA,if_pos hn.symm,h1]
  ·rename_i hij
   obtain ⟨h1,h2⟩:=g.all _ (List.getElem_mem hj');refine ⟨?_,h2⟩;rw [qA,if_neg,h1];intro e;have hnd:=g.nd;have:=(List.getElem_inj (xs:=al.map dE.n) (i:=i) (j:=j) (h₀:=by simpa using hi) (h₁:=by simpa using hj') hnd).1 (by rw [List.getElem_map,List.getElem_map,hn,e])
   exact hij this
 ·rw [hnm]
  rcases List.mem_append.1 hy with hy | hy
  ·exact g.mem y hy
  ·simp only [List.mem_singleton] at hy
   subst hy;rw [<- hn];exact List.mem_map.2 ⟨_,List.getElem_mem hi,rfl⟩
theorem Grp.new {es:List bZ} {al:List dE} (g:Grp es al) {x:bZ} (hn:x.r.number ∉ al.map dE.n) (v':PlV):Grp (es++[x]) (al++[⟨x.r.number,v',[x]⟩]):=by
 have hno:aBx es x.r.number=[]:=by
  unfold aBx;rw [List.filter_eq_nil_iff];intro y hy;simp only [decide_eq_true_eq];intro e;exact hn (by rw [<- e]; exact g.mem y hy)
 refine ⟨?_,fun e he =>?_,fun y hy =>?_⟩
 ·rw [List.map_append,List.nodup_append]
  exact ⟨g.nd,by simp,fun a ha b hb=>by simp at hb; subst hb; rintro rfl; exact hn ha⟩
 ·rcases List.mem_append.1 he with he | he
  ·obtain ⟨h1,h2⟩:=g.all e he
   refine ⟨?_,h2⟩;rw [qA,if_neg,h1];intro e';exact hn (by rw [e']; exact List.mem_map.2 ⟨e,he,rfl⟩)
  ·simp only [List.mem_singleton] at he
   subst he;refine ⟨?_,by simp⟩
   simp only;rw [qA,if_pos rfl,hno]
   rfl
 ·rw [List.map_append]
  rcases List.mem_append.1 hy with hy | hy
  ·exact List.mem_append_left _ (g.mem y hy)
  ·simp only [List.mem_singleton] at hy
   subst hy;simp
theorem vD:∀ (al:List dE) (i:Nat) (hi:i<al.length) (v':PlV) (l':List bZ),(al.map dE.n).Nodup->dQ al[i].n v' (al.map dE.kv)=(al.set i ⟨al[i].n,v',l'⟩).map dE.kv
 | e :: al,0,hi,v',l',_=>by simp [dQ,dE.kv]
 | e :: al,i+1,hi,v',l',hnd=>by
  have hi':i<al.length:=by simpa using hi
  rw [List.map_cons,List.nodup_cons] at hnd;have hne:¬ e.n=al[i].n:=fun h=>hnd.1 (by rw [h]; exact List.mem_map.2 ⟨_,List.getElem_mem hi',rfl⟩)
  have ih:=vD al i hi' v' l' hnd.2;simp only [List.getElem_cons_succ,List.map_cons,List.set_cons_succ,dQ];have h0:(e.kv).1=e.n:=rfl;rw [h0,if_neg hne,ih]
theorem vJ:∀ (al:List dE) (n:BitVec 32) (v':PlV),n ∉ al.map dE.n->dQ n v' (al.map dE.kv)=al.map dE.kv++[(n,v')]
 | [],n,v',_=>rfl
 | e :: al,n,v',h=>by
  simp only [List.map_cons,List.mem_cons,not_or] at h;have h0:(e.kv).1=e.n:=rfl;rw [List.map_cons,dQ,h0,if_neg (fun x=>h.1 x.symm),vJ al n v' h.2]
  rfl
def fK (t2 t3 r:Nat) (c2 c3:List Value) (al:List dE):List Res:=[aF t2 c2,aF t3 c3,cF u32 pv r (al.map dE.kv)]++al.map mK
theorem aFY (x:bZ) (H:AH):aG 3 (ptr H.next 0) (.agg x.cells.toArray) (H.new (.cells [(.int .u32 0),(.int .u32 0),(.slice none 0 0)] none))=some (H.new (.cells x.cells none)):=by
 rw [cX,AH.get_new_self];have h3:AM.bF [(.int .u32 0),(.int .u32 0),(.slice none 0 0)] 0 x.cells=x.cells:=rfl;have h4:x.cells.all plain1=true:=oV.plain x;have h5:x.cells.length=3:=rfl;simp only [List.size_toArray,List.toList_toArray,h4,h5,List.length_cons,List.length_nil,Nat.zero_add,Nat.le_refl,and_self,if_true,h3,AH.new_put]
theorem aLl {t2 t3 r:Nat} {c2 c3:List Value} {al:List dE} {es:List bZ} (g:Has H0 Z H (fK t2 t3 r c2 c3 al)) (gr:Grp es al) (hlen:es.length<1000) (x:bZ) {R:AH->Prop}
  (next:∀ al' H',Has H0 Z H' (fK t2 t3 r c2 c3 al')->Grp (es++[x]) al'->R H') {b4:Nat} (hb4:b4=H.next) :
  opt (look 0 (.slice none 0 0) false (.map (some r)) (u32 x.r.number) (H.new (.cells x.cells none))) fun v9 =>
  eK (app 3 32 v9 (slc (H.next+1) 0 1 1) ((H.new (.cells x.cells none)).new (.cells x.cells none))) fun v12 H4 =>
  aC (ptr b4 0) H4=aC (ptr b4 0) (H.new (.cells x.cells none))/\opt (cN 0 (.map (some r)) (u32 x.r.number) v12 H4) fun H5=>R H5:=by
 subst hb4;have g2:=g.newbox x.cells;have hbl:(fK t2 t3 r c2 c3 al).length=3+al.length:=by simp [fK]; omega
 have hm:=g2.mapAt (k:=2) (fk:=u32) (fv:=pv) (r:=r) (l:=al.map dE.kv) (by simp [fK])
 have hl:=hm.look (kd:=0) lQ x.r.number (.slice none 0 0) false;have hl2:(al.map dE.kv).lookup x.r.number=(al.find? fun e=>decide (x.r.number=e.n)).map dE.v:=aAJ al x.r.number;rw [hl2] at hl
 have hbx:∀ {L':List Res} {H'':AH},Has H0 Z H'' L'->L'[3+al.length]? = some (aF H.next x.cells)->aC (ptr H.next 0) H''=aC (ptr H.next 0) (H.new (.cells x.cells none)):=by
  intro L' H'' g' h';rw [aN,aN,g'.box h',AH.get_new_self]
 have hnx:(H.new (.cells x.cells none)).next=H.next+1:=rfl;cases hf:al.find? fun e=>decide (x.r.number=e.n) with
 | some e =>
  rw [hf] at hl;have hl:look 0 (.slice none 0 0) false (.map (some r)) (u32 x.r.number) (H.new (.cells x.cells none))=some e.v.1:=hl;obtain ⟨h1,i,hi,rfl,_⟩:=List.find?_eq_some_iff_getElem.1 hf;simp only [decide_eq_true_eq] at h1
  have hk:(fK t2 t3 r c2 c3 al++[aF H.next x.cells])[3+i]? = some (bP 3 al[i].v.1 (al[i].l.map bZ.cells)):=by
   rw [List.getElem?_append_left (by rw [hbl]; omega)]
   simp only [fK];rw [List.getElem?_append_right (by simp)]
   simp [hi,mK]
  have hle:al[i].l.length<=es.length:=by rw [(gr.all _ (List.getElem_mem hi)).1]; exact List.length_filter_le _ _
  obtain ⟨v',H4,a1,a2,g4⟩:=g2.app1 (k:=3+i) (bytes:=32) hk x.cells rfl (oV.plain x) (by decide) (by decide) (by rw [List.length_map]; omega)
  rw [hnx] at a1;simp only [hl,a1,aD]
  have hset:(fK t2 t3 r c2 c3 al++[aF H.next x.cells]).set (3+i) (bP 3 v' (al[i].l.map bZ.cells++[x.cells]))=[aF t2 c2,aF t3 c3,cF u32 pv r (al.map dE.kv)]++((al.set i ⟨al[i].n,⟨v',a2⟩,al[i].l++[x]⟩).map mK++[aF H.next x.cells]):=by
   rw [List.set_append_left _ _ (by rw [hbl]; omega)]
   simp only [fK];rw [List.set_append_right _ _ (by simp),List.append_assoc]
   congr 2
   rw [List.map_set];simp [mK]
  rw [hset] at g4;have hbq:=hbx g4 (by rw [List.getElem?_append_right (by simp),List.getElem?_append_right (by simp),List.length_map,List.length_set,show 3+al.length - [aF t2 c2,aF t3 c3,cF u32 pv r (al.map dE.kv)].length - al.length=0 by simp]; rfl)
  refine ⟨hbq,?_⟩;obtain ⟨H5,m1,g5⟩:=g4.mapset (n:=2) (r:=r) (l:=al.map dE.kv) (fk:=u32) (fv:=pv) (by simp) lQ x.r.number ⟨v',a2⟩
  have m1:cN 0 (.map (some r)) (u32 x.r.number) v' H4=some H5:=m1;simp only [m1,aD];rw [h1,vD al i hi ⟨v',a2⟩ (al[i].l++[x]) gr.nd] at g5;have g6:=g5.drop (3+al.length);refine next (al.set i ⟨al[i].n,⟨v',a2⟩,al[i].l++[x]⟩) H5 ?_ (gr.old hi h1.symm ⟨v',a2⟩)
  have he:(([aF t2 c2,aF t3 c3,cF u32 pv r (al.map dE.kv)]++((al.set i ⟨al[i].n,⟨v',a2⟩,al[i].l++[x]⟩).map mK++[aF H.next x.cells])).set 2 (cF u32 pv r ((al.set i ⟨al[i].n,⟨v',a2⟩,al[i].l++[x]⟩).map dE.kv))).eraseIdx (3+al.length)=fK t2 t3 r c2 c3 (al.set i ⟨al[i].n,⟨v',a2⟩,al[i].l++[x]⟩):=by
   simp only [fK,List.cons_append,List.nil_append,List.set_cons_succ,List.set_cons_zero];rw [show 3+al.length=al.length+1+1+1 by omega,List.eraseIdx_cons_succ,List.eraseIdx_cons_succ,List.eraseIdx_cons_succ,List.eraseIdx_append_of_length_le (by simp)]
   simp
  rw [he] at g6;exact g6
 | none =>
  rw [hf] at hl;have hl:look 0 (.slice none 0 0) false (.map (some r)) (u32 x.r.number) (H.new (.cells x.cells none))=some bL:=hl
  have hno:x.r.number ∉ al.map dE.n:=by
   intro hm;obtain ⟨e,he,hen⟩:=List.mem_map.1 hm;rw [List.find?_eq_none] at hf;have:=hf e he;simp [hen] at this
  have g3:=g2.nils 3;obtain ⟨v',H4,a1,a2,g4⟩:=g3.app1 (k:=3+al.length+1) (sz:=3) (v:=bL) (rows:=[]) (bytes:=32) (by rw [List.getElem?_append_right (by rw [List.length_append,hbl]; simp)]; simp [hbl]) x.cells rfl (oV.plain x) (by decide) (by decide) (by simp)
  rw [hnx] at a1;simp only [hl,a1,aD]
  have hset:(fK t2 t3 r c2 c3 al++[aF H.next x.cells]++[bP 3 bL []]).set (3+al.length+1) (bP 3 v' ([]++[x.cells]))=fK t2 t3 r c2 c3 al++[aF H.next x.cells]++[mK ⟨x.r.number,⟨v',a2⟩,[x]⟩]:=by
   rw [List.set_append_right _ _ (by rw [List.length_append,hbl]; simp)]
   simp [hbl,mK]
  rw [hset] at g4;have hbq:=hbx g4 (by rw [List.getElem?_append_left (by rw [List.length_append,hbl]; simp),List.getElem?_append_right (by rw [hbl]; omega)]; simp [hbl])
  refine ⟨hbq,?_⟩;obtain ⟨H5,m1,g5⟩:=g4.mapset (n:=2) (r:=r) (l:=al.map dE.kv) (fk:=u32) (fv:=pv) (by simp [fK]) lQ x.r.number ⟨v',a2⟩
  have m1:cN 0 (.map (some r)) (u32 x.r.number) v' H4=some H5:=m1;simp only [m1,aD];rw [vJ al x.r.number ⟨v',a2⟩ hno] at g5;have g6:=g5.drop (3+al.length);refine next (al++[⟨x.r.number,⟨v',a2⟩,[x]⟩]) H5 ?_ (gr.new hno ⟨v',a2⟩)
  have he:((fK t2 t3 r c2 c3 al++[aF H.next x.cells]++[mK ⟨x.r.number,⟨v',a2⟩,[x]⟩]).set 2 (cF u32 pv r (al.map dE.kv++[(x.r.number,⟨v',a2⟩)]))).eraseIdx (3+al.length)=fK t2 t3 r c2 c3 (al++[⟨x.r.number,⟨v',a2⟩,[x]⟩]):=by
   simp only [fK,List.cons_append,List.nil_append,List.set_cons_succ,List.set_cons_zero,List.append_assoc];rw [show 3+al.length=al.length+1+1+1 by omega,List.eraseIdx_cons_succ,List.eraseIdx_cons_succ,List.eraseIdx_cons_succ,List.eraseIdx_append_of_length_le (by simp)]
   simp [dE.kv]
  rw [he] at g6;exact g6
end
end Go.AM
end
section
namespace Go.AM
open Go.Sort (SWO PermIn SortedIn insertionSort)
set_option maxRecDepth 20000
theorem Has.perm {H0 Z H:AH} {L L':List Res} (h:Has H0 Z H L) (p:L.Perm L'):Has H0 Z H L' :=
 ⟨h.ext,h.sub,fun r hr=>h.all r (p.mem_iff.2 hr),(p.flatMap_right Res.fp).nodup_iff.1 h.nd⟩
def itR (ib r:Nat) (l done:List (BitVec 32×PlV)):Res:=⟨[r,ib],fun H=>fL u32 pv H ib r l done,fun h e=>h.keep (e _ (by simp)) (e _ (by simp))⟩
section
variable {E:Sy} {H H' H0 Z:AH} {Q:Value->AH->Prop} {L:List Res}
theorem aDq (l:List bZ) (k:Nat):(l.filter fun x=>decide (rkR x=k)).map bZ.r=uV (l.map bZ.r) k:=by
 unfold uV;rw [List.filter_map]
 rfl
theorem pE (l:List bZ):(eW rkR l 4).map bZ.r=aDV (l.map bZ.r):=by
 simp only [eW,List.nil_append,List.map_append,aDq,aDV]
theorem xW (es:List bZ) (n:BitVec 32):(aBx es n).map bZ.r=aCy (es.map bZ.r) n:=by
 unfold aBx aCy;rw [List.filter_map]
 rfl
theorem rF (l:List bZ):∀ (n:Nat) {x:bZ},x∈eW rkR l n->x∈l
 | 0,x,h=>by simp [eW] at h
 | n+1,x,h=>by
  rw [eW,List.mem_append] at h;rcases h with h | h
  ·exact rF l n h
  ·exact (List.mem_filter.1 h).1
theorem zU (l:List bZ):(eW rkR l 4).length=l.length:=by
 have h0:∀ n,(eW rkR l n).length=(l.filter fun x=>decide (rkR x<n)).length:=by
  intro n
  induction n with
  | zero =>
   have:l.filter (fun x=>decide (rkR x<0))=[]:=List.filter_eq_nil_iff.2 fun x _=>by simp
   rw [this]; rfl
  | succ n ih =>
   rw [eW,List.length_append,ih];clear ih
   induction l with
   | nil=>rfl
   | cons x l ih =>
    by_cases h1:rkR x<n
    ·have h2:¬ rkR x=n:=by omega
     have h3:rkR x<n+1:=by omega
     simp only [List.filter_cons,h1,h2,h3,decide_true,decide_false,if_true,Bool.false_eq_true,if_false,List.length_cons] at ih ⊢;omega
    ·by_cases h2:rkR x=n
     ·have h3:rkR x<n+1:=by omega
      simp only [List.filter_cons,h1,h2,h3,decide_true,decide_false,if_true,Bool.false_eq_true,if_false,List.length_cons] at ih ⊢;rw [h2] at h1;simp only [h1,decide_false,Bool.false_eq_true,if_false,Nat.lt_succ_self,decide_true,if_true,List.length_cons];omega
     ·have h3:¬ rkR x<n+1:=by omega
      simp only [List.filter_cons,h1,h2,h3,decide_false,Bool.false_eq_true,if_false] at ih ⊢;omega
 rw [h0,List.filter_eq_self.2];intro x _
 simpa using aMm x
def ofL (t2 t3 r ib:Nat) (d:BitVec 32) (kv done:List (BitVec 32×PlV)) (cv:Value) (rows:List (List Value)) (es:List dE):List Res :=
 [aF t2 [bL,u32 0#32],aF t3 [cv,u32 d],itR ib r kv done,bP 2 cv rows]++es.map mK
theorem yC {m:Nat} (hSR:uE E m) {v:Value} {l:List bZ} (g:dO zH H 3 v (l.map bZ.cells)) (hne:l≠[]) (hl:l.length<=m)
  (hQ:∀ H',Upd (bP 3 v (l.map bZ.cells)) (bP 3 v ((eW rkR l 4).map bZ.cells)) H H'->Q (.tuple #[]) H') :
  E.call (E.fid i.f150) [v,.func (.func (E.fid i.f37)) #[] #[]] H Q:=by
 obtain ⟨b,c,tail,f,rfl,hg,up⟩:=g.arrE oV hne;have hs:(l.toArray).size=l.length:=by simp
 have:=hSR (Q:=Q) (c:=c) hg (by rw [hs]; exact hl) fun d' H' hd s =>?_
 ·rw [hs] at this; exact this
 ·have hd:d'.toList=eW rkR l 4:=by simpa using hd
  have h:=up d' H' (by rw [<- Array.length_toList,hd,zU]) s
  rw [hd] at h;exact hQ H' h
noncomputable local instance:DecidableEq (BitVec 32×PlV):=fun a b=>Classical.propDecidable _
theorem qV {α β:Type} (f:α->β):∀ (l:List α) (i:Nat),(l.map f).eraseIdx i=(l.eraseIdx i).map f
 | [],_=>rfl
 | _ :: _,0=>rfl
 | a :: l,i+1=>by simp [qV f l i]
theorem uJ {α β:Type} (f:α->β) {l:List α} {i:Nat} (h:i<l.length):(l.map f)[i]? = some (f l[i]):=by simp [h]
theorem aK5 (hE:aU E) {sm:Nat} (hsm:sm<=80) (hSC:aAl E sm) (hSR:uE E sm) {H1:AH} {t2 t3 r ib:Nat} {d:BitVec 32} {al:List dE} {pes:List bZ} (gr:Grp pes al) (hpl:pes.length<=sm) (hca:∀ x∈pes,jT H x.r x.cells/\x.r.conds.length<2 ^ 20)
  (g1:Has H Z H1 (ofL t2 t3 r ib d (al.map dE.kv) [] bL [] al)) (hz0:∀ b,b<H.next->Z.get b = .dead) (hQ:∀ ns cs H' Z',Ext H H'->Sub Z' H'->(∀ b,b<H.next->Z'.get b = .dead)->aLS ⟨d,pes.map bZ.r⟩ ns->pJ Z' (yO ⟨d,pes.map bZ.r⟩ ns) cs->Q (.agg cs.toArray) H') :
  aM (fun l H X0=>F.f36_l2 E Q (nth l 0) (nth l 1) (nth l 2) H X0) [ptr t2 0,ptr t3 0,ptr ib 0] H1:=by
 have hall:al.length<=sm:=by
  have h1:=pG (al.map dE.n) (pes.map fun x=>x.r.number) gr.nd fun n hn=>by
   obtain ⟨e,he,rfl⟩:=List.mem_map.1 hn;obtain ⟨h1,h2⟩:=gr.all e he;obtain ⟨x,hx⟩:=List.exists_mem_of_ne_nil _ h2;rw [h1] at hx;have:=List.mem_filter.1 hx;exact List.mem_map.2 ⟨x,this.1,by simpa using this.2⟩
  simp only [List.length_map] at h1;omega
 refine aM.ind (fun m ls H'=>∃ cv ces es done Z,ls=[ptr t2 0,ptr t3 0,ptr ib 0]/\Has H Z H' (ofL t2 t3 r ib d (al.map dE.kv) done cv (ces.map eE.cells) es)/\(∀ x∈ces,dH (fF 0) Z 2 x.v.1 x.c.branches) /\
   (∀ e∈al,e.kv ∉ done->e∈es)/\ces.map eE.c=done.map (fun p=>xQ ⟨d,pes.map bZ.r⟩ p.1)/\(done=[]->cv=bL)/\(∀ b,b<H.next->Z.get b = .dead)/\m=al.length - done.length) ?_ al.length
  ⟨bL,[],al,[],Z,rfl,g1,by simp,fun e he _=>he,rfl,fun _=>rfl,hz0,by simp⟩
 rintro m _ H2 X ih ⟨cv,ces,es,done,Z,rfl,g,hces,hes,hcd,hnil,hzd,rfl⟩;have it:fL u32 pv H2 ib r (al.map dE.kv) done:=g.get (k:=2) rfl;have hcl:ces.length=done.length:=by have:=congrArg List.length hcd; simpa using this
 simp only [F.f36_l2,aD];refine fL.next it (fun p ob hp hnd it' hen =>?_) fun hperm =>?_
 ·
  have hdl:done.length<al.length:=by
   have h1:=it'.nodup;have:=pG (done++[p]) (al.map dE.kv) h1.1 h1.2;simp at this;omega
  obtain ⟨e,he,rfl⟩:=List.mem_map.1 hp;have hee:=hes e he hnd;obtain ⟨i,hi,hie⟩:=List.getElem_of_mem hee
  have g2:Has H Z (H2.put ib ob) (ofL t2 t3 r ib d (al.map dE.kv) (done++[e.kv]) cv (ces.map eE.cells) es):=by
   refine g.step (k:=2) (r':=itR ib r (al.map dE.kv) (done++[e.kv])) rfl ⟨(dT.refl _ _).put (.inl (by simp [itR])) _,it',fun b hb=>⟨.inl hb,?_⟩,?_⟩
   ·simp only [itR,List.mem_cons,List.not_mem_nil,or_false] at hb
    rcases hb with rfl | rfl
    ·exact it.map.lt
    ·exact it.lt
   ·have:=it.map.lt
    obtain ⟨es',clock,h1,h2,h3,h4,h5,ix,h6,h7,h8,h9⟩:=it;simp only [itR,List.nodup_cons,List.mem_cons,List.not_mem_nil,or_false,not_false_eq_true,List.nodup_nil,and_true];rintro rfl;rw [h1] at h9;simp at h9
  generalize H2.put ib ob=H3 at *
  have hk:(ofL t2 t3 r ib d (al.map dE.kv) (done++[e.kv]) cv (ces.map eE.cells) es)[4+i]? = some (bP 3 e.v.1 (e.l.map bZ.cells)):=by
   simp only [ofL];rw [List.getElem?_append_right (by simp)]
   have:4+i - [aF t2 [bL,u32 0#32],aF t3 [cv,u32 d],itR ib r (al.map dE.kv) (done++[e.kv]),bP 2 cv (ces.map eE.cells)].length=i:=by simp
   rw [this,uJ mK hi,hie]
   rfl
  obtain ⟨hel,hene⟩:=gr.all e he;have hell:e.l.length<=sm:=by rw [hel]; exact Nat.le_trans (List.length_filter_le _ _) hpl
  have x0:(dE.kv e).1=e.n:=rfl;have x1:pv (dE.kv e).2=e.v.1:=rfl;simp only [hen,x0,x1,aD];refine yC hSR (g2.slice hk) hene hell fun H4 u4 =>?_;have g4:=g2.step hk u4
  have hk4:((ofL t2 t3 r ib d (al.map dE.kv) (done++[e.kv]) cv (ces.map eE.cells) es).set (4+i) (bP 3 e.v.1 ((eW rkR e.l 4).map bZ.cells)))[4+i]? = some (bP 3 e.v.1 ((eW rkR e.l 4).map bZ.cells)):=by
   rw [List.getElem?_set_self];simp [ofL,hi]; omega
  have r4:=g4.rows hk4
  have hbx:H4.get t3 = .cells [cv,u32 d] none:=g4.box (k:=1) (b:=t3) (by
   rw [List.getElem?_set_ne (by omega)]; rfl)
  simp only [hbx,aD]
  have hsl:=aAE r4 fun x hx=>by
   have hx:=rF e.l 4 hx;rw [hel] at hx;exact ((hca x (List.mem_filter.1 hx).1).1).mono (g4.ext)
  rw [pE,hel,xW] at hsl;refine S.f40 hE hsl ?_ ?_ fun v' H5 e5 hbr hfr =>?_
  ·have hlen:=zU e.l
   have:(aDV (aCy (pes.map bZ.r) e.n)).length=(eW rkR e.l 4).length:=by
    rw [<- xW,<- hel,<- pE,List.length_map]
   omega
  ·intro x hx
   rw [<- xW,<- hel,<- pE] at hx;obtain ⟨y,hy,rfl⟩:=List.mem_map.1 hx;have hy:=rF e.l 4 hy;rw [hel] at hy;exact (hca y (List.mem_filter.1 hy).1).2
  ·have hk1:∀ {H'':AH},Ext H4 H''->H''.get t3 = .cells [cv,u32 d] none:=fun e=>e.cells hbx
   refine ⟨by rw [aN,aN,hk1 e5,hbx],?_⟩
   obtain ⟨Z5,fz,g5,keep⟩:=g4.callee e5
   have hbz:dH (fF 0) Z5 2 v' (gM (aDV (aCy (pes.map bZ.r) e.n))):=by
    obtain ⟨rows,h1,h2,h3⟩:=hbr;refine ⟨rows,keep _ _ _ h1 hfr,h2,fun i a b =>?_⟩;obtain ⟨q0,w,q1,q2,q3⟩:=h3 i a b;exact ⟨q0,w,q1,keep _ _ _ q2 q3,iA.zero w⟩
   have hpv:plain1 v'=true:=by obtain ⟨rows,h1,_⟩:=hbr; exact h1.plain
   have hbv:aX [(0,1),(1,1)] #[(.int .u32 0),(.slice none 0 0)] [(0,u32 e.n),(1,v')]=some (.agg [u32 e.n,v'].toArray):=by
    have hd:=zC hpv;have hvc:=sN hpv;simp [hd,hvc,bF]
   have hbS:bR 1 2 #[(.int .u32 0),(.slice none 0 0)] [(0,.agg [u32 e.n,v'].toArray)]=some (.cells [u32 e.n,v'] none,dN 1 1):=cQ 2 [u32 0#32,bL] _ rfl rfl;have g6:=g5.drop (4+i)
   have hdr:((ofL t2 t3 r ib d (al.map dE.kv) (done++[e.kv]) cv (ces.map eE.cells) es).set (4+i) (bP 3 e.v.1 ((eW rkR e.l 4).map bZ.cells))).eraseIdx (4+i)=ofL t2 t3 r ib d (al.map dE.kv) (done++[e.kv]) cv (ces.map eE.cells) (es.eraseIdx i):=by
    simp only [ofL,List.cons_append,List.nil_append];rw [show 4+i=i+1+1+1+1 by omega]
    simp only [List.set_cons_succ,List.eraseIdx_cons_succ,List.eraseIdx_set_eq,qV]
   rw [hdr] at g6;obtain ⟨cv',H7,a1,a2,g7⟩:=g6.app1 (k:=3) (sz:=2) (v:=cv) (rows:=ces.map eE.cells) (bytes:=32) rfl [u32 e.n,v'] rfl (by simp [hpv]) (by decide) (by decide) (by rw [List.length_map]; omega)
   have hb7:=g7.box (k:=1) (b:=t3) (c:=[cv,u32 d]) rfl
   have st7:aQ (ptr t3 0) cv' H7=some (H7.put t3 (.cells [cv',u32 d] none)):=by
    rw [aJ,if_pos a2,hb7]; rfl
   simp only [hbv,hbS,AM.aW,cW,a1,gN,st7,aD];have g8:=g7.put (k:=1) (b:=t3) (c:=[cv,u32 d]) rfl [cv',u32 d];refine ih (al.length - (done++[e.kv]).length) (by simp; omega) _ _ ⟨cv',ces++[(⟨xQ ⟨d,pes.map bZ.r⟩ e.n,⟨v',hpv⟩⟩:eE)],es.eraseIdx i,done++[e.kv],Z5,rfl,?_,?_,?_,?_,by simp,fun b hb=>fz.dead (Nat.lt_of_lt_of_le hb g4.ext.1) (hzd b hb),rfl⟩
   ·have:(ofL t2 t3 r ib d (al.map dE.kv) (done++[e.kv]) cv (ces.map eE.cells) (es.eraseIdx i)).set 3 (bP 2 cv' (ces.map eE.cells++[[u32 e.n,v']]))=[aF t2 [bL,u32 0#32],aF t3 [cv,u32 d],itR ib r (al.map dE.kv) (done++[e.kv]),bP 2 cv' (ces.map eE.cells++[[u32 e.n,v']])]++(es.eraseIdx i).map mK:=rfl
    rw [this] at g8
    have:([aF t2 [bL,u32 0#32],aF t3 [cv,u32 d],itR ib r (al.map dE.kv) (done++[e.kv]),bP 2 cv' (ces.map eE.cells++[[u32 e.n,v']])]++(es.eraseIdx i).map mK).set 1 (aF t3 [cv',u32 d])=ofL t2 t3 r ib d (al.map dE.kv) (done++[e.kv]) cv' ((ces++[(⟨xQ ⟨d,pes.map bZ.r⟩ e.n,⟨v',hpv⟩⟩:eE)]).map eE.cells) (es.eraseIdx i):=by
     rw [List.map_append]; rfl
    rw [this] at g8;exact g8
   ·intro x hx
    rcases List.mem_append.1 hx with hx | hx
    ·exact (hces x hx).sub (fun _ _ _ _ h e=>fF.sub h e) fz.1
    ·simp only [List.mem_singleton] at hx
     subst hx;exact hbz
   ·intro e' he' hn'
    simp only [List.mem_append,List.mem_singleton,not_or] at hn';have h1:=hes e' he' hn'.1;obtain ⟨j,hj,hje⟩:=List.getElem_of_mem h1;refine List.mem_eraseIdx_iff_getElem?.2 ⟨j,?_,by rw [List.getElem?_eq_getElem hj,hje]⟩
    rintro rfl;rw [hje] at hie;exact hn'.2 (by rw [hie])
   ·rw [List.map_append,List.map_append,hcd]; rfl
 ·
  have hb2:=g.box (k:=1) (b:=t3) (c:=[cv,u32 d]) rfl;have hex:ext (Value.tuple #[Value.bool false]) 0=some (.bool false):=rfl;simp only [hex,hb2,aD]
  have hdm:∀ n,n∈done.map Prod.fst↔∃ x∈pes.map bZ.r,x.number=n:=by
   intro n
   have h1:n∈done.map Prod.fst↔n∈al.map dE.n:=by
    rw [(hperm.map Prod.fst).mem_iff,List.map_map]; rfl
   rw [h1];constructor
   ·intro h
    obtain ⟨e,he,rfl⟩:=List.mem_map.1 h;obtain ⟨h1,h2⟩:=gr.all e he;obtain ⟨x,hx⟩:=List.exists_mem_of_ne_nil _ h2;rw [h1] at hx;have:=List.mem_filter.1 hx;exact ⟨x.r,List.mem_map.2 ⟨x,this.1,rfl⟩,by simpa using this.2⟩
   ·rintro ⟨x,hx,rfl⟩
    obtain ⟨y,hy,rfl⟩:=List.mem_map.1 hx;exact gr.mem y hy
  have hdn:(done.map Prod.fst).Nodup:=by
   have h1:=(hperm.map Prod.fst).nodup_iff;rw [h1,List.map_map];exact gr.nd
  have hcn:ces.map (fun x=>x.c.number)=done.map Prod.fst:=by
   have:=congrArg (List.map iG.number) hcd;rw [List.map_map,List.map_map] at this;exact this
  have hcase:∀ x∈ces,x.c=xQ ⟨d,pes.map bZ.r⟩ x.c.number:=by
   intro x hx;have:x.c∈ces.map eE.c:=List.mem_map.2 ⟨x,hx,rfl⟩;rw [hcd] at this;obtain ⟨p,_,hp⟩:=List.mem_map.1 this;rw [<- hp]; rfl
  have fin:∀ (l':List eE) (H':AH),l'.Perm ces->l'.Pairwise (fun x y=>x.c.number.toNat<y.c.number.toNat)->Has H Z H' (ofL t2 t3 r ib d (al.map dE.kv) done cv (l'.map eE.cells) es) ->
    opt (aE 2 (ptr t3 0) H') fun v17=>opt (aG 2 (ptr t2 0) v17 H') fun H8=>opt (aE 2 (ptr t2 0) H8) fun v18=>Q v18 H8:=by
   intro l' H' hp hs g';have hb3:=g'.box (k:=1) (b:=t3) (c:=[cv,u32 d]) rfl;have hb2:=g'.box (k:=0) (b:=t2) (c:=[bL,u32 0#32]) rfl;have hr:=g'.rows (k:=3) (sz:=2) (v:=cv) (rows:=l'.map eE.cells) rfl;have hpc:=hr.plain;have lo3:aE 2 (ptr t3 0) H'=some (.agg [cv,u32 d].toArray):=by rw [aL,hb3]; rfl
   have st2:aG 2 (ptr t2 0) (.agg [cv,u32 d].toArray) H'=some (H'.put t2 (.cells [cv,u32 d] none)):=by
    rw [cX,hb2];have h3:AM.bF [bL,u32 0#32] 0 [cv,u32 d]=[cv,u32 d]:=rfl;have h4:[cv,u32 d].all plain1=true:=by simp [hpc]
    simp only [List.size_toArray,List.toList_toArray,h4,List.length_cons,List.length_nil,Nat.zero_add,Nat.le_refl,and_self,if_true,h3]
   have g8:=g'.put (k:=0) (b:=t2) (c:=[bL,u32 0#32]) rfl [cv,u32 d];have hb8:=g8.box (k:=0) (b:=t2) (c:=[cv,u32 d]) rfl;have lo2:aE 2 (ptr t2 0) (H'.put t2 (.cells [cv,u32 d] none))=some (.agg [cv,u32 d].toArray):=by rw [aL,hb8]; rfl
   simp only [lo3,st2,lo2,aD];obtain ⟨Z',z1,z2,g9⟩:=g8.freeze (k:=3) (r:=bP 2 cv (l'.map eE.cells)) rfl;have hr8:Rows Z' 2 cv (l'.map eE.cells):=z2.toRows;have hmem:∀ x∈l',x∈ces:=fun x hx=>hp.mem_iff.1 hx;refine hQ (l'.map fun x=>x.c.number) [cv,u32 d] _ Z' g8.ext g9.sub (fun b hb=>z1.dead hb (hzd b hb)) ⟨?_,fun n =>?_⟩ ⟨cv,rfl,?_⟩
   ·rw [List.pairwise_map]; exact hs
   ·rw [(hp.map fun x:eE=>x.c.number).mem_iff,hcn]
    exact hdm n
   ·have hpl:(yO ⟨d,pes.map bZ.r⟩ (l'.map fun x=>x.c.number)).cases=l'.map eE.c:=by
     unfold yO;simp only [List.map_map];apply List.map_congr_left;intro x hx;exact (hcase x (hmem x hx)).symm
    rw [hpl];refine ⟨_,hr8,by simp,fun i h1 h2 =>?_⟩
    simp only [List.getElem_map];have hx:l'[i]'(by simpa using h1)∈l':=List.getElem_mem _
    exact ⟨_,rfl,(hces _ (hmem _ hx)).sub (fun _ _ _ _ h e=>fF.sub h e) z1.1⟩
  by_cases hce:ces=[]
  ·have hd0:done=[]:=List.length_eq_zero_iff.1 (by rw [<- hcl,hce]; rfl)
   have:=hnil hd0;subst this;subst hce;refine S.slices_SortFunc_nil hE ?_;exact fin [] H2 (List.Perm.refl _) List.Pairwise.nil g
  ·have g0:=g.slice (k:=3) (sz:=2) (v:=cv) (rows:=ces.map eE.cells) rfl
   obtain ⟨b,c,tail,f,hcv,hg,up⟩:=g0.arrE aDh hce;have hs:(ces.toArray).size=ces.length:=by simp
   have:=hSC (c:=c) (Q:=fun v16 H7=>opt (aE 2 (ptr t3 0) H7) fun v17=>opt (aG 2 (ptr t2 0) v17 H7) fun H8=>opt (aE 2 (ptr t2 0) H8) fun v18=>Q v18 H8) hg (by rw [hs,hcl,hperm.length_eq,List.length_map]; exact hall) fun d' H' hp hso s =>?_
   ·rw [hs,<- hcv] at this
    exact this
   ·have hsz:d'.size=ces.length:=by rw [hp.1,hs]
    have hpm:d'.toList.Perm ces:=by
     have h1:=hp.2.2;have e1:d'.extract 0 ces.toArray.size=d':=by rw [hs,<- hsz]; simp
     have e2:ces.toArray.extract 0 ces.toArray.size=ces.toArray:=by simp
     rw [e1,e2] at h1
     simpa using h1
    have g9:=g.step (k:=3) (r:=bP 2 cv (ces.map eE.cells)) rfl (up d' H' hsz s);refine fin d'.toList H' hpm ?_ g9;rw [List.pairwise_iff_getElem];intro i j hi hj hij;have hi':i<d'.size:=by simpa using hi
    have hj':j<d'.size:=by simpa using hj
    have h1:=hso i j (Nat.zero_le _) hij (by rw [hs,<- hsz]; exact hj')
    rw [getElem!_pos d' i hi',getElem!_pos d' j hj'] at h1;unfold ltC at h1;simp only [decide_eq_false_iff_not] at h1;simp only [Array.getElem_toList]
    have hnd:(d'.toList.map fun x=>x.c.number).Nodup:=by
     rw [(hpm.map fun x:eE=>x.c.number).nodup_iff,hcn];exact hdn
    rcases Nat.lt_or_ge d'[i].c.number.toNat d'[j].c.number.toNat with h2 | h2
    ·exact h2
    ·have he:d'[i].c.number=d'[j].c.number:=BitVec.eq_of_toNat_eq (by omega)
     have:=(List.getElem_inj (xs:=d'.toList.map fun x=>x.c.number) (i:=i) (j:=j) (h₀:=by simpa using hi) (h₁:=by simpa using hj) hnd).1 (by simpa using he)
     omega
theorem aKW (hE:aU E) {H1:AH} {t2 t3 r:Nat} {c2 c3:List Value} {pes:List bZ} (hpl:pes.length<=80) {v:Value} (hv:Rows H 3 v (pes.map bZ.cells)) (g1:Has H zH H1 (fK t2 t3 r c2 c3 []))
  (next:∀ al H',Has H zH H' (fK t2 t3 r c2 c3 al)->Grp pes al->mk (mS (.map (some r)) H') H' fun v14 H6=>aM (fun l H X0=>F.f36_l2 E Q (nth l 0) (nth l 1) (nth l 2) H X0) [ptr t2 0,ptr t3 0,v14] H6) :
  aM (fun l H X0=>F.f36_l1 E Q (nth l 0) (nth l 1) (nth l 2) (nth l 3) (nth l 4) (nth l 5) H X0) [ptr t2 0,ptr t3 0,.map (some r),v,vi (pes.length:Int),(.int .i64 0)] H1:=by
 have i0:(.int .i64 0:Value)=vi ((0:Nat):Int):=rfl;rw [i0];refine aM.count pes.length (fun j ls H'=>∃ al,ls=[ptr t2 0,ptr t3 0,.map (some r),v,vi (pes.length:Int),vi j]/\Has H zH H' (fK t2 t3 r c2 c3 al)/\Grp (pes.take j) al) ?_ ⟨[],rfl,g1,⟨by simp,by simp,by simp⟩⟩
 rintro j _ H2 X hj hX ⟨al,rfl,g,gr⟩
 by_cases hjl:j<pes.length
 rotate_left
 ·have hjl':¬ (j:Int)<pes.length:=by omega
  rw [List.take_of_length_le (by omega)] at gr
  simp only [F.f36_l1,aV,hjl',decide_false,aD];exact next al H2 g gr
 have hX:=hX hjl;have hjl':(j:Int)<pes.length:=by omega
 have hjj:=cU (i:=j) (by omega)
 obtain ⟨b,o,f1,f2⟩:=(hv.mono g.ext).ix (i:=j) (by rw [List.length_map]; exact hjl)
 have htk:pes.take (j+1)=pes.take j++[pes[j]]:=List.take_succ_eq_append_getElem hjl;rw [List.getElem_map] at f2;rw [htk] at hX;have htl:(pes.take j).length<1000:=by rw [List.length_take]; omega
 generalize pes[j]=x at *;have lo1:aE 3 (ptr b o) H2=some (.agg x.cells.toArray):=by rw [aL,f2]; rfl
 have b4:=AH.get_new_self H2 (.cells x.cells none);have c0:x.cells[0]? = some (u32 x.r.number):=rfl;have lo4:aE 3 (ptr H2.next 0) (H2.new (.cells x.cells none))=some (.agg x.cells.toArray):=by rw [aL,b4]; rfl
 have hbS:bR 1 3 #[(.int .u32 0),(.int .u32 0),(.slice none 0 0)] [(0,.agg x.cells.toArray)]=some (.cells x.cells none,dN 1 1):=cQ 3 [u32 0#32,u32 0#32,bL] _ rfl rfl
 have:=aLl (R:=fun H5=>opt (aA .add (vi j) (.int .i64 1)) fun v13=>X [ptr t2 0,ptr t3 0,.map (some r),v,vi (pes.length:Int),v13] H5) g gr htl x (fun al' H' g' gr'=>by
  simp only [hjj,aD];exact hX _ _ ⟨al',rfl,g',gr'⟩) rfl
 simp only [F.f36_l1,aV,hjl',decide_true,f1,lo1,aP,aFY,b4,c0,lo4,hbS,AM.aW,cW,aD];cases hlk:look 0 (.slice none 0 0) false (.map (some r)) (u32 x.r.number) (H2.new (.cells x.cells none)) with
 | none=>rw [hlk] at this; exact this.elim
 | some w =>
  rw [hlk] at this;simp only [lo4,hbS,AM.aW,cW,aD] at this ⊢;exact this
theorem S.ir_OfZ (hE:aU E) {sm:Nat} (hsm:sm<=80) (hSC:aAl E sm) (hSR:uE E sm) (p:aEL) (cs:List Value) (hp:aJS H p cs) (hpl:p.rules.length<=sm) (hc:∀ r∈p.rules,r.conds.length<2 ^ 20)
  (hQ:∀ ns cs' H' Z',Ext H H'->Sub Z' H'->(∀ b,b<H.next->Z'.get b = .dead)->aLS p ns->pJ Z' (yO p ns) cs'->Q (.agg cs'.toArray) H'):E.call (E.fid i.f36) [.agg cs.toArray] H Q:=by
 apply hE.f36;obtain ⟨_,a,v,b,c,d,rfl,hv⟩:=hp;obtain ⟨es,he1,he2,he3⟩:=aAy hv;have hel:es.length=p.rules.length:=by rw [<- he1,List.length_map]
 have g1:=(Has.begin (H0:=H) (Z:=zH) (Ext.refl H) ⟨Nat.zero_le _,fun b hb=>(hb (nR b)).elim⟩).newbox [a,u32 p.default,v,b,c,d];have hb1:=AH.get_new_self H (.cells [a,u32 p.default,v,b,c,d] none);simp only [F.f36,aZ,AM.aW,aS,List.toList_toArray,aD];generalize H.new (.cells [a,u32 p.default,v,b,c,d] none)=H1 at *;generalize H.next=bp at g1 hb1 ⊢;have g2:=g1.newbox [bL,u32 0#32];have x2:Ext H1 (H1.new (.cells [bL,u32 0#32] none)):=(Ext.refl _).new _;have hb2:=x2.cells hb1;have hz:([(.slice none 0 0),(.int .u32 0)]:List Value)=[bL,u32 0#32]:=rfl;simp only [aP,hz,aD];generalize H1.new (.cells [bL,u32 0#32] none)=H2 at *;generalize H1.next=t2 at *;have hbv:aX [(0,1),(1,1)] [bL,u32 0#32].toArray [(1,u32 p.default)]=some (.agg [bL,u32 p.default].toArray):=rfl;simp only [hb2,hz,hbv,aD];have g3:=g2.newbox [bL,u32 p.default];have st3:aG 2 (ptr H2.next 0) (.agg [bL,u32 p.default].toArray) (H2.new (.cells [bL,u32 0#32] none))=some (H2.new (.cells [bL,u32 p.default] none)):=lG rfl rfl rfl;have x3:Ext H2 (H2.new (.cells [bL,u32 p.default] none)):=(Ext.refl _).new _;have hb3:=x3.cells hb2;simp only [aP,hz,st3,aD];generalize H2.new (.cells [bL,u32 p.default] none)=H3 at *;generalize H2.next=t3 at *;have g4:=g3.newmap u32 pv;have x4:Ext H3 (H3.new (.map [] 0 true)):=(Ext.refl _).new _;have hb4:=x4.cells hb3;have hlv:=he2.lenSlc;rw [List.length_map] at hlv;have hmw:∀ K:Value->AH->Prop,lM H3 K=K (.map (some H3.next)) (H3.new (.map [] 0 true)):=fun _=>rfl;simp only [hmw,aD];generalize H3.new (.map [] 0 true)=H4 at *;generalize H3.next=r at *;simp only [hb4,hlv,aD];have g5:Has H zH H4 (fK t2 t3 r [bL,u32 0#32] [bL,u32 p.default] []):=g4.drop 0;refine aKW hE (by omega) he2 g5 fun al H5 g6 gr =>?_
 have hm:=g6.mapAt (k:=2) (fk:=u32) (fv:=pv) (r:=r) (l:=al.map dE.kv) rfl;obtain ⟨o,o1,o2⟩:=fL.start hm;simp only [o1,AM.aW,aS,aD]
 have g7:=g6.step (k:=2) (r':=itR H5.next r (al.map dE.kv) []) (H':=H5.new o) rfl ⟨((Ext.refl H5).new o).only,o2,fun b hb=>by
  simp only [itR,List.mem_cons,List.not_mem_nil,or_false] at hb;rcases hb with rfl | rfl
  ·exact ⟨.inl (by simp [cF]),o2.map.lt⟩
  ·exact ⟨.inr (Nat.le_refl _),o2.lt⟩,by
  have:=hm.lt;simp only [itR,List.nodup_cons,List.mem_cons,List.not_mem_nil,or_false,not_false_eq_true,List.nodup_nil,and_true];omega⟩
 have g8:=g7.nils 2
 have g9:Has H zH (H5.new o) (ofL t2 t3 r H5.next p.default (al.map dE.kv) [] bL [] al):=by
  refine g8.perm ?_
  show List.Perm (([aF t2 [bL,u32 0#32],aF t3 [bL,u32 p.default],itR H5.next r (al.map dE.kv) []]++al.map mK)++[bP 2 bL []]) ([aF t2 [bL,u32 0#32],aF t3 [bL,u32 p.default],itR H5.next r (al.map dE.kv) [],bP 2 bL []]++al.map mK)
  rw [List.append_assoc];exact List.Perm.append_left [aF t2 [bL,u32 0#32],aF t3 [bL,u32 p.default],itR H5.next r (al.map dE.kv) []] (List.perm_append_singleton _ _)
 obtain ⟨pd,pr⟩:=p;simp only at he1;subst he1;refine aK5 hE hsm hSC hSR gr (by omega) (fun x hx=>⟨he3 x hx,hc _ (List.mem_map.2 ⟨x,hx,rfl⟩)⟩) g9 (fun b _=>nR b) hQ
theorem pJ.subZ {Z H:AH} {p:sM} {cs:List Value} (h:pJ Z p cs) (e:Sub Z H):pJ H p cs:=by
 obtain ⟨v,h1,h2⟩:=h;exact ⟨v,h1,h2.sub (fun _ _ _ _ h e=>kD.sub h e) e⟩
theorem S.f36 (hE:aU E) {sm:Nat} (hsm:sm<=80) (hSC:aAl E sm) (hSR:uE E sm) (p:aEL) (cs:List Value) (hp:aJS H p cs) (hpl:p.rules.length<=sm) (hc:∀ r∈p.rules,r.conds.length<2 ^ 20)
  (hQ:∀ ns cs' H',Ext H H'->aLS p ns->pJ H' (yO p ns) cs'->Q (.agg cs'.toArray) H'):E.call (E.fid i.f36) [.agg cs.toArray] H Q :=
 S.ir_OfZ hE hsm hSC hSR p cs hp hpl hc fun ns cs' H' _ e s _ hn hp=>hQ ns cs' H' e hn (hp.subZ s)
end
end Go.AM
end
section
namespace Go.AM
deriving instance DecidableEq for dA
structure bM where
 kind:BitVec 8
 to:Int
 els:Int
 insn:dA
 deriving DecidableEq
def bM.cells (p:bM):List Value:=[u8 p.kind,vi p.to,vi p.els,u16 p.insn.code,u8 p.insn.jt,u8 p.insn.jf,u32 p.insn.k]
abbrev bM.v (p:bM):Value := .agg p.cells.toArray
def bN (l:List bM):List (List Value):=l.map bM.cells
def dA.zero:dA:=⟨0#16,0#8,0#8,0#32⟩
def jK (n:Nat):bM:=⟨1#8,n,0,.zero⟩
def gU (i:dA):bM:=⟨2#8,0,0,i⟩
def pIf (how:BitVec 16) (k:BitVec 32) (t e:Nat):bM:=⟨3#8,t,e,⟨5#16|||how|||0#16,0#8,0#8,k⟩⟩
def vR (n:Nat):bM:=⟨4#8,n,0,.zero⟩
def oO (k:BitVec 32):dA:=⟨32#16,0#8,0#8,k⟩
def aOC (k:BitVec 32):dA:=⟨6#16,0#8,0#8,k⟩
def aCx (k:BitVec 32):dA:=⟨84#16,0#8,0#8,k⟩
structure LwD where
 parts:List bM
 last:Nat
 other:Nat
 acts:List (BitVec 32×Nat)
 order:List (BitVec 32)
def LwD.new (s:LwD):LwD:={ s with last:=s.last+1 }
def LwD.put (s:LwD) (p:bM):LwD:={ s with parts:=s.parts++[p] }
def LwD.act (s:LwD) (a:BitVec 32):LwD×Nat:=match cE a s.acts with
 | some n=>(s,n)
 | none=>({ s with last:=s.last+1,acts:=dQ a (s.last+1) s.acts,order:=s.order++[a] },s.last+1)
def uG (n:Int) (b:Bool):BitVec 32:=BitVec.ofNat 32 (16+8*iL n+(if b then 4 else 0))
def LwD.second (s:LwD) (c:cO) (at_:Nat):LwD:=(s.put (jK at_)).put (gU (oO (uG c.arg false)))
def LwD.order64 (s:LwD) (c:cO) (how:BitVec 16) (yes no:Nat):LwD :=
 let same:=s.last+1
 let next:=s.last+2
 let s:=(((s.new.new.put (pIf 32#16 (wU c.value) yes same)).put (jK same)).put (pIf 16#16 (wU c.value) next no))
 (s.second c next).put (pIf how (aAi c.value) yes no)
def LwD.condOn (s:LwD) (c:cO) (next yes no:Nat):LwD :=
 if c.op=1#8 then ((s.put (pIf 16#16 (wU c.value) next no)).second c next).put (pIf 16#16 (aAi c.value) yes no)
 else if c.op=2#8 then ((s.put (pIf 16#16 (wU c.value) next yes)).second c next).put (pIf 16#16 (aAi c.value) no yes)
 else if c.op=5#8 then s.order64 c 32#16 yes no
 else if c.op=6#8 then s.order64 c 48#16 yes no
 else if c.op=3#8 then s.order64 c 48#16 no yes
 else if c.op=4#8 then s.order64 c 32#16 no yes
 else if c.op=7#8 then ((((s.put (gU (aCx (wU c.mask)))).put (pIf 16#16 (wU c.value) next no)).second c next).put (gU (aCx (aAi c.mask)))).put (pIf 16#16 (aAi c.value) yes no)
 else s.put (vR no)
def LwD.cond (s:LwD) (c:cO) (yes no:Nat):LwD:=(s.new.put (gU (oO (uG c.arg true)))).condOn c (s.last+1) yes no
def LwD.condStep (no:Nat) (s:LwD) (c:cO):LwD:=(s.new.cond c (s.last+1) no).put (jK (s.last+1))
def LwD.conds (no:Nat) (l:List cO) (s:LwD):LwD:=l.foldl (LwD.condStep no) s
def LwD.branch (s:LwD) (b:iF):LwD :=
 let t:=LwD.conds (s.last+1) b.conds s.new
 ((t.act b.action).1.put (vR (t.act b.action).2)).put (jK (s.last+1))
def LwD.branches (l:List iF) (s:LwD):LwD:=let t:=l.foldl LwD.branch s; t.put (vR t.other)
def aEo (n:BitVec 32) (l:List (BitVec 32×Nat)):Nat:=(cE n l).getD 0
def aAc (l:List iG) (k:Nat):BitVec 32:=(l[k]?.map iG.number).getD 0#32
def LwD.choose (starts:List (BitVec 32×Nat)):Nat->List iG->LwD->LwD
 | 0,_,s=>s
 | f+1,l,s =>
  if l.length=0 then s.put (vR s.other)
  else if l.length=1 then s.put (pIf 16#16 (aAc l 0) (aEo (aAc l 0) starts) s.other)
  else LwD.choose starts f (l.drop (l.length / 2)) ((LwD.choose starts f (l.take (l.length / 2)) ((s.new.new.put (pIf 48#16 (aAc l (l.length / 2)) (s.last+2) (s.last+1))).put (jK (s.last+1)))).put (jK (s.last+2)))
def LwD.end1 (acts:List (BitVec 32×Nat)) (s:LwD) (a:BitVec 32):LwD:=(s.put (jK (aEo a acts))).put (gU (aOC a))
def LwD.ends (s:LwD):LwD:=s.order.foldl (LwD.end1 s.acts) s
def LwD.start1 (x:LwD×List (BitVec 32×Nat)) (c:iG):LwD×List (BitVec 32×Nat):=(x.1.new,dQ c.number (x.1.last+1) x.2)
def LwD.starts (l:List iG) (x:LwD×List (BitVec 32×Nat)):LwD×List (BitVec 32×Nat):=l.foldl LwD.start1 x
def LwD.case1 (starts:List (BitVec 32×Nat)) (s:LwD) (c:iG):LwD:=LwD.branches c.branches (s.put (jK (aEo c.number starts)))
def LwD.cases (starts:List (BitVec 32×Nat)) (l:List iG) (s:LwD):LwD:=l.foldl (LwD.case1 starts) s
def LwD.setO (s:LwD) (n:Nat):LwD:=⟨s.parts,s.last,n,s.acts,s.order⟩
def LwD.zero:LwD:=⟨[],0,0,[],[]⟩
def aIw (d:BitVec 32):LwD:=(LwD.zero.act d).1.setO (LwD.zero.act d).2
def aEc (d:BitVec 32):LwD×Nat:=(aIw d).act 2147483648#32
def hP (d:BitVec 32):LwD:=(((aEc d).1.new.put (gU (oO 4#32))).put (pIf 16#16 3221225534#32 ((aEc d).1.last+1) (aEc d).2)).put (jK ((aEc d).1.last+1))
def zE (p:sM):LwD×List (BitVec 32×Nat):=LwD.starts p.cases (hP p.default,[])
def aNd (p:sM):LwD:=LwD.choose (zE p).2 (p.cases.length+1) p.cases ((zE p).1.put (gU (oO 0#32)))
def aEC (p:sM):LwD:=(LwD.cases (zE p).2 p.cases (aNd p)).ends
end Go.AM
end
section
namespace Go.AM
set_option maxRecDepth 20000
def iH (n:Nat):Value:=vi n
def lwL (lw m:Nat) (lv ov:Value) (s:LwD):List Res:=[aF lw [lv,vi s.last,vi s.other,.map (some m),ov],bP 7 lv (bN s.parts),cF u32 iH m s.acts,bP 1 ov (lR s.order)]
def Lw (H0 Z H:AH) (lw m:Nat) (s:LwD) (X:List Res):Prop:=∃ lv ov,Has H0 Z H (lwL lw m lv ov s++X)
def LwO (H0 Z H:AH) (lw m:Nat) (ov:Value) (s:LwD) (X:List Res):Prop:=∃ lv,Has H0 Z H (lwL lw m lv ov s++X)
def LwD.big (s:LwD):Nat:=s.parts.length+s.last+s.order.length
section
variable {E:Sy} {H H' H0 Z:AH} {Q:Value->AH->Prop} {X:List Res} {lw m:Nat} {s:LwD}
theorem eY (b o:Nat):bW dB .eql (ptr b o) (.pointer none)=some (vb false):=rfl
theorem vT (b o:Nat):bW dB .neq (ptr b o) (.pointer none)=some (vb true):=rfl
theorem Has.dropLast {L:List Res} {r:Res} (h:Has H0 Z H (L++[r])):Has H0 Z H L:=by
 have:=h.drop L.length
 rwa [List.eraseIdx_append_of_length_le (Nat.le_refl _),Nat.sub_self,List.eraseIdx_cons_zero,List.append_nil] at this
theorem Lw.grow (h:Lw H0 Z H lw m s X) (e:Ext H H'):Lw H0 Z H' lw m s X:=by
 obtain ⟨lv,ov,h⟩:=h;exact ⟨lv,ov,h.grow e⟩
theorem LwO.grow {ov:Value} (h:LwO H0 Z H lw m ov s X) (e:Ext H H'):LwO H0 Z H' lw m ov s X:=by
 obtain ⟨lv,h⟩:=h;exact ⟨lv,h.grow e⟩
theorem Lw.newbox (h:Lw H0 Z H lw m s X) (c:List Value):Lw H0 Z (H.new (.cells c none)) lw m s (X++[aF H.next c]):=by
 obtain ⟨lv,ov,h⟩:=h;have:=h.newbox c;rw [List.append_assoc] at this;exact ⟨lv,ov,this⟩
theorem Lw.box {t:Nat} {c:List Value} (h:Lw H0 Z H lw m s (X++[aF t c])):H.get t = .cells c none:=by
 obtain ⟨lv,ov,h⟩:=h;exact (h.all (aF t c) (by simp)).1
theorem Lw.dropLast {r:Res} (h:Lw H0 Z H lw m s (X++[r])):Lw H0 Z H lw m s X:=by
 obtain ⟨lv,ov,h⟩:=h;rw [<- List.append_assoc] at h;exact ⟨lv,ov,h.dropLast⟩
theorem Lw.ext (h:Lw H0 Z H lw m s X):Ext H0 H:=by
 obtain ⟨lv,ov,h⟩:=h;exact h.ext
theorem S.f47 (hE:aU E) (h:Lw H0 Z H lw m s X) (hb:s.big<2 ^ 30) (hQ:∀ H',Lw H0 Z H' lw m s.new X->Q (vi ((s.last+1:Nat):Int)) H'):E.call (E.fid i.f47) [ptr lw 0] H Q:=by
 apply hE.f47;obtain ⟨lv,ov,h⟩:=h;have hbx:=h.box (k:=0) rfl;have hlt:s.last<2 ^ 62:=by unfold LwD.big at hb; omega
 have hinc:=cU (i:=s.last) (by omega)
 have g:=h.put (k:=0) rfl [lv,vi ((s.last+1:Nat):Int),vi s.other,.map (some m),ov]
 have hst:aQ (ptr lw 1) (vi ((s.last+1:Nat):Int)) H=some (H.put lw (.cells [lv,vi ((s.last+1:Nat):Int),vi s.other,.map (some m),ov] none)):=by
  rw [aJ,if_pos (show plain1 (vi ((s.last+1:Nat):Int))=true from rfl),hbx]; rfl
 have hb2:=g.box (k:=0) rfl;simp only [F.f47,vT,eY,hbx,hinc,hst,hb2,aD];exact hQ _ ⟨lv,ov,g⟩
theorem aIk (hE:aU E) {ov:Value} (h:LwO H0 Z H lw m ov s X) (hb:s.big<2 ^ 30) (p:bM) (hQ:∀ H',LwO H0 Z H' lw m ov (s.put p) X->Q (.tuple #[]) H'):E.call (E.fid i.f50) [ptr lw 0,p.v] H Q:=by
 apply hE.f50;obtain ⟨lv,h⟩:=h;have h1:=h.newbox p.cells;have hbx:=h1.box (k:=0) (b:=lw) rfl;have hb1:=AH.get_new_self H (.cells p.cells none);have hlen:(bN s.parts).length<2 ^ 30:=by unfold LwD.big at hb; simp only [bN,List.length_map]; omega
 have hbS:bR 1 7 #[(.int .u8 0),(.int .i64 0),(.int .i64 0),(.int .u16 0),(.int .u8 0),(.int .u8 0),(.int .u32 0)] [(0,p.v)]=some (.cells p.cells none,dN 1 1):=cQ 7 [u8 0#8,vi 0,vi 0,u16 0#16,u8 0#8,u8 0#8,u32 0#32] p.cells rfl rfl
 have hlo:aE 7 (ptr H.next 0) (H.new (.cells p.cells none))=some p.v:=by
  rw [aL,hb1,fC _ _ 7 rfl]; rfl
 have h1:Has H0 Z (H.new (.cells p.cells none)) (lwL lw m lv ov s++X):=h1.dropLast;obtain ⟨v',H3,a1,a2,g⟩:=h1.app1 (k:=1) (sz:=7) (v:=lv) (rows:=bN s.parts) (bytes:=32) rfl p.cells rfl (by simp [bM.cells]) (by decide) (by decide) (by omega)
 have a1:app 7 32 lv (slc (H.next+1) 0 1 1) ((H.new (.cells p.cells none)).new (.cells p.cells none))=some (v',H3):=a1;have hbx3:=g.box (k:=0) (b:=lw) (c:=[lv,vi s.last,vi s.other,.map (some m),ov]) rfl
 have hst:aQ (ptr lw 0) v' H3=some (H3.put lw (.cells [v',vi s.last,vi s.other,.map (some m),ov] none)):=by
  rw [aJ,if_pos a2,hbx3]; rfl
 have g2:=g.put (k:=0) (b:=lw) (c:=[lv,vi s.last,vi s.other,.map (some m),ov]) rfl [v',vi s.last,vi s.other,.map (some m),ov];simp only [F.f50,aZ,AM.aW,aS,List.toList_toArray,vT,eY,hbx,hlo,hbS,cW,a1,hst,aD];refine hQ _ ⟨v',?_⟩;have hr:bN (s.put p).parts=bN s.parts++[p.cells]:=by simp [bN,LwD.put]
 show Has H0 Z _ (aF lw [v',vi s.last,vi s.other,.map (some m),ov] :: bP 7 v' (bN (s.put p).parts) :: cF u32 iH m s.acts :: bP 1 ov (lR s.order) :: X)
 rw [hr];exact g2
theorem S.f50 (hE:aU E) (h:Lw H0 Z H lw m s X) (hb:s.big<2 ^ 30) (p:bM) (hQ:∀ H',Lw H0 Z H' lw m (s.put p) X->Q (.tuple #[]) H'):E.call (E.fid i.f50) [ptr lw 0,p.v] H Q:=by
 obtain ⟨lv,ov,h⟩:=h;exact aIk hE ⟨lv,h⟩ hb p fun H' ⟨lv',h'⟩=>hQ H' ⟨lv',ov,h'⟩
theorem S.f45 (hE:aU E) (h:Lw H0 Z H lw m s X) (hb:s.big<2 ^ 30) (n:Nat) (hQ:∀ H',Lw H0 Z H' lw m (s.put (jK n)) X->Q (.tuple #[]) H'):E.call (E.fid i.f45) [ptr lw 0,vi n] H Q:=by
 apply hE.f45;have hbv:aX [(0,1),(1,1),(2,1),(3,4)] #[(.int .u8 0),(.int .i64 0),(.int .i64 0),(.int .u16 0),(.int .u8 0),(.int .u8 0),(.int .u32 0)] [(0,(.int .u8 1)),(1,vi n)]=some (jK n).v:=rfl;simp only [F.f45,hbv,aD];exact S.f50 hE h hb _ hQ
theorem aNH (hE:aU E) {ov:Value} (h:LwO H0 Z H lw m ov s X) (hb:s.big<2 ^ 30) (n:Nat) (hQ:∀ H',LwO H0 Z H' lw m ov (s.put (jK n)) X->Q (.tuple #[]) H'):E.call (E.fid i.f45) [ptr lw 0,vi n] H Q:=by
 apply hE.f45;have hbv:aX [(0,1),(1,1),(2,1),(3,4)] #[(.int .u8 0),(.int .i64 0),(.int .i64 0),(.int .u16 0),(.int .u8 0),(.int .u8 0),(.int .u32 0)] [(0,(.int .u8 1)),(1,vi n)]=some (jK n).v:=rfl;simp only [F.f45,hbv,aD];exact aIk hE h hb _ hQ
theorem S.f44 (hE:aU E) (h:Lw H0 Z H lw m s X) (hb:s.big<2 ^ 30) (n:Nat) (hQ:∀ H',Lw H0 Z H' lw m (s.put (vR n)) X->Q (.tuple #[]) H'):E.call (E.fid i.f44) [ptr lw 0,vi n] H Q:=by
 apply hE.f44;have hbv:aX [(0,1),(1,1),(2,1),(3,4)] #[(.int .u8 0),(.int .i64 0),(.int .i64 0),(.int .u16 0),(.int .u8 0),(.int .u8 0),(.int .u32 0)] [(0,(.int .u8 4)),(1,vi n)]=some (vR n).v:=rfl;simp only [F.f44,hbv,aD];exact S.f50 hE h hb _ hQ
theorem S.f49 (hE:aU E) (h:Lw H0 Z H lw m s X) (hb:s.big<2 ^ 30) (n:dA) (hQ:∀ H',Lw H0 Z H' lw m (s.put (gU n)) X->Q (.tuple #[]) H'):E.call (E.fid i.f49) [ptr lw 0,n.v] H Q:=by
 apply hE.f49;have hb1:=AH.get_new_self H (.cells n.cells none)
 have hlo:aE 4 (ptr H.next 0) (H.new (.cells n.cells none))=some n.v:=by
  rw [aL,hb1,fC _ _ 4 rfl]; rfl
 have hbv:aX [(0,1),(1,1),(2,1),(3,4)] #[(.int .u8 0),(.int .i64 0),(.int .i64 0),(.int .u16 0),(.int .u8 0),(.int .u8 0),(.int .u32 0)] [(0,(.int .u8 2)),(3,n.v)]=some (gU n).v:=rfl;simp only [F.f49,aZ,AM.aW,aS,List.toList_toArray,hlo,hbv,aD];exact S.f50 hE (h.grow ((Ext.refl H).new _)) hb _ hQ
theorem aLE (hE:aU E) {ov:Value} (h:LwO H0 Z H lw m ov s X) (hb:s.big<2 ^ 30) (n:dA) (hQ:∀ H',LwO H0 Z H' lw m ov (s.put (gU n)) X->Q (.tuple #[]) H'):E.call (E.fid i.f49) [ptr lw 0,n.v] H Q:=by
 apply hE.f49;have hb1:=AH.get_new_self H (.cells n.cells none)
 have hlo:aE 4 (ptr H.next 0) (H.new (.cells n.cells none))=some n.v:=by
  rw [aL,hb1,fC _ _ 4 rfl]; rfl
 have hbv:aX [(0,1),(1,1),(2,1),(3,4)] #[(.int .u8 0),(.int .i64 0),(.int .i64 0),(.int .u16 0),(.int .u8 0),(.int .u8 0),(.int .u32 0)] [(0,(.int .u8 2)),(3,n.v)]=some (gU n).v:=rfl;simp only [F.f49,aZ,AM.aW,aS,List.toList_toArray,hlo,hbv,aD];exact aIk hE (h.grow ((Ext.refl H).new _)) hb _ hQ
theorem S.f46 (hE:aU E) (h:Lw H0 Z H lw m s X) (hb:s.big<2 ^ 30) (how:BitVec 16) (k:BitVec 32) (t e:Nat) (hQ:∀ H',Lw H0 Z H' lw m (s.put (pIf how k t e)) X->Q (.tuple #[]) H'):E.call (E.fid i.f46) [ptr lw 0,u16 how,u32 k,vi t,vi e] H Q:=by
 apply hE.f46;simp only [F.f46,aD];refine S.f30 hE how k 0#8 0#8 fun H1 e1 =>?_;have hbv:∀ n:dA,aX [(0,1),(1,1),(2,1),(3,4)] #[(.int .u8 0),(.int .i64 0),(.int .i64 0),(.int .u16 0),(.int .u8 0),(.int .u8 0),(.int .u32 0)] [(0,(.int .u8 3)),(1,vi t),(2,vi e),(3,n.v)]=some (bM.v ⟨3#8,t,e,n⟩):=fun _=>by rw [aGg]; rfl
 have hv:oN (5#16|||how|||0#16) 0#8 0#8 k=dA.v ⟨5#16|||how|||0#16,0#8,0#8,k⟩:=rfl;rw [hv];simp only [hbv,aD];exact S.f50 hE (h.grow e1) hb _ hQ
end
end Go.AM
end
section
namespace Go.AM
set_option maxRecDepth 20000
structure MkD where
 out:List dA
 places:List (Int×Nat)
def aCH (n:Int):dA:=⟨5#16,0#8,0#8,BitVec.ofInt 32 n⟩
def MkD.away (s:MkD) (n:Int):Int:=(s.out.length:Int) - ((cE n s.places).getD 0:Nat)
def MkD.hop (s:MkD) (n:Int):MkD:=⟨aCH n :: s.out,s.places⟩
def MkD.cmp2 (s:MkD) (i1:dA) (to els:Int):MkD:=⟨⟨i1.code,BitVec.ofInt 8 to,BitVec.ofInt 8 els,i1.k⟩ :: s.out,s.places⟩
def MkD.cmp1 (s:MkD) (i1:dA) (to els:Int):MkD:=if 253<to then (s.hop to).cmp2 i1 0 (els+1) else s.cmp2 i1 to els
def MkD.cmp0 (s:MkD) (i1:dA) (to els:Int):MkD:=if 253<els then (s.hop els).cmp1 i1 (to+1) 0 else s.cmp1 i1 to els
def MkD.part (s:MkD) (p:bM):Int ⊕ MkD :=
 if p.kind=1#8 then (if (cE p.to s.places).isSome then .inl 206 else .inr ⟨s.out,dQ p.to s.out.length s.places⟩)
 else if p.kind=2#8 then (if dD p.insn.code=5#16 then .inl 210 else .inr ⟨p.insn :: s.out,s.places⟩)
 else if p.kind=4#8 then (if (cE p.to s.places).isSome then .inr (s.hop (s.away p.to)) else .inl 207)
 else if p.kind=3#8 then
  (if dD p.insn.code≠5#16\/p.insn.code=5#16 then .inl 210
  else if (cE p.to s.places).isSome=false\/(cE p.els s.places).isSome=false then .inl 207
  else .inr (s.cmp0 p.insn (s.away p.to) (s.away p.els)))
 else .inl 210
def kU:List bM->Int ⊕ MkD
 | [] => .inr ⟨[],[]⟩
 | p :: l=>match kU l with
  | .inl e => .inl e
  | .inr s=>match s.part p with
   | .inl e => .inl e
   | .inr t=>if 4096<t.out.length then .inl 205 else .inr t
def dM (l:List dA):List (List Value):=l.map dA.cells
def mkL (mb pm:Nat) (ov:Value) (s:MkD):List Res:=[aF mb [ov,.map (some pm)],bP 4 ov (dM s.out.reverse),cF vi iH pm s.places]
def Mk (H0 Z H:AH) (mb pm:Nat) (s:MkD) (X:List Res):Prop:=∃ ov,Has H0 Z H (mkL mb pm ov s++X)
section
variable {E:Sy} {H H' H0 Z:AH} {Q:Value->AH->Prop} {X:List Res} {mb pm:Nat} {s:MkD}
theorem mE (a b:Int):cB 0 (vi a) (vi b)=some (decide (a=b)):=by
 simp only [cB]
 rfl
theorem dP.look_int {r:Nat} {l:List (Int×Nat)} (h:dP vi iH H r l) (a:Int) (ok:Bool):AM.look 0 (.int .i64 0) ok (.map (some r)) (vi a) H=some (if ok then .tuple #[vi ((cE a l).getD 0:Nat),.bool (cE a l).isSome] else vi ((cE a l).getD 0:Nat)):=by
 have:=h.look (kd:=0) mE a (.int .i64 0) ok;cases hk:cE a l with
 | none=>unfold cE at hk; rw [hk] at this; rw [this]; cases ok <;> rfl
 | some n=>unfold cE at hk; rw [hk] at this; rw [this]; cases ok <;> rfl
theorem Mk.grow (h:Mk H0 Z H mb pm s X) (e:Ext H H'):Mk H0 Z H' mb pm s X:=by
 obtain ⟨ov,h⟩:=h;exact ⟨ov,h.grow e⟩
theorem Mk.ext (h:Mk H0 Z H mb pm s X):Ext H0 H:=by
 obtain ⟨ov,h⟩:=h;exact h.ext
theorem Mk.newbox (h:Mk H0 Z H mb pm s X) (c:List Value):Mk H0 Z (H.new (.cells c none)) mb pm s (X++[aF H.next c]):=by
 obtain ⟨ov,h⟩:=h;have:=h.newbox c;rw [List.append_assoc] at this;exact ⟨ov,this⟩
theorem Mk.box {t:Nat} {c:List Value} (h:Mk H0 Z H mb pm s (X++[aF t c])):H.get t = .cells c none:=by
 obtain ⟨ov,h⟩:=h;exact (h.all (aF t c) (by simp)).1
theorem Mk.dropLast {r:Res} (h:Mk H0 Z H mb pm s (X++[r])):Mk H0 Z H mb pm s X:=by
 obtain ⟨ov,h⟩:=h;rw [<- List.append_assoc] at h;exact ⟨ov,h.dropLast⟩
theorem Mk.cells (h:Mk H0 Z H mb pm s X):∃ ov,H.get mb = .cells [ov,.map (some pm)] none/\lenSlc ov=some (vi s.out.length):=by
 obtain ⟨ov,h⟩:=h;have hl:=(h.rows (k:=1) (sz:=4) (v:=ov) (rows:=dM s.out.reverse) rfl).lenSlc;simp only [dM,List.length_map,List.length_reverse] at hl;exact ⟨ov,h.box (k:=0) rfl,hl⟩
theorem Mk.look (h:Mk H0 Z H mb pm s X) (a:Int):AM.look 0 (.int .i64 0) true (.map (some pm)) (vi a) H=some (.tuple #[vi ((cE a s.places).getD 0:Nat),.bool (cE a s.places).isSome]):=by
 obtain ⟨ov,h⟩:=h;exact (h.mapAt (k:=2) (fk:=vi) (fv:=iH) (r:=pm) (l:=s.places) rfl).look_int a true
theorem Mk.push (h:Mk H0 Z H mb pm s X) (hl:s.out.length<2 ^ 30) (x:dA) {ov:Value} (ho:H.get mb = .cells [ov,.map (some pm)] none) :
  ∃ v' H1,app 4 8 ov (slc H.next 0 1 1) (H.new (.cells x.cells none))=some (v',H1)/\∃ H2,aQ (ptr mb 0) v' H1=some H2/\Mk H0 Z H2 mb pm ⟨x :: s.out,s.places⟩ X:=by
 obtain ⟨ov2,h⟩:=h;have hb:=h.box (k:=0) (b:=mb) (c:=[ov2,.map (some pm)]) rfl;rw [ho] at hb
 injection hb with hb _
 simp only [List.cons.injEq,and_true] at hb;subst hb;obtain ⟨v',H3,a1,a2,g⟩:=h.app1 (k:=1) (sz:=4) (v:=ov) (rows:=dM s.out.reverse) (bytes:=8) rfl x.cells rfl rfl (by decide) (by decide) (by simp only [dM,List.length_map,List.length_reverse]; omega)
 have hbx:=g.box (k:=0) (b:=mb) (c:=[ov,.map (some pm)]) rfl
 have hst:aQ (ptr mb 0) v' H3=some (H3.put mb (.cells [v',.map (some pm)] none)):=by
  rw [aJ,if_pos a2,hbx]; rfl
 have g2:=g.put (k:=0) (b:=mb) (c:=[ov,.map (some pm)]) rfl [v',.map (some pm)];refine ⟨v',H3,a1,_,hst,v',?_⟩;have hr:dM (x :: s.out).reverse=dM s.out.reverse++[x.cells]:=by simp [dM]
 show Has H0 Z _ (aF mb [v',.map (some pm)] :: bP 4 v' (dM (x :: s.out).reverse) :: cF vi iH pm s.places :: X)
 rw [hr];exact g2
theorem Mk.setPlace (h:Mk H0 Z H mb pm s X) (n:Int) (k:Nat):∃ H',cN 0 (.map (some pm)) (vi n) (vi k) H=some H'/\Mk H0 Z H' mb pm ⟨s.out,dQ n k s.places⟩ X:=by
 obtain ⟨ov,h⟩:=h;obtain ⟨H2,m1,g2⟩:=h.mapset (n:=2) (r:=pm) (l:=s.places) (fk:=vi) (fv:=iH) rfl mE n k;exact ⟨H2,m1,ov,g2⟩
theorem S.f55 (hE:aU E) (h:Mk H0 Z H mb pm s X) (hl:s.out.length<2 ^ 30) (n:Int) (hk:(cE n s.places).getD 0<2 ^ 30) (hQ:Q (.tuple #[vi (s.away n),vb (cE n s.places).isSome]) H):E.call (E.fid i.f55) [ptr mb 0,vi n] H Q:=by
 apply hE.f55;obtain ⟨ov,hbx,hlv⟩:=h.cells;have hlk:=h.look n;have hsub:aA .sub (vi s.out.length) (vi ((cE n s.places).getD 0:Nat))=some (vi (s.away n)):=fE (by omega) (by omega)
 simp only [F.f55,hbx,hlk,hlv,hsub,aD];exact hQ
theorem S.f57 (hE:aU E) (h:Mk H0 Z H mb pm s X) (hl:s.out.length<2 ^ 30) (n:Int) (hQ:∀ H',Mk H0 Z H' mb pm (s.hop n) X->Q (.tuple #[]) H'):E.call (E.fid i.f57) [ptr mb 0,vi n] H Q:=by
 apply hE.f57;obtain ⟨ov,hbx,hlv⟩:=h.cells;simp only [F.f57,hbx,aAn,aD];refine S.f35 hE _ fun H1 e1 =>?_;have hb1:=e1.cells hbx;refine ⟨by rw [aN,aN,hb1,hbx],?_⟩
 have hv:oN 5 0 0 (BitVec.ofInt 32 n)=(aCH n).v:=rfl;have hbS:bR 1 4 #[(.int .u16 0),(.int .u8 0),(.int .u8 0),(.int .u32 0)] [(0,(aCH n).v)]=some (.cells (aCH n).cells none,dN 1 1):=cQ 4 [u16 0#16,u8 0#8,u8 0#8,u32 0#32] (aCH n).cells rfl rfl;obtain ⟨v',H2,a1,H3,a2,g⟩:=(h.grow e1).push hl (aCH n) hb1;rw [hv];simp only [hbS,AM.aW,cW,a1,a2,aD];exact hQ _ g
end
end Go.AM
end
section
namespace Go.AM
set_option maxRecDepth 20000
def hU:List bM->Int->Bool
 | [],_=>false
 | p :: l,n=>if p.kind=1#8 then (if p.to=n then true else hU l n) else false
def bX (m:List (Int×Int)):Nat->Int->Int
 | 0,n=>n
 | f+1,n=>match cE n m with
  | none=>n
  | some t=>bX m f t
def jE:List bM->Option (BitVec 32)->List bM
 | [],_=>[]
 | p :: l,now =>
  if p.kind=1#8 then p :: jE l none
  else if p.kind=2#8/\p.insn.code=32#16 then (if now=some p.insn.k then jE l now else p :: jE l (some p.insn.k))
  else if p.kind=2#8 then p :: jE l none
  else p :: jE l now
section
variable {E:Sy} {H H' H0 Z:AH} {Q:Value->AH->Prop} {X:List Res}
theorem pQ (x:bM) (H:AH):aG 7 (ptr H.next 0) x.v (H.new (.cells [(.int .u8 0),(.int .i64 0),(.int .i64 0),(.int .u16 0),(.int .u8 0),(.int .u8 0),(.int .u32 0)] none))=some (H.new (.cells x.cells none)):=by
 rw [cX,AH.get_new_self];have h3:AM.bF [(.int .u8 0),(.int .i64 0),(.int .i64 0),(.int .u16 0),(.int .u8 0),(.int .u8 0),(.int .u32 0)] 0 x.cells=x.cells:=rfl;have h4:x.cells.all plain1=true:=rfl;have h5:x.cells.length=7:=rfl;simp only [List.size_toArray,List.toList_toArray,h4,h5,List.length_cons,List.length_nil,Nat.zero_add,Nat.le_refl,and_self,if_true,h3,AH.new_put]
theorem pY {v:Value} {l:List bM} (hv:Rows H 7 v (bN l)) {k:Nat} (hk:k<l.length):∃ b o,aK 7 v (vi k)=some (ptr b o)/\(H.get b).row o 7=some l[k].cells/\aE 7 (ptr b o) H=some l[k].v:=by
 obtain ⟨b,o,f1,f2⟩:=hv.ix (i:=k) (by simpa [bN] using hk)
 have hrow:(bN l)[k]'(by simpa [bN] using hk)=l[k].cells:=by simp [bN]
 rw [hrow] at f2;exact ⟨b,o,f1,f2,by rw [aL,f2]; rfl⟩
theorem S.f54 (hE:aU E) {v:Value} {l:List bM} (hv:Rows H 7 v (bN l)) (hl:l.length<2 ^ 30) (n:Int) (hQ:∀ H',Ext H H'->Q (vb (hU l n)) H'):E.call (E.fid i.f54) [v,vi n] H Q:=by
 apply hE.f54;have i0:(.int .i64 0:Value)=vi ((0:Nat):Int):=rfl;have hlv:=hv.lenSlc;have hpl:(bN l).length=l.length:=by simp [bN]
 rw [hpl] at hlv;simp only [F.f54,hlv,i0,aD];refine aM.count l.length (fun k ls H'=>ls=[vi n,v,vi l.length,vi k]/\Ext H H'/\hU l n=hU (l.drop k) n) ?_ ⟨rfl,Ext.refl _,rfl⟩;rintro k _ H1 X1 hk ih ⟨rfl,e1,hf⟩;rcases Nat.lt_or_ge k l.length with hlt | hge
 ·have hlt':decide ((k:Int)<l.length)=true:=decide_eq_true (by omega)
  obtain ⟨b,o,f1,_,f2⟩:=pY (hv.mono e1) hlt;have hinc:=cU (i:=k) (by omega)
  rw [List.drop_eq_getElem_cons hlt] at hf;generalize l[k]=p at *;have hst:=pQ p H1;have bp:=AH.get_new_self H1 (.cells p.cells none);have x1:Ext H1 (H1.new (.cells p.cells none)):=(Ext.refl _).new _;have c0:p.cells[0]? = some (u8 p.kind):=rfl;have c1:p.cells[1]? = some (vi p.to):=rfl;have q1:(.int .u8 1:Value)=u8 1#8:=rfl;simp only [F.f54_l1,aV,hlt',f1,f2,aP,hst,bp,c0,q1,aJu,aD];have hcons:hU (p :: l.drop (k+1)) n=if p.kind=1#8 then (if p.to=n then true else hU (l.drop (k+1)) n) else false:=rfl;rw [hcons] at hf
  by_cases o1:p.kind=1#8
  ·have hd:decide (p.kind≠1#8)=false:=decide_eq_false (by simpa using o1)
   rw [if_pos o1] at hf;simp only [hd,bp,c1,eU,aD]
   by_cases o2:p.to=n
   ·have hd2:decide (p.to=n)=true:=decide_eq_true o2
    rw [if_pos o2] at hf;rw [hf] at hQ;simp only [hd2,aD];exact hQ _ (e1.trans x1)
   ·have hd2:decide (p.to=n)=false:=decide_eq_false o2
    rw [if_neg o2] at hf;simp only [hd2,hinc,aD];exact ih hlt _ _ ⟨rfl,e1.trans x1,hf⟩
  ·have hd:decide (p.kind≠1#8)=true:=decide_eq_true o1
   rw [if_neg o1] at hf;rw [hf] at hQ;simp only [hd,aD];exact hQ _ (e1.trans x1)
 ·have hlt':decide ((k:Int)<l.length)=false:=decide_eq_false (by omega)
  rw [List.drop_eq_nil_of_le hge] at hf;rw [hf] at hQ;simp only [F.f54_l1,aV,hlt',aD];exact hQ _ e1
theorem dP.look_ints {r:Nat} {l:List (Int×Int)} (h:dP vi vi H r l) (a:Int):AM.look 0 (.int .i64 0) true (.map (some r)) (vi a) H=some (.tuple #[vi ((cE a l).getD 0),.bool (cE a l).isSome]):=by
 have:=h.look (kd:=0) mE a (.int .i64 0) true;cases hk:cE a l with
 | none=>unfold cE at hk; rw [hk] at this; rw [this]; rfl
 | some n=>unfold cE at hk; rw [hk] at this; rw [this]; rfl
theorem S.f53 (hE:aU E) {r:Nat} {m:List (Int×Int)} (hm:dP vi vi H r m) (hl:m.length<2 ^ 30) (n:Int) (hQ:Q (vi (bX m m.length n)) H):E.call (E.fid i.f53) [.map (some r),vi n] H Q:=by
 apply hE.f53;have i0:(.int .i64 0:Value)=vi ((0:Nat):Int):=rfl;have hlm:=hm.len;simp only [F.f53,hlm,i0,aD];refine aM.count m.length (fun k ls H'=>∃ x,ls=[.map (some r),vi x,vi m.length,vi k]/\H=H'/\bX m m.length n=bX m (m.length - k) x) ?_ ⟨n,rfl,rfl,rfl⟩;rintro k _ _ X1 hk ih ⟨x,rfl,rfl,hf⟩;rcases Nat.lt_or_ge k m.length with hlt | hge
 ·have hlt':decide ((k:Int)<m.length)=true:=decide_eq_true (by omega)
  have hlk:=hm.look_ints x;have hinc:=cU (i:=k) (by omega)
  obtain ⟨f,hfe⟩:∃ f,m.length - k=f+1:=⟨m.length - k - 1,by omega⟩
  rw [hfe] at hf;have hsucc:bX m (f+1) x=match cE x m with | none=>x | some t=>bX m f t:=rfl
  rw [hsucc] at hf;simp only [F.f53_l1,aV,hlt',hlk,aD];cases ha:cE x m with
  | none =>
   rw [ha] at hf;have hf:bX m m.length n=x:=hf;simp only [Option.isSome_none,aD];rw [<- hf];exact hQ
  | some t =>
   rw [ha] at hf;have hf:bX m m.length n=bX m f t:=hf;simp only [Option.isSome_some,Option.getD_some,hinc,aD];exact ih hlt _ _ ⟨t,rfl,rfl,by rw [hf,show m.length - (k+1)=f by omega]⟩
 ·have hlt':decide ((k:Int)<m.length)=false:=decide_eq_false (by omega)
  have h0:m.length - k=0:=by omega
  rw [h0] at hf;have hf:bX m m.length n=x:=hf;simp only [F.f53_l1,aV,hlt',aD];rw [<- hf];exact hQ
end
end Go.AM
end
section
namespace Go.AM
set_option maxRecDepth 20000
def sG (o:Option (BitVec 32)):List Value:=[vb o.isSome,u32 (o.getD 0#32)]
section
variable {E:Sy} {H H' H0 Z:AH} {Q:Value->AH->Prop} {X:List Res}
theorem aJY (o:Option (BitVec 32)) (k:BitVec 32):iS [2,0] .eql (.agg (sG o).toArray) (.agg [vb true,u32 k].toArray)=some (vb (decide (o=some k))):=by
 have hb:∀ a:Bool,cB 2 (vb a) (vb true)=some (a == true):=fun _=>rfl;simp only [iS,sG,List.toList_toArray,bI,hb,lQ,Option.bind_some,Option.map_some];cases o with
 | none=>simp
 | some x=>simp
def peL (nb:Nat) (o:Option (BitVec 32)) (ov:Value) (out:List bM):List Res:=[aF nb (sG o),bP 7 ov (bN out)]
theorem Has.setNow {nb:Nat} {o:Option (BitVec 32)} {ov:Value} {out:List bM} (h:Has H0 Z H (peL nb o ov out++X)) (o':Option (BitVec 32)):∃ H',aG 2 (ptr nb 0) (.agg (sG o').toArray) H=some H'/\Has H0 Z H' (peL nb o' ov out++X):=by
 have hb:=h.box (k:=0) (b:=nb) (c:=sG o) rfl;refine ⟨H.put nb (.cells (sG o') none),by rw [cX,hb]; rfl,h.put (k:=0) (b:=nb) (c:=sG o) rfl (sG o')⟩
theorem aIX {nb:Nat} {o:Option (BitVec 32)} {ov:Value} {out:List bM} (h:Has H0 Z H (peL nb o ov out++X)) (hl:out.length<2 ^ 30) (p:bM):∃ v' H',app 7 32 ov (slc H.next 0 1 1) (H.new (.cells p.cells none))=some (v',H')/\Has H0 Z H' (peL nb o v' (out++[p])++X):=by
 obtain ⟨v',H3,a1,a2,g⟩:=h.app1 (k:=1) (sz:=7) (v:=ov) (rows:=bN out) (bytes:=32) rfl p.cells rfl (by simp [bM.cells]) (by decide) (by decide) (by simp only [bN,List.length_map]; omega)
 refine ⟨v',H3,a1,?_⟩;have hr:bN (out++[p])=bN out++[p.cells]:=by simp [bN]
 show Has H0 Z H3 (aF nb (sG o) :: bP 7 v' (bN (out++[p])) :: X)
 rw [hr];exact g
theorem zW {b o:Nat} {p:bM} (e:Ext H0 H) (hr:(H0.get b).row o 7=some p.cells):aE 7 (ptr b o) H=some p.v:=by
 have:H.get b=H0.get b:=e.obj (o:=H0.get b) (fun hd=>by rw [hd] at hr; cases hr) rfl
 rw [aL,this,hr]; rfl
theorem S.f17 (hE:aU E) {v:Value} {l:List bM} (hv:Rows H 7 v (bN l)) (hl:l.length<2 ^ 29) (hQ:∀ w H',Ext H H'->Rows H' 7 w (bN (jE l none))->Q w H'):E.call (E.fid i.f17) [v] H Q:=by
 apply hE.f17;have i0:(.int .i64 0:Value)=vi ((0:Nat):Int):=rfl;have hlv:=hv.lenSlc;have hpl:(bN l).length=l.length:=by simp [bN]
 rw [hpl] at hlv;have g1:=((Has.begin (Ext.refl H) (Sub.refl H)).newbox [(.bool false),(.int .u32 0)]).nils 7;simp only [F.f17,aP,hlv,i0,aD];generalize H.new (.cells [(.bool false),(.int .u32 0)] none)=H2 at *;generalize H.next=nb at *;refine aM.count l.length (fun k ls H'=>∃ ov out now,ls=[ov,ptr nb 0,v,vi l.length,vi k]/\Has H H H' (peL nb now ov out++[])/\out.length<=k/\out++jE (l.drop k) now=jE l none) ?_ ⟨bL,[],none,rfl,g1,Nat.le_refl _,rfl⟩;rintro k _ H3 X1 hk ih ⟨ov,out,now,rfl,g,hol,hpe⟩;rcases Nat.lt_or_ge k l.length with hlt | hge
 rotate_left
 ·have hlt':decide ((k:Int)<l.length)=false:=decide_eq_false (by omega)
  rw [List.drop_eq_nil_of_le hge] at hpe;have hpe:out=jE l none:=by rw [<- hpe]; simp [jE]
  simp only [F.f17_l1,aV,hlt',aD];refine hQ _ _ g.ext ?_;rw [<- hpe];exact g.rows (k:=1) (sz:=7) (v:=ov) (rows:=bN out) rfl
 have hlt':decide ((k:Int)<l.length)=true:=decide_eq_true (by omega)
 obtain ⟨b,o,f1,f2,_⟩:=pY hv hlt;have lo:=zW g.ext f2;have hinc:=cU (i:=k) (by omega)
 rw [List.drop_eq_getElem_cons hlt] at hpe;generalize l[k]=p at *;have hst:=pQ p H3;have bp:=AH.get_new_self H3 (.cells p.cells none);have g4:Has H H (H3.new (.cells p.cells none)) (peL nb now ov out++[aF H3.next p.cells]):=g.newbox p.cells;have c0:p.cells[0]? = some (u8 p.kind):=rfl;have c3:p.cells[3]? = some (u16 p.insn.code):=rfl;have c6:p.cells[6]? = some (u32 p.insn.k):=rfl;have q1:(.int .u8 1:Value)=u8 1#8:=rfl;have q2:(.int .u8 2:Value)=u8 2#8:=rfl;have q32:(.int .u16 32:Value)=u16 32#16:=rfl;have hbv0:aX [(0,1),(1,1)] #[(.bool false),(.int .u32 0)] []=some (.agg (sG none).toArray):=rfl;have hbv1:aX [(0,1),(1,1)] #[(.bool false),(.int .u32 0)] [(0,(.bool true)),(1,u32 p.insn.k)]=some (.agg (sG (some p.insn.k)).toArray):=rfl;simp only [F.f17_l1,aV,hlt',f1,lo,aP,hst,bp,c0,q1,eB,aD];generalize H3.new (.cells p.cells none)=H4 at *;generalize H3.next=t at *
 have fin:∀ (now':Option (BitVec 32)) (K:AH),Has H H K (peL nb now' ov out++[aF t p.cells])->(out++[p])++jE (l.drop (k+1)) now'=jE l none->F.f17_j1 E Q X1 ov (ptr nb 0) (ptr t 0) v (vi l.length) (vi k) K:=by
  intro now' K gk hk';have hbt:=gk.box (k:=2) (b:=t) (c:=p.cells) rfl;have lot:aE 7 (ptr t 0) K=some p.v:=by rw [aL,hbt,fC _ _ 7 rfl]; rfl
  have hbS:bR 1 7 #[(.int .u8 0),(.int .i64 0),(.int .i64 0),(.int .u16 0),(.int .u8 0),(.int .u8 0),(.int .u32 0)] [(0,p.v)]=some (.cells p.cells none,dN 1 1):=cQ 7 [u8 0#8,vi 0,vi 0,u16 0#16,u8 0#8,u8 0#8,u32 0#32] p.cells rfl rfl;obtain ⟨w,K2,a1,g5⟩:=aIX gk (by omega) p
  simp only [F.f17_j1,lot,hbS,AM.aW,cW,a1,hinc,aD];exact ih hlt _ _ ⟨w,out++[p],now',rfl,Has.dropLast (L:=peL nb now' w (out++[p])) g5,by simp; omega,hk'⟩
 have hcons:jE (p :: l.drop (k+1)) now=if p.kind=1#8 then p :: jE (l.drop (k+1)) none
  else if p.kind=2#8/\p.insn.code=32#16 then (if now=some p.insn.k then jE (l.drop (k+1)) now else p :: jE (l.drop (k+1)) (some p.insn.k))
  else if p.kind=2#8 then p :: jE (l.drop (k+1)) none
  else p :: jE (l.drop (k+1)) now:=rfl
 rw [hcons] at hpe
 by_cases o1:p.kind=1#8
 ·have hd:decide (p.kind=1#8)=true:=decide_eq_true o1
  rw [if_pos o1] at hpe;obtain ⟨K,s1,gk⟩:=g4.setNow none;simp only [hd,hbv0,s1,aD];exact fin none K gk (by rw [List.append_assoc]; exact hpe)
 have hd1:decide (p.kind=1#8)=false:=decide_eq_false o1;rw [if_neg o1] at hpe;simp only [hd1,bp,c0,q2,eB,aD]
 by_cases o2:p.kind=2#8
 ·have hd:decide (p.kind=2#8)=true:=decide_eq_true o2
  simp only [hd,bp,c3,q32,cV,aD]
  by_cases o3:p.insn.code=32#16
  ·have hd3:decide (p.insn.code=32#16)=true:=decide_eq_true o3
   rw [if_pos ⟨o2,o3⟩] at hpe;have hbn:=g4.box (k:=0) (b:=nb) (c:=sG now) rfl;have lon:aE 2 (ptr nb 0) H4=some (.agg (sG now).toArray):=by rw [aL,hbn,fC _ _ 2 rfl]; rfl
   have hsame:iS [2,0] .eql (.agg (sG now).toArray) (.agg (sG (some p.insn.k)).toArray)=some (vb (decide (now=some p.insn.k))):=aJY now p.insn.k;simp only [hd3,lon,bp,c6,hbv1,hsame,aD]
   by_cases o4:now=some p.insn.k
   ·have hd4:decide (now=some p.insn.k)=true:=decide_eq_true o4
    rw [if_pos o4] at hpe;simp only [hd4,hinc,aD];exact ih hlt _ _ ⟨ov,out,now,rfl,Has.dropLast (L:=peL nb now ov out) g4,by omega,hpe⟩
   ·have hd4:decide (now=some p.insn.k)=false:=decide_eq_false o4
    rw [if_neg o4] at hpe;obtain ⟨K,s1,gk⟩:=g4.setNow (some p.insn.k);simp only [hd4,bp,c6,hbv1,s1,aD];exact fin (some p.insn.k) K gk (by rw [List.append_assoc]; exact hpe)
  ·have hd3:decide (p.insn.code=32#16)=false:=decide_eq_false o3
   rw [if_neg (fun h=>o3 h.2),if_pos o2] at hpe;obtain ⟨K,s1,gk⟩:=g4.setNow none;simp only [hd3,hd,bp,c0,q2,eB,hbv0,s1,aD];exact fin none K gk (by rw [List.append_assoc]; exact hpe)
 ·have hd:decide (p.kind=2#8)=false:=decide_eq_false o2
  rw [if_neg (fun h=>o2 h.1),if_neg o2] at hpe;simp only [hd,bp,c0,q2,eB,aD];exact fin now H4 g4 (by rw [List.append_assoc]; exact hpe)
end
end Go.AM
end
section
namespace Go.AM
set_option maxRecDepth 20000
def sU:List bM->List bM
 | []=>[]
 | p :: l=>if p.kind=1#8 then sU l else p :: l
def gW (p:bM) (l:List bM) (m:List (Int×Int)):List (Int×Int) :=
 if p.kind=1#8 then (match (sU l).head? with
  | some q=>if q.kind=4#8 then dQ p.to q.to m else m
  | none=>m) else m
def fB:List bM->List (Int×Int)->List (Int×Int)
 | [],m=>m
 | p :: l,m=>fB l (gW p l m)
section
variable {E:Sy} {H H' H0 Z:AH} {Q:Value->AH->Prop} {X:List Res}
theorem aES (hE:aU E) {v:Value} {l:List bM} (hv:Rows H0 7 v (bN l)) (hl:l.length<2 ^ 29) {k:Nat} (hk:k<l.length) (h1:l[k].kind=1#8) {r t:Nat} {m:List (Int×Int)} (g:Has H0 Z H [cF vi vi r m,aF t l[k].cells]) {X0:List Value->AH->Prop}
  (next:∀ H',Has H0 Z H' [cF vi vi r (gW l[k] (l.drop (k+1)) m)]->X0 [v,.map (some r),v,vi l.length,vi ((k+1:Nat):Int)] H') :
  aM (fun l H X1=>F.f60_l2 E Q X0 (nth l 0) (nth l 1) (nth l 2) (nth l 3) (nth l 4) (nth l 5) (nth l 6) H X1) [v,.map (some r),ptr t 0,vi k,v,vi l.length,vi k] H:=by
 have hlv:=hv.lenSlc;have hpl:(bN l).length=l.length:=by simp [bN]
 rw [hpl] at hlv;have hinck:=cU (i:=k) (by omega)
 have hth:gW l[k] (l.drop (k+1)) m=match (sU (l.drop k)).head? with
  | some q=>if q.kind=4#8 then dQ l[k].to q.to m else m
  | none=>m:=by
  have:sU (l.drop k)=sU (l.drop (k+1)):=by
   rw [List.drop_eq_getElem_cons hk]
   show (if l[k].kind=1#8 then _ else _)=_
   rw [if_pos h1]
  unfold gW;rw [if_pos h1,this]
 refine aM.ind (fun n ls H'=>H=H'/\∃ j:Nat,n=l.length - j/\j<=l.length/\sU (l.drop k)=sU (l.drop j)/\ls=[v,.map (some r),ptr t 0,vi j,v,vi l.length,vi k]) ?_ (l.length - k) ⟨rfl,k,rfl,by omega,rfl,rfl⟩
 rintro n _ _ X1 ih ⟨rfl,j,rfl,hj,hs,rfl⟩;have q1:(.int .u8 1:Value)=u8 1#8:=rfl;have q4:(.int .u8 4:Value)=u8 4#8:=rfl;rcases Nat.lt_or_ge j l.length with hlt | hge
 ·have hlt':decide ((j:Int)<l.length)=true:=decide_eq_true (by omega)
  obtain ⟨b,o,f1,f2,_⟩:=pY (hv.mono g.ext) hlt;have c0:((H.get b).cell o)=some (u8 l[j].kind):=by have:=mW f2 (j:=0) (by omega); simpa [bM.cells] using this
  have c1:((H.get b).cell (o+1))=some (vi l[j].to):=by have:=mW f2 (j:=1) (by omega); simpa [bM.cells] using this
  have hinc:=cU (i:=j) (by omega)
  have hdr:l.drop j=l[j] :: l.drop (j+1):=List.drop_eq_getElem_cons hlt;have hsk:sU (l.drop j)=if l[j].kind=1#8 then sU (l.drop (j+1)) else l[j] :: l.drop (j+1):=by rw [hdr]; rfl
  generalize l[j]=p at *;simp only [F.f60_l2,hlv,aV,hlt',f1,c0,q1,eB,aD]
  by_cases o1:p.kind=1#8
  ·have hd:decide (p.kind=1#8)=true:=decide_eq_true o1
   rw [if_pos o1] at hsk;simp only [hd,hinc,aD];exact ih _ (by omega) _ _ ⟨rfl,j+1,rfl,by omega,by rw [hs,hsk],rfl⟩
  ·have hd:decide (p.kind=1#8)=false:=decide_eq_false o1
   rw [if_neg o1] at hsk;rw [hs,hsk] at hth;simp only [hd,hlv,aV,hlt',f1,c0,q4,eB,aD]
   by_cases o4:p.kind=4#8
   ·have hd4:decide (p.kind=4#8)=true:=decide_eq_true o4
    have hbt:=g.box (k:=1) (b:=t) (c:=l[k].cells) rfl;have ct:l[k].cells[1]? = some (vi l[k].to):=rfl;obtain ⟨H2,m1,g2⟩:=g.mapset (n:=0) (r:=r) (l:=m) (fk:=vi) (fv:=vi) rfl mE l[k].to p.to;have hth:gW l[k] (l.drop (k+1)) m=dQ l[k].to p.to m:=by rw [hth]; show (if p.kind=4#8 then _ else _)=_; rw [if_pos o4]
    rw [hth] at next;simp only [hd4,hbt,ct,f1,c1,m1,hinck,aD];exact next _ (g2.drop 1)
   ·have hd4:decide (p.kind=4#8)=false:=decide_eq_false o4
    have hth:gW l[k] (l.drop (k+1)) m=m:=by rw [hth]; show (if p.kind=4#8 then _ else _)=_; rw [if_neg o4]
    rw [hth] at next;simp only [hd4,hinck,aD];exact next _ (g.drop 1)
 ·have hlt':decide ((j:Int)<l.length)=false:=decide_eq_false (by omega)
  rw [hs,List.drop_eq_nil_of_le hge] at hth;have hth:gW l[k] (l.drop (k+1)) m=m:=hth;rw [hth] at next;simp only [F.f60_l2,hlv,aV,hlt',hinck,aD];exact next _ (g.drop 1)
theorem S.f60 (hE:aU E) {v:Value} {l:List bM} (hv:Rows H 7 v (bN l)) (hl:l.length<2 ^ 29) (hQ:∀ r H',Has H H H' [cF vi vi r (fB l [])]->Q (.map (some r)) H'):E.call (E.fid i.f60) [v] H Q:=by
 apply hE.f60;have hlv:=hv.lenSlc;have hpl:(bN l).length=l.length:=by simp [bN]
 rw [hpl] at hlv;have i0:(.int .i64 0:Value)=vi ((0:Nat):Int):=rfl;have hmw:∀ (H:AH) (K:Value->AH->Prop),lM H K=K (.map (some H.next)) (H.new (.map [] 0 true)):=fun _ _=>rfl;have g1:=(Has.begin (Ext.refl H) (Sub.refl H)).newmap vi vi;simp only [F.f60,hmw,hlv,i0,aD];generalize H.new (.map [] 0 true)=H1 at *;generalize H.next=r at *;refine aM.count l.length (fun k ls H'=>ls=[v,.map (some r),v,vi l.length,vi k]/\∃ m,Has H H H' [cF vi vi r m]/\fB (l.drop k) m=fB l []) ?_ ⟨rfl,[],g1,rfl⟩;rintro k _ H2 X1 hk ih ⟨rfl,m,g,hm⟩;rcases Nat.lt_or_ge k l.length with hlt | hge
 ·have hlt':decide ((k:Int)<l.length)=true:=decide_eq_true (by omega)
  obtain ⟨b,o,f1,f2,_⟩:=pY hv hlt;have lo:=zW g.ext f2;have hinc:=cU (i:=k) (by omega)
  rw [List.drop_eq_getElem_cons hlt] at hm;have hm:fB (l.drop (k+1)) (gW l[k] (l.drop (k+1)) m)=fB l []:=hm;have hst:=pQ l[k] H2;have bp:=AH.get_new_self H2 (.cells l[k].cells none);have g3:=g.newbox l[k].cells;have c0:l[k].cells[0]? = some (u8 l[k].kind):=rfl;have q1:(.int .u8 1:Value)=u8 1#8:=rfl;simp only [F.f60_l1,aV,hlt',f1,lo,aP,hst,bp,c0,q1,aJu,aD];generalize H2.new (.cells l[k].cells none)=H3 at *;generalize H2.next=t at *
  by_cases o1:l[k].kind=1#8
  ·have hd:decide (l[k].kind≠1#8)=false:=decide_eq_false (by simpa using o1)
   simp only [hd,aD];exact aES hE hv hl hlt o1 g3 fun H' g'=>ih hlt _ _ ⟨rfl,_,g',hm⟩
  ·have hd:decide (l[k].kind≠1#8)=true:=decide_eq_true o1
   have ht:gW l[k] (l.drop (k+1)) m=m:=by unfold gW; rw [if_neg o1]
   rw [ht] at hm;simp only [hd,hinc,aD];exact ih hlt _ _ ⟨rfl,m,g3.drop 1,hm⟩
 ·have hlt':decide ((k:Int)<l.length)=false:=decide_eq_false (by omega)
  rw [List.drop_eq_nil_of_le hge] at hm;have hm:m=fB l []:=hm;simp only [F.f60_l1,aV,hlt',aD];rw [hm] at g;exact hQ _ _ g
end
end Go.AM
end
section
namespace Go.AM
set_option maxRecDepth 20000
def eR (w:List (Int×Int)) (p:bM):bM :=
 if p.kind=4#8 then { p with to:=bX w w.length p.to }
 else if p.kind=3#8 then { p with to:=bX w w.length p.to,els:=bX w w.length p.els }
 else p
def mG (u:List (Int×Bool)) (p:bM):List (Int×Bool) :=
 if p.kind=4#8 then dQ p.to true u
 else if p.kind=3#8 then dQ p.els true (dQ p.to true u)
 else u
def iK (u:List (Int×Bool)):List bM->Bool->List bM
 | [],_=>[]
 | p :: l,dead =>
  if p.kind=1#8 then (if (cE p.to u).getD false=true then p :: iK u l false else iK u l dead)
  else if dead=true\/(p.kind=4#8/\hU l p.to=true) then iK u l dead
  else p :: iK u l (decide (p.kind=4#8)||(decide (p.kind=2#8)&&decide (dD p.insn.code=6#16)))
def lY (l:List bM):List bM :=
 let out:=l.map (eR (fB l []))
 iK (out.foldl mG []) out false
section
variable {E:Sy} {H H' H0 Z:AH} {Q:Value->AH->Prop} {X:List Res}
theorem Has.bset {L:List Res} {n t k:Nat} {c c':List Value} {v:Value} (h:Has H0 Z H L) (hn:L[n]? = some (aF t c)) (hp:plain1 v=true) (hk:k<c.length) (hc:c.set k v=c'):∃ H',aQ (ptr t k) v H=some H'/\Has H0 Z H' (L.set n (aF t c')):=by
 subst hc;have hb:=h.box hn;refine ⟨H.put t (.cells (c.set k v) none),?_,h.put hn _⟩;rw [aJ,if_pos hp,hb];simp only [hk,if_true]
def onL (r ur:Nat) (w:List (Int×Int)) (u:List (Int×Bool)) (ov:Value) (out:List bM):List Res:=[cF vi vi r w,cF vi vb ur u,bP 7 ov (bN out)]
theorem aBD (hE:aU E) {r ur t:Nat} {w:List (Int×Int)} {u:List (Int×Bool)} {ov v:Value} {out:List bM} {p:bM} (g:Has H0 Z H (onL r ur w u ov out++[aF t p.cells])) (hl:out.length<2 ^ 30) {ln k:Nat} (hk:k<2 ^ 30) {X0:List Value->AH->Prop}
  (next:∀ ov' H',Has H0 Z H' (onL r ur w u ov' (out++[p]))->X0 [.map (some r),.map (some ur),ov',v,vi ln,vi ((k+1:Nat):Int)] H'):F.f59_j1 E Q X0 (.map (some r)) (.map (some ur)) ov (ptr t 0) v (vi ln) (vi k) H:=by
 have hbt:=g.box (k:=3) (b:=t) (c:=p.cells) rfl;have lot:aE 7 (ptr t 0) H=some p.v:=by rw [aL,hbt,fC _ _ 7 rfl]; rfl
 have hbS:bR 1 7 #[(.int .u8 0),(.int .i64 0),(.int .i64 0),(.int .u16 0),(.int .u8 0),(.int .u8 0),(.int .u32 0)] [(0,p.v)]=some (.cells p.cells none,dN 1 1):=cQ 7 [u8 0#8,vi 0,vi 0,u16 0#16,u8 0#8,u8 0#8,u32 0#32] p.cells rfl rfl;have hinc:=cU (i:=k) (by omega)
 obtain ⟨v',H3,a1,a2,g2⟩:=g.app1 (k:=2) (sz:=7) (v:=ov) (rows:=bN out) (bytes:=32) rfl p.cells rfl (by simp [bM.cells]) (by decide) (by decide) (by simp only [bN,List.length_map]; omega)
 have hr:bN (out++[p])=bN out++[p.cells]:=by simp [bN]
 simp only [F.f59_j1,lot,hbS,AM.aW,cW,a1,hinc,aD];refine next v' H3 ?_
 show Has H0 Z H3 [cF vi vi r w,cF vi vb ur u,bP 7 v' (bN (out++[p]))]
 rw [hr];exact Has.dropLast (L:=[cF vi vi r w,cF vi vb ur u,bP 7 v' (bN out++[p.cells])]) g2
theorem aKH (hE:aU E) {v:Value} {l:List bM} (hv:Rows H0 7 v (bN l)) (hl:l.length<2 ^ 29) {r ur:Nat} {w:List (Int×Int)} (hw:w.length<2 ^ 30) (g0:Has H0 Z H (onL r ur w [] bL []))
  {R:List Value->AH->Prop} (hR:∀ ov H',Has H0 Z H' (onL r ur w ((l.map (eR w)).foldl mG []) ov (l.map (eR w))) ->
   (opt (lenSlc ov) fun v27=>aM (fun l H X0=>F.f59_l2 E Q (nth l 0) (nth l 1) (nth l 2) (nth l 3) (nth l 4) (nth l 5) (nth l 6) H X0) [.map (some ur),ov,(.slice none 0 0),(.bool false),ov,v27,(.int .i64 0)] H')) :
  aM (fun l H X0=>F.f59_l1 E Q (nth l 0) (nth l 1) (nth l 2) (nth l 3) (nth l 4) (nth l 5) H X0) [.map (some r),.map (some ur),(.slice none 0 0),v,vi l.length,(.int .i64 0)] H:=by
 have i0:(.int .i64 0:Value)=vi ((0:Nat):Int):=rfl;rw [i0];refine aM.count l.length (fun k ls H'=>∃ ov,ls=[.map (some r),.map (some ur),ov,v,vi l.length,vi k]/\Has H0 Z H' (onL r ur w (((l.take k).map (eR w)).foldl mG []) ov ((l.take k).map (eR w)))) ?_ ⟨bL,rfl,g0⟩;rintro k _ H1 X1 hk ih ⟨ov,rfl,g⟩;rcases Nat.lt_or_ge k l.length with hlt | hge
 rotate_left
 ·have hke:k=l.length:=by omega
  subst hke;have hlt':decide ((l.length:Int)<l.length)=false:=decide_eq_false (by omega)
  rw [List.take_length] at g;simp only [F.f59_l1,aV,hlt',aD];exact hR _ _ g
 have hlt':decide ((k:Int)<l.length)=true:=decide_eq_true (by omega)
 obtain ⟨b,o,f1,f2,_⟩:=pY hv hlt;have lo:=zW g.ext f2
 have htk:(l.take (k+1)).map (eR w)=(l.take k).map (eR w)++[eR w l[k]]:=by
  rw [List.take_succ,List.getElem?_eq_getElem hlt,List.map_append]; rfl
 have hlen:((l.take k).map (eR w)).length<2 ^ 30:=by rw [List.length_map,List.length_take]; omega
 have hus:((l.take (k+1)).map (eR w)).foldl mG []=mG (((l.take k).map (eR w)).foldl mG []) (eR w l[k]):=by rw [htk,List.foldl_append]; rfl
 have ih:=ih hlt;rw [htk] at ih;rw [htk] at hus;generalize l[k]=p at *;rw [hus] at ih;generalize (l.take k).map (eR w)=out at *;generalize out.foldl mG []=u at *;have hst:=pQ p H1;have g2:=g.newbox p.cells;have bp:=AH.get_new_self H1 (.cells p.cells none);have c0:p.cells[0]? = some (u8 p.kind):=rfl;have c1:p.cells[1]? = some (vi p.to):=rfl;have c2:p.cells[2]? = some (vi p.els):=rfl;have q4:(.int .u8 4:Value)=u8 4#8:=rfl;have q3:(.int .u8 3:Value)=u8 3#8:=rfl;simp only [F.f59_l1,aV,hlt',f1,lo,aP,hst,bp,c0,q4,eB,aD];generalize H1.new (.cells p.cells none)=H2 at *;generalize H1.next=t at *;have hmw:dP vi vi H2 r w:=g2.mapAt (k:=0) rfl
 by_cases o4:p.kind=4#8
 ·have hd:decide (p.kind=4#8)=true:=decide_eq_true o4
  have hrd:eR w p={ p with to:=bX w w.length p.to }:=by unfold eR; rw [if_pos o4]
  have hu1:mG u (eR w p)=dQ (bX w w.length p.to) true u:=by rw [hrd]; unfold mG; rw [if_pos (show bM.kind { p with to:=bX w w.length p.to }=4#8 from o4)]
  rw [hu1,hrd] at ih;simp only [hd,bp,c1,aD];refine S.f53 hE hmw hw p.to ?_;obtain ⟨H4,s4,g4⟩:=g2.bset (n:=3) (t:=t) (k:=1) (c:=p.cells) (c':=bM.cells { p with to:=bX w w.length p.to }) (v:=vi (bX w w.length p.to)) rfl rfl (by simp [bM.cells]) rfl
  have b4:=g4.box (k:=3) (b:=t) (c:=bM.cells { p with to:=bX w w.length p.to }) rfl
  have d1:(bM.cells { p with to:=bX w w.length p.to })[1]? = some (vi (bX w w.length p.to)):=rfl
  obtain ⟨H5,m5,g5⟩:=g4.mapset (n:=1) (r:=ur) (l:=u) (fk:=vi) (fv:=vb) rfl mE (bX w w.length p.to) true;have m5:cN 0 (.map (some ur)) (vi (bX w w.length p.to)) (.bool true) H4=some H5:=m5;simp only [s4,b4,d1,m5,aD];exact aBD hE (p:={ p with to:=bX w w.length p.to }) g5 hlen (by omega) fun ov' H' g'=>ih _ _ ⟨ov',rfl,g'⟩
 have hd4:decide (p.kind=4#8)=false:=decide_eq_false o4;simp only [hd4,q3,eB,aD]
 by_cases o3:p.kind=3#8
 ·have hd:decide (p.kind=3#8)=true:=decide_eq_true o3
  have hrd:eR w p={ p with to:=bX w w.length p.to,els:=bX w w.length p.els }:=by unfold eR; rw [if_neg o4,if_pos o3]
  have hu1:mG u (eR w p)=dQ (bX w w.length p.els) true (dQ (bX w w.length p.to) true u):=by
   rw [hrd]; unfold mG;rw [if_neg (show ¬ bM.kind { p with to:=bX w w.length p.to,els:=bX w w.length p.els }=4#8 from o4),if_pos (show bM.kind { p with to:=bX w w.length p.to,els:=bX w w.length p.els }=3#8 from o3)]
  rw [hu1,hrd] at ih;simp only [hd,bp,c1,c2,aD];refine S.f53 hE hmw hw p.to ?_;refine ⟨rfl,?_⟩;simp only [aD];refine S.f53 hE hmw hw p.els ?_;obtain ⟨H4,s4,g4⟩:=g2.bset (n:=3) (t:=t) (k:=1) (c:=p.cells) (c':=bM.cells { p with to:=bX w w.length p.to }) (v:=vi (bX w w.length p.to)) rfl rfl (by simp [bM.cells]) rfl
  obtain ⟨H5,s5,g5⟩:=g4.bset (n:=3) (t:=t) (k:=2) (c:=bM.cells { p with to:=bX w w.length p.to }) (c':=bM.cells { p with to:=bX w w.length p.to,els:=bX w w.length p.els }) (v:=vi (bX w w.length p.els)) rfl rfl (by simp [bM.cells]) rfl
  have b5:=g5.box (k:=3) (b:=t) (c:=bM.cells { p with to:=bX w w.length p.to,els:=bX w w.length p.els }) rfl
  have d1:(bM.cells { p with to:=bX w w.length p.to,els:=bX w w.length p.els })[1]? = some (vi (bX w w.length p.to)):=rfl
  have d2:(bM.cells { p with to:=bX w w.length p.to,els:=bX w w.length p.els })[2]? = some (vi (bX w w.length p.els)):=rfl
  obtain ⟨H6,m6,g6⟩:=g5.mapset (n:=1) (r:=ur) (l:=u) (fk:=vi) (fv:=vb) rfl mE (bX w w.length p.to) true;have m6:cN 0 (.map (some ur)) (vi (bX w w.length p.to)) (.bool true) H5=some H6:=m6;have b6:=g6.box (k:=3) (b:=t) (c:=bM.cells { p with to:=bX w w.length p.to,els:=bX w w.length p.els }) rfl
  obtain ⟨H7,m7,g7⟩:=g6.mapset (n:=1) (r:=ur) (l:=dQ (bX w w.length p.to) true u) (fk:=vi) (fv:=vb) rfl mE (bX w w.length p.els) true;have m7:cN 0 (.map (some ur)) (vi (bX w w.length p.els)) (.bool true) H6=some H7:=m7;simp only [s4,s5,b5,d1,d2,m6,aD];refine ⟨by rw [b6]; rfl,?_⟩
  simp only [m7,aD];exact aBD hE (p:={ p with to:=bX w w.length p.to,els:=bX w w.length p.els }) g7 hlen (by omega) fun ov' H' g'=>ih _ _ ⟨ov',rfl,g'⟩
 ·have hd:decide (p.kind=3#8)=false:=decide_eq_false o3
  have hrd:eR w p=p:=by unfold eR; rw [if_neg o4,if_neg o3]
  have hu1:mG u p=u:=by unfold mG; rw [if_neg o4,if_neg o3]
  rw [hrd,hu1] at ih;simp only [hd,aD];exact aBD hE (p:=p) g2 hlen (by omega) fun ov' H' g'=>ih _ _ ⟨ov',rfl,g'⟩
end
end Go.AM
end
section
namespace Go.AM
set_option maxRecDepth 20000
section
variable {E:Sy} {H H' H0 Z:AH} {Q:Value->AH->Prop} {X:List Res}
theorem dP.look_bool {r:Nat} {l:List (Int×Bool)} (h:dP vi vb H r l) (a:Int):AM.look 0 (.bool false) false (.map (some r)) (vi a) H=some (vb ((cE a l).getD false)):=by
 have:=h.look (kd:=0) mE a (.bool false) false;cases hk:cE a l with
 | none=>unfold cE at hk; rw [hk] at this; rw [this]; rfl
 | some n=>unfold cE at hk; rw [hk] at this; rw [this]; rfl
def kpL (ur:Nat) (u:List (Int×Bool)) (ov:Value) (out:List bM) (kv:Value) (kept:List bM):List Res:=[cF vi vb ur u,bP 7 ov (bN out),bP 7 kv (bN kept)]
theorem aKA (hE:aU E) {ur t:Nat} {u:List (Int×Bool)} {ov kv:Value} {out kept:List bM} {p:bM} (g:Has H0 Z H (kpL ur u ov out kv kept++[aF t p.cells])) (hl:kept.length<2 ^ 30) {t9 t56:Value} {ln k:Nat} (hk:k<2 ^ 30) (dead:Value) {X0:List Value->AH->Prop}
  (next:∀ kv' H',Has H0 Z H' (kpL ur u ov out kv' (kept++[p]))->X0 [.map (some ur),ov,kv',dead,t56,vi ln,vi ((k+1:Nat):Int)] H'):F.f59_j2 E Q X0 (.map (some ur)) ov kv dead (ptr t 0) t56 (vi ln) (vi k) H:=by
 have hbt:=g.box (k:=3) (b:=t) (c:=p.cells) rfl;have lot:aE 7 (ptr t 0) H=some p.v:=by rw [aL,hbt,fC _ _ 7 rfl]; rfl
 have hbS:bR 1 7 #[(.int .u8 0),(.int .i64 0),(.int .i64 0),(.int .u16 0),(.int .u8 0),(.int .u8 0),(.int .u32 0)] [(0,p.v)]=some (.cells p.cells none,dN 1 1):=cQ 7 [u8 0#8,vi 0,vi 0,u16 0#16,u8 0#8,u8 0#8,u32 0#32] p.cells rfl rfl;have hinc:=cU (i:=k) (by omega)
 obtain ⟨v',H3,a1,a2,g2⟩:=g.app1 (k:=2) (sz:=7) (v:=kv) (rows:=bN kept) (bytes:=32) rfl p.cells rfl (by simp [bM.cells]) (by decide) (by decide) (by simp only [bN,List.length_map]; omega)
 have hr:bN (kept++[p])=bN kept++[p.cells]:=by simp [bN]
 simp only [F.f59_j2,lot,hbS,AM.aW,cW,a1,hinc,aD];refine next v' H3 ?_
 show Has H0 Z H3 [cF vi vb ur u,bP 7 ov (bN out),bP 7 v' (bN (kept++[p]))]
 rw [hr];exact Has.dropLast (L:=[cF vi vb ur u,bP 7 ov (bN out),bP 7 v' (bN kept++[p.cells])]) g2
theorem aKV (hE:aU E) {ur:Nat} {u:List (Int×Bool)} {ov:Value} {out:List bM} (hl:out.length<2 ^ 29) (g0:Has H0 Z H (kpL ur u ov out bL []))
  (hQ:∀ w H',Ext H0 H'->Rows H' 7 w (bN (iK u out false))->Q w H') :
  aM (fun l H X0=>F.f59_l2 E Q (nth l 0) (nth l 1) (nth l 2) (nth l 3) (nth l 4) (nth l 5) (nth l 6) H X0) [.map (some ur),ov,(.slice none 0 0),(.bool false),ov,vi out.length,(.int .i64 0)] H:=by
 have i0:(.int .i64 0:Value)=vi ((0:Nat):Int):=rfl;rw [i0];refine aM.count out.length (fun k ls H'=>∃ kv kept dead,ls=[.map (some ur),ov,kv,vb dead,ov,vi out.length,vi k]/\Has H0 Z H' (kpL ur u ov out kv kept)/\kept.length<=k/\kept++iK u (out.drop k) dead=iK u out false) ?_ ⟨bL,[],false,rfl,g0,Nat.le_refl _,rfl⟩;rintro k _ H1 X1 hk ih ⟨kv,kept,dead,rfl,g,hkl,hkp⟩;rcases Nat.lt_or_ge k out.length with hlt | hge
 rotate_left
 ·have hlt':decide ((k:Int)<out.length)=false:=decide_eq_false (by omega)
  rw [List.drop_eq_nil_of_le hge] at hkp;have hkp:kept=iK u out false:=by rw [<- hkp]; simp [iK]
  simp only [F.f59_l2,aV,hlt',aD];refine hQ _ _ g.ext ?_;rw [<- hkp];exact g.rows (k:=2) (sz:=7) (v:=kv) (rows:=bN kept) rfl
 have hlt':decide ((k:Int)<out.length)=true:=decide_eq_true (by omega)
 have hrw:=g.rows (k:=1) (sz:=7) (v:=ov) (rows:=bN out) rfl;obtain ⟨b,o,f1,_,lo⟩:=pY hrw hlt;have hinc:=cU (i:=k) (by omega)
 have ih:=ih hlt;have hpo:(bN out).length=out.length:=by simp [bN]
 have hdt:((bN out).take out.length).drop (k+1)=bN (out.drop (k+1)):=by
  rw [<- hpo,List.take_length]; simp [bN]
 rw [List.drop_eq_getElem_cons hlt] at hkp;generalize out[k]=p at *;have hst:=pQ p H1;have g2:=g.newbox p.cells;have bp:=AH.get_new_self H1 (.cells p.cells none);have c0:p.cells[0]? = some (u8 p.kind):=rfl;have c1:p.cells[1]? = some (vi p.to):=rfl;have c3:p.cells[3]? = some (u16 p.insn.code):=rfl;have q1:(.int .u8 1:Value)=u8 1#8:=rfl;have q2:(.int .u8 2:Value)=u8 2#8:=rfl;have q4:(.int .u8 4:Value)=u8 4#8:=rfl;have q6:(.int .u16 6:Value)=u16 6#16:=rfl;simp only [F.f59_l2,aV,hlt',f1,lo,aP,hst,bp,c0,q1,eB,aD];generalize H1.new (.cells p.cells none)=H2 at *;generalize H1.next=t at *;have skip:∀ {K:AH},Has H0 Z K (kpL ur u ov out kv kept++[aF t p.cells])->kept++iK u (out.drop (k+1)) dead=iK u out false->X1 [.map (some ur),ov,kv,vb dead,ov,vi out.length,vi ((k+1:Nat):Int)] K:=fun gK h=>ih _ _ ⟨kv,kept,dead,rfl,Has.dropLast (L:=kpL ur u ov out kv kept) gK,by omega,h⟩
 have push:∀ {K:AH} (d':Bool),Has H0 Z K (kpL ur u ov out kv kept++[aF t p.cells])->(kept++[p])++iK u (out.drop (k+1)) d'=iK u out false->F.f59_j2 E Q X1 (.map (some ur)) ov kv (vb d') (ptr t 0) ov (vi out.length) (vi k) K:=fun d' gK h =>
  aKA hE gK (by omega) (t9:=bL) (by omega) (vb d') fun kv' H' g'=>ih _ _ ⟨kv',kept++[p],d',rfl,g',by simp; omega,h⟩
 have hcons:iK u (p :: out.drop (k+1)) dead=if p.kind=1#8 then (if (cE p.to u).getD false=true then p :: iK u (out.drop (k+1)) false else iK u (out.drop (k+1)) dead)
  else if dead=true\/(p.kind=4#8/\hU (out.drop (k+1)) p.to=true) then iK u (out.drop (k+1)) dead
  else p :: iK u (out.drop (k+1)) (decide (p.kind=4#8)||(decide (p.kind=2#8)&&decide (dD p.insn.code=6#16))):=rfl
 rw [hcons] at hkp
 by_cases o1:p.kind=1#8
 ·have hd:decide (p.kind=1#8)=true:=decide_eq_true o1
  have hlk:=(g2.mapAt (k:=0) (fk:=vi) (fv:=vb) (r:=ur) (l:=u) rfl).look_bool p.to;rw [if_pos o1] at hkp;simp only [hd,bp,c1,hlk,aD];cases hu:(cE p.to u).getD false with
  | true =>
   rw [hu,if_pos rfl] at hkp;simp only [aD];exact push false g2 (by rw [List.append_assoc]; exact hkp)
  | false =>
   rw [hu,if_neg (by decide)] at hkp
   simp only [hinc,aD];exact skip g2 hkp
 have hd1:decide (p.kind=1#8)=false:=decide_eq_false o1;rw [if_neg o1] at hkp;simp only [hd1,aD]
 have stay:∀ {K:AH},Has H0 Z K (kpL ur u ov out kv kept++[aF t p.cells])->¬ (dead=true\/(p.kind=4#8/\hU (out.drop (k+1)) p.to=true))->F.f59_j3 E Q X1 (.map (some ur)) ov kv (vb dead) (ptr t 0) ov (vi out.length) (vi k) (vb false) K:=by
  intro K gK hn;rw [if_neg hn] at hkp;have bK:=gK.box (k:=3) (b:=t) (c:=p.cells) rfl;simp only [F.f59_j3,bK,c0,q4,eB,aD]
  by_cases o4:p.kind=4#8
  ·have hd4:decide (p.kind=4#8)=true:=decide_eq_true o4
   rw [hd4,Bool.true_or] at hkp;simp only [hd4,aD];exact push true gK (by rw [List.append_assoc]; exact hkp)
  ·have hd4:decide (p.kind=4#8)=false:=decide_eq_false o4
   rw [hd4,Bool.false_or] at hkp;simp only [hd4,bK,c0,q2,eB,aD]
   by_cases o2:p.kind=2#8
   ·have hd2:decide (p.kind=2#8)=true:=decide_eq_true o2
    rw [hd2,Bool.true_and] at hkp;simp only [hd2,bK,c3,aD];refine S.f29 hE _ ?_;simp only [q6,cV,hd4,hd2,aD];exact push _ gK (by rw [List.append_assoc]; exact hkp)
   ·have hd2:decide (p.kind=2#8)=false:=decide_eq_false o2
    rw [hd2,Bool.false_and] at hkp;simp only [hd2,hd4,aD];exact push false gK (by rw [List.append_assoc]; exact hkp)
 have go:∀ {K:AH},Has H0 Z K (kpL ur u ov out kv kept++[aF t p.cells])->(dead=true\/(p.kind=4#8/\hU (out.drop (k+1)) p.to=true))->F.f59_j3 E Q X1 (.map (some ur)) ov kv (vb dead) (ptr t 0) ov (vi out.length) (vi k) (vb true) K:=by
  intro K gK hy;rw [if_pos hy] at hkp;simp only [F.f59_j3,hinc,aD];exact skip gK hkp
 cases dead with
 | true =>
  simp only [aD];exact go g2 (.inl rfl)
 | false =>
  simp only [bp,c0,q4,eB,aD]
  by_cases o4:p.kind=4#8
  ·have hd4:decide (p.kind=4#8)=true:=decide_eq_true o4
   have i1:(.int .i64 1:Value)=vi 1:=rfl;obtain ⟨sl,rl⟩:=(g2.rows (k:=1) (sz:=7) (v:=ov) (rows:=bN out) rfl).slice' (lo:=some (vi ((k+1:Nat):Int))) (hi:=none) (i:=k+1) (j:=out.length) (.inl rfl) (.inr ⟨rfl,hpo.symm⟩) (by omega) (by omega)
   rw [hdt] at rl;simp only [hd4,hinc,sl,bp,c1,aD];refine S.f54 hE rl (by rw [List.length_drop]; omega) p.to fun H3 e3 =>?_
   have g3:=g2.grow e3;cases hf:hU (out.drop (k+1)) p.to with
   | true =>
    simp only [hd4,aD];exact go g3 (.inr ⟨o4,hf⟩)
   | false =>
    simp only [hd4,aD];exact stay g3 (fun h=>h.elim (fun h=>by cases h) fun h=>by rw [hf] at h; cases h.2)
  ·have hd4:decide (p.kind=4#8)=false:=decide_eq_false o4
   simp only [hd4,aD];exact stay g2 (fun h=>h.elim (fun h=>by cases h) fun h=>o4 h.1)
end
end Go.AM
end
section
namespace Go.AM
set_option maxRecDepth 20000
def aAf:Nat->List bM->List bM
 | 0,l=>l
 | f+1,l=>if (lY l).length=l.length then lY l else aAf f (lY l)
theorem aAY (u:List (Int×Bool)):∀ (l:List bM) (d:Bool),(iK u l d).length<=l.length
 | [],_=>Nat.le_refl _
 | p :: l,d=>by
  unfold iK;have h:=aAY u l
  split
  ·split
   ·have:=h false; simp only [List.length_cons]; omega
   ·have:=h d; simp only [List.length_cons]; omega
  ·split
   ·have:=h d; simp only [List.length_cons]; omega
   ·have:=h (decide (p.kind=4#8)||(decide (p.kind=2#8)&&decide (dD p.insn.code=6#16))); simp only [List.length_cons]; omega
theorem aGO (l:List bM):(lY l).length<=l.length:=by
 unfold lY;have:=aAY ((l.map (eR (fB l []))).foldl mG []) (l.map (eR (fB l []))) false;rw [List.length_map] at this;exact this
theorem aCI {K V:Type} [DecidableEq K] (k:K) (v:V):∀ l:List (K×V),(dQ k v l).length<=l.length+1
 | []=>by simp [dQ]
 | p :: l=>by
  simp only [dQ]
  split
  ·simp
  ·have:=aCI k v l; simp only [List.length_cons]; omega
theorem tG:∀ (l:List bM) (m:List (Int×Int)),(fB l m).length<=m.length+l.length
 | [],_=>Nat.le_refl _
 | p :: l,m=>by
  have h1:=tG l (gW p l m)
  have h2:(gW p l m).length<=m.length+1:=by
   unfold gW
   split
   ·split
    ·split
     ·exact aCI _ _ _
     ·exact Nat.le_succ _
    ·exact Nat.le_succ _
   ·exact Nat.le_succ _
  show (fB l (gW p l m)).length<=_
  simp only [List.length_cons];omega
section
variable {E:Sy} {H H' H0 Z:AH} {Q:Value->AH->Prop} {X:List Res}
theorem S.f59 (hE:aU E) {v:Value} {l:List bM} (hv:Rows H 7 v (bN l)) (hl:l.length<2 ^ 29) (hQ:∀ w H',Ext H H'->Rows H' 7 w (bN (lY l))->Q w H'):E.call (E.fid i.f59) [v] H Q:=by
 apply hE.f59;have hlv:=hv.lenSlc;have hpl:(bN l).length=l.length:=by simp [bN]
 rw [hpl] at hlv;have hmw:∀ (H:AH) (K:Value->AH->Prop),lM H K=K (.map (some H.next)) (H.new (.map [] 0 true)):=fun _ _=>rfl;simp only [F.f59,aD];refine S.f60 hE hv hl fun r H1 g1 =>?_;have g2:=(g1.newmap vi vb).nils 7;simp only [hmw,hlv,aD];generalize H1.new (.map [] 0 true)=H2 at *;generalize H1.next=ur at *;have hwl:=tG l [];simp only [List.length_nil,Nat.zero_add] at hwl;refine aKH hE hv hl (by omega) g2 (R:=fun _ _=>True) fun ov H3 g3 =>?_
 have hlo:=(g3.rows (k:=2) (sz:=7) (v:=ov) (rows:=bN (l.map (eR (fB l [])))) rfl).lenSlc;have hpo:(bN (l.map (eR (fB l [])))).length=(l.map (eR (fB l []))).length:=by simp [bN]
 rw [hpo] at hlo;simp only [hlo,aD];exact aKV hE (by rw [List.length_map]; exact hl) ((g3.drop 0).nils 7) hQ
theorem S.f52 (hE:aU E) {v:Value} {l:List bM} (hv:Rows H 7 v (bN l)) (hl:l.length<2 ^ 29) (hQ:∀ w H',Ext H H'->Rows H' 7 w (bN (aAf (l.length+1) l))->Q w H'):E.call (E.fid i.f52) [v] H Q:=by
 apply hE.f52;simp only [F.f52,aD];refine aM.ind (fun n ls H'=>∃ tv l',ls=[tv]/\n=l'.length/\Ext H H'/\Rows H' 7 tv (bN l')/\l'.length<=l.length/\∃ f,l'.length<f/\aAf f l'=aAf (l.length+1) l) ?_ l.length ⟨v,l,rfl,rfl,Ext.refl _,hv,Nat.le_refl _,l.length+1,Nat.lt_succ_self _,rfl⟩;rintro n _ H1 X1 ih ⟨tv,l',rfl,rfl,e1,hr,hll,f,hf,ht⟩;obtain ⟨f,rfl⟩:∃ g,f=g+1:=⟨f - 1,by omega⟩
 have hts:aAf (f+1) l'=if (lY l').length=l'.length then lY l' else aAf f (lY l'):=rfl;rw [hts] at ht;have hol:=aGO l';have hlv:=hr.lenSlc;have hpl:∀ l:List bM,(bN l).length=l.length:=fun l=>by simp [bN]
 rw [hpl] at hlv;simp only [F.f52_l1,aD];refine S.f59 hE hr (by omega) fun w H2 e2 hw =>?_
 have hlw:=hw.lenSlc;rw [hpl] at hlw;simp only [hlw,hlv,eU,aD]
 by_cases he:(lY l').length=l'.length
 ·have hd:decide (((lY l').length:Int)=(l'.length:Int))=true:=decide_eq_true (by omega)
  rw [if_pos he] at ht;rw [ht] at hw;simp only [hd,aD];exact hQ _ _ (e1.trans e2) hw
 ·have hd:decide (((lY l').length:Int)=(l'.length:Int))=false:=decide_eq_false (by omega)
  rw [if_neg he] at ht;simp only [hd,aD];exact ih (lY l').length (by omega) _ _ ⟨w,lY l',rfl,rfl,e1.trans e2,hw,by omega,f,by omega,ht⟩
end
end Go.AM
end
section
namespace Go.AM
set_option maxRecDepth 20000
def MkD.okM (s:MkD):Prop:=s.out.length<2 ^ 27/\∀ n,(cE n s.places).getD 0<=s.out.length
section
variable {E:Sy} {H H' H0 Z:AH} {Q:Value->AH->Prop} {X:List Res} {mb pm:Nat} {s:MkD}
theorem aAb (x:dA) (H:AH):aG 4 (ptr H.next 0) x.v (H.new (.cells [(.int .u16 0),(.int .u8 0),(.int .u8 0),(.int .u32 0)] none))=some (H.new (.cells x.cells none)):=by
 rw [cX,AH.get_new_self];have h3:AM.bF [(.int .u16 0),(.int .u8 0),(.int .u8 0),(.int .u32 0)] 0 x.cells=x.cells:=rfl;have h4:x.cells.all plain1=true:=rfl;have h5:x.cells.length=4:=rfl;simp only [List.size_toArray,List.toList_toArray,h4,h5,List.length_cons,List.length_nil,Nat.zero_add,Nat.le_refl,and_self,if_true,h3,AH.new_put]
theorem aBc {c c':List Value} {k:Nat} {v:Value} (H:AH) (hp:plain1 v=true) (hk:k<c.length) (he:c.set k v=c'):aQ (ptr H.next k) v (H.new (.cells c none))=some (H.new (.cells c' none)):=by
 subst he;rw [aJ,if_pos hp,AH.get_new_self];simp only [hk,if_true,AH.new_put]
theorem aAk (hE:aU E) {p:bM} {t:Nat} (h:Mk H0 Z H mb pm s (X++[aF t p.cells])) (hl:s.out.length<2 ^ 29) (to els:Int) (hQ:∀ H',Mk H0 Z H' mb pm (s.cmp2 p.insn to els) X->Q (.int .i64 0) H'):F.f56_j2 E Q (ptr mb 0) (ptr t 0) (vi to) (vi els) H:=by
 have hb:=h.box;have lo:aE 4 (ptr t 3) H=some p.insn.v:=by rw [aL,hb]; rfl
 have s1:=aAb p.insn H;have s2:=aBc (c:=p.insn.cells) (c':=[u16 p.insn.code,u8 (BitVec.ofInt 8 to),u8 p.insn.jf,u32 p.insn.k]) (k:=1) (v:=u8 (BitVec.ofInt 8 to)) H rfl (by simp [dA.cells]) rfl
 have s3:=aBc (c:=[u16 p.insn.code,u8 (BitVec.ofInt 8 to),u8 p.insn.jf,u32 p.insn.k]) (c':=dA.cells ⟨p.insn.code,BitVec.ofInt 8 to,BitVec.ofInt 8 els,p.insn.k⟩) (k:=2) (v:=u8 (BitVec.ofInt 8 els)) H rfl (by simp) rfl
 generalize hx:(⟨p.insn.code,BitVec.ofInt 8 to,BitVec.ofInt 8 els,p.insn.k⟩:dA)=x at *;have b1:=AH.get_new_self H (.cells x.cells none);have g:=h.newbox x.cells;obtain ⟨ov,hbx,hlv⟩:=g.cells;have lo2:aE 4 (ptr H.next 0) (H.new (.cells x.cells none))=some x.v:=by rw [aL,b1,fC _ _ 4 rfl]; rfl
 have hbS:bR 1 4 #[(.int .u16 0),(.int .u8 0),(.int .u8 0),(.int .u32 0)] [(0,x.v)]=some (.cells x.cells none,dN 1 1):=cQ 4 [u16 0#16,u8 0#8,u8 0#8,u32 0#32] x.cells rfl rfl;obtain ⟨v',H2,a1,H3,a2,g2⟩:=g.push (by omega) x hbx
 simp only [F.f56_j2,lo,aP,s1,s2,s3,aHe,hbx,lo2,hbS,AM.aW,cW,aD];have a1:app 4 8 ov (slc (H.next+1) 0 1 1) ((H.new (.cells x.cells none)).new (.cells x.cells none))=some (v',H2):=a1;simp only [a1,a2,aD];refine hQ _ ?_;unfold MkD.cmp2;rw [hx];exact g2.dropLast.dropLast
theorem yT (hE:aU E) {p:bM} {t:Nat} (h:Mk H0 Z H mb pm s (X++[aF t p.cells])) (hl:s.out.length<2 ^ 28) (to els:Int) (h1:els<2 ^ 40) (h2 : -2 ^ 40<els) (hQ:∀ H',Mk H0 Z H' mb pm (s.cmp1 p.insn to els) X->Q (.int .i64 0) H'):F.f56_j1 E Q (ptr mb 0) (ptr t 0) (vi to) (vi els) H:=by
 have k253:(.int .i64 253:Value)=vi 253:=rfl;have i0:(.int .i64 0:Value)=vi 0:=rfl;have i1:(.int .i64 1:Value)=vi 1:=rfl;simp only [F.f56_j1,k253,gC,aD];unfold MkD.cmp1 at hQ
 by_cases hg:253<to
 ·have hd:decide ((253:Int)<to)=true:=decide_eq_true hg
  rw [if_pos hg] at hQ;simp only [hd,aD];refine S.f57 hE h (by omega) to fun H1 g =>?_
  have ha:aA .add (vi els) (vi 1)=some (vi (els+1)):=iQ (by omega) (by omega)
  simp only [i1,i0,ha,aD];refine aAk hE g ?_ 0 (els+1) hQ
  show (aCH to :: s.out).length<_
  rw [List.length_cons]; omega
 ·have hd:decide ((253:Int)<to)=false:=decide_eq_false hg
  rw [if_neg hg] at hQ;simp only [hd,aD];exact aAk hE h (by omega) to els hQ
theorem S.f56 (hE:aU E) (h:Mk H0 Z H mb pm s X) (ok:s.okM) (p:bM)
  (hB:∀ e H',(dD p.insn.code≠5#16\/p.insn.code=5#16)->e=210->Ext H0 H'->Q (vi e) H')
  (hJ:∀ e H',¬ (dD p.insn.code≠5#16\/p.insn.code=5#16)->((cE p.to s.places).isSome=false\/(cE p.els s.places).isSome=false)->e=207->Ext H0 H'->Q (vi e) H')
  (hQ:∀ H',¬ (dD p.insn.code≠5#16\/p.insn.code=5#16)->¬ ((cE p.to s.places).isSome=false\/(cE p.els s.places).isSome=false)->Mk H0 Z H' mb pm (s.cmp0 p.insn (s.away p.to) (s.away p.els)) X->Q (.int .i64 0) H') :
  E.call (E.fid i.f56) [ptr mb 0,p.v] H Q:=by
 apply hE.f56;have g:=h.newbox p.cells;have b1:=AH.get_new_self H (.cells p.cells none);have c1:p.cells[1]? = some (vi p.to):=rfl;have c2:p.cells[2]? = some (vi p.els):=rfl;have c3:p.cells[3]? = some (u16 p.insn.code):=rfl;have k5:(.int .u16 5:Value)=u16 5#16:=rfl;have i0:(.int .i64 0:Value)=vi 0:=rfl;have i1:(.int .i64 1:Value)=vi 1:=rfl;have k253:(.int .i64 253:Value)=vi 253:=rfl;have p1:=ok.2 p.to;have p2:=ok.2 p.els;have p0:=ok.1;have aw1:s.away p.to=(s.out.length:Int) - ((cE p.to s.places).getD 0:Nat):=rfl;have aw2:s.away p.els=(s.out.length:Int) - ((cE p.els s.places).getD 0:Nat):=rfl;simp only [F.f56,aZ,AM.aW,aS,List.toList_toArray,b1,c1,aD];generalize H.new (.cells p.cells none)=H1 at *;generalize H.next=t at *;refine S.f55 hE g (by omega) p.to (by omega) ?_
 simp only [b1,c2,aD];refine S.f55 hE g (by omega) p.els (by omega) ?_
 simp only [b1,c3,aD];refine S.f29 hE _ ?_;simp only [k5,sO,aD]
 by_cases hc1:dD p.insn.code=5#16
 rotate_left
 ·have hd:decide (dD p.insn.code≠5#16)=true:=decide_eq_true hc1
  simp only [hd,aD];exact hB 210 _ (.inl hc1) rfl g.ext
 have hd:decide (dD p.insn.code≠5#16)=false:=decide_eq_false (by simpa using hc1)
 simp only [hd,b1,c3,k5,cV,aD]
 by_cases hc2:p.insn.code=5#16
 ·have hd2:decide (p.insn.code=5#16)=true:=decide_eq_true hc2
  simp only [hd,hd2,aD];exact hB 210 _ (.inr hc2) rfl g.ext
 have hd2:decide (p.insn.code=5#16)=false:=decide_eq_false hc2
 have hcc:¬ (dD p.insn.code≠5#16\/p.insn.code=5#16):=by
  rintro (h | h)
  ·exact h hc1
  ·exact hc2 h
 simp only [hd,hd2,aD];cases ho1:(cE p.to s.places).isSome with
 | false =>
  simp only [aD];exact hJ 207 _ hcc (.inl ho1) rfl g.ext
 | true =>
  cases ho2:(cE p.els s.places).isSome with
  | false =>
   simp only [aD];exact hJ 207 _ hcc (.inr ho2) rfl g.ext
  | true =>
   have hoo:¬ ((cE p.to s.places).isSome=false\/(cE p.els s.places).isSome=false):=by rw [ho1,ho2]; simp
   have hQ:=fun H' h=>hQ H' hcc hoo h;unfold MkD.cmp0 at hQ;simp only [k253,gC,aD]
   by_cases hg:253<s.away p.els
   ·have hd:decide ((253:Int)<s.away p.els)=true:=decide_eq_true hg
    rw [if_pos hg] at hQ;have ha:aA .add (vi (s.away p.to)) (vi 1)=some (vi (s.away p.to+1)):=iQ (by omega) (by omega)
    simp only [hd,aD];refine S.f57 hE g (by omega) _ fun H2 g2 =>?_
    simp only [i1,i0,ha,aD];refine yT hE g2 ?_ _ 0 (by omega) (by omega) hQ
    show (aCH _ :: s.out).length<_
    rw [List.length_cons]; omega
   ·have hd:decide ((253:Int)<s.away p.els)=false:=decide_eq_false hg
    rw [if_neg hg] at hQ;simp only [hd,aD];exact yT hE g (by omega) _ _ (by omega) (by omega) hQ
end
end Go.AM
end
section
namespace Go.AM
set_option maxRecDepth 20000
section
variable {E:Sy} {H H' H0 Z:AH} {Q:Value->AH->Prop} {X:List Res} {mb pm:Nat} {s:MkD}
theorem S.f58 (hE:aU E) (h:Mk H0 Z H mb pm s X) (ok:s.okM) (p:bM)
  (hB:∀ e H',s.part p = .inl e->e≠0->Ext H0 H'->Q (vi e) H')
  (hQ:∀ t H',s.part p = .inr t->Mk H0 Z H' mb pm t X->Q (.int .i64 0) H') :
  E.call (E.fid i.f58) [ptr mb 0,p.v] H Q:=by
 apply hE.f58;have g:=h.newbox p.cells;have b1:=AH.get_new_self H (.cells p.cells none);have c0:p.cells[0]? = some (u8 p.kind):=rfl;have c1:p.cells[1]? = some (vi p.to):=rfl;have c3:p.cells[3]? = some (u16 p.insn.code):=rfl;have q1:(.int .u8 1:Value)=u8 1#8:=rfl;have q2:(.int .u8 2:Value)=u8 2#8:=rfl;have q3:(.int .u8 3:Value)=u8 3#8:=rfl;have q4:(.int .u8 4:Value)=u8 4#8:=rfl;have k5:(.int .u16 5:Value)=u16 5#16:=rfl;have p1:=ok.2 p.to;have p0:=ok.1;have lo:aE 7 (ptr H.next 0) (H.new (.cells p.cells none))=some p.v:=by rw [aL,b1,fC _ _ 7 rfl]; rfl
 have lo3:aE 4 (ptr H.next 3) (H.new (.cells p.cells none))=some p.insn.v:=by rw [aL,b1]; rfl
 simp only [F.f58,aZ,AM.aW,aS,List.toList_toArray,b1,c0,q1,eB,aD];generalize H.new (.cells p.cells none)=H1 at *;generalize H.next=t at *;unfold MkD.part at hB hQ
 by_cases o1:p.kind=1#8
 ·have hd:decide (p.kind=1#8)=true:=decide_eq_true o1
  simp only [if_pos o1] at hB hQ;obtain ⟨ov,hbx,hlv⟩:=g.cells;have hlk:=g.look p.to;simp only [hd,hbx,b1,c1,hlk,aD];cases hs:(cE p.to s.places).isSome with
  | true =>
   rw [hs] at hB hQ;simp only [aD];exact hB 206 _ rfl (by decide) g.ext
  | false =>
   rw [hs] at hB hQ;obtain ⟨H2,m1,g2⟩:=g.setPlace p.to s.out.length;simp only [hbx,b1,c1,hlv,m1,aD];exact hQ _ _ rfl g2.dropLast
 have hd1:decide (p.kind=1#8)=false:=decide_eq_false o1;simp only [if_neg o1] at hB hQ;simp only [hd1,q2,eB,aD]
 by_cases o2:p.kind=2#8
 ·have hd:decide (p.kind=2#8)=true:=decide_eq_true o2
  simp only [if_pos o2] at hB hQ;simp only [hd,b1,c3,aD];refine S.f29 hE _ ?_;simp only [k5,cV,aD]
  by_cases hc:dD p.insn.code=5#16
  ·have hd:decide (dD p.insn.code=5#16)=true:=decide_eq_true hc
   simp only [if_pos hc] at hB;simp only [hd,aD];exact hB 210 _ rfl (by decide) g.ext
  ·have hd:decide (dD p.insn.code=5#16)=false:=decide_eq_false hc
   simp only [if_neg hc] at hQ;obtain ⟨ov,hbx,hlv⟩:=g.cells;have hbS:bR 1 4 #[(.int .u16 0),(.int .u8 0),(.int .u8 0),(.int .u32 0)] [(0,p.insn.v)]=some (.cells p.insn.cells none,dN 1 1):=cQ 4 [u16 0#16,u8 0#8,u8 0#8,u32 0#32] p.insn.cells rfl rfl;obtain ⟨v',H2,a1,H3,a2,g2⟩:=g.push (by omega) p.insn hbx
   simp only [hd,hbx,lo3,hbS,AM.aW,cW,a1,a2,aD];exact hQ _ _ rfl g2.dropLast
 have hd2:decide (p.kind=2#8)=false:=decide_eq_false o2;simp only [if_neg o2] at hB hQ;simp only [hd2,q4,eB,aD]
 by_cases o4:p.kind=4#8
 ·have hd:decide (p.kind=4#8)=true:=decide_eq_true o4
  simp only [if_pos o4] at hB hQ;simp only [hd,b1,c1,aD];refine S.f55 hE g (by omega) p.to (by omega) ?_
  cases hs:(cE p.to s.places).isSome with
  | false =>
   rw [hs] at hB hQ;simp only [aD];exact hB 207 _ rfl (by decide) g.ext
  | true =>
   rw [hs] at hB hQ;simp only [aD];refine S.f57 hE g (by omega) _ fun H2 g2 =>?_
   exact hQ _ _ rfl g2.dropLast
 have hd4:decide (p.kind=4#8)=false:=decide_eq_false o4;simp only [if_neg o4] at hB hQ;simp only [hd4,q3,eB,aD]
 by_cases o3:p.kind=3#8
 ·have hd:decide (p.kind=3#8)=true:=decide_eq_true o3
  simp only [if_pos o3] at hB hQ;simp only [hd,lo,aD];refine S.f56 hE g ok p (fun e H' h1 he e1 =>?_) (fun e H' h1 h2 he e1 =>?_) fun H' h1 h2 g2 =>?_
  ·subst he
   exact hB 210 _ (if_pos h1) (by decide) e1
  ·subst he
   exact hB 207 _ (by rw [if_neg h1,if_pos h2]) (by decide) e1
  ·exact hQ _ _ (by rw [if_neg h1,if_neg h2]) g2.dropLast
 have hd3:decide (p.kind=3#8)=false:=decide_eq_false o3;simp only [if_neg o3] at hB;simp only [hd3,aD];exact hB 210 _ rfl (by decide) g.ext
end
end Go.AM
end
section
namespace Go.AM
set_option maxRecDepth 20000
theorem wE {K V:Type} [DecidableEq K] (k n:K) (v:V):∀ l:List (K×V),cE n (dQ k v l)=if n=k then some v else cE n l
 | []=>by simp only [dQ,kE]
 | p :: l=>by
  simp only [dQ]
  by_cases h:p.1=k
  ·rw [if_pos h,kE,kE]
   by_cases hn:n=k
   ·rw [if_pos hn,if_pos hn]
   ·rw [if_neg hn,if_neg hn,if_neg (by rw [h]; exact hn)]
  ·rw [if_neg h,kE,kE,wE k n v l]
   by_cases hn:n=p.1
   ·rw [if_pos hn,if_neg (by rw [hn]; exact h),if_pos hn]
   ·rw [if_neg hn,if_neg hn]
def MkD.okP (s:MkD):Prop:=∀ n k,cE n s.places=some k->k<=s.out.length
theorem MkD.okP.getD {s:MkD} (h:s.okP) (n:Int):(cE n s.places).getD 0<=s.out.length:=by
 cases hk:cE n s.places with
 | none=>exact Nat.zero_le _
 | some k=>exact h n k hk
theorem MkD.okP.push {s:MkD} (h:s.okP) (x:dA):MkD.okP ⟨x :: s.out,s.places⟩:=fun n k hk=>Nat.le_succ_of_le (h n k hk)
theorem aDJ (s:MkD) (x:dA) (a b:Int):(s.cmp0 x a b).places=s.places:=by
 unfold MkD.cmp0 MkD.cmp1 MkD.cmp2
 split <;> split <;> rfl
theorem aI5 (s:MkD) (x:dA) (a b:Int):s.out.length<(s.cmp0 x a b).out.length/\(s.cmp0 x a b).out.length<=s.out.length+3:=by
 unfold MkD.cmp0 MkD.cmp1 MkD.cmp2 MkD.hop
 split <;> split <;> simp <;> omega
theorem aLQ {s t:MkD} {p:bM} (h:s.okP) (e:s.part p = .inr t):t.okP/\s.out.length<=t.out.length/\t.out.length<=s.out.length+3:=by
 unfold MkD.part at e
 split at e
 ·split at e
  ·cases e
  ·cases e
   refine ⟨fun n k hk =>?_,Nat.le_refl _,Nat.le_add_right _ _⟩;simp only [wE] at hk
   split at hk
   ·cases hk; exact Nat.le_refl _
   ·exact h n k hk
 ·split at e
  ·split at e
   ·cases e
   ·cases e
    exact ⟨h.push _,by simp,by simp⟩
  ·split at e
   ·split at e
    ·cases e
     exact ⟨h.push _,by simp [MkD.hop],by simp [MkD.hop]⟩
    ·cases e
   ·split at e
    ·split at e
     ·cases e
     ·split at e
      ·cases e
      ·cases e
       have h2:=aI5 s p.insn (s.away p.to) (s.away p.els);refine ⟨fun n k hk =>?_,by omega,h2.2⟩
       rw [aDJ] at hk;exact Nat.le_trans (h n k hk) (by omega)
    ·cases e
theorem aD3:∀ {l:List bM} {s:MkD},kU l = .inr s->s.okP/\s.out.length<=4096
 | [],s,e=>by
  cases e;exact ⟨fun n k hk=>by simp [cE] at hk,Nat.zero_le _⟩
 | p :: l,s,e=>by
  unfold kU at e
  split at e
  ·cases e
  ·rename_i s1 h1
   have ih:=aD3 h1
   split at e
   ·cases e
   ·rename_i t h2
    split at e
    ·cases e
    ·cases e
     exact ⟨(aLQ ih.1 h2).1,by omega⟩
theorem aBg {e:Int} {b:List bM} (h:kU b = .inl e):∀ a:List bM,kU (a++b) = .inl e
 | []=>h
 | p :: a=>by
  show kU (p :: (a++b))=_
  unfold kU;rw [aBg h a]
theorem aAS {e:Int} {l:List bM} (k:Nat) (h:kU (l.drop k) = .inl e):kU l = .inl e:=by
 have:=aBg h (l.take k)
 rwa [List.take_append_drop] at this
section
variable {E:Sy} {H H' H0 Z:AH} {Q:Value->AH->Prop} {X:List Res} {mb pm:Nat} {s:MkD}
theorem Has.newroomc {L:List Res} (h:Has H0 Z H L) (sz n:Nat) (c:List Value) (hc:c.length=n*sz):Has H0 Z (H.new (.cells c none)) (L++[bP sz (slc H.next 0 0 n) []]) :=
 h.add _ ((Ext.refl H).new _) (dO.room (nR _) (AH.get_new_self _ _) hc) (by simp [bP,jM,blk]) (by simp [bP,jM,blk])
theorem aMc (hE:aU E) {ov rv:Value} (h:Has H0 Z H (mkL mb pm ov s++[bP 4 rv []])) (hl:s.out.length<=4096) (hQ:∀ v H',Ext H0 H'->Rows H' 4 v (dM s.out)->Q (.tuple #[v,(.int .i64 0)]) H') :
  aM (fun l H X0=>F.f51_l2 E Q (nth l 0) (nth l 1) (nth l 2) H X0) [ptr mb 0,rv,vi ((s.out.length:Int) - 1)] H:=by
 refine aM.count s.out.length (fun k ls H'=>∃ rv,ls=[ptr mb 0,rv,vi ((s.out.length:Int) - 1 - k)]/\Has H0 Z H' (mkL mb pm ov s++[bP 4 rv (dM (s.out.take k))])) ?_ ⟨rv,by simp,by simpa [dM] using h⟩
 rintro k _ H1 X1 hk ih ⟨rv,rfl,g⟩;have i0:(.int .i64 0:Value)=vi 0:=rfl;have i1:(.int .i64 1:Value)=vi 1:=rfl;rcases Nat.lt_or_ge k s.out.length with hlt | hge
 ·have hbx:=g.box (k:=0) (b:=mb) (c:=[ov,.map (some pm)]) rfl
  have hrw:=g.rows (k:=1) (sz:=4) (v:=ov) (rows:=dM s.out.reverse) rfl;have he:(s.out.length:Int) - 1 - k=((s.out.length - 1 - k:Nat):Int):=by omega
  have hd:decide ((0:Int)<=(s.out.length:Int) - 1 - k)=true:=decide_eq_true (by omega)
  have hs:aA .sub (vi ((s.out.length:Int) - 1 - k)) (vi 1)=some (vi ((s.out.length:Int) - 1 - (k+1:Nat))):=by
   rw [fE (by omega) (by omega)]; congr 2; omega
  have hjl:s.out.length - 1 - k<(dM s.out.reverse).length:=by simp only [dM,List.length_map,List.length_reverse]; omega
  obtain ⟨bb,o,f1,f2⟩:=hrw.ix (i:=s.out.length - 1 - k) hjl
  have hrow:(dM s.out.reverse)[s.out.length - 1 - k]=s.out[k].cells:=by
   simp only [dM,List.getElem_map,List.getElem_reverse]
   congr 2
   omega
  rw [hrow] at f2;have lo:aE 4 (ptr bb o) H1=some s.out[k].v:=by rw [aL,f2]; rfl
  rw [<- he] at f1;have hbS:bR 1 4 #[(.int .u16 0),(.int .u8 0),(.int .u8 0),(.int .u32 0)] [(0,s.out[k].v)]=some (.cells s.out[k].cells none,dN 1 1):=cQ 4 [u16 0#16,u8 0#8,u8 0#8,u32 0#32] s.out[k].cells rfl rfl;obtain ⟨v',H2,a1,a2,g2⟩:=g.app1 (k:=3) (sz:=4) (v:=rv) (rows:=dM (s.out.take k)) (bytes:=8) rfl s.out[k].cells rfl rfl (by decide) (by decide) (by simp only [dM,List.length_map,List.length_take]; omega)
  have hst:s.out.take (k+1)=s.out.take k++[s.out[k]]:=by rw [List.take_succ,List.getElem?_eq_getElem hlt]; rfl
  simp only [F.f51_l2,i0,i1,eP,hd,hbx,f1,lo,hbS,AM.aW,cW,a1,hs,aD];refine ih hlt _ _ ⟨v',rfl,?_⟩;rw [hst];have:dM (s.out.take k++[s.out[k]])=dM (s.out.take k)++[s.out[k].cells]:=by unfold dM; rw [List.map_append]; rfl
  rw [this];exact g2
 ·have hke:k=s.out.length:=by omega
  subst hke;have hd:decide ((0:Int)<=(s.out.length:Int) - 1 - (s.out.length:Nat))=false:=decide_eq_false (by omega)
  rw [List.take_length] at g;simp only [F.f51_l2,i0,eP,hd,aD];exact hQ _ _ g.ext (g.rows (k:=3) (sz:=4) (v:=rv) (rows:=dM s.out) rfl)
theorem S.f51 (hE:aU E) {v:Value} {l:List bM} (hv:Rows H 7 v (bN l)) (hl:l.length<2 ^ 26)
  (hQ:∀ H',Ext H H'->(∀ e,kU l = .inl e->e≠0->Q (.tuple #[bL,vi e]) H')/\(∀ s w,kU l = .inr s->Rows H' 4 w (dM s.out)->Q (.tuple #[w,(.int .i64 0)]) H')):E.call (E.fid i.f51) [v] H Q:=by
 apply hE.f51;have hmw:∀ (H:AH) (K:Value->AH->Prop),lM H K=K (.map (some H.next)) (H.new (.map [] 0 true)):=fun _ _=>rfl;have hlv:=hv.lenSlc;have hpl:(bN l).length=l.length:=by simp [bN]
 rw [hpl] at hlv;have i0:(.int .i64 0:Value)=vi 0:=rfl;have i1:(.int .i64 1:Value)=vi 1:=rfl;have hbv:∀ n:Nat,aX [(0,1),(1,1)] #[(.slice none 0 0),(.map none)] [(1,.map (some n))]=some (.agg [bL,.map (some n)].toArray):=fun _=>rfl;have hs:aA .sub (vi (l.length:Int)) (vi 1)=some (vi ((l.length:Int) - 1)):=fE (by omega) (by omega)
 simp only [F.f51,hmw,hbv,aZ,AM.aW,aS,List.toList_toArray,hlv,i1,hs,aD];have g1:=(Has.begin (Ext.refl H) (Sub.refl H)).newmap vi iH;have hn2:H.next+1=(H.new (.map [] 0 true)).next:=rfl;rw [hn2];generalize H.new (.map [] 0 true)=H2 at *;generalize H.next=pm at *;clear hn2;have g2:=(g1.newbox [bL,.map (some pm)]).nils 4;generalize H2.new (.cells [bL,.map (some pm)] none)=H3 at *;generalize H2.next=mb at *;have g3:Mk H H H3 mb pm ⟨[],[]⟩ []:=⟨bL,g2.perm ((List.Perm.swap _ _ _).trans ((List.Perm.swap _ _ _).cons _))⟩;refine aM.ind (fun n ls H'=>∃ s,n<=l.length/\ls=[v,ptr mb 0,vi ((n:Int) - 1)]/\kU (l.drop n) = .inr s/\Mk H H H' mb pm s []) ?_ l.length ⟨⟨[],[]⟩,Nat.le_refl _,rfl,by rw [List.drop_length]; rfl,g3⟩
 rintro n _ H4 X1 ih ⟨s,hn,rfl,hm,g⟩;have hok:=aD3 hm;have hmk:s.okM:=⟨by omega,hok.1.getD⟩
 have i4096:(.int .i64 4096:Value)=vi 4096:=rfl;rcases Nat.eq_zero_or_pos n with h0 | h0
 ·subst h0
  rw [List.drop_zero] at hm;have hd:decide ((0:Int)<=((0:Nat):Int) - 1)=false:=rfl;obtain ⟨ov,g⟩:=g;have hbx:=g.box (k:=0) (b:=mb) (c:=[ov,.map (some pm)]) rfl;have hlo:=(g.rows (k:=1) (sz:=4) (v:=ov) (rows:=dM s.out.reverse) rfl).lenSlc;simp only [dM,List.length_map,List.length_reverse] at hlo;have hms:=aE7 4 8 s.out.length [(.int .u16 0),(.int .u8 0),(.int .u8 0),(.int .u32 0)] rfl (by omega) (by omega)
  have hms:qY 4 8 #[(.int .u16 0),(.int .u8 0),(.int .u8 0),(.int .u32 0)] (vi 0) (vi s.out.length)=some (.cells (List.replicate s.out.length [(.int .u16 0),(.int .u8 0),(.int .u8 0),(.int .u32 0)]).flatten none,fun b=>slc b 0 0 s.out.length):=hms;have g5:=g.newroomc 4 s.out.length (List.replicate s.out.length [(.int .u16 0),(.int .u8 0),(.int .u8 0),(.int .u32 0)]).flatten (by simp [List.length_flatten,List.map_replicate,List.sum_replicate_nat])
  have hb5:=g5.box (k:=0) (b:=mb) (c:=[ov,.map (some pm)]) rfl;have hs2:aA .sub (vi (s.out.length:Int)) (vi 1)=some (vi ((s.out.length:Int) - 1)):=fE (by omega) (by omega)
  simp only [F.f51_l1,i0,eP,hd,i1,hbx,hlo,hms,AM.aW,hb5,hs2,aD];exact aMc hE g5 hok.2 fun w H' e' r'=>(hQ H' e').2 s w hm r'
 ·have hd:decide ((0:Int)<=(n:Int) - 1)=true:=decide_eq_true (by omega)
  have hj:n - 1<l.length:=by omega
  have he:(n:Int) - 1=((n - 1:Nat):Int):=by omega
  have hv4:=hv.mono g.ext;obtain ⟨bb,o,f1,f2⟩:=hv4.ix (i:=n - 1) (by omega)
  have hrow:(bN l)[n - 1]'(by omega)=l[n - 1].cells:=by simp [bN]
  rw [hrow] at f2;have lo:aE 7 (ptr bb o) H4=some l[n - 1].v:=by rw [aL,f2]; rfl
  rw [<- he] at f1
  have hdr:l.drop (n - 1)=l[n - 1] :: l.drop n:=by
   rw [List.drop_eq_getElem_cons hj,show n - 1+1=n by omega]
  have hs1:aA .sub (vi ((n:Int) - 1)) (vi 1)=some (vi (((n - 1:Nat):Int) - 1)):=by
   rw [fE (by omega) (by omega)]; congr 2; omega
  generalize l[n - 1]=p at *;simp only [F.f51_l1,i0,eP,hd,f1,lo,aD];refine S.f58 hE g hmk p (fun e H5 h1 h2 e5 =>?_) fun t H5 h1 g5 =>?_
  ·have hd:decide (e≠0)=true:=decide_eq_true h2
   simp only [i0,tY,hd,aD];refine (hQ H5 e5).1 e (aAS (n - 1) ?_) h2;rw [hdr];unfold kU;simp only [hm,h1]
  ·have hd:decide ((0:Int)≠0)=false:=rfl
   obtain ⟨ov,hbx,hlo⟩:=g5.cells;simp only [i0,tY,hd,hbx,hlo,i4096,gC,aD]
   by_cases hbig:4096<t.out.length
   ·have hd:decide ((4096:Int)<t.out.length)=true:=decide_eq_true (by omega)
    simp only [hd,aD];refine (hQ H5 g5.ext).1 205 (aAS (n - 1) ?_) (by decide)
    rw [hdr];unfold kU;simp only [hm,h1,if_pos hbig]
   ·have hd:decide ((4096:Int)<t.out.length)=false:=decide_eq_false (by omega)
    simp only [hd,i1,hs1,aD];refine ih (n - 1) (by omega) _ _ ⟨t,by omega,rfl,?_,g5⟩
    rw [hdr];unfold kU;simp only [hm,h1,if_neg hbig]
end
end Go.AM
end
section
namespace Go.AM
set_option maxRecDepth 20000
def okI (x:dA) (left:Nat):Prop :=
 (x.code=32#16/\x.k.toNat % 4=0/\x.k.toNat<=60)\/x.code=84#16\/(x.code=5#16/\x.k.toNat<left) \/
 (x.code=21#16/\x.jt.toNat<left/\x.jf.toNat<left)\/(x.code=37#16/\x.jt.toNat<left/\x.jf.toNat<left)\/(x.code=53#16/\x.jt.toNat<left/\x.jf.toNat<left)\/x.code=6#16
def mC (a:BitVec 32) (at_:Nat) (act:BitVec 32) (e:Bool) (rc:List Value):List Value :=
 u32 a :: u32 0#32 :: u32 0#32 :: u32 0#32 :: u32 0#32 :: u32 0#32 :: u32 0#32 :: u32 0#32 :: u32 0#32 :: u32 0#32 :: u32 0#32 :: u32 0#32 :: u32 0#32 :: u32 0#32 :: u32 0#32 :: u32 0#32 :: u32 0#32 :: u32 0#32 :: vi at_ :: (rc++[u32 act,vb e])
end Go.AM
end
section
namespace Go.AM
set_option maxRecDepth 20000
section
variable {E:Sy} {H H' H0 Z:AH} {Q:Value->AH->Prop} {X:List Res} {mb:Nat}
theorem vB {x:dA} {t:Nat} (hb:H.get t = .cells x.cells none):aE 4 (ptr t 0) H=some x.v:=by rw [aL,hb,fC _ _ 4 rfl]; rfl
end
end Go.AM
end
section
namespace Go.AM
set_option maxRecDepth 20000
def nQ (c:List dA):Prop:=∀ k (h:k<c.length),okI c[k] (c.length - k - 1)
def Fil (H0 Z H:AH) (fb:Nat) (c:List dA) (X:List Res):Prop:=∃ lv n1 n2,Has H0 Z H (aF fb [lv,vi n1,vi n2] :: bP 4 lv (dM c) :: X)
section
variable {E:Sy} {H H' H0 Z:AH} {Q:Value->AH->Prop} {X:List Res} {fb:Nat}
theorem Fil.ext {c:List dA} (h:Fil H0 Z H fb c X):Ext H0 H:=by
 obtain ⟨lv,n1,n2,h⟩:=h;exact h.ext
theorem S.sync_atomic_Int64_Add_at (hE:aU E) {b o:Nat} {c:List Value} {n d:Int} (hb:H.get b = .cells c none) (hc:c[o]? = some (vi n)) (hQ:∀ v,Q v (H.put b (.cells (c.set o (vi (IntKind.i64.wrap (n+d)))) none))):E.call (E.fid i.f180) [ptr b o,vi d] H Q:=by
 apply hE.f180;simp only [F.f180,aB2,dG,bE];rw [xN,bE];apply hE.f179;have hc:c[o+0]? = some (.int .i64 n):=hc;simp only [iY,ptr,vi,hb,hc];exact hQ _
end
end Go.AM
end
section
namespace Go.AM
set_option maxRecDepth 20000
def aLe (a b:BitVec 8):BitVec 8:=if a.toNat<b.toNat then b else a
section
variable {E:Sy} {H H' H0 Z:AH} {Q:Value->AH->Prop} {X:List Res}
theorem aNx (a b:BitVec 8):jH max2 [u8 a,u8 b]=some (u8 (aLe a b)):=by
 unfold aLe;have h0:jH max2 [u8 a,u8 b]=some (.int .u8 (if (b.toNat:Int) > (a.toNat:Int) then (b.toNat:Int) else (a.toNat:Int))):=by simp only [fT]; rfl
 rw [h0]
 by_cases h:a.toNat<b.toNat
 ·rw [if_pos h,if_pos (by omega),fT]
 ·rw [if_neg h,if_neg (by omega),fT]
theorem S.f7 (hE:aU E) (c:BitVec 16) (h1:c≠96#16) (h2:c≠97#16) (h3:c≠2#16) (h4:c≠3#16) (hQ:Q (vb false) H):E.call (E.fid i.f7) [u16 c] H Q:=by
 apply hE.f7;have k1:(.int .u16 96:Value)=u16 96#16:=rfl;have k2:(.int .u16 97:Value)=u16 97#16:=rfl;have k3:(.int .u16 2:Value)=u16 2#16:=rfl;have k4:(.int .u16 3:Value)=u16 3#16:=rfl;simp only [F.f7,F.f7_j1,k1,k2,k3,k4,cV,decide_eq_false h1,decide_eq_false h2,decide_eq_false h3,decide_eq_false h4,aD];exact hQ
theorem S.f6 (hE:aU E) (x:dA) {at_ n:Nat} (hx:okI x (n - at_ - 1)) (hat:at_<n) (hn:n<=4096) (hQ:∀ H',Ext H H'->Q (.int .i64 0) H'):E.call (E.fid i.f6) [x.v,vi at_,vi n] H Q:=by
 apply hE.f6;have b1:=AH.get_new_self H (.cells x.cells none);have x1:Ext H (H.new (.cells x.cells none)):=(Ext.refl _).new _;have c0:x.cells[0]? = some (u16 x.code):=rfl;have c1:x.cells[1]? = some (u8 x.jt):=rfl;have c2:x.cells[2]? = some (u8 x.jf):=rfl;have c3:x.cells[3]? = some (u32 x.k):=rfl;have k1:(.int .i64 1:Value)=vi 1:=rfl;have k5:(.int .u16 5:Value)=u16 5#16:=rfl;have k32:(.int .u16 32:Value)=u16 32#16:=rfl;have k52:(.int .u16 52:Value)=u16 52#16:=rfl;have k100:(.int .u16 100:Value)=u16 100#16:=rfl;have k116:(.int .u16 116:Value)=u16 116#16:=rfl;have q4:(.int .u32 4:Value)=u32 4#32:=rfl;have q0:(.int .u32 0:Value)=u32 0#32:=rfl;have q60:(.int .u32 60:Value)=u32 60#32:=rfl;have s1:aA .sub (vi (n:Int)) (vi (at_:Int))=some (vi ((n:Int) - at_)):=fE (by omega) (by omega)
 have s2:aA .sub (vi ((n:Int) - at_)) (vi 1)=some (vi ((n - at_ - 1:Nat):Int)):=by rw [fE (by omega) (by omega)]; congr 2; omega
 have hrem:aA .rem (u32 x.k) (u32 4#32)=some (u32 (x.k % 4#32)):=aMb _ _ (by decide)
 have hln:n - at_ - 1<4096:=by omega
 have known:aEI.contains x.code||xG x.code:=by
  rcases hx with ⟨h,_⟩ | h | ⟨h,_⟩ | ⟨h,_⟩ | ⟨h,_⟩ | ⟨h,_⟩ | h <;> rw [h] <;> decide +kernel
 have e52:decide (x.code=52#16)=false:=by rcases hx with ⟨h,_⟩ | h | ⟨h,_⟩ | ⟨h,_⟩ | ⟨h,_⟩ | ⟨h,_⟩ | h <;> rw [h] <;> decide
 have e100:decide (x.code=100#16)=false:=by rcases hx with ⟨h,_⟩ | h | ⟨h,_⟩ | ⟨h,_⟩ | ⟨h,_⟩ | ⟨h,_⟩ | h <;> rw [h] <;> decide
 have e116:decide (x.code=116#16)=false:=by rcases hx with ⟨h,_⟩ | h | ⟨h,_⟩ | ⟨h,_⟩ | ⟨h,_⟩ | ⟨h,_⟩ | h <;> rw [h] <;> decide
 have e96:x.code≠96#16:=by rcases hx with ⟨h,_⟩ | h | ⟨h,_⟩ | ⟨h,_⟩ | ⟨h,_⟩ | ⟨h,_⟩ | h <;> rw [h] <;> decide
 have e97:x.code≠97#16:=by rcases hx with ⟨h,_⟩ | h | ⟨h,_⟩ | ⟨h,_⟩ | ⟨h,_⟩ | ⟨h,_⟩ | h <;> rw [h] <;> decide
 have e2:x.code≠2#16:=by rcases hx with ⟨h,_⟩ | h | ⟨h,_⟩ | ⟨h,_⟩ | ⟨h,_⟩ | ⟨h,_⟩ | h <;> rw [h] <;> decide
 have e3:x.code≠3#16:=by rcases hx with ⟨h,_⟩ | h | ⟨h,_⟩ | ⟨h,_⟩ | ⟨h,_⟩ | ⟨h,_⟩ | h <;> rw [h] <;> decide
 simp only [F.f6,aZ,AM.aW,aS,List.toList_toArray,k1,s1,s2,b1,c0,aD];generalize H.new (.cells x.cells none)=H1 at *;generalize H.next=t at *;refine S.f31 hE _ ?_;rw [known];have tail:∀ (Q':Prop),(Q (.int .i64 0) H1->Q')->Q':=fun Q' f=>f (hQ _ x1)
 have ec32:∀ b:Bool,decide (x.code=32#16)=b->(b=true->decide (x.k % 4#32≠0#32)=false/\decide ((60#32).toNat<x.k.toNat)=false):=by
  intro b hb ht;subst ht;have h32:x.code=32#16:=of_decide_eq_true hb;rcases hx with ⟨_,h1,h2⟩ | h | ⟨h,_⟩ | ⟨h,_⟩ | ⟨h,_⟩ | ⟨h,_⟩ | h
  rotate_left
  all_goals first
   | (rw [h32] at h; exact absurd h (by decide))
   | skip
  refine ⟨decide_eq_false ?_,decide_eq_false ?_⟩
  ·intro hne
   apply hne;apply BitVec.eq_of_toNat_eq;rw [BitVec.toNat_umod];exact h1
  ·show ¬ 60<_
   omega
 have fin:∀ b:Bool,decide (x.code=32#16)=b->Q (.int .i64 0) H1:=fun _ _=>hQ _ x1;rcases hx with ⟨hc,h1,h2⟩ | hc | ⟨hc,h1⟩ | ⟨hc,h1,h2⟩ | ⟨hc,h1,h2⟩ | ⟨hc,h1,h2⟩ | hc
 ·
  have a5:decide (x.code=5#16)=false:=by rw [hc]; decide
  have cl:decide (dD x.code=5#16)=false:=by rw [hc]; decide
  have c32:decide (x.code=32#16)=true:=by rw [hc]; decide
  obtain ⟨m1,m2⟩:=ec32 _ c32 rfl;simp only [b1,c0,k5,cV,a5,aD];refine S.f29 hE _ ?_;simp only [k5,cV,cl,b1,c0,c3,k32,c32,q4,q0,q60,hrem,aFF,aFr,m1,m2,aD];refine S.f7 hE _ e96 e97 e2 e3 ?_;simp only [b1,c0,k52,k100,k116,cV,e52,e100,e116,aD];exact hQ _ x1
 all_goals try
  have a5:decide (x.code=5#16)=false:=by rw [hc]; decide
  have n5:decide (x.code≠5#16)=true:=by rw [hc]; decide
  have cl:decide (dD x.code=5#16)=true:=by rw [hc]; decide
  have c32:decide (x.code=32#16)=false:=by rw [hc]; decide
  have hmx:decide (((n - at_ - 1:Nat):Int)<=((aLe x.jt x.jf).toNat:Int))=false:=decide_eq_false (by
   unfold aLe
   split <;> omega)
  simp only [b1,c0,k5,cV,a5,aD];refine S.f29 hE _ ?_;simp only [k5,cV,sO,cl,n5,b1,c0,c1,c2,aNx,uS,eP,hmx,k32,c32,aD];refine S.f7 hE _ e96 e97 e2 e3 ?_;simp only [b1,c0,k52,k100,k116,cV,e52,e100,e116,aD];exact hQ _ x1
 ·have a5:decide (x.code=5#16)=false:=by rw [hc]; decide
  have cl:decide (dD x.code=5#16)=false:=by rw [hc]; decide
  have c32:decide (x.code=32#16)=false:=by rw [hc]; decide
  simp only [b1,c0,k5,cV,a5,aD];refine S.f29 hE _ ?_;simp only [k5,cV,cl,b1,c0,k32,c32,aD];refine S.f7 hE _ e96 e97 e2 e3 ?_;simp only [b1,c0,k52,k100,k116,cV,e52,e100,e116,aD];exact hQ _ x1
 ·have a5:decide (x.code=5#16)=true:=by rw [hc]; decide
  have n5:decide (x.code≠5#16)=false:=by rw [hc]; decide
  have cl:decide (dD x.code=5#16)=true:=by rw [hc]; decide
  have c32:decide (x.code=32#16)=false:=by rw [hc]; decide
  have hlt:decide ((BitVec.ofInt 64 ((n - at_ - 1:Nat):Int)).toNat<=(x.k.setWidth 64).toNat)=false:=decide_eq_false (by
   have:=x.k.isLt;rw [BitVec.toNat_setWidth,BitVec.ofInt_natCast,BitVec.toNat_ofNat,Nat.mod_eq_of_lt (by omega),Nat.mod_eq_of_lt (by omega)]
   omega)
  simp only [b1,c0,c3,k5,cV,a5,aEG,fZ,wX,hlt,aD];refine S.f29 hE _ ?_;simp only [k5,cV,sO,cl,n5,b1,c0,k32,c32,aD];refine S.f7 hE _ e96 e97 e2 e3 ?_;simp only [b1,c0,k52,k100,k116,cV,e52,e100,e116,aD];exact hQ _ x1
 ·have a5:decide (x.code=5#16)=false:=by rw [hc]; decide
  have cl:decide (dD x.code=5#16)=false:=by rw [hc]; decide
  have c32:decide (x.code=32#16)=false:=by rw [hc]; decide
  simp only [b1,c0,k5,cV,a5,aD];refine S.f29 hE _ ?_;simp only [k5,cV,cl,b1,c0,k32,c32,aD];refine S.f7 hE _ e96 e97 e2 e3 ?_;simp only [b1,c0,k52,k100,k116,cV,e52,e100,e116,aD];exact hQ _ x1
end
end Go.AM
end
section
namespace Go.AM
set_option maxRecDepth 20000
section
variable {E:Sy} {H H' H0 Z:AH} {Q:Value->AH->Prop} {X:List Res}
theorem wW (b n c k:Nat) (hk:k<n):aK 1 (slc b 0 n c) (vi k)=some (ptr b k):=by
 simp only [aK,slc,vi,ptr];have h1:(0:Int)<=(k:Int)/\(k:Int).toNat<n:=⟨by omega,by omega⟩
 simp [Addr.add,hk];exact fun h=>h.symm
def wR (l:List Nat):List (List Value):=l.map fun k=>[vi (k:Nat)]
theorem Has.newnats {L:List Res} (h:Has H0 Z H L) {n:Nat} (l:List Nat) (hn:l.length=n) {cs:List Value} (hc:(wR l).flatten=cs):Has H0 Z (H.new (.cells cs none)) (L++[bP 1 (slc H.next 0 n n) (wR l)]) :=
 h.add _ ((Ext.refl H).new _) (dO.made (f:=none) (nR _) (by rw [AH.get_new_self,hc]) (.inl rfl) (by simp [wR,hn]) (by intro r hr; obtain ⟨x,_,rfl⟩:=List.mem_map.1 hr; exact ⟨rfl,rfl⟩)) (by simp [bP,jM,blk]) (by simp [bP,jM,blk])
theorem S.f4 (hE:aU E) (x:dA) (hQ:∀ H',Ext H H'->Q (vb (decide (dD x.code=6#16))) H'):E.call (E.fid i.f4) [x.v] H Q:=by
 apply hE.f4;have b1:=AH.get_new_self H (.cells x.cells none);have x1:Ext H (H.new (.cells x.cells none)):=(Ext.refl _).new _;have c0:x.cells[0]? = some (u16 x.code):=rfl;have k6:(.int .u16 6:Value)=u16 6#16:=rfl;simp only [F.f4,aZ,AM.aW,aS,List.toList_toArray,b1,c0,aD];refine S.f29 hE _ ?_;simp only [k6,cV,aD];exact hQ _ x1
theorem S.f8 (hE:aU E) (x:dA) {at_ n:Nat} (hx:okI x (n - at_ - 1)) (hat:at_<n) (hn:n<=4096) (hl:x.code=6#16\/at_+1<n) {L:List Res} (h:Has H0 Z H L) (hQ:∀ v (l:List Nat) H',Has H0 Z H' (L++[bP 1 v (wR l)])->(∀ k∈l,k<n)->l.length<=2->Q v H'):E.call (E.fid i.f8) [x.v,vi at_] H Q:=by
 apply hE.f8;have b1:=AH.get_new_self H (.cells x.cells none);have x1:Ext H (H.new (.cells x.cells none)):=(Ext.refl _).new _;have lo:=vB b1;have c0:x.cells[0]? = some (u16 x.code):=rfl;have c1:x.cells[1]? = some (u8 x.jt):=rfl;have c2:x.cells[2]? = some (u8 x.jf):=rfl;have c3:x.cells[3]? = some (u32 x.k):=rfl;have k5:(.int .u16 5:Value)=u16 5#16:=rfl;have hinc:=cU (i:=at_) (by omega)
 simp only [F.f8,aZ,AM.aW,aS,List.toList_toArray,lo,aD];generalize H.new (.cells x.cells none)=H1 at *;generalize H.next=t at *;refine S.f4 hE x fun H2 e2 =>?_;have b2:=e2.cells b1;have x2:=x1.trans e2;have lone:∀ m:Nat,bR 1 1 #[(.int .i64 0)] [(0,vi m)]=some (.cells [vi m] none,dN 1 1):=fun m=>cQ 1 [vi 0] [vi m] rfl rfl;have ltwo:∀ m k:Nat,bR 2 1 #[(.int .i64 0)] [(0,vi m),(1,vi k)]=some (.cells [vi m,vi k] none,dN 2 2):=fun m k=>vS 2 1 [vi 0] [(0,vi m),(1,vi k)] [vi m,vi k] rfl rfl rfl rfl (by simp)
 have g2:=h.grow x2
 have one:∀ m:Nat,m<n->Q (slc H2.next 0 1 1) (H2.new (.cells [vi m] none)):=fun m hm =>
  hQ _ [m] _ (g2.newnats [m] rfl rfl) (by simpa using hm) (by simp)
 have two:∀ m k:Nat,m<n->k<n->Q (slc H2.next 0 2 2) (H2.new (.cells [vi m,vi k] none)):=fun m k hm hk =>
  hQ _ [m,k] _ (g2.newnats [m,k] rfl rfl) (by simp [hm,hk]) (by simp)
 rcases hx with ⟨hc,_⟩ | hc | ⟨hc,h1⟩ | ⟨hc,h1,h2⟩ | ⟨hc,h1,h2⟩ | ⟨hc,h1,h2⟩ | hc
 rotate_left 6
 ·have a6:decide (dD x.code=6#16)=true:=by rw [hc]; decide
  simp only [a6,aD];exact hQ bL [] _ (g2.nils 1) (by simp) (by simp)
 ·have a6:decide (dD x.code=6#16)=false:=by rw [hc]; decide
  have a5:decide (x.code=5#16)=false:=by rw [hc]; decide
  have cl:decide (dD x.code=5#16)=false:=by rw [hc]; decide
  have hl:at_+1<n:=hl.resolve_left (by rw [hc]; decide)
  simp only [a6,b2,c0,k5,cV,a5,aD];refine S.f29 hE _ ?_;simp only [k5,cV,cl,hinc,lone,AM.aW,cW,aD];exact one _ hl
 ·have a6:decide (dD x.code=6#16)=false:=by rw [hc]; decide
  have a5:decide (x.code=5#16)=false:=by rw [hc]; decide
  have cl:decide (dD x.code=5#16)=false:=by rw [hc]; decide
  have hl:at_+1<n:=hl.resolve_left (by rw [hc]; decide)
  simp only [a6,b2,c0,k5,cV,a5,aD];refine S.f29 hE _ ?_;simp only [k5,cV,cl,hinc,lone,AM.aW,cW,aD];exact one _ hl
 ·have a6:decide (dD x.code=6#16)=false:=by rw [hc]; decide
  have a5:decide (x.code=5#16)=true:=by rw [hc]; decide
  have ha:aA .add (vi ((at_+1:Nat):Int)) (vi x.k.toNat)=some (vi ((at_+1+x.k.toNat:Nat):Int)):=by rw [iQ (by omega) (by omega)]; congr 2
  simp only [a6,b2,c0,c3,k5,cV,a5,hinc,aEe,ha,lone,AM.aW,cW,aD];exact one _ (by omega)
 all_goals
  have a6:decide (dD x.code=6#16)=false:=by rw [hc]; decide
  have a5:decide (x.code=5#16)=false:=by rw [hc]; decide
  have cl:decide (dD x.code=5#16)=true:=by rw [hc]; decide
  have ha1:aA .add (vi ((at_+1:Nat):Int)) (vi x.jt.toNat)=some (vi ((at_+1+x.jt.toNat:Nat):Int)):=by rw [iQ (by omega) (by omega)]; congr 2
  have ha2:aA .add (vi ((at_+1:Nat):Int)) (vi x.jf.toNat)=some (vi ((at_+1+x.jf.toNat:Nat):Int)):=by rw [iQ (by omega) (by omega)]; congr 2
  simp only [a6,b2,c0,k5,cV,a5,aD];refine S.f29 hE _ ?_;simp only [k5,cV,cl,b2,c1,c2,hinc,uS,ha1,ha2,ltwo,AM.aW,cW,aD];exact two _ _ (by omega) (by omega)
end
end Go.AM
end
section
namespace Go.AM
set_option maxRecDepth 20000
def aFG (c:List dA):Prop:=∃ h:0<c.length,(c[c.length - 1]'(by omega)).code=6#16
section
variable {E:Sy} {H H' H0 Z:AH} {Q:Value->AH->Prop} {X:List Res}
abbrev nP (ws:List (BitVec 16)):List Value:=ws.map u16
theorem Has.setW {sb k:Nat} {ws:List (BitVec 16)} {wb:Nat} {wc:List Value} (h:Has H0 Z H (aF wb wc :: aF sb (nP ws) :: X)) (hk:k<ws.length) (w:BitVec 16):∃ H',aQ (ptr sb k) (u16 w) H=some H'/\Has H0 Z H' (aF wb wc :: aF sb (nP (ws.set k w)) :: X):=by
 have hb:=h.box (k:=1) (b:=sb) (c:=nP ws) rfl;refine ⟨H.put sb (.cells (nP (ws.set k w)) none),?_,h.put (k:=1) (b:=sb) (c:=nP ws) rfl _⟩;rw [aJ,if_pos (show plain1 (u16 w)=true from rfl),hb];simp only [nP,List.length_map,hk,if_true,List.map_set]
theorem S.f5 (hE:aU E) {v:Value} {c:List dA} (hv:Rows H 4 v (dM c)) (hok:nQ c) (hend:aFG c) (hlen:c.length<=4096) (hQ:∀ H',Ext H H'->Q (.agg #[vi 0,vi 0]) H'):E.call (E.fid i.f5) [v] H Q:=by
 apply hE.f5;obtain ⟨h0,hend⟩:=hend;have hlv:=hv.lenSlc;have hil:(dM c).length=c.length:=by simp [dM]
 rw [hil] at hlv;have hms:=aGX 1 2 c.length [u16 0#16] rfl (by omega) (by omega)
 rw [aCr] at hms;have hms:qY 1 2 #[(.int .u16 0)] (vi c.length) (vi c.length)=some (.cells (nP (List.replicate c.length 0#16)) none,fun b=>slc b 0 c.length c.length):=by rw [nP,List.map_replicate]; exact hms
 have i0:(.int .i64 0:Value)=vi ((0:Nat):Int):=rfl;have q0:(.int .u16 0:Value)=u16 0#16:=rfl;have qf:(.int .u16 65535:Value)=u16 65535#16:=rfl;have g:=((Has.begin (Ext.refl H) (Sub.refl H)).newbox [(.int .i64 0),(.int .i64 0)]).newbox (nP (List.replicate c.length 0#16));have hls:∀ b n m,lenSlc (slc b 0 n m)=some (vi n):=fun _ _ _=>rfl;simp only [F.f5,aP,hlv,hms,AM.aW,hls,aD];have hn1:H.next+1=(H.new (.cells [(.int .i64 0),(.int .i64 0)] none)).next:=rfl;rw [hn1];clear hn1;generalize (H.new (.cells [(.int .i64 0),(.int .i64 0)] none)).new (.cells (nP (List.replicate c.length 0#16)) none)=H2 at *;generalize (H.new (.cells [(.int .i64 0),(.int .i64 0)] none)).next=sb at *;generalize H.next=wb at *;rw [i0];refine aM.count c.length (fun k ls H'=>ls=[v,ptr wb 0,slc sb 0 c.length c.length,vi c.length,vi k]/\∃ ws:List (BitVec 16),ws.length=c.length/\Has H H H' [aF wb [vi 0,vi 0],aF sb (nP ws)]) ?_ ⟨rfl,_,by simp,g⟩
 rintro k _ H3 X1 hk ih ⟨rfl,ws,hws,g3⟩;rcases Nat.lt_or_ge k c.length with hlt | hge
 ·have hlt':decide ((k:Int)<c.length)=true:=decide_eq_true (by omega)
  have hix:=wW sb c.length c.length k hlt;have hinc:=cU (i:=k) (by omega)
  obtain ⟨H4,s4,g4⟩:=g3.setW (k:=k) (by omega) 65535#16
  simp only [F.f5_l1,aV,hlt',hix,qf,s4,hinc,aD];exact ih hlt _ _ ⟨rfl,_,by simp [hws],g4⟩
 have hke:k=c.length:=by omega
 subst hke;have hlt':decide ((c.length:Int)<c.length)=false:=decide_eq_false (by omega)
 have hix0:aK 1 (slc sb 0 c.length c.length) (.int .i64 0)=some (ptr sb 0):=wW sb c.length c.length 0 h0;obtain ⟨H4,s4,g4⟩:=g3.setW (k:=0) (by omega) 0#16
 simp only [F.f5_l1,aV,hlt',hix0,q0,s4,hlv,aD];have hw4:(ws.set 0 0#16).length=c.length:=by simp [hws]
 generalize ws.set 0 0#16=ws at *;rw [i0];refine aM.count c.length (fun k ls H'=>ls=[ptr wb 0,slc sb 0 c.length c.length,v,vi c.length,vi k]/\∃ ws:List (BitVec 16),ws.length=c.length/\Has H H H' [aF wb [vi 0,vi 0],aF sb (nP ws)]) ?_ ⟨rfl,ws,hw4,g4⟩;clear g4 g3 ih s4 hw4 hws ws;rintro k _ H5 X2 hk ih ⟨rfl,ws,hws,g5⟩;rcases Nat.lt_or_ge k c.length with hlt | hge
 rotate_left
 ·have hke:k=c.length:=by omega
  subst hke;have hb:=g5.box (k:=0) (b:=wb) (c:=[vi 0,vi 0]) rfl;have hbv:aX [(0,1),(1,1)] #[(.int .i64 0),(.int .i64 0)] []=some (.agg #[vi 0,vi 0]):=rfl
  have hst:aG 2 (ptr wb 0) (.agg #[vi 0,vi 0]) H5=some (H5.put wb (.cells [vi 0,vi 0] none)):=by
   rw [cX,hb]; rfl
  have g6:=g5.put (k:=0) (b:=wb) (c:=[vi 0,vi 0]) rfl [vi 0,vi 0];have hb6:=g6.box (k:=0) (b:=wb) (c:=[vi 0,vi 0]) rfl;have lo6:aE 2 (ptr wb 0) (H5.put wb (.cells [vi 0,vi 0] none))=some (.agg #[vi 0,vi 0]):=by rw [aL,hb6]; rfl
  simp only [F.f5_l2,aV,hlt',hbv,hst,lo6,aD];exact hQ _ g6.ext
 have hlt':decide ((k:Int)<c.length)=true:=decide_eq_true (by omega)
 obtain ⟨bb,o,f1,f2⟩:=hv.ix (i:=k) (by omega)
 have hrow:(dM c)[k]'(by omega)=c[k].cells:=by simp [dM]
 rw [hrow] at f2
 have f2:(H5.get bb).row o 4=some c[k].cells:=by
  have:H5.get bb=H.get bb:=g5.ext.obj (o:=H.get bb) (fun hd=>by rw [hd] at f2; cases f2) rfl
  rw [this]; exact f2
 have lo:aE 4 (ptr bb o) H5=some c[k].v:=by rw [aL,f2]; rfl
 have hokx:=hok k hlt
 have hl6:c[k].code=6#16\/k+1<c.length:=by
  rcases Nat.lt_or_ge (k+1) c.length with h | h
  ·exact .inr h
  ·have:k=c.length - 1:=by omega
   subst this;exact .inl hend
 have hix:=wW sb c.length c.length k hlt;have hinc:=cU (i:=k) (by omega)
 generalize c[k]=x at *;have hst:=aAb x H5;have g6:=g5.new (.cells x.cells none);have bx:=AH.get_new_self H5 (.cells x.cells none);have bs:=g6.box (k:=1) (b:=sb) (c:=nP ws) rfl;have cx:x.cells[0]? = some (u16 x.code):=rfl;have cs:(nP ws)[k]? = some (u16 (ws[k]'(by omega))):=by simp [nP,List.getElem?_eq_getElem (show k<ws.length by omega)]
 have k96:(.int .u16 96:Value)=u16 96#16:=rfl;have k97:(.int .u16 97:Value)=u16 97#16:=rfl;have k2:(.int .u16 2:Value)=u16 2#16:=rfl;have k3:(.int .u16 3:Value)=u16 3#16:=rfl;have e96:decide (x.code=96#16)=false:=by rcases hokx with ⟨h,_⟩ | h | ⟨h,_⟩ | ⟨h,_⟩ | ⟨h,_⟩ | ⟨h,_⟩ | h <;> rw [h] <;> decide
 have e97:decide (x.code=97#16)=false:=by rcases hokx with ⟨h,_⟩ | h | ⟨h,_⟩ | ⟨h,_⟩ | ⟨h,_⟩ | ⟨h,_⟩ | h <;> rw [h] <;> decide
 have e2:decide (x.code=2#16)=false:=by rcases hokx with ⟨h,_⟩ | h | ⟨h,_⟩ | ⟨h,_⟩ | ⟨h,_⟩ | ⟨h,_⟩ | h <;> rw [h] <;> decide
 have e3:decide (x.code=3#16)=false:=by rcases hokx with ⟨h,_⟩ | h | ⟨h,_⟩ | ⟨h,_⟩ | ⟨h,_⟩ | ⟨h,_⟩ | h <;> rw [h] <;> decide
 have lox:=vB bx;generalize ws[k]'(by omega)=w at *
 simp only [F.f5_l2,aV,hlt',f1,lo,aP,hst,hix,bs,cs,bx,cx,k96,k97,cV,e96,e97,F.f5_j2,F.f5_j3,F.f5_j1,k2,k3,e2,e3,lox,aD];generalize H5.new (.cells x.cells none)=H6 at *;refine S.f8 hE x hokx hlt hlen hl6 g6 fun wv l H7 g7 hl hl2 =>?_;have hwl:=(g7.rows (k:=2) (sz:=1) (v:=wv) (rows:=wR l) rfl).lenSlc;have hnl:(wR l).length=l.length:=by simp [wR]
 rw [hnl] at hwl;simp only [hwl,i0,aD];refine aM.count l.length (fun q ls H'=>ls=[ptr wb 0,slc sb 0 c.length c.length,u16 w,v,vi c.length,vi k,wv,vi l.length,vi q]/\∃ ws:List (BitVec 16),ws.length=c.length/\Has H H H' (aF wb [vi 0,vi 0] :: aF sb (nP ws) :: [bP 1 wv (wR l)])) ?_ ⟨rfl,ws,hws,g7⟩;rintro q _ H8 X3 hq ih2 ⟨rfl,ws,hws,g8⟩;rcases Nat.lt_or_ge q l.length with hql | hqg
 ·have hql':decide ((q:Int)<l.length)=true:=decide_eq_true (by omega)
  obtain ⟨b3,o3,n1,n2⟩:=(g8.rows (k:=2) (sz:=1) (v:=wv) (rows:=wR l) rfl).ix (i:=q) (by omega)
  have hnr:(wR l)[q]'(by omega)=[vi (l[q]:Nat)]:=by simp [wR]
  rw [hnr] at n2;have hce:((H8.get b3).cell o3)=some (vi (l[q]:Nat)):=by have:=mW n2 (j:=0) (by omega); simpa using this
  have hlq:=hl l[q] (List.getElem_mem hql);have hqi:=cU (i:=q) (by omega)
  generalize l[q]=y at *;have hiy:=wW sb c.length c.length y hlq;have bs:=g8.box (k:=1) (b:=sb) (c:=nP ws) rfl;have cs:(nP ws)[y]? = some (u16 (ws[y]'(by omega))):=by simp [nP,List.getElem?_eq_getElem (show y<ws.length by omega)]
  obtain ⟨H9,s9,g9⟩:=Has.setW (X:=[bP 1 wv (wR l)]) g8 (k:=y) (by omega) ((ws[y]'(by omega))&&&w)
  simp only [F.f5_l3,aV,hql',n1,hce,hiy,bs,cs,qC,s9,hqi,aD];exact ih2 hql _ _ ⟨rfl,_,by simp [hws],g9⟩
 ·have hql':decide ((q:Int)<l.length)=false:=decide_eq_false (by omega)
  simp only [F.f5_l3,aV,hql',hinc,aD];exact ih hlt _ _ ⟨rfl,ws,hws,Has.dropLast (L:=[_,_]) g8⟩
theorem S.f3 (hE:aU E) {v:Value} {c:List dA} (hv:Rows H 4 v (dM c)) (hok:nQ c) (hend:aFG c) (hlen:c.length<=4096) (hQ:∀ H',Ext H H'->Q (.agg #[vi 0,vi 0]) H'):E.call (E.fid i.f3) [v] H Q:=by
 apply hE.f3;have hend':=hend;obtain ⟨h0,hend⟩:=hend;have hlv:=hv.lenSlc;have hil:(dM c).length=c.length:=by simp [dM]
 rw [hil] at hlv;have i0:(.int .i64 0:Value)=vi ((0:Nat):Int):=rfl;have i1:(.int .i64 1:Value)=vi 1:=rfl;have i4096:(.int .i64 4096:Value)=vi 4096:=rfl;have d0:decide ((c.length:Int)=((0:Nat):Int))=false:=decide_eq_false (by omega)
 have d1:decide ((4096:Int)<c.length)=false:=decide_eq_false (by omega)
 have g:=(Has.begin (Ext.refl H) (Sub.refl H)).newbox [(.int .i64 0),(.int .i64 0)];simp only [F.f3,aP,hlv,i0,i4096,eU,gC,d0,d1,aD];have g:Has H H (H.new (.cells [vi ((0:Nat):Int),vi ((0:Nat):Int)] none)) [aF H.next [vi 0,vi 0]]:=g;generalize H.new (.cells [vi ((0:Nat):Int),vi ((0:Nat):Int)] none)=H1 at *;generalize H.next=wb at *;refine aM.count c.length (fun k ls H'=>ls=[v,ptr wb 0,v,vi c.length,vi k]/\Has H H H' [aF wb [vi 0,vi 0]]) ?_ ⟨rfl,g⟩;clear g;rintro k _ H5 X2 hk ih ⟨rfl,g5⟩;have hv5:=hv.mono g5.ext
 have row:∀ j (hj:j<c.length),∃ bb o,aK 4 v (vi j)=some (ptr bb o)/\aE 4 (ptr bb o) H5=some c[j].v:=by
  intro j hj;obtain ⟨bb,o,f1,f2⟩:=hv5.ix (i:=j) (by omega)
  have hrow:(dM c)[j]'(by omega)=c[j].cells:=by simp [dM]
  rw [hrow] at f2;exact ⟨bb,o,f1,by rw [aL,f2]; rfl⟩
 have hw:∀ {H':AH},Has H H H' [aF wb [vi 0,vi 0]]->∃ H'',aG 2 (ptr wb 0) (.agg #[vi 0,vi 0]) H'=some H''/\aE 2 (ptr wb 0) H''=some (.agg #[vi 0,vi 0])/\Ext H H'':=by
  intro H' g';have hb:=g'.box (k:=0) (b:=wb) (c:=[vi 0,vi 0]) rfl;have g6:=g'.put (k:=0) (b:=wb) (c:=[vi 0,vi 0]) rfl [vi 0,vi 0];have hb6:=g6.box (k:=0) (b:=wb) (c:=[vi 0,vi 0]) rfl;exact ⟨_,by rw [cX,hb]; rfl,by rw [aL,hb6]; rfl,g6.ext⟩
 rcases Nat.lt_or_ge k c.length with hlt | hge
 ·have hlt':decide ((k:Int)<c.length)=true:=decide_eq_true (by omega)
  obtain ⟨bb,o,f1,lo⟩:=row k hlt;have hokx:=hok k hlt;have hinc:=cU (i:=k) (by omega)
  generalize c[k]=x at *;have hst:=aAb x H5;have g6:=g5.new (.cells x.cells none);have lox:=vB (AH.get_new_self H5 (.cells x.cells none));simp only [F.f3_l1,aV,hlt',f1,lo,aP,hst,lox,hlv,aD];generalize H5.new (.cells x.cells none)=H6 at *;refine S.f6 hE x hokx hlt hlen fun H7 e7 =>?_;have d7:decide (((0:Nat):Int)≠((0:Nat):Int))=false:=rfl;simp only [i0,tY,d7,hinc,aD];exact ih hlt _ _ ⟨rfl,g6.grow e7⟩
 ·have hke:k=c.length:=by omega
  subst hke;have hlt':decide ((c.length:Int)<c.length)=false:=decide_eq_false (by omega)
  obtain ⟨bb,o,f1,lo⟩:=row (c.length - 1) (by omega)
  have hs:aA .sub (vi (c.length:Int)) (vi 1)=some (vi ((c.length - 1:Nat):Int)):=by rw [fE (by omega) (by omega)]; congr 2; omega
  have he6:decide (dD (c[c.length - 1]'(by omega)).code=6#16)=true:=by rw [hend]; decide
  simp only [F.f3_l1,aV,hlt',hlv,i1,hs,f1,lo,aD];refine S.f4 hE _ fun H6 e6 =>?_;rw [he6];simp only [aD];have g6:=g5.grow e6;refine S.f5 hE (hv.mono g6.ext) hok hend' hlen fun H7 e7 =>?_;obtain ⟨H8,s8,l8,e8⟩:=hw (g6.grow e7);simp only [s8,l8,aD];exact hQ _ e8
theorem S.f186 (hE:aU E) {v:Value} {c:List dA} (hv:Rows H 4 v (dM c)) (hok:nQ c) (hend:aFG c) (hlen:c.length<=4096) (hQ:∀ fb H',Fil H H H' fb c []->Q (.tuple #[ptr fb 0,.agg #[vi 0,vi 0]]) H'):E.call (E.fid i.f186) [v] H Q:=by
 apply hE.f186;have g1:=(Has.begin (Ext.refl H) (Sub.refl H)).newbox [(.int .i64 0),(.int .i64 0)];have x1:Ext H (H.new (.cells [(.int .i64 0),(.int .i64 0)] none)):=(Ext.refl H).new _;simp only [F.f186,aP,aD];generalize H.new (.cells [(.int .i64 0),(.int .i64 0)] none)=H1 at *;generalize H.next=wb at *;refine S.f3 hE (hv.mono x1) hok hend hlen fun H2 e2 =>?_;have g2:=g1.grow e2;have s2:aG 2 (ptr H2.next 0) (.agg #[vi 0,vi 0]) (H2.new (.cells [(.int .i64 0),(.int .i64 0)] none))=some (H2.new (.cells [vi 0,vi 0] none)):=lG (z:=[(.int .i64 0),(.int .i64 0)]) (c:=[vi 0,vi 0]) rfl rfl rfl;have l2:aE 2 (ptr H2.next 0) (H2.new (.cells [vi 0,vi 0] none))=some (.agg #[vi 0,vi 0]):=by rw [aL,AH.get_new_self]; rfl
 have hbv:aX [(0,1),(1,1)] #[(.int .i64 0),(.int .i64 0)] []=some (.agg #[vi 0,vi 0]):=rfl;have hne:iS [0,0] .neq (.agg #[vi 0,vi 0]) (.agg #[vi 0,vi 0])=some (vb false):=rfl;have g3:=g2.new (.cells [vi 0,vi 0] none);simp only [aP,s2,l2,hbv,hne,aD];generalize H2.new (.cells [vi 0,vi 0] none)=H3 at *;have g4:=g3.newroom 4;have hbS:bR 0 4 #[(.int .u16 0),(.int .u8 0),(.int .u8 0),(.int .u32 0)] []=some (.cells [] none,dN 0 0):=aBJ 4 [u16 0#16,u8 0#8,u8 0#8,u32 0#32] rfl;obtain ⟨lv,H5,a1,a2,g5⟩:=g4.app (k:=1) (sz:=4) (v:=slc H3.next 0 0 0) (rows:=[]) (new:=dM c) (x:=v) (bytes:=8) rfl (hv.mono g4.ext) (by intro r hr; obtain ⟨y,_,rfl⟩:=List.mem_map.1 hr; rfl) (by decide) (by decide) (by simp [dM]; omega) (by simp [dM]; omega)
 have hbv2:aX [(0,1),(1,1),(2,1)] #[(.slice none 0 0),(.int .i64 0),(.int .i64 0)] [(0,lv)]=some (.agg #[lv,vi 0,vi 0]):=by
  have:=(g5.rows (k:=1) (sz:=4) (v:=lv) (rows:=[]++dM c) rfl).at_;rcases this with ⟨_,c',rfl⟩ | ⟨b,o,c',rfl,_⟩ <;> rfl
 have g6:=g5.newbox [lv,vi 0,vi 0];simp only [hbS,AM.aW,cW,a1,hbv2,aZ,aS,List.toList_toArray,aD];generalize H5.new (.cells [lv,vi 0,vi 0] none)=H6 at *;generalize H5.next=fb at *;have hb6:=g6.box (k:=0) (b:=wb) (c:=[(.int .i64 0),(.int .i64 0)]) rfl;have g7:=g6.put (k:=0) (b:=wb) (c:=[(.int .i64 0),(.int .i64 0)]) rfl [vi 0,vi 0];have s7:aG 2 (ptr wb 0) (.agg #[vi 0,vi 0]) H6=some (H6.put wb (.cells [vi 0,vi 0] none)):=by rw [cX,hb6]; rfl
 have b7:=g7.box (k:=0) (b:=wb) (c:=[vi 0,vi 0]) rfl;have l7:aE 2 (ptr wb 0) (H6.put wb (.cells [vi 0,vi 0] none))=some (.agg #[vi 0,vi 0]):=by rw [aL,b7]; rfl
 simp only [hbv,s7,l7,aD];exact hQ _ _ ⟨lv,0,0,(g7.drop 0).perm (List.Perm.swap _ _ _)⟩
end
end Go.AM
end
section
namespace Go.AM
set_option maxRecDepth 20000
def aMR (p:bM):Prop :=
 p.kind=1#8\/p.kind=4#8\/(p.kind=2#8/\((p.insn.code=32#16/\p.insn.k.toNat % 4=0/\p.insn.k.toNat<=60)\/p.insn.code=84#16\/p.insn.code=6#16)) \/
 (p.kind=3#8/\(p.insn.code=21#16\/p.insn.code=37#16\/p.insn.code=53#16))
theorem sK {x:dA} {c:List dA} (h:okI x c.length) (hc:nQ c):nQ (x :: c):=by
 intro k hk;cases k with
 | zero=>simpa using h
 | succ k =>
  have:=hc k (by simpa using hk)
  simp only [List.getElem_cons_succ,List.length_cons];have e:c.length+1 - (k+1) - 1=c.length - k - 1:=by omega
  rw [e]; exact this
end Go.AM
end
section
namespace Go.AM
set_option maxRecDepth 20000
def aDQ (l:List bM):List Int:=l.filterMap fun p=>if p.kind=1#8 then some p.to else none
end Go.AM
end
section
namespace Go.AM
set_option maxRecDepth 20000
section
variable {E:Sy} {H H' H0 Z:AH} {Q:Value->AH->Prop} {X:List Res} {lw m:Nat} {s:LwD}
theorem cI (s:LwD) (p:bM):(s.put p).big=s.big+1:=by simp only [LwD.big,LwD.put,List.length_append,List.length_cons,List.length_nil]; omega
theorem dI (s:LwD):s.new.big=s.big+1:=by simp only [LwD.big,LwD.new]; omega
theorem xC (s:LwD) (a:BitVec 32):(s.act a).1.big<=s.big+2:=by
 unfold LwD.act
 split
 ·exact Nat.le_add_right _ _
 ·simp only [LwD.big,List.length_append,List.length_cons,List.length_nil]; omega
theorem Lw.cells (h:Lw H0 Z H lw m s X):∃ lv ov,H.get lw = .cells [lv,vi s.last,vi s.other,.map (some m),ov] none:=by
 obtain ⟨lv,ov,h⟩:=h;exact ⟨lv,ov,h.box (k:=0) rfl⟩
theorem dP.look_nat {r:Nat} {l:List (BitVec 32×Nat)} (h:dP u32 iH H r l) (a:BitVec 32) (ok:Bool):AM.look 0 (.int .i64 0) ok (.map (some r)) (u32 a) H=some (if ok then .tuple #[vi ((cE a l).getD 0:Nat),.bool (cE a l).isSome] else vi ((cE a l).getD 0:Nat)):=by
 have:=h.look (kd:=0) lQ a (.int .i64 0) ok;cases hk:cE a l with
 | none=>unfold cE at hk; rw [hk] at this; rw [this]; cases ok <;> rfl
 | some n=>unfold cE at hk; rw [hk] at this; rw [this]; cases ok <;> rfl
theorem Lw.look (h:Lw H0 Z H lw m s X) (a:BitVec 32) (ok:Bool):AM.look 0 (.int .i64 0) ok (.map (some m)) (u32 a) H=some (if ok then .tuple #[vi ((cE a s.acts).getD 0:Nat),.bool (cE a s.acts).isSome] else vi ((cE a s.acts).getD 0:Nat)):=by
 obtain ⟨lv,ov,h⟩:=h;exact (h.mapAt (k:=2) (fk:=u32) (fv:=iH) (r:=m) (l:=s.acts) rfl).look_nat a ok
theorem S.f98 (hE:aU E) (h:Lw H0 Z H lw m s X) (hb:s.big<2 ^ 29) (a:BitVec 32) (hQ:∀ H',Lw H0 Z H' lw m (s.act a).1 X->Q (vi ((s.act a).2:Nat)) H'):E.call (E.fid i.f98) [ptr lw 0,u32 a] H Q:=by
 apply hE.f98;obtain ⟨lv,ov,hbx⟩:=h.cells;have hl:=h.look a true;cases hf:cE a s.acts with
 | some n =>
  have hact:s.act a=(s,n):=by unfold LwD.act; rw [hf]
  rw [hf] at hl;rw [hact] at hQ;have hl:AM.look 0 (.int .i64 0) true (.map (some m)) (u32 a) H=some (.tuple #[vi n,.bool true]):=hl;simp only [F.f98,hbx,hl,aD];exact hQ _ h
 | none =>
  have hact:s.act a=({ s with last:=s.last+1,acts:=dQ a (s.last+1) s.acts,order:=s.order++[a] },s.last+1):=by unfold LwD.act; rw [hf]
  rw [hf] at hl;rw [hact] at hQ;have hl:AM.look 0 (.int .i64 0) true (.map (some m)) (u32 a) H=some (.tuple #[vi (0:Nat),.bool false]):=hl;simp only [F.f98,hbx,hl,aD];refine S.f47 hE h (by omega) fun H1 g =>?_
  obtain ⟨lv,ov,g⟩:=g;have hb1:=g.box (k:=0) rfl;obtain ⟨H2,m1,g2⟩:=g.mapset (n:=2) (r:=m) (l:=s.acts) (fk:=u32) (fv:=iH) rfl lQ a (s.last+1);have m1:cN 0 (.map (some m)) (u32 a) (vi ((s.last+1:Nat):Int)) H1=some H2:=m1;have g2:Has H0 Z H2 ([aF lw [lv,vi ((s.last+1:Nat):Int),vi s.other,.map (some m),ov],bP 7 lv (bN s.parts),cF u32 iH m (dQ a (s.last+1) s.acts),bP 1 ov (lR s.order)]++X):=g2;have hb2:=g2.box (k:=0) rfl;have hlen:(lR s.order).length<2 ^ 29:=by unfold LwD.big at hb; simp only [lR,List.length_map]; omega
  obtain ⟨v',H3,a1,a2,g3⟩:=g2.app1 (k:=3) (sz:=1) (v:=ov) (rows:=lR s.order) (bytes:=4) rfl [u32 a] rfl rfl (by decide) (by decide) (by omega)
  have hbS:bR 1 1 #[(.int .u32 0)] [(0,u32 a)]=some (.cells [u32 a] none,dN 1 1):=cQ 1 [u32 0#32] [u32 a] rfl rfl;have g3:Has H0 Z H3 ([aF lw [lv,vi ((s.last+1:Nat):Int),vi s.other,.map (some m),ov],bP 7 lv (bN s.parts),cF u32 iH m (dQ a (s.last+1) s.acts),bP 1 v' (lR s.order++[[u32 a]])]++X):=g3;have hb3:=g3.box (k:=0) rfl
  have hst:aQ (ptr lw 4) v' H3=some (H3.put lw (.cells [lv,vi ((s.last+1:Nat):Int),vi s.other,.map (some m),v'] none)):=by
   rw [aJ,if_pos a2,hb3]; rfl
  have g4:=g3.put (k:=0) rfl [lv,vi ((s.last+1:Nat):Int),vi s.other,.map (some m),v'];simp only [hb1,m1,hb2,hbS,cW,AM.aW,a1,hst,aD];refine hQ _ ⟨lv,v',?_⟩;have hr:lR (s.order++[a])=lR s.order++[[u32 a]]:=by simp [lR]
  show Has H0 Z _ (aF lw [lv,vi ((s.last+1:Nat):Int),vi s.other,.map (some m),v'] :: bP 7 lv (bN s.parts) :: cF u32 iH m (dQ a (s.last+1) s.acts) :: bP 1 v' (lR (s.order++[a])) :: X)
  rw [hr];exact g4
theorem S.f104 (hE:aU E) (h:Lw H0 Z H lw m s X) (hb:s.big<2 ^ 29) (c:cO) (n:Nat) (hQ:∀ H',Lw H0 Z H' lw m (s.second c n) X->Q (.tuple #[]) H'):E.call (E.fid i.f104) [ptr lw 0,c.v,vi n] H Q:=by
 apply hE.f104;have h1:=h.newbox c.cells;simp only [F.f104,aZ,AM.aW,aS,List.toList_toArray,aD];generalize H.new (.cells c.cells none)=H1 at *;generalize H.next=t at *;refine S.f45 hE h1 (by omega) n fun H2 h2 =>?_
 have hbx:=h2.box;have c0:c.cells[0]? = some (vi c.arg):=rfl;simp only [hbx,c0,aD];refine S.f136 hE c.arg false ?_;refine S.f32 hE _ fun H3 e3 =>?_;have hv:∀ k,oN 32 0 0 k=(oO k).v:=fun _=>rfl;rw [hv];refine S.f49 hE (h2.grow e3) (by rw [cI]; omega) _ fun H4 h4 =>?_
 exact hQ _ h4.dropLast
theorem iT (s:LwD) (c:cO) (n:Nat):(s.second c n).big=s.big+2:=by unfold LwD.second; rw [cI,cI]
end
end Go.AM
end
section
namespace Go.AM
set_option maxRecDepth 20000
section
variable {E:Sy} {H H' H0 Z:AH} {Q:Value->AH->Prop} {X:List Res} {lw m:Nat} {s:LwD}
theorem Lw.cload {t:Nat} {c:cO} (h:Lw H0 Z H lw m s (X++[aF t c.cells])):aE 4 (ptr t 0) H=some c.v:=by
 rw [aL,h.box,fC _ _ 4 rfl]; rfl
theorem S.f103 (hE:aU E) (h:Lw H0 Z H lw m s X) (hb:s.big<2 ^ 28) (c:cO) (how:BitVec 16) (yes no:Nat) (hQ:∀ H',Lw H0 Z H' lw m (s.order64 c how yes no) X->Q (.tuple #[]) H'):E.call (E.fid i.f103) [ptr lw 0,c.v,u16 how,vi yes,vi no] H Q:=by
 apply hE.f103;have h1:=h.newbox c.cells;have hb1:=AH.get_new_self H (.cells c.cells none);have c3:c.cells[3]? = some (u64 c.value):=rfl;have k32:(.int .u16 32:Value)=u16 32#16:=rfl;have k16:(.int .u16 16:Value)=u16 16#16:=rfl;have ks:aA .shr (u64 c.value) (.int .u64 32)=some (u64 (c.value >>> 32)):=vI _ _ 32;have kh:aR .u32 (u64 (c.value >>> 32))=some (u32 (wU c.value)):=nW _;have kl:aR .u32 (u64 c.value)=some (u32 (aAi c.value)):=nW _;simp only [F.f103,aZ,AM.aW,aS,List.toList_toArray,hb1,c3,ks,kh,kl,k32,k16,aD];generalize H.new (.cells c.cells none)=H1 at *;generalize H.next=t at *;refine S.f47 hE h1 (by omega) fun H2 h2 =>?_
 refine S.f47 hE h2 (by rw [dI]; omega) fun H3 h3 =>?_
 refine S.f46 hE h3 (by simp only [dI]; omega) 32#16 _ _ _ fun H4 h4 =>?_
 refine S.f45 hE h4 (by simp only [dI,cI]; omega) _ fun H5 h5 =>?_
 refine S.f46 hE h5 (by simp only [dI,cI]; omega) 16#16 _ _ _ fun H6 h6 =>?_
 have b6:=h6.cload;simp only [b6,aD];refine S.f104 hE h6 (by simp only [dI,cI]; omega) c _ fun H7 h7 =>?_
 refine S.f46 hE h7 (by simp only [dI,cI,iT]; omega) how _ _ _ fun H8 h8 =>?_
 exact hQ _ h8.dropLast
theorem aDj (s:LwD) (c:cO) (how:BitVec 16) (yes no:Nat):(s.order64 c how yes no).big=s.big+8:=by
 unfold LwD.order64;simp only [dI,cI,iT]
theorem aE1 (s:LwD) (c:cO) (next yes no:Nat):(s.condOn c next yes no).big<=s.big+8:=by
 unfold LwD.condOn
 repeat' split
 all_goals simp only [dI,cI,iT,aDj] <;> omega
theorem aCQ (s:LwD) (c:cO) (yes no:Nat):(s.cond c yes no).big<=s.big+10:=by
 unfold LwD.cond;have:=aE1 (s.new.put (gU (oO (uG c.arg true)))) c (s.last+1) yes no;simp only [dI,cI] at this;omega
theorem S.f101 (hE:aU E) (h:Lw H0 Z H lw m s X) (hb:s.big<2 ^ 27) (c:cO) (yes no:Nat) (hQ:∀ H',Lw H0 Z H' lw m (s.cond c yes no) X->Q (.tuple #[]) H'):E.call (E.fid i.f101) [ptr lw 0,c.v,vi yes,vi no] H Q:=by
 apply hE.f101;have h1:=h.newbox c.cells;have hb1:=AH.get_new_self H (.cells c.cells none);have c0:c.cells[0]? = some (vi c.arg):=rfl;have c1:c.cells[1]? = some (u8 c.op):=rfl;have c2:c.cells[2]? = some (u64 c.mask):=rfl;have c3:c.cells[3]? = some (u64 c.value):=rfl;have k16:(.int .u16 16:Value)=u16 16#16:=rfl;have k32:(.int .u16 32:Value)=u16 32#16:=rfl;have k48:(.int .u16 48:Value)=u16 48#16:=rfl;have q1:(.int .u8 1:Value)=u8 1#8:=rfl;have q2:(.int .u8 2:Value)=u8 2#8:=rfl;have q3:(.int .u8 3:Value)=u8 3#8:=rfl;have q4:(.int .u8 4:Value)=u8 4#8:=rfl;have q5:(.int .u8 5:Value)=u8 5#8:=rfl;have q6:(.int .u8 6:Value)=u8 6#8:=rfl;have q7:(.int .u8 7:Value)=u8 7#8:=rfl;have ks:∀ x:BitVec 64,aA .shr (u64 x) (.int .u64 32)=some (u64 (x >>> 32)):=fun x=>vI _ _ 32;have kh:∀ x:BitVec 64,aR .u32 (u64 (x >>> 32))=some (u32 (wU x)):=fun x=>nW _;have kl:∀ x:BitVec 64,aR .u32 (u64 x)=some (u32 (aAi x)):=fun x=>nW _;simp only [F.f101,aZ,AM.aW,aS,List.toList_toArray,hb1,c3,ks,kh,kl,aD];generalize H.new (.cells c.cells none)=H1 at *;generalize H.next=t at *;refine S.f47 hE h1 (by omega) fun H2 h2 =>?_
 have b2:=h2.box;simp only [b2,c0,aD];refine S.f136 hE c.arg true ?_;refine S.f32 hE _ fun H3 e3 =>?_;have hv:∀ k,oN 32 0 0 k=(oO k).v:=fun _=>rfl;rw [hv];refine S.f49 hE (h2.grow e3) (by rw [dI]; omega) _ fun H5 h5 =>?_
 have b5:=h5.box;have l5:=h5.cload;have hbg:(s.new.put (gU (oO (uG c.arg true)))).big=s.big+2:=by simp only [dI,cI]
 have h5:Lw H0 Z H5 lw m (s.new.put (gU (oO (uG c.arg true)))) (X++[aF t c.cells]):=h5;unfold LwD.cond at hQ;generalize s.new.put (gU (oO (uG c.arg true)))=s5 at *;simp only [b5,c1,q1,eB,aD]
 by_cases o1:c.op=1#8
 ·have hc:∀ n,s5.condOn c n yes no=((s5.put (pIf 16#16 (wU c.value) n no)).second c n).put (pIf 16#16 (aAi c.value) yes no):=fun n=>by unfold LwD.condOn; rw [if_pos o1]
  have hd:decide (c.op=1#8)=true:=by simpa using o1
  rw [hc] at hQ;simp only [hd,k16,aD];refine S.f46 hE h5 (by omega) 16#16 _ _ _ fun H6 h6 =>?_
  have b6:=h6.cload;simp only [b6,aD];refine S.f104 hE h6 (by simp only [cI]; omega) c _ fun H7 h7 =>?_
  refine S.f46 hE h7 (by simp only [cI,iT]; omega) 16#16 _ _ _ fun H8 h8 =>?_
  exact hQ _ h8.dropLast
 have hd1:decide (c.op=1#8)=false:=by simpa using o1
 simp only [hd1,q2,eB,aD]
 by_cases o2:c.op=2#8
 ·have hc:∀ n,s5.condOn c n yes no=((s5.put (pIf 16#16 (wU c.value) n yes)).second c n).put (pIf 16#16 (aAi c.value) no yes):=fun n=>by unfold LwD.condOn; rw [if_neg o1,if_pos o2]
  have hd:decide (c.op=2#8)=true:=by simpa using o2
  rw [hc] at hQ;simp only [hd,k16,aD];refine S.f46 hE h5 (by omega) 16#16 _ _ _ fun H6 h6 =>?_
  have b6:=h6.cload;simp only [b6,aD];refine S.f104 hE h6 (by simp only [cI]; omega) c _ fun H7 h7 =>?_
  refine S.f46 hE h7 (by simp only [cI,iT]; omega) 16#16 _ _ _ fun H8 h8 =>?_
  exact hQ _ h8.dropLast
 have hd2:decide (c.op=2#8)=false:=by simpa using o2
 simp only [hd2,q5,eB,aD]
 by_cases o5:c.op=5#8
 ·have hc:∀ n,s5.condOn c n yes no=s5.order64 c 32#16 yes no:=fun n=>by unfold LwD.condOn; rw [if_neg o1,if_neg o2,if_pos o5]
  have hd:decide (c.op=5#8)=true:=by simpa using o5
  rw [hc] at hQ;simp only [hd,l5,k32,aD];exact S.f103 hE h5 (by omega) c 32#16 _ _ fun H6 h6=>hQ _ h6.dropLast
 have hd5:decide (c.op=5#8)=false:=by simpa using o5
 simp only [hd5,q6,eB,aD]
 by_cases o6:c.op=6#8
 ·have hc:∀ n,s5.condOn c n yes no=s5.order64 c 48#16 yes no:=fun n=>by unfold LwD.condOn; rw [if_neg o1,if_neg o2,if_neg o5,if_pos o6]
  have hd:decide (c.op=6#8)=true:=by simpa using o6
  rw [hc] at hQ;simp only [hd,l5,k48,aD];exact S.f103 hE h5 (by omega) c 48#16 _ _ fun H6 h6=>hQ _ h6.dropLast
 have hd6:decide (c.op=6#8)=false:=by simpa using o6
 simp only [hd6,q3,eB,aD]
 by_cases o3:c.op=3#8
 ·have hc:∀ n,s5.condOn c n yes no=s5.order64 c 48#16 no yes:=fun n=>by unfold LwD.condOn; rw [if_neg o1,if_neg o2,if_neg o5,if_neg o6,if_pos o3]
  have hd:decide (c.op=3#8)=true:=by simpa using o3
  rw [hc] at hQ;simp only [hd,l5,k48,aD];exact S.f103 hE h5 (by omega) c 48#16 _ _ fun H6 h6=>hQ _ h6.dropLast
 have hd3:decide (c.op=3#8)=false:=by simpa using o3
 simp only [hd3,q4,eB,aD]
 by_cases o4:c.op=4#8
 ·have hc:∀ n,s5.condOn c n yes no=s5.order64 c 32#16 no yes:=fun n=>by unfold LwD.condOn; rw [if_neg o1,if_neg o2,if_neg o5,if_neg o6,if_neg o3,if_pos o4]
  have hd:decide (c.op=4#8)=true:=by simpa using o4
  rw [hc] at hQ;simp only [hd,l5,k32,aD];exact S.f103 hE h5 (by omega) c 32#16 _ _ fun H6 h6=>hQ _ h6.dropLast
 have hd4:decide (c.op=4#8)=false:=by simpa using o4
 simp only [hd4,q7,eB,aD]
 by_cases o7:c.op=7#8
 ·have hc:∀ n,s5.condOn c n yes no=((((s5.put (gU (aCx (wU c.mask)))).put (pIf 16#16 (wU c.value) n no)).second c n).put (gU (aCx (aAi c.mask)))).put (pIf 16#16 (aAi c.value) yes no):=fun n=>by unfold LwD.condOn; rw [if_neg o1,if_neg o2,if_neg o5,if_neg o6,if_neg o3,if_neg o4,if_pos o7]
  have hd:decide (c.op=7#8)=true:=by simpa using o7
  have hm:∀ k,oN 84 0 0 k=(aCx k).v:=fun _=>rfl;rw [hc] at hQ;simp only [hd,b5,c2,ks,kh,aD];refine S.f33 hE _ fun H6 e6 =>?_;rw [hm];refine S.f49 hE (h5.grow e6) (by omega) _ fun H7 h7 =>?_
  simp only [k16,aD];refine S.f46 hE h7 (by simp only [cI]; omega) 16#16 _ _ _ fun H8 h8 =>?_
  have b8:=h8.cload;simp only [b8,aD];refine S.f104 hE h8 (by simp only [cI]; omega) c _ fun H9 h9 =>?_
  have b9:=h9.box;simp only [b9,c2,kl,aD];refine S.f33 hE _ fun H10 e10 =>?_;rw [hm];refine S.f49 hE (h9.grow e10) (by simp only [cI,iT]; omega) _ fun H11 h11 =>?_
  simp only [k16,aD];refine S.f46 hE h11 (by simp only [cI,iT]; omega) 16#16 _ _ _ fun H12 h12 =>?_
  exact hQ _ h12.dropLast
 have hd7:decide (c.op=7#8)=false:=by simpa using o7
 have hc:∀ n,s5.condOn c n yes no=s5.put (vR no):=fun n=>by unfold LwD.condOn; rw [if_neg o1,if_neg o2,if_neg o5,if_neg o6,if_neg o3,if_neg o4,if_neg o7]
 rw [hc] at hQ;simp only [hd7,aD];exact S.f44 hE h5 (by omega) no fun H6 h6=>hQ _ h6.dropLast
end
end Go.AM
end
section
namespace Go.AM
set_option maxRecDepth 20000
def wC (b:iF):Nat:=12*b.conds.length+5
def wB (l:List iF):Nat:=(l.map wC).sum+1
section
variable {E:Sy} {H H' H0 Z:AH} {Q:Value->AH->Prop} {X:List Res} {lw m:Nat} {s:LwD}
theorem Ext.row (e:Ext H H') {b o n:Nat} {c:List Value} (hr:(H.get b).row o n=some c):(H'.get b).row o n=some c:=by
 have:H'.get b=H.get b:=e.obj (o:=H.get b) (fun hd=>by rw [hd] at hr; cases hr) rfl
 rw [this]; exact hr
theorem aEB (no:Nat) (l:List cO) (s:LwD) {j:Nat} (hj:j<l.length):LwD.conds no (l.take (j+1)) s=LwD.condStep no (LwD.conds no (l.take j) s) l[j]:=by
 unfold LwD.conds;rw [List.take_succ,List.getElem?_eq_getElem hj,List.foldl_append]; rfl
theorem qB (no:Nat):∀ (l:List cO) (s:LwD),(LwD.conds no l s).big<=s.big+12*l.length
 | [],s=>by simp [LwD.conds]
 | c :: l,s=>by
  have h1:=qB no l (LwD.condStep no s c)
  have h2:(LwD.condStep no s c).big<=s.big+12:=by
   unfold LwD.condStep;have:=aCQ s.new c (s.last+1) no;simp only [cI,dI] at *;omega
  show (LwD.conds no l (LwD.condStep no s c)).big<=_
  simp only [List.length_cons];omega
theorem zS (s:LwD) (b:iF):(s.branch b).big<=s.big+wC b:=by
 unfold LwD.branch wC;have h1:=qB (s.last+1) b.conds s.new;have h2:=xC (LwD.conds (s.last+1) b.conds s.new) b.action;simp only [cI,dI] at *;omega
theorem uF:∀ (l:List iF) (s:LwD),(l.foldl LwD.branch s).big<=s.big+(l.map wC).sum
 | [],s=>by simp
 | b :: l,s=>by
  have h1:=uF l (s.branch b);have h2:=zS s b;simp only [List.foldl_cons,List.map_cons,List.sum_cons];omega
theorem aCc (l:List iF) (s:LwD):(LwD.branches l s).big<=s.big+wB l:=by
 unfold LwD.branches wB;have:=uF l s;simp only [cI];omega
theorem aCX (hE:aU E) {b:iF} {cv:Value} (hv:Rows H0 4 cv (fX b.conds)) {tb:Nat} (h:Lw H0 Z H lw m s (X++[aF tb [cv,u32 b.action]])) (hb:s.big+12*b.conds.length<2 ^ 25) (no:Nat) (hl:b.conds.length<2 ^ 30) {t10:Value} {ln j:Nat} (hj:j<2 ^ 30) {X0:List Value->AH->Prop}
  (next:∀ H',Lw H0 Z H' lw m ((((LwD.conds no b.conds s).act b.action).1.put (vR ((LwD.conds no b.conds s).act b.action).2)).put (jK no)) X->X0 [ptr lw 0,t10,vi ln,vi ((j+1:Nat):Int)] H') :
  aM (fun l H X1=>F.f99_l2 E Q X0 (nth l 0) (nth l 1) (nth l 2) (nth l 3) (nth l 4) (nth l 5) (nth l 6) (nth l 7) (nth l 8) H X1) [ptr lw 0,ptr tb 0,vi no,t10,vi ln,vi j,cv,vi b.conds.length,(.int .i64 0)] H:=by
 have i0:(.int .i64 0:Value)=vi ((0:Nat):Int):=rfl;rw [i0];refine aM.count b.conds.length (fun k ls H'=>ls=[ptr lw 0,ptr tb 0,vi no,t10,vi ln,vi j,cv,vi b.conds.length,vi k]/\Lw H0 Z H' lw m (LwD.conds no (b.conds.take k) s) (X++[aF tb [cv,u32 b.action]])) ?_ ⟨rfl,by simpa [LwD.conds] using h⟩
 rintro k _ H1 X1 hk ih ⟨rfl,g⟩;rcases Nat.lt_or_ge k b.conds.length with hlt | hge
 ·have hc:=hv.mono g.ext
  obtain ⟨bb,o,f1,f2⟩:=hc.ix (i:=k) (by simpa [fX] using hlt)
  have hrow:(fX b.conds)[k]'(by simpa [fX] using hlt)=b.conds[k].cells:=by simp [fX]
  rw [hrow] at f2;have lo:aE 4 (ptr bb o) H1=some b.conds[k].v:=by rw [aL,f2]; rfl
  have hlt':(k:Int)<b.conds.length:=by omega
  have hbg:=qB no (b.conds.take k) s;have hln:(b.conds.take k).length=k:=by rw [List.length_take]; omega
  rw [hln] at hbg;have hnext:=aEB no b.conds s hlt;have hinc:=cU (i:=k) (by omega)
  generalize b.conds[k]=c at *;generalize LwD.conds no (b.conds.take k) s=s1 at *;have g1:=g.newbox c.cells;have hst:=tZ c H1;simp only [F.f99_l2,aV,hlt',decide_true,f1,lo,aP,hst,aD];generalize H1.new (.cells c.cells none)=H2 at *;generalize H1.next=t at *;refine S.f47 hE g1 (by omega) fun H3 g2 =>?_
  have l2:=g2.cload;simp only [l2,aD];refine S.f101 hE g2 (by simp only [dI]; omega) c _ _ fun H4 g3 =>?_
  have hb4:=aCQ s1.new c (s1.last+1) no;simp only [dI] at hb4;simp only [aD];refine S.f45 hE g3 (by omega) _ fun H5 g4 =>?_
  simp only [hinc,aD];refine ih hlt _ _ ⟨rfl,?_⟩;rw [hnext];exact g4.dropLast
 ·have hke:k=b.conds.length:=by omega
  subst hke;rw [List.take_length] at g;have hlt':¬ ((b.conds.length:Int)<b.conds.length):=by omega
  have hbg:=qB no b.conds s;have hbx:=g.box;have hinc:=cU (i:=j) (by omega)
  generalize LwD.conds no b.conds s=s1 at *;simp only [F.f99_l2,aV,hlt',decide_false,hbx,aD];refine S.f98 hE g (by omega) _ fun H2 g2 =>?_
  have hb2:=xC s1 b.action;refine S.f44 hE g2 (by omega) _ fun H3 g3 =>?_
  simp only [aD];refine S.f45 hE g3 (by simp only [cI]; omega) _ fun H4 g4 =>?_
  simp only [hinc,aD];exact next _ g4.dropLast
theorem S.f99 (hE:aU E) {l:List iF} {v:Value} (hv:dH (fF 0) H0 2 v l) (h:Lw H0 Z H lw m s X) (hb:s.big+wB l<2 ^ 25) (hl:l.length<2 ^ 30) (hQ:∀ H',Lw H0 Z H' lw m (LwD.branches l s) X->Q (.tuple #[]) H'):E.call (E.fid i.f99) [ptr lw 0,v] H Q:=by
 apply hE.f99;have i0:(.int .i64 0:Value)=vi ((0:Nat):Int):=rfl;have hlv:=hv.lenSlc;simp only [F.f99,hlv,i0,aD];refine aM.count l.length (fun k ls H'=>ls=[ptr lw 0,v,vi l.length,vi k]/\Lw H0 Z H' lw m ((l.take k).foldl LwD.branch s) X) ?_ ⟨rfl,by simpa using h⟩
 rintro k _ H1 X1 hk ih ⟨rfl,g⟩;have hbg:=uF (l.take k) s;rcases Nat.lt_or_ge k l.length with hlt | hge
 ·obtain ⟨bb,o,cs,f1,f2,f3⟩:=hv.ix hlt
  have f2:=g.ext.row f2;obtain ⟨f0,cv,rfl,f5,_⟩:=f3;have hcv:plain1 cv=true:=f5.plain;have lo:aE 2 (ptr bb o) H1=some (.agg [cv,u32 l[k].action].toArray):=by rw [aL,f2]; rfl
  have hlt':(k:Int)<l.length:=by omega
  have hsum:((l.take k).map wC).sum+wC l[k]<=(l.map wC).sum:=by
   have h1:l=l.take k++l[k] :: l.drop (k+1):=by rw [List.getElem_cons_drop,List.take_append_drop]
   conv=>rhs; rw [h1]
   simp only [List.map_append,List.map_cons,List.sum_append,List.sum_cons];omega
  have hstep:(l.take (k+1)).foldl LwD.branch s=((l.take k).foldl LwD.branch s).branch l[k]:=by
   rw [List.take_succ,List.getElem?_eq_getElem hlt,List.foldl_append]; rfl
  have hbr:=zS ((l.take k).foldl LwD.branch s) l[k];unfold wB at hb;generalize l[k]=b at *;generalize (l.take k).foldl LwD.branch s=s1 at *;have hst:aG 2 (ptr H1.next 0) (.agg [cv,u32 b.action].toArray) (H1.new (.cells [(.slice none 0 0),(.int .u32 0)] none))=some (H1.new (.cells [cv,u32 b.action] none)):=lG rfl rfl (by simp [hcv])
  have g1:=g.newbox [cv,u32 b.action];simp only [F.f99_l1,aV,hlt',decide_true,f1,lo,aP,hst,aD];generalize H1.new (.cells [cv,u32 b.action] none)=H2 at *;generalize H1.next=t at *;have hwc:wC b=12*b.conds.length+5:=rfl;rw [hwc] at hsum hbr;refine S.f47 hE g1 (by omega) fun H3 g2 =>?_
  have b3:=g2.box;have hcl:=f5.lenSlc;have hcl2:(fX b.conds).length=b.conds.length:=by simp [fX]
  rw [hcl2] at hcl;simp only [b3,hcl,aD];refine aCX hE f5 g2 (by simp only [dI]; omega) _ f0 (by omega) fun H4 g3 =>?_
  refine ih hlt _ _ ⟨rfl,?_⟩;rw [hstep];exact g3
 ·have hke:k=l.length:=by omega
  subst hke;rw [List.take_length] at g hbg;have hlt':¬ ((l.length:Int)<l.length):=by omega
  obtain ⟨lv,ov,hbx⟩:=g.cells;unfold wB at hb;unfold LwD.branches at hQ;simp only [F.f99_l1,aV,hlt',decide_false,hbx,aD];exact S.f44 hE g (by omega) _ hQ
end
end Go.AM
end
section
namespace Go.AM
set_option maxRecDepth 20000
section
variable {E:Sy} {H H' H0 Z:AH} {Q:Value->AH->Prop} {X:List Res} {lw m:Nat} {s:LwD}
theorem dH.cut {α:Type} {R:AH->α->List Value->Prop} {sz:Nat} {v:Value} {l:List α} (h:dH R H sz v l) {lo hi:Option Value} {i j:Nat} (hlo:lo=some (vi i)\/lo=none/\i=0) (hhi:hi=some (vi j)\/hi=none/\j=l.length) (hij:i<=j) (hj:j<=l.length) :
  dH R H sz (lV sz v i j) ((l.take j).drop i):=by
 obtain ⟨rows,h1,h2,h3⟩:=h;obtain ⟨a,b⟩:=h1.slice' (lo:=some (vi i)) (hi:=some (vi j)) (.inl rfl) (.inl rfl) hij (by omega)
 refine ⟨_,b,by simp [h2],fun k k1 k2 =>?_⟩
 simp only [List.getElem_drop,List.getElem_take];exact h3 _ _ _
theorem dH.sl {α:Type} {R:AH->α->List Value->Prop} {sz:Nat} {v:Value} {l:List α} (h:dH R H0 sz v l) (hm:∀ (H H':AH) (a:α) (c:List Value),R H a c->Sub H H'->R H' a c) (e:Ext H0 H) {lo hi:Option Value} {i j:Nat} (hlo:lo=some (vi i)\/lo=none/\i=0) (hhi:hi=some (vi j)\/hi=none/\j=l.length) (hij:i<=j) (hj:j<=l.length) :
  iN sz v lo hi none H=some (lV sz v i j):=by
 obtain ⟨rows,h1,h2,h3⟩:=h.sub hm e.sub;exact (h1.slice' hlo (by rw [h2]; exact hhi) hij (by omega)).1
theorem kD.sub':∀ (H H':AH) (a:iG) (c:List Value),kD 0 H a c->Sub H H'->kD 0 H' a c:=fun _ _ _ _ h e=>h.sub e
theorem aDP {l:List iG} {k:Nat} (hk:k<l.length):aAc l k=l[k].number:=by simp [aAc,hk]
theorem nY (st:List (BitVec 32×Nat)):∀ (f:Nat) (l:List iG) (s:LwD),l.length<f->(LwD.choose st f l s).big+(if l.length=0 then 0 else 6)<=s.big+7*l.length+1
 | 0,l,s,h=>by omega
 | f+1,l,s,h=>by
  unfold LwD.choose
  split
  ·rename_i h0
   rw [cI]; omega
  ·rename_i h0
   split
   ·rw [cI]; omega
   ·have h1:=nY st f (l.take (l.length / 2)) ((s.new.new.put (pIf 48#16 (aAc l (l.length / 2)) (s.last+2) (s.last+1))).put (jK (s.last+1))) (by rw [List.length_take]; omega)
    have h2:=nY st f (l.drop (l.length / 2)) ((LwD.choose st f (l.take (l.length / 2)) ((s.new.new.put (pIf 48#16 (aAc l (l.length / 2)) (s.last+2) (s.last+1))).put (jK (s.last+1)))).put (jK (s.last+2))) (by rw [List.length_drop]; omega)
    rw [if_neg (by rw [List.length_take]; omega),List.length_take] at h1
    rw [if_neg (by rw [List.length_drop]; omega),List.length_drop] at h2
    simp only [cI,dI] at *;omega
theorem S.f100 (hE:aU E) {st:List (BitVec 32×Nat)} {sm:Nat}:∀ (f:Nat) {l:List iG} {v:Value} {s:LwD} {H:AH} {Q:Value->AH->Prop},l.length<f->dH (kD 0) H0 2 v l->Lw H0 Z H lw m s (cF u32 iH sm st :: X)->s.big+7*l.length+1<2 ^ 25 ->
  (∀ H',Lw H0 Z H' lw m (LwD.choose st f l s) (cF u32 iH sm st :: X)->Q (.tuple #[]) H')->E.call (E.fid i.f100) [ptr lw 0,v,.map (some sm)] H Q
 | 0,_,_,_,_,_,hf,_,_,_,_=>by omega
 | f+1,l,v,s,H,Q,hf,hv,h,hb,hQ=>by
  apply hE.f100;have hlv:=hv.lenSlc;have i0:(.int .i64 0:Value)=vi ((0:Nat):Int):=rfl;have i1:(.int .i64 1:Value)=vi ((1:Nat):Int):=rfl;obtain ⟨lv,ov,hbx⟩:=h.cells;have k16:(.int .u16 16:Value)=u16 16#16:=rfl;have k48:(.int .u16 48:Value)=u16 48#16:=rfl;unfold LwD.choose at hQ;simp only [F.f100,hlv,i0,eU,aD]
  by_cases h0:l.length=0
  ·have hd:decide ((l.length:Int)=((0:Nat):Int))=true:=decide_eq_true (by omega)
   rw [if_pos h0] at hQ;simp only [hd,hbx,aD];exact S.f44 hE h (by omega) _ hQ
  have hd0:decide ((l.length:Int)=((0:Nat):Int))=false:=decide_eq_false (by omega)
  rw [if_neg h0] at hQ;simp only [hd0,i1,eU,aD]
  by_cases h1:l.length=1
  ·have hd:decide ((l.length:Int)=((1:Nat):Int))=true:=decide_eq_true (by omega)
   rw [if_pos h1,aDP (by omega)] at hQ
   obtain ⟨bb,o,cs,f1,f2,f3⟩:=hv.ix (i:=0) (by omega)
   have f2:=h.ext.row f2;have f1:aK 2 v (.int .i64 0)=some (ptr bb o):=f1;obtain ⟨bv,rfl,_⟩:=f3;have hce:((H.get bb).cell o)=some (u32 l[0].number):=by have:=mW f2 (j:=0) (by omega); simpa using this
   have hlk:AM.look 0 (.int .i64 0) false (.map (some sm)) (u32 l[0].number) H=some (vi (aEo l[0].number st:Nat)):=by
    obtain ⟨lv,ov,h⟩:=h;exact (h.mapAt (k:=4) (fk:=u32) (fv:=iH) (r:=sm) (l:=st) rfl).look_nat l[0].number false
   simp only [hd,f1,hce,hlk,hbx,k16,aD];exact S.f46 hE h (by omega) 16#16 _ _ _ hQ
  have hd1:decide ((l.length:Int)=((1:Nat):Int))=false:=decide_eq_false (by omega)
  rw [if_neg h1] at hQ;have hq:=kV l.length 2 (by decide) (by omega)
  have hhl:l.length / 2<l.length:=by omega
  have hcl:(l.take (l.length / 2)).length=l.length / 2:=by rw [List.length_take]; omega
  have hcr:(l.drop (l.length / 2)).length=l.length - l.length / 2:=by rw [List.length_drop]
  rw [aDP hhl] at hQ;obtain ⟨bb,o,cs,f1,f2,f3⟩:=hv.ix (i:=l.length / 2) hhl;obtain ⟨bv,rfl,_⟩:=f3;have hlow:=hv.cut (lo:=none) (hi:=some (vi (l.length / 2:Nat))) (i:=0) (j:=l.length / 2) (.inr ⟨rfl,rfl⟩) (.inl rfl) (Nat.zero_le _) (by omega)
  have hhigh:=hv.cut (lo:=some (vi (l.length / 2:Nat))) (hi:=none) (i:=l.length / 2) (j:=l.length) (.inl rfl) (.inr ⟨rfl,rfl⟩) (by omega) (Nat.le_refl _)
  have slow:∀ {H1:AH},Ext H0 H1->iN 2 v none (some (vi (l.length / 2:Nat))) none H1=some (lV 2 v 0 (l.length / 2)):=fun e=>hv.sl kD.sub' e (.inr ⟨rfl,rfl⟩) (.inl rfl) (Nat.zero_le _) (by omega)
  have shigh:∀ {H1:AH},Ext H0 H1->iN 2 v (some (vi (l.length / 2:Nat))) none none H1=some (lV 2 v (l.length / 2) l.length):=fun e=>hv.sl kD.sub' e (.inl rfl) (.inr ⟨rfl,rfl⟩) (by omega) (Nat.le_refl _)
  rw [List.drop_zero] at hlow;rw [List.take_length] at hhigh;have hbg:=nY st f (l.take (l.length / 2)) ((s.new.new.put (pIf 48#16 l[l.length / 2].number (s.last+2) (s.last+1))).put (jK (s.last+1))) (by omega)
  generalize hhf:l.length / 2=aFZ at *;simp only [hd1,hlv,hq,aD];refine S.f47 hE h (by omega) fun H3 g3 =>?_
  refine S.f47 hE g3 (by rw [dI]; omega) fun H4 g4 =>?_
  have f2:=g4.ext.row f2;have hce:((H4.get bb).cell o)=some (u32 l[aFZ].number):=by have:=mW f2 (j:=0) (by omega); simpa using this
  simp only [f1,hce,k48,aD];refine S.f46 hE g4 (by simp only [dI]; omega) 48#16 _ _ _ fun H5 g5 =>?_
  refine S.f45 hE g5 (by simp only [dI,cI]; omega) _ fun H6 g6 =>?_
  have sl6:=slow g6.ext;simp only [sl6,aD];refine S.f100 hE f (by omega) hlow g6 (by simp only [dI,cI]; omega) fun H7 g7 =>?_
  simp only [aD];have hlow0:(l.take aFZ).length≠0:=by omega
  rw [if_neg hlow0] at hbg;simp only [dI,cI] at hbg;refine S.f45 hE g7 (by show _<_; exact Nat.lt_of_le_of_lt (Nat.le_trans (Nat.le_add_right _ 6) hbg) (by omega)) _ fun H8 g8 =>?_
  have sl8:=shigh g8.ext;simp only [sl8,aD];refine S.f100 hE f (by omega) hhigh g8 (by rw [cI]; exact Nat.lt_of_le_of_lt (Nat.add_le_add_right (Nat.add_le_add_right (Nat.add_le_add_right (Nat.le_sub_of_add_le hbg) 1) _) 1) (by omega)) hQ
end
end Go.AM
end
section
namespace Go.AM
set_option maxRecDepth 20000
section
variable {E:Sy} {H H' H0 Z:AH} {Q:Value->AH->Prop} {X:List Res} {lw m:Nat} {s:LwD}
theorem yV:∀ (l:List (BitVec 32)) (A:List (BitVec 32×Nat)) (s:LwD),(l.foldl (LwD.end1 A) s).big=s.big+2*l.length
 | [],_,s=>by simp
 | a :: l,A,s=>by
  rw [List.foldl_cons,yV l A _];simp only [LwD.end1,cI,List.length_cons]; omega
theorem S.f102 (hE:aU E) (h:Lw H0 Z H lw m s X) (hb:s.big<2 ^ 26) (hQ:∀ H',Lw H0 Z H' lw m s.ends X->Q (.tuple #[]) H'):E.call (E.fid i.f102) [ptr lw 0] H Q:=by
 apply hE.f102;obtain ⟨lv,ov,h⟩:=h;have hbx:=h.box (k:=0) rfl;have hrw:=h.rows (k:=3) (sz:=1) (v:=ov) (rows:=lR s.order) rfl;have hlen:(lR s.order).length=s.order.length:=by simp [lR]
 have hlv:=hrw.lenSlc;rw [hlen] at hlv;have i0:(.int .i64 0:Value)=vi ((0:Nat):Int):=rfl;simp only [F.f102,hbx,hlv,i0,aD];refine aM.count s.order.length (fun k ls H'=>ls=[ptr lw 0,ov,vi s.order.length,vi k]/\∃ s1,s1=(s.order.take k).foldl (LwD.end1 s.acts) s/\s1.acts=s.acts/\s1.order=s.order/\LwO H0 Z H' lw m ov s1 X) ?_ ⟨rfl,s,by simp,rfl,rfl,lv,h⟩
 rintro k _ H1 X1 hk ih ⟨rfl,s1,hs1,ha,ho,lv1,g⟩;have hob:s.order.length<=s.big:=by unfold LwD.big; omega
 rcases Nat.lt_or_ge k s.order.length with hlt | hge
 ·have hlt':(k:Int)<s.order.length:=by omega
  have hbg:=yV (s.order.take k) s.acts s;rw [<- hs1,List.length_take] at hbg;have hrw:=g.rows (k:=3) (sz:=1) (v:=ov) (rows:=lR s1.order) rfl;rw [ho] at hrw;obtain ⟨bb,o,f1,f2⟩:=hrw.ix (i:=k) (by omega)
  have hrow:(lR s.order)[k]'(by omega)=[u32 s.order[k]]:=by simp [lR]
  rw [hrow] at f2;have hce:((H1.get bb).cell o)=some (u32 s.order[k]):=by have:=mW f2 (j:=0) (by omega); simpa using this
  have hb1:=g.box (k:=0) rfl
  have hlk:AM.look 0 (.int .i64 0) false (.map (some m)) (u32 s.order[k]) H1=some (vi (aEo s.order[k] s.acts:Nat)):=by
   have:=(g.mapAt (k:=2) (fk:=u32) (fv:=iH) (r:=m) (l:=s1.acts) rfl).look_nat s.order[k] false;rw [ha] at this;exact this
  have hstep:(s.order.take (k+1)).foldl (LwD.end1 s.acts) s=LwD.end1 s.acts s1 s.order[k]:=by
   rw [List.take_succ,List.getElem?_eq_getElem hlt,List.foldl_append,<- hs1]; rfl
  have hinc:=cU (i:=k) (by omega)
  generalize s.order[k]=a at *;simp only [F.f102_l1,aV,hlt',decide_true,f1,hce,hb1,hlk,aD];refine aNH hE ⟨lv1,g⟩ (by omega) _ fun H2 g2 =>?_
  simp only [aD];refine S.f34 hE a fun H3 e3 =>?_;have hv:oN 6 0 0 a=(aOC a).v:=rfl;rw [hv];refine aLE hE (g2.grow e3) (by rw [cI]; omega) _ fun H4 g4 =>?_
  simp only [hinc,aD];exact ih hlt _ _ ⟨rfl,_,hstep.symm,ha,ho,g4⟩
 ·have hke:k=s.order.length:=by omega
  subst hke;rw [List.take_length] at hs1;have hlt':¬ ((s.order.length:Int)<s.order.length):=by omega
  simp only [F.f102_l1,aV,hlt',decide_false,aD];refine hQ _ ⟨lv1,ov,?_⟩;unfold LwD.ends;rw [<- hs1];exact g
theorem S.f48 (hE:aU E) (h:Lw H0 Z H lw m s X) (hb:s.big<2 ^ 30) (hQ:∀ v H',Ext H0 H'->Rows H' 7 v (bN s.parts)->Q v H'):E.call (E.fid i.f48) [ptr lw 0] H Q:=by
 apply hE.f48;obtain ⟨lv,ov,h⟩:=h;have g:=h.newroom 7;have hbx:=g.box (k:=0) (b:=lw) (c:=[lv,vi s.last,vi s.other,.map (some m),ov]) rfl;have hrw:=g.rows (k:=1) (sz:=7) (v:=lv) (rows:=bN s.parts) rfl;have hlen:(bN s.parts).length<2 ^ 30:=by unfold LwD.big at hb; simp only [bN,List.length_map]; omega
 have hbS:bR 0 7 #[(.int .u8 0),(.int .i64 0),(.int .i64 0),(.int .u16 0),(.int .u8 0),(.int .u8 0),(.int .u32 0)] []=some (.cells [] none,dN 0 0):=aBJ 7 [u8 0#8,vi 0,vi 0,u16 0#16,u8 0#8,u8 0#8,u32 0#32] rfl
 have hk:(lwL lw m lv ov s++X++[bP 7 (slc H.next 0 0 0) []])[4+X.length]? = some (bP 7 (slc H.next 0 0 0) []):=by
  have hll:(lwL lw m lv ov s++X).length=4+X.length:=by rw [List.length_append]; rfl
  rw [List.getElem?_append_right (by omega),hll,Nat.sub_self]; rfl
 obtain ⟨v',H3,a1,a2,g2⟩:=g.app (k:=4+X.length) (bytes:=32) hk hrw (by simp [bN,bM.cells]) (by decide) (by decide) (by simp; omega) (by simp; omega)
 simp only [F.f48,eY,hbS,AM.aW,cW,hbx,a1,aD]
 have hl4:4+X.length<(lwL lw m lv ov s++X++[bP 7 (slc H.next 0 0 0) []]).length:=by
  have hll:(lwL lw m lv ov s++X).length=4+X.length:=by rw [List.length_append]; rfl
  rw [List.length_append,hll]; simp
 refine hQ _ _ g2.ext (g2.rows (k:=4+X.length) (sz:=7) ?_);rw [List.getElem?_set_self hl4,List.nil_append]
end
end Go.AM
end
section
namespace Go.AM
set_option maxRecDepth 20000
def wK (c:iG):Nat:=wB c.branches+1
def wP (p:sM):Nat:=20+8*p.cases.length+(p.cases.map wK).sum
section
variable {E:Sy} {H H' H0 Z:AH} {Q:Value->AH->Prop} {X:List Res} {lw m:Nat} {s:LwD}
theorem sF:∀ (l:List iG) (x:LwD×List (BitVec 32×Nat)),(LwD.starts l x).1.big=x.1.big+l.length
 | [],x=>by simp [LwD.starts]
 | c :: l,x=>by
  show (LwD.starts l (LwD.start1 x c)).1.big=_
  rw [sF l];simp only [LwD.start1,dI,List.length_cons]; omega
theorem aGa (st:List (BitVec 32×Nat)) (s:LwD) (c:iG):(LwD.case1 st s c).big<=s.big+wK c:=by
 unfold LwD.case1 wK;have:=aCc c.branches (s.put (jK (aEo c.number st)));rw [cI] at this;omega
theorem aA5 (st:List (BitVec 32×Nat)):∀ (l:List iG) (s:LwD),(LwD.cases st l s).big<=s.big+(l.map wK).sum
 | [],s=>by simp [LwD.cases]
 | c :: l,s=>by
  have h1:=aA5 st l (LwD.case1 st s c);have h2:=aGa st s c
  show (LwD.cases st l (LwD.case1 st s c)).big<=_
  simp only [List.map_cons,List.sum_cons];omega
theorem aJd (s:LwD) (n:Nat):(s.setO n).big=s.big:=rfl
theorem aDO (d:BitVec 32):(aIw d).big<=2:=by
 unfold aIw;have h1:=xC LwD.zero d;have h0:LwD.zero.big=0:=rfl;rw [aJd]; omega
theorem aDE (d:BitVec 32):(aEc d).1.big<=4:=by
 unfold aEc;have h1:=xC (aIw d) 2147483648#32;have h0:=aDO d;omega
theorem aEM (d:BitVec 32):(hP d).big<=8:=by
 unfold hP;have h1:=aDE d;simp only [cI,dI];omega
theorem Lw.mapset {st:List (BitVec 32×Nat)} {sm:Nat} (h:Lw H0 Z H lw m s (cF u32 iH sm st :: X)) (k:BitVec 32) (v:Nat):∃ H',cN 0 (.map (some sm)) (u32 k) (vi v) H=some H'/\Lw H0 Z H' lw m s (cF u32 iH sm (dQ k v st) :: X):=by
 obtain ⟨lv,ov,h⟩:=h;obtain ⟨H2,m1,g2⟩:=h.mapset (n:=4) (r:=sm) (l:=st) (fk:=u32) (fv:=iH) rfl lQ k v;exact ⟨H2,m1,lv,ov,g2⟩
theorem Lw.look2 {st:List (BitVec 32×Nat)} {sm:Nat} (h:Lw H0 Z H lw m s (cF u32 iH sm st :: X)) (k:BitVec 32):AM.look 0 (.int .i64 0) false (.map (some sm)) (u32 k) H=some (vi (aEo k st:Nat)):=by
 obtain ⟨lv,ov,h⟩:=h;exact (h.mapAt (k:=4) (fk:=u32) (fv:=iH) (r:=sm) (l:=st) rfl).look_nat k false
theorem Lw.setOther (h:Lw H0 Z H lw m s X) (n:Nat):∃ H',aQ (ptr lw 2) (vi n) H=some H'/\Lw H0 Z H' lw m (s.setO n) X:=by
 obtain ⟨lv,ov,h⟩:=h;have hbx:=h.box (k:=0) rfl
 have hst:aQ (ptr lw 2) (vi n) H=some (H.put lw (.cells [lv,vi s.last,vi n,.map (some m),ov] none)):=by
  rw [aJ,if_pos (show plain1 (vi n)=true from rfl),hbx]; rfl
 exact ⟨_,hst,lv,ov,h.put (k:=0) rfl [lv,vi s.last,vi n,.map (some m),ov]⟩
theorem aDR {α:Type} (f:α->Nat) {l:List α} {k:Nat} (hk:k<l.length):((l.take k).map f).sum+f l[k]<=(l.map f).sum:=by
 have h1:l=l.take k++l[k] :: l.drop (k+1):=by rw [List.getElem_cons_drop,List.take_append_drop]
 conv=>rhs; rw [h1]
 simp only [List.map_append,List.map_cons,List.sum_append,List.sum_cons];omega
theorem aJy (hE:aU E) {l:List iG} {v:Value} (hv:dH (kD 0) H0 2 v l) (hl:l.length<2 ^ 24) (hlb:∀ c∈l,c.branches.length<2 ^ 30) {st:List (BitVec 32×Nat)} {sm:Nat} (h:Lw H0 Z H lw m s [cF u32 iH sm st]) (hb:s.big+(l.map wK).sum<2 ^ 25)
  (hQ:∀ v H',Ext H0 H'->Rows H' 7 v (bN (LwD.cases st l s).ends.parts)->Q v H') :
  aM (fun l H X0=>F.f97_l2 E Q (nth l 0) (nth l 1) (nth l 2) (nth l 3) (nth l 4) H X0) [ptr lw 0,.map (some sm),v,vi l.length,(.int .i64 0)] H:=by
 have i0:(.int .i64 0:Value)=vi ((0:Nat):Int):=rfl;rw [i0];refine aM.count l.length (fun k ls H'=>ls=[ptr lw 0,.map (some sm),v,vi l.length,vi k]/\Lw H0 Z H' lw m (LwD.cases st (l.take k) s) [cF u32 iH sm st]) ?_ ⟨rfl,by simpa [LwD.cases] using h⟩
 rintro k _ H1 X1 hk ih ⟨rfl,g⟩;have hbg:=aA5 st (l.take k) s;rcases Nat.lt_or_ge k l.length with hlt | hge
 ·obtain ⟨bb,o,cs,f1,f2,f3⟩:=hv.ix hlt
  have f2:=g.ext.row f2;obtain ⟨bv,rfl,f4⟩:=f3;have hbv:plain1 bv=true:=by obtain ⟨rows,h1,_⟩:=f4; exact h1.plain
  have lo:aE 2 (ptr bb o) H1=some (.agg [u32 l[k].number,bv].toArray):=by rw [aL,f2]; rfl
  have hlt':(k:Int)<l.length:=by omega
  have hsum:=aDR wK hlt
  have hstep:LwD.cases st (l.take (k+1)) s=LwD.case1 st (LwD.cases st (l.take k) s) l[k]:=by
   unfold LwD.cases;rw [List.take_succ,List.getElem?_eq_getElem hlt,List.foldl_append]; rfl
  have hlk:=hlb l[k] (List.getElem_mem hlt);have hinc:=cU (i:=k) (by omega)
  generalize l[k]=c at *;generalize LwD.cases st (l.take k) s=s1 at *;have hst:aG 2 (ptr H1.next 0) (.agg [u32 c.number,bv].toArray) (H1.new (.cells [(.int .u32 0),(.slice none 0 0)] none))=some (H1.new (.cells [u32 c.number,bv] none)):=lG rfl rfl (by simp [hbv])
  have g1:=g.newbox [u32 c.number,bv];have b1:=g1.box;have k1:=g1.look2 c.number;have hw:wK c=wB c.branches+1:=rfl;simp only [F.f97_l2,aV,hlt',decide_true,f1,lo,aP,hst,b1,k1,aD];generalize H1.new (.cells [u32 c.number,bv] none)=H2 at *;generalize H1.next=t at *;refine S.f45 hE g1 (by omega) _ fun H3 g2 =>?_
  have b3:=g2.box;simp only [b3,aD];refine S.f99 hE f4 g2 (by rw [cI]; omega) hlk fun H4 g3 =>?_
  simp only [hinc,aD];refine ih hlt _ _ ⟨rfl,?_⟩;rw [hstep];exact g3.dropLast (X:=[cF u32 iH sm st])
 ·have hke:k=l.length:=by omega
  subst hke;rw [List.take_length] at g hbg;have hlt':¬ ((l.length:Int)<l.length):=by omega
  simp only [F.f97_l2,aV,hlt',decide_false,aD];refine S.f102 hE g (by omega) fun H2 g2 =>?_
  have hbe:=yV (LwD.cases st l s).order (LwD.cases st l s).acts (LwD.cases st l s);have hob:(LwD.cases st l s).order.length<=(LwD.cases st l s).big:=by unfold LwD.big; omega
  simp only [aD];refine S.f48 hE g2 ?_ hQ
  show ((LwD.cases st l s).order.foldl (LwD.end1 (LwD.cases st l s).acts) (LwD.cases st l s)).big<_
  omega
theorem S.f97 (hE:aU E) (p:sM) (cs:List Value) (hp:pJ H p cs) (hb:wP p<2 ^ 24) (hQ:∀ v H',Ext H H'->Rows H' 7 v (bN (aEC p).parts)->Q v H'):E.call (E.fid i.f97) [.agg cs.toArray] H Q:=by
 apply hE.f97;obtain ⟨v,rfl,hv⟩:=hp;have x1:Ext H (H.new (.cells [v,u32 p.default] none)):=(Ext.refl _).new _;have hb1:=AH.get_new_self H (.cells [v,u32 p.default] none);have hlv:=hv.lenSlc;have hv1:=hv.sub (fun _ _ _ _ h e=>kD.sub h e) x1.sub;have hmw:∀ (H:AH) (K:Value->AH->Prop),lM H K=K (.map (some H.next)) (H.new (.map [] 0 true)):=fun _ _=>rfl;simp only [F.f97,aZ,AM.aW,aS,List.toList_toArray,hmw,aD];have hn1:H.next+1=(H.new (.cells [v,u32 p.default] none)).next:=rfl;rw [hn1];generalize H.new (.cells [v,u32 p.default] none)=H1 at *;generalize H.next=t1 at *;clear hn1;have g1:=(Has.begin (Ext.refl H1) (Sub.refl H1)).newmap u32 iH;have hbv:∀ n:Nat,aX [(0,2),(2,1),(3,1),(4,1)] #[(.slice none 0 0),(.int .i64 0),(.int .i64 0),(.map none),(.slice none 0 0)] [(2,.map (some n))]=some (.agg [bL,vi ((0:Nat):Int),vi ((0:Nat):Int),.map (some n),bL].toArray):=fun _=>rfl;have x2:Ext H1 (H1.new (.map [] 0 true)):=(Ext.refl H1).new _;have hb2:=x2.cells hb1;simp only [hbv,aZ,AM.aW,aS,List.toList_toArray,aD];have hnx:(H1.new (.map [] 0 true)).next=H1.next+1:=rfl;generalize H1.new (.map [] 0 true)=H2 at *;generalize H1.next=m at *;have g2:=((g1.newbox [bL,vi ((0:Nat):Int),vi ((0:Nat):Int),.map (some m),bL]).nils 7).nils 1;have x3:=x2.new (.cells [bL,vi ((0:Nat):Int),vi ((0:Nat):Int),.map (some m),bL] none);generalize H2.new (.cells [bL,vi ((0:Nat):Int),vi ((0:Nat):Int),.map (some m),bL] none)=H3 at *;generalize H2.next=lw at *;have g3:Lw H1 H1 H3 lw m LwD.zero []:=⟨bL,bL,g2.perm ((List.Perm.swap _ _ _).trans ((List.Perm.swap _ _ _).cons _))⟩;have hb3:=x3.cells hb1;have kK:(.int .u32 2147483648:Value)=u32 2147483648#32:=rfl;have kA:(.int .u32 3221225534:Value)=u32 3221225534#32:=rfl;have k16:(.int .u16 16:Value)=u16 16#16:=rfl;have k4:(.int .u32 4:Value)=u32 4#32:=rfl;have k0:(.int .u32 0:Value)=u32 0#32:=rfl;have i0:(.int .i64 0:Value)=vi ((0:Nat):Int):=rfl;have hpc:wP p=20+8*p.cases.length+(p.cases.map wK).sum:=rfl;have hv4:∀ k,oN 32 0 0 k=(oO k).v:=fun _=>rfl;simp only [hb3,aD];refine S.f98 hE g3 (by decide) p.default fun H4 g4 =>?_
 obtain ⟨H5,st5,g5⟩:=g4.setOther (LwD.zero.act p.default).2;have g5:Lw H1 H1 H5 lw m (aIw p.default) []:=g5;have hg1:=aDO p.default;have hg2:=aDE p.default;simp only [st5,kK,aD];refine S.f98 hE g5 (by omega) 2147483648#32 fun H6 g6 =>?_
 have g6:Lw H1 H1 H6 lw m (aEc p.default).1 []:=g6;simp only [aD];refine S.f47 hE g6 (by omega) fun H7 g7 =>?_
 simp only [k4,aD];refine S.f32 hE 4#32 fun H8 e8 =>?_;rw [hv4];refine S.f49 hE (g7.grow e8) (by simp only [dI]; omega) _ fun H9 g9 =>?_
 simp only [k16,kA,aD];refine S.f46 hE g9 (by simp only [dI,cI]; omega) 16#16 _ _ _ fun H10 g10 =>?_
 simp only [aD];refine S.f45 hE g10 (by simp only [dI,cI]; omega) _ fun H11 g11 =>?_
 have g11:Lw H1 H1 H11 lw m (hP p.default) []:=g11;have hg0:=aEM p.default;simp only [hmw,aD]
 have g12:Lw H1 H1 (H11.new (.map [] 0 true)) lw m (hP p.default) [cF u32 iH H11.next ([]:List (BitVec 32×Nat))]:=by
  obtain ⟨lv,ov,g⟩:=g11;have:=g.newmap u32 iH;rw [List.append_assoc] at this;exact ⟨lv,ov,this⟩
 have hb12:=g12.ext.cells hb1;generalize H11.new (.map [] 0 true)=H12 at *;generalize H11.next=sm at *;simp only [hb12,hlv,i0,aD];have hlow3:zE p=LwD.starts p.cases (hP p.default,[]):=rfl;have hbs:(LwD.starts p.cases (hP p.default,[])).1.big=(hP p.default).big+p.cases.length:=sF p.cases (hP p.default,[]);refine aM.count p.cases.length (fun k ls H'=>ls=[ptr t1 0,ptr lw 0,.map (some sm),v,vi p.cases.length,vi k]/\Lw H1 H1 H' lw m (LwD.starts (p.cases.take k) (hP p.default,[])).1 [cF u32 iH sm (LwD.starts (p.cases.take k) (hP p.default,[])).2]) ?_ ⟨rfl,by simpa [LwD.starts] using g12⟩
 rintro k _ H13 X1 hk ih ⟨rfl,g⟩;have hbg:(LwD.starts (p.cases.take k) (hP p.default,[])).1.big=(hP p.default).big+(p.cases.take k).length:=sF (p.cases.take k) (hP p.default,[]);rw [List.length_take] at hbg;rcases Nat.lt_or_ge k p.cases.length with hlt | hge
 ·obtain ⟨bb,o,cs,f1,f2,f3⟩:=hv1.ix hlt
  have f2:=g.ext.row f2;obtain ⟨bv,rfl,f4⟩:=f3;have hbv:plain1 bv=true:=by obtain ⟨rows,h1,_⟩:=f4; exact h1.plain
  have lo:aE 2 (ptr bb o) H13=some (.agg [u32 p.cases[k].number,bv].toArray):=by rw [aL,f2]; rfl
  have hlt':(k:Int)<p.cases.length:=by omega
  have hstep:LwD.starts (p.cases.take (k+1)) (hP p.default,[])=LwD.start1 (LwD.starts (p.cases.take k) (hP p.default,[])) p.cases[k]:=by
   unfold LwD.starts;rw [List.take_succ,List.getElem?_eq_getElem hlt,List.foldl_append]; rfl
  have hinc:=cU (i:=k) (by omega)
  generalize p.cases[k]=c at *;generalize LwD.starts (p.cases.take k) (hP p.default,[])=x1 at *;have hst:aG 2 (ptr H13.next 0) (.agg [u32 c.number,bv].toArray) (H13.new (.cells [(.int .u32 0),(.slice none 0 0)] none))=some (H13.new (.cells [u32 c.number,bv] none)):=lG rfl rfl (by simp [hbv])
  have g1:=g.newbox [u32 c.number,bv];have b1:=g1.box;simp only [F.f97_l1,aV,hlt',decide_true,f1,lo,aP,hst,b1,aD];generalize H13.new (.cells [u32 c.number,bv] none)=H14 at *;generalize H13.next=t at *;refine S.f47 hE g1 (by omega) fun H15 g2 =>?_
  have b2:=g2.box;refine ⟨by rw [aN,aN,b1,b2],?_⟩
  obtain ⟨H16,m1,g3⟩:=g2.mapset (X:=[aF t [u32 c.number,bv]]) c.number (x1.1.last+1);simp only [m1,hinc,aD];refine ih hlt _ _ ⟨rfl,?_⟩;rw [hstep];exact g3.dropLast (X:=[cF u32 iH sm _])
 ·have hke:k=p.cases.length:=by omega
  subst hke;rw [List.take_length] at g hbg;have hlt':¬ ((p.cases.length:Int)<p.cases.length):=by omega
  simp only [F.f97_l1,aV,hlt',decide_false,k0,aD];have g:Lw H1 H1 H13 lw m (zE p).1 [cF u32 iH sm (zE p).2]:=g;refine S.f32 hE 0#32 fun H14 e14 =>?_;rw [hv4];have hb3:(zE p).1.big<=8+p.cases.length:=by rw [hlow3,hbs]; omega
  refine S.f49 hE (g.grow e14) (by omega) _ fun H15 g2 =>?_
  have hb15:=g2.ext.cells hb1;simp only [hb15,aD];refine S.f100 hE (X:=[]) (p.cases.length+1) (Nat.lt_succ_self _) hv1 g2 (by rw [cI]; omega) fun H16 g3 =>?_
  have hbc:=nY (zE p).2 (p.cases.length+1) p.cases ((zE p).1.put (gU (oO 0#32))) (Nat.lt_succ_self _);rw [cI] at hbc;have g3:Lw H1 H1 H16 lw m (aNd p) [cF u32 iH sm (zE p).2]:=g3;have hbc:(aNd p).big+(if p.cases.length=0 then 0 else 6)<=(zE p).1.big+1+7*p.cases.length+1:=hbc;have hb16:=g3.ext.cells hb1;simp only [hb16,hlv,aD];refine aJy hE hv1 (by omega) (fun c hc =>?_) g3 (by omega) fun v' H' e' r'=>hQ v' H' (x1.trans e') r'
  have h1:wK c<=(p.cases.map wK).sum:=by
   obtain ⟨j,hj,rfl⟩:=List.getElem_of_mem hc;have:=aDR wK hj;omega
  have h2:c.branches.length<=(c.branches.map wC).sum:=by
   generalize c.branches=bs
   induction bs with
   | nil=>simp
   | cons b bs ih =>
    have:wC b=12*b.conds.length+5:=rfl;simp only [List.length_cons,List.map_cons,List.sum_cons]; omega
  have h3:wK c=(c.branches.map wC).sum+1+1:=rfl;omega
end
end Go.AM
end
section
namespace Go.AM
set_option maxRecDepth 20000
def aFg (R:List Nat):List Int:=R.map fun (n:Nat)=>(n:Int)
structure LI (P:List bM) (last:Nat) (R:List Nat):Prop where
 nd:(aDQ P++aFg R).Nodup
 le:∀ n∈R,n<=last
 hle:∀ n∈aDQ P,n<=(last:Int)
 fw:∀ a p b,P=a++p :: b->(p.kind=4#8->p.to∈aDQ b++aFg R)/\(p.kind=3#8->p.to∈aDQ b++aFg R/\p.els∈aDQ b++aFg R)
 ok:∀ p∈P,aMR p
def aPA (s:LwD):List Nat:=s.acts.map Prod.snd
end Go.AM
end
section
namespace Go.AM
set_option maxRecDepth 20000
def LA (s:LwD):Prop:=s.order=s.acts.map Prod.fst/\(s.acts.map Prod.fst).Nodup
structure LT (s:LwD) (pend:List Nat):Prop where
 li:LI s.parts s.last (pend++aPA s)
 la:LA s
end Go.AM
end
section
namespace Go.AM
set_option maxRecDepth 20000
section
variable {E:Sy} {H H' H0 Z:AH} {Q:Value->AH->Prop} {X:List Res} {fb:Nat} {c:List dA}
theorem eF {H:AH} {z c:List Value} {n:Nat} (hz:z.length=n) (hc:c.length=n) (hp:c.all plain1=true):aG n (ptr H.next 0) (.agg c.toArray) (H.new (.cells z none))=some (H.new (.cells c none)):=by
 rw [cX,AH.get_new_self];have:AM.bF z 0 c=c:=by simp [bF,hz,hc]
 simp only [List.size_toArray,List.toList_toArray,hc,hz,hp,Nat.zero_add,Nat.le_refl,and_self,if_true,this,AH.new_put]
theorem jR {H:AH} {c:List Value} {n:Nat} (hc:c.length=n):aE n (ptr H.next 0) (H.new (.cells c none))=some (.agg c.toArray):=by rw [aL,AH.get_new_self,fC _ _ n hc]; rfl
end
end Go.AM
end
section
namespace Go.AM
set_option maxRecDepth 20000
section
variable {E:Sy} {H H' H0 Z:AH} {Q:Value->AH->Prop}
theorem S.names_Word_p (hE:aU E) (hQ:∀ H',Ext H H'->Q (vb true) H'):E.call (E.fid i.f114) [(.string ⟨#[112]⟩)] H Q:=by
 apply hE.f114;have k1:oK (.string ⟨#[112]⟩)=some (.int .i64 1):=rfl;have k2:aA .lss (.int .i64 1) (.int .i64 1)=some (vb false):=rfl;have k3:aA .gtr (.int .i64 1) (.int .i64 14)=some (vb false):=rfl;have k4:nF (.string ⟨#[112]⟩) (.int .i64 0)=some (.int .u8 112):=rfl;have k5:aA .lss (.int .u8 112) (.int .u8 97)=some (vb false):=rfl;have k6:aA .gtr (.int .u8 112) (.int .u8 122)=some (vb false):=rfl;have k7:rV (.string ⟨#[112]⟩)=some (.siter ⟨#[112]⟩ 0,kR):=rfl;simp only [F.f114,k1,k2,k3,k4,k5,k6,k7,AM.aW,aS,aD];have h1:(H.new (.siter ⟨#[112]⟩ 0)).get H.next = .siter ⟨#[112]⟩ 0:=AH.get_new_self _ _;have x1:Ext H (H.new (.siter ⟨#[112]⟩ 0)):=(Ext.refl _).new _;have hlt:H.next<(H.new (.siter ⟨#[112]⟩ 0)).next:=by rw [AH.next_new]; omega
 generalize hH1:H.new (.siter ⟨#[112]⟩ 0)=H1 at *
 have n1:qT (ptr H.next 0) H1=some (.tuple #[.bool true,.int .i64 0,.int .i32 112],H1.put H.next (.siter ⟨#[112]⟩ 1)):=by
  simp only [qT,ptr,h1]; rfl
 have x2:Ext H (H1.put H.next (.siter ⟨#[112]⟩ 1)):=x1.put (Nat.le_refl _) _;have h2:(H1.put H.next (.siter ⟨#[112]⟩ 1)).get H.next = .siter ⟨#[112]⟩ 1:=AH.get_put_self _ _ hlt
 have n2:qT (ptr H.next 0) (H1.put H.next (.siter ⟨#[112]⟩ 1))=some (.tuple #[.bool false],H1.put H.next (.siter ⟨#[112]⟩ 1)):=by
  simp only [qT,ptr,h2]; rfl
 refine aM.step fun X hX =>?_;have e0:ext (.tuple #[.bool true,.int .i64 0,.int .i32 112]) 0=some (.bool true):=rfl;have e2:ext (.tuple #[.bool true,.int .i64 0,.int .i32 112]) 2=some (.int .i32 112):=rfl;have e3:ext (.tuple #[.bool false]) 0=some (.bool false):=rfl;have c1:aA .lss (.int .i32 112) (.int .i32 97)=some (vb false):=rfl;have c2:aA .gtr (.int .i32 112) (.int .i32 122)=some (vb false):=rfl;simp only [F.f114_l1,n1,gN,e0,e2,c1,c2,aD];refine hX _ _ ?_;refine aM.step fun X' hX' =>?_;simp only [F.f114_l1,n2,gN,e3,aD];exact hQ _ x2
theorem S.policy_action_allow (hE:aU E) (hQ:Q (vb true) H):E.call (E.fid i.f128) [u32 2147418112#32] H Q:=by
 apply hE.f128;have k1:(.int .u32 2147483648:Value)=u32 2147483648#32:=rfl;have k2:(.int .u32 2147221504:Value)=u32 2147221504#32:=rfl;have k3:(.int .u32 2147418112:Value)=u32 2147418112#32:=rfl;have d1:decide (2147418112#32=2147483648#32)=false:=by decide
 have d2:decide (2147418112#32=2147221504#32)=false:=by decide
 have d3:decide (2147418112#32=2147418112#32)=true:=by decide
 simp only [F.f128,F.f128_j1,k1,k2,k3,aBI,d1,d2,d3,aD];exact hQ
end
end Go.AM
end
section
namespace Go.AM
set_option maxRecDepth 20000
def aKY:aEL:=⟨2147418112#32,[]⟩
def aFw:sM:=⟨[],2147418112#32⟩
def xL:List bM:=jE (aEC aFw).parts none
def aJR:List bM:=aAf (xL.length+1) xL
def aDN:List dA:=[⟨32#16,0#8,0#8,4#32⟩,⟨21#16,0#8,2#8,3221225534#32⟩,⟨32#16,0#8,0#8,0#32⟩,⟨6#16,0#8,0#8,2147418112#32⟩,⟨6#16,0#8,0#8,2147483648#32⟩]
def aMB:List dA:=[⟨32#16,0#8,0#8,4#32⟩,⟨21#16,0#8,3#8,3221225534#32⟩,⟨32#16,0#8,0#8,0#32⟩,⟨5#16,0#8,0#8,0#32⟩,⟨6#16,0#8,0#8,2147418112#32⟩,⟨6#16,0#8,0#8,2147483648#32⟩]
def aJ2 (x:Int ⊕ MkD) (c:List dA):Bool:=match x with
 | .inl _=>false
 | .inr s=>decide (s.out=c)
theorem aA0 {x:Int ⊕ MkD} {c:List dA} (h:aJ2 x c=true):∃ s,x = .inr s/\s.out=c:=by
 cases x with
 | inl e=>cases h
 | inr s=>exact ⟨s,rfl,of_decide_eq_true h⟩
theorem aOL:aJ2 (kU aJR) aDN=true:=by decide +kernel
theorem aOV:aJ2 (kU xL) aMB=true:=by decide +kernel
theorem aPI:(aEC aFw).parts.length<100:=by decide +kernel
theorem aPF:xL.length<100:=by decide +kernel
theorem aPt:aJR.length<100:=by decide +kernel
theorem aJZ:nQ aDN:=by
 have h0:nQ []:=fun k hk=>by simp at hk
 have h1:=sK (x:=⟨6#16,0#8,0#8,2147483648#32⟩) (.inr (.inr (.inr (.inr (.inr (.inr rfl)))))) h0;have h2:=sK (x:=⟨6#16,0#8,0#8,2147418112#32⟩) (.inr (.inr (.inr (.inr (.inr (.inr rfl)))))) h1;have h3:=sK (x:=⟨32#16,0#8,0#8,0#32⟩) (.inl ⟨rfl,by decide,by decide⟩) h2
 have h4:=sK (x:=⟨21#16,0#8,2#8,3221225534#32⟩) (.inr (.inr (.inr (.inl ⟨rfl,by decide,by decide⟩)))) h3
 exact sK (x:=⟨32#16,0#8,0#8,4#32⟩) (.inl ⟨rfl,by decide,by decide⟩) h4
theorem aGC:aFG aDN:=⟨by decide,rfl⟩
section
variable {E:Sy} {H H' H0 Z:AH} {Q:Value->AH->Prop}
theorem aOJ {ns:List (BitVec 32)} (h:aLS aKY ns):ns=[]:=by
 apply List.eq_nil_iff_forall_not_mem.2;intro n hn;obtain ⟨r,hr,_⟩:=(h.mem n).1 hn;cases hr
end
end Go.AM
end
section
namespace Go.AM
set_option maxRecDepth 20000
section
variable {E:Sy} {H H' H0 Z:AH} {Q:Value->AH->Prop}
abbrev jP:=List (BitVec 16×BitVec 16)
def eZ (l:jP):List (List Value):=l.map fun p=>[u16 p.1,u16 p.2]
def pcP (h:BitVec 16) (pv:Value):List Value:=[(.string ⟨#[112]⟩),u32 2147418112#32,bL,u16 h,bL,pv]
structure lU (h:BitVec 16) (l:jP):Prop where
 nd:(l.map Prod.fst).Nodup
 some_:∀ p∈l,p.2≠0#16
 held:∀ p∈l,p.2 &&& ~~~h=0#16
 kind:∀ p∈l,p.2 &&& ~~~49152#16=0#16
 len:l.length<=32
def gZ (v e:Int):List Value:=[vi v,bL,vi e,vb false]
abbrev z4:List Value:=[(.int .i64 0),(.slice none 0 0),(.int .i64 0),(.bool false)]
theorem S.f2 (hE:aU E) (e:Int) (hQ:∀ H',Ext H H'->Q (.agg (gZ (-1) e).toArray) H'):E.call (E.fid i.f2) [vi e] H Q:=by
 apply hE.f2;have hb:aX [(0,1),(1,1),(2,1),(3,1)] #[(.int .i64 0),(.slice none 0 0),(.int .i64 0),(.bool false)] [(0,(.int .i64 (-1))),(2,vi e)]=some (.agg (gZ (-1) e).toArray):=rfl;have hs:aG 4 (ptr H.next 0) (.agg (gZ (-1) e).toArray) (H.new (.cells z4 none))=some (H.new (.cells (gZ (-1) e) none)):=eF rfl rfl rfl;have hl:aE 4 (ptr H.next 0) (H.new (.cells (gZ (-1) e) none))=some (.agg (gZ (-1) e).toArray):=jR rfl;simp only [F.f2,aP,hb,hs,hl,aD];exact hQ _ ((Ext.refl _).new _)
theorem S.f1 (hE:aU E) (n:Int) (hQ:∀ H',Ext H H'->Q (.agg (gZ n 0).toArray) H'):E.call (E.fid i.f1) [vi n] H Q:=by
 apply hE.f1;have hb:aX [(0,1),(1,1),(2,1),(3,1)] #[(.int .i64 0),(.slice none 0 0),(.int .i64 0),(.bool false)] [(0,vi n)]=some (.agg (gZ n 0).toArray):=rfl;have hs:aG 4 (ptr H.next 0) (.agg (gZ n 0).toArray) (H.new (.cells z4 none))=some (H.new (.cells (gZ n 0) none)):=eF rfl rfl rfl;have hl:aE 4 (ptr H.next 0) (H.new (.cells (gZ n 0) none))=some (.agg (gZ n 0).toArray):=jR rfl;simp only [F.f1,aP,hb,hs,hl,aD];exact hQ _ ((Ext.refl _).new _)
def aB9 (e:Int):List Value:=if e=0 then gZ 0 0 else gZ (-1) e
theorem zQ (e:Int):(aB9 e).length=4/\(aB9 e).all plain1=true/\(aB9 e)[2]? = some (vi e):=by
 unfold aB9
 split
 ·rename_i h; subst h; exact ⟨rfl,rfl,rfl⟩
 ·exact ⟨rfl,rfl,rfl⟩
theorem S.f96 (hE:aU E) (e:Int) (hQ:∀ H',Ext H H'->Q (.agg (aB9 e).toArray) H'):E.call (E.fid i.f96) [vi e] H Q:=by
 apply hE.f96;have x1:Ext H (H.new (.cells z4 none)):=(Ext.refl _).new _;have b1:=AH.get_new_self H (.cells z4 none);have i0:(.int .i64 0:Value)=vi 0:=rfl
 have fin:∀ (cs:List Value) (H2:AH),cs.length=4->cs.all plain1=true->Ext (H.new (.cells z4 none)) H2->∃ H3,aG 4 (ptr H.next 0) (.agg cs.toArray) H2=some H3/\aE 4 (ptr H.next 0) H3=some (.agg cs.toArray)/\Ext H H3:=by
  intro cs H2 h1 h2 e2;have b2:=e2.cells b1;refine ⟨H2.put H.next (.cells cs none),?_,?_,(x1.trans e2).put (Nat.le_refl _) _⟩
  ·rw [cX,b2]
   have:AM.bF z4 0 cs=cs:=by simp [bF,h1]
   simp only [List.size_toArray,List.toList_toArray,h1,h2,Nat.zero_add,List.length_cons,List.length_nil,Nat.le_refl,and_self,if_true,this]
  ·rw [aL,AH.get_put_self _ _ (AH.lt_cells b2),fC _ _ 4 h1]; rfl
 obtain ⟨l1,l2,_⟩:=zQ e;unfold aB9 at hQ l1 l2;simp only [F.f96,aP,i0,tY,aD]
 by_cases h:e=0
 ·rw [if_pos h] at hQ l1 l2
  simp only [h,ne_eq,not_true,decide_false,aD];refine S.f1 hE 0 fun H2 e2 =>?_;obtain ⟨H3,s1,s2,s3⟩:=fin (gZ 0 0) H2 rfl rfl e2;simp only [s1,s2,aD];exact hQ _ s3
 ·rw [if_neg h] at hQ l1 l2
  simp only [h,ne_eq,not_false_eq_true,decide_true,aD];refine S.f2 hE e fun H2 e2 =>?_;obtain ⟨H3,s1,s2,s3⟩:=fin (gZ (-1) e) H2 rfl rfl e2;simp only [s1,s2,aD];exact hQ _ s3
theorem S.right_Set_Has_p (hE:aU E) (s r:BitVec 16) (hQ:Q (vb (decide (r &&& ~~~s=0#16))) H):E.call (E.fid i.f139) [u16 s,u16 r] H Q:=by
 apply hE.f139;have n0:(.int .u16 0:Value)=u16 0#16:=rfl;simp only [F.f139,n0,oE,cV,aD];exact hQ
theorem S.policy_Policy_granted_ok (hE:aU E) (cs:List Value) (h r kind:BitVec 16) (h3:cs[3]? = some (u16 h)) (r0:r≠0#16) (r1:r &&& ~~~h=0#16) (r2:r &&& ~~~kind=0#16) (hQ:∀ H',Ext H H'->Q (vb true) H') :
  E.call (E.fid i.f124) [.agg cs.toArray,u16 r,u16 kind] H Q:=by
 apply hE.f124;have b1:=AH.get_new_self H (.cells cs none);have x1:Ext H (H.new (.cells cs none)):=(Ext.refl _).new _;have n0:(.int .u16 0:Value)=u16 0#16:=rfl;simp only [F.f124,aZ,AM.aW,aS,List.toList_toArray,n0,sO,r0,ne_eq,not_false_eq_true,decide_true,b1,h3,aD];refine S.right_Set_Has_p hE h r ?_;simp only [r1,decide_true,aD];refine S.right_Set_Has_p hE kind r ?_;simp only [r2,decide_true,aD];exact hQ _ x1
theorem S.policy_Policy_ports_ok (hE:aU E) (h:BitVec 16) (l:jP) {pv:Value} (ok:lU h l) (hv:Rows H 2 pv (eZ l)) (hQ:∀ H',Ext H H'->Q (vi 0) H'):E.call (E.fid i.f126) [.agg (pcP h pv).toArray] H Q:=by
 apply hE.f126;have c5:(pcP h pv)[5]? = some pv:=rfl;have g0:Has H H H []:=Has.start (Ext.refl H);have g1:=g0.newbox (pcP h pv);have g2:=g1.newmap u16 vb;have hb2:=g2.box (k:=0) (b:=H.next) rfl;have hl:=hv.lenSlc;have hpl:(eZ l).length=l.length:=by simp [eZ]
 rw [hpl] at hl;simp only [F.f126,aZ,AM.aW,aS,List.toList_toArray,sJ,hb2,c5,hl,aD];rw [show (H.new (.cells (pcP h pv) none)).next=H.next+1 from rfl] at g2;generalize hr:H.next+1=r at *;generalize (H.new (.cells (pcP h pv) none)).new (.map [] 0 true)=H2 at *;have g2:Has H H H2 [aF H.next (pcP h pv),cF u16 vb r []]:=g2;clear g1 hr;refine aM.count l.length (fun j ls H'=>ls=[ptr H.next 0,.map (some r),pv,vi l.length,vi j]/\Has H H H' [aF H.next (pcP h pv),cF u16 vb r ((l.take j).map fun p=>(p.1,true))]) ?_ ⟨rfl,g2⟩;rintro j _ H3 X hj hX ⟨rfl,g3⟩;have i0:(.int .i64 0:Value)=vi 0:=rfl;rcases Nat.lt_or_ge j l.length with hjl | hjl
 ·have hX:=hX hjl
  have hjl':(j:Int)<l.length:=by omega
  have hlen:=ok.len;have hjj:=cU (i:=j) (by omega)
  obtain ⟨b,o,f1,f2⟩:=(hv.mono g3.ext).ix (i:=j) (by rw [hpl]; exact hjl)
  have hrow:(eZ l)[j]'(by rw [hpl]; exact hjl)=[u16 l[j].1,u16 l[j].2]:=by unfold eZ; rw [List.getElem_map]
  rw [hrow] at f2;have hmem:=List.getElem_mem hjl;have q1:=ok.some_ _ hmem;have q2:=ok.held _ hmem;have q3:=ok.kind _ hmem
  have hnot:¬ l[j].1∈(l.take j).map Prod.fst:=by
   have hnd:=ok.nd;rw [<- List.take_append_drop j l,List.map_append,List.nodup_append] at hnd;intro hm;refine hnd.2.2 _ hm l[j].1 ?_ rfl;exact List.mem_map_of_mem (by rw [List.drop_eq_getElem_cons hjl]; exact List.mem_cons_self)
  have htk:(l.take (j+1)).map (fun p=>(p.1,true))=(l.take j).map (fun p=>(p.1,true))++[(l[j].1,true)]:=by
   rw [List.take_succ_eq_append_getElem hjl,List.map_append]; rfl
  have hset:dQ l[j].1 true ((l.take j).map fun p=>(p.1,true))=(l.take j).map (fun p=>(p.1,true))++[(l[j].1,true)]:=aCU l[j].1 true (fun _=>true) (l.take j) hnot
  have hnone:((l.take j).map fun p=>(p.1,true)).lookup l[j].1=none:=by
   rw [List.lookup_eq_none_iff];intro q hq;obtain ⟨q',hq',rfl⟩:=List.mem_map.1 hq;simp only [bne_iff_ne,ne_eq];intro e;exact hnot (e▸List.mem_map_of_mem hq')
  generalize l[j]=p at *;have hlo:aE 2 (ptr b o) H3=some (.agg [u16 p.1,u16 p.2].toArray):=by rw [aL,f2]; rfl
  have hst:aG 2 (ptr H3.next 0) (.agg [u16 p.1,u16 p.2].toArray) (H3.new (.cells [(.int .u16 0),(.int .u16 0)] none))=some (H3.new (.cells [u16 p.1,u16 p.2] none)):=eF rfl rfl rfl;have g4:=g3.newbox [u16 p.1,u16 p.2];have hb4:=g4.box (k:=2) (b:=H3.next) rfl;have hl4:aE 6 (ptr H.next 0) (H3.new (.cells [u16 p.1,u16 p.2] none))=some (.agg (pcP h pv).toArray):=by rw [aL,g4.box (k:=0) (b:=H.next) rfl]; rfl
  have k49:(.int .u16 49152:Value)=u16 49152#16:=rfl;simp only [F.f126_l1,fW,fV,gI,gJ,kI,aV,hjl',decide_true,f1,hlo,aP,hst,hl4,hb4,k49,aD];generalize H3.new (.cells [u16 p.1,u16 p.2] none)=H4 at *;refine S.policy_Policy_granted_ok hE (pcP h pv) h p.2 49152#16 rfl q1 q2 q3 fun H5 e5 =>?_;have g5:=g4.grow e5;have hb5:=g5.box (k:=2) (b:=H3.next) rfl;have hm5:=g5.mapAt (k:=1) rfl;have hlk:=hm5.look (kd:=0) (fun a b=>fP a b) p.1 (.bool false) false;rw [hnone] at hlk;have hlk:look 0 (.bool false) false (.map (some r)) (u16 p.1) H5=some (vb false):=hlk;obtain ⟨H6,m1,m2⟩:=g5.mapset (n:=1) (kd:=0) rfl (fun a b=>fP a b) p.1 true;have m2:Has H H H6 [aF H.next (pcP h pv),cF u16 vb r (dQ p.1 true ((l.take j).map fun p=>(p.1,true)))]:=m2.drop 2;rw [hset,<- htk] at m2;simp only [hb5,hlk,m1,hjj,aD];exact hX _ _ ⟨rfl,m2⟩
 ·have hjl':¬ (j:Int)<l.length:=by omega
  simp only [F.f126_l1,fW,fV,gI,gJ,kI,aV,hjl',decide_false,aD];exact hQ _ g3.ext
end
end Go.AM
end
section
namespace Go.AM
set_option maxRecDepth 20000
section
variable {E:Sy} {H H':AH} {Q:Value->AH->Prop} {tb:Nat}
def aHy (d s:Int) (q m1 m2:Value) (a m:Int):List Value:=[.int .u32 d,.int .i32 s,q,m1,m2,.int .i64 a,.int .i64 m]
end
end Go.AM
end
section
namespace Go.AM
set_option maxRecDepth 20000
section
variable {E:Sy} {H H':AH} {Q:Value->AH->Prop} {tb:Nat}
theorem st1 {c:List Value} {f:Option Nat} (hb:H.get tb = .cells c f) {k:Nat} (hk:k<c.length) {v:Value} (hp:plain1 v=true):aQ (ptr tb k) v H=some (H.put tb (.cells (c.set k v) f)):=by
 rw [aJ,if_pos hp,hb]; simp only [if_pos hk]
end
end Go.AM
end
section
namespace Go.AM
instance:Inhabited lK:=⟨⟨0,0,[]⟩⟩
end Go.AM
end
section
namespace Go.AM
set_option maxRecDepth 20000
section
variable {E:Sy} {H H' H0 Z:AH} {Q:Value->AH->Prop} {tb:Nat}
theorem S.f113 (hE:aU E) (hQ:Q (ptr H.next 0) (H.new (.cells (aHy 0 0 (.int .u32 0) (.map none) (.map none) 0 0) none))):E.call (E.fid i.f113) [] H Q:=by
 apply hE.f113;have hbv2:aX [(0,3),(3,1),(4,1),(5,1),(6,1)] #[(.int .u32 0),(.int .i32 0),(.int .u32 0),(.map none),(.map none),(.int .i64 0),(.int .i64 0)] []=some (.agg (aHy 0 0 (.int .u32 0) (.map none) (.map none) 0 0).toArray):=rfl;simp only [F.f113,hbv2,aZ,AM.aW,aS,List.toList_toArray,aD];exact hQ
end
end Go.AM
end
section
namespace Go.AM
set_option maxRecDepth 20000
section
variable {E:Sy} {H H' H0 Z:AH} {Q:Value->AH->Prop}
theorem aNK (h:BitVec 16) (pv:Value):aJS H aKY (pcP h pv):=⟨(by decide:(0:Nat)<2 ^ 63),_,_,_,_,_,rfl,[],Rows.nil _ _ none,rfl,fun i h=>by simp [aKY] at h⟩
theorem S.policy_Policy_Check_p (hE:aU E) (t:Nat) (h:BitVec 16) (l:jP) {pv:Value} (hh:h &&& ~~~51199#16=0#16) (ok:lU h l) (hv:Rows H 2 pv (eZ l)) (hQ:∀ H',Ext H H'->Q (.int .i64 0) H'):E.call (E.fid i.f122) [.agg (pcP h pv).toArray,ptr t 0] H Q:=by
 apply hE.f122;have b1:=AH.get_new_self H (.cells (pcP h pv) none);have x1:Ext H (H.new (.cells (pcP h pv) none)):=(Ext.refl _).new _;have c0:(pcP h pv)[0]? = some (.string ⟨#[112]⟩):=rfl;have c1:(pcP h pv)[1]? = some (u32 2147418112#32):=rfl;have c2:(pcP h pv)[2]? = some bL:=rfl;have c3:(pcP h pv)[3]? = some (u16 h):=rfl;have c4:(pcP h pv)[4]? = some bL:=rfl;have c5:(pcP h pv)[5]? = some pv:=rfl;have ln:lenSlc bL=some (.int .i64 0):=rfl;have lp:=hv.lenSlc;have hpl:(eZ l).length=l.length:=by simp [eZ]
 rw [hpl] at lp;have hlen:=ok.len;have g1:aA .gtr (.int .i64 0) (.int .i64 64)=some (vb false):=rfl;have g2:aA .gtr (.int .i64 0) (.int .i64 32)=some (vb false):=rfl;have g2':¬ (32:Int)<(l.length:Int):=by omega
 have g3:aA .lss (.int .i64 0) (.int .i64 0)=some (vb false):=rfl;have g4:aA .neq (.int .i64 0) (.int .i64 0)=some (vb false):=rfl;simp only [F.f122,aZ,AM.aW,aS,List.toList_toArray,eY,b1,c0,aD];generalize H.new (.cells (pcP h pv) none)=H1 at *;generalize H.next=t1 at *;refine S.names_Word_p hE fun H2 e2 =>?_;have b2:=e2.cells b1;have x2:=x1.trans e2;simp only [b2,c1,aD];refine S.policy_action_allow hE ?_;simp only [b2,c2,c4,c5,ln,lp,g1,g2,gC,gt_iff_lt,g2',decide_false,c3,aD];apply hE.f140
 have v1:aA .andNot (u16 h) (.int .u16 51199)=some (u16 0#16):=by
  rw [show (.int .u16 51199:Value)=u16 51199#16 from rfl,oE,hh]
 have v2:aA .eql (u16 0#16) (.int .u16 0)=some (vb true):=rfl;simp only [F.f140,v1,v2,b2,c2,ln,aD];refine aM.step fun X hX =>?_;have lo:∀ {K:AH},Ext H2 K->aE 6 (ptr t1 0) K=some (.agg (pcP h pv).toArray):=fun e=>by rw [aL,e.cells b2]; rfl
 simp only [F.f122_l1,g3,lo (Ext.refl _),aD];apply hE.f125;have hmw:∀ (H:AH) (K:Value->AH->Prop),lM H K=K (.map (some H.next)) (H.new (.map [] 0 true)):=fun _ _=>rfl;have y1:Ext H2 ((H2.new (.cells (pcP h pv) none)).new (.map [] 0 true)):=((Ext.refl _).new _).new _;have b3:((H2.new (.cells (pcP h pv) none)).new (.map [] 0 true)).get H2.next = .cells (pcP h pv) none:=by rw [AH.get_new_ne _ _ (by rw [AH.next_new]; omega),AH.get_new_self]
 simp only [F.f125,aZ,AM.aW,aS,List.toList_toArray,hmw,b3,c4,ln,aD];generalize (H2.new (.cells (pcP h pv) none)).new (.map [] 0 true)=H3 at *;refine aM.step fun X2 hX2 =>?_;simp only [F.f125_l1,g3,g4,lo y1,aD];refine S.policy_Policy_ports_ok hE h l ok (hv.mono (x2.trans y1)) fun H4 e4 =>?_;exact hQ _ ((x2.trans y1).trans e4)
theorem S.compile_Insns_p (hE:aU E) (t:Nat) (h:BitVec 16) (l:jP) {pv:Value} (hh:h &&& ~~~51199#16=0#16) (ok:lU h l) (hv:Rows H 2 pv (eZ l)) (hQ:∀ w H',Ext H H'->Rows H' 4 w (dM aDN)->Q (.tuple #[w,(.int .i64 0)]) H'):E.call (E.fid i.f16) [.agg (pcP h pv).toArray,ptr t 0] H Q:=by
 apply hE.f16;have b1:=AH.get_new_self H (.cells (pcP h pv) none);have x1:Ext H (H.new (.cells (pcP h pv) none)):=(Ext.refl _).new _;have lo:∀ {K:AH},Ext (H.new (.cells (pcP h pv) none)) K->aE 6 (ptr H.next 0) K=some (.agg (pcP h pv).toArray):=fun e=>by rw [aL,e.cells b1]; rfl
 have g4:aA .neq (.int .i64 0) (.int .i64 0)=some (vb false):=rfl;have g5:aA .eql (.int .i64 0) (.int .i64 0)=some (vb true):=rfl;simp only [F.f16,aZ,AM.aW,aS,List.toList_toArray,lo (Ext.refl _),aD];generalize H.new (.cells (pcP h pv) none)=H1 at *;generalize H.next=t1 at *;refine S.policy_Policy_Check_p hE t h l hh ok (hv.mono x1) fun H2 e2 =>?_;have lo2:=lo e2;simp only [g4,lo2,aD];have hSC:aAl E 12:=aE0 hE;have hSR:uE E 12:=fun hg hm hQ=>aEn hE hg (by omega) hQ
 refine S.f36 hE (sm:=12) (by decide) hSC hSR aKY (pcP h pv) (aNK h pv) (by decide) (fun r hr=>by cases hr) fun ns pl H3 e3 hns hpl =>?_
 have hn:=aOJ hns;subst hn;have hpl:pJ H3 aFw pl:=hpl;refine S.f97 hE aFw pl hpl (by decide) fun pv H4 e4 hpv =>?_
 have l0:=aPI;refine S.f17 hE hpv (by omega) fun pw H5 e5 hpw =>?_
 have hpw:Rows H5 7 pw (bN xL):=hpw;have lp:=aPF;refine S.f52 hE hpw (by omega) fun tw H6 e6 htw =>?_
 have htw:Rows H6 7 tw (bN aJR):=htw;have lt:=aPt;obtain ⟨s5,m5,o5⟩:=aA0 aOL;obtain ⟨s6,m6,o6⟩:=aA0 aOV;refine S.f51 hE htw (by omega) fun H7 e7=>⟨fun e he=>(by rw [m5] at he; cases he),fun s w hs hw =>?_⟩
 rw [m5] at hs;cases hs;rw [o5] at hw;simp only [aD];refine S.f51 hE (hpw.mono (e6.trans e7)) (by omega) fun H8 e8=>⟨fun e he=>(by rw [m6] at he; cases he),fun s w6 hs hw6 =>?_⟩
 rw [m6] at hs;cases hs;rw [o6] at hw6;have hl5:=(hw.mono e8).lenSlc;have hl6:=hw6.lenSlc;have n5:(dM aDN).length=5:=rfl;have n6:(dM aMB).length=6:=rfl;rw [n5] at hl5;rw [n6] at hl6;have hlt:aA .lss (vi ((6:Nat):Int)) (vi ((5:Nat):Int))=some (vb false):=rfl;simp only [g4,g5,hl5,hl6,hlt,aD];exact hQ w _ ((((((((x1.trans e2).trans e3).trans e4).trans e5).trans e6).trans e7).trans e8)) (hw.mono e8)
theorem S.compile_Filter_p (hE:aU E) (t:Nat) (h:BitVec 16) (l:jP) {pv:Value} (hh:h &&& ~~~51199#16=0#16) (ok:lU h l) (hv:Rows H 2 pv (eZ l)) (hQ:∀ fb H',Ext H H'->Q (.tuple #[ptr fb 0,(.int .i64 0)]) H'):E.call (E.fid i.f15) [.agg (pcP h pv).toArray,ptr t 0] H Q:=by
 apply hE.f15;have b1:=AH.get_new_self H (.cells (pcP h pv) none);have x1:Ext H (H.new (.cells (pcP h pv) none)):=(Ext.refl _).new _;have lo:aE 6 (ptr H.next 0) (H.new (.cells (pcP h pv) none))=some (.agg (pcP h pv).toArray):=by rw [aL,b1]; rfl
 have g4:aA .neq (.int .i64 0) (.int .i64 0)=some (vb false):=rfl;simp only [F.f15,aZ,AM.aW,aS,List.toList_toArray,lo,aD];generalize H.new (.cells (pcP h pv) none)=H1 at *;refine S.compile_Insns_p hE t h l hh ok (hv.mono x1) fun w H2 e2 hw =>?_;simp only [g4,aD];refine S.f186 hE hw aJZ aGC (by decide) fun fb H3 g3 =>?_
 have s3:aG 2 (ptr H3.next 0) (.agg #[vi 0,vi 0]) (H3.new (.cells [(.int .i64 0),(.int .i64 0)] none))=some (H3.new (.cells [vi 0,vi 0] none)):=eF (n:=2) rfl rfl rfl;have l3:aE 2 (ptr H3.next 0) (H3.new (.cells [vi 0,vi 0] none))=some (.agg #[vi 0,vi 0]):=jR (c:=[vi 0,vi 0]) rfl;have hbv0:aX [(0,1),(1,1)] #[(.int .i64 0),(.int .i64 0)] []=some (.agg #[vi 0,vi 0]):=rfl;have hne:iS [0,0] .neq (.agg #[vi 0,vi 0]) (.agg #[vi 0,vi 0])=some (vb false):=rfl;simp only [aP,s3,l3,hbv0,hne,aD];exact hQ fb _ ((x1.trans e2).trans (g3.ext.trans ((Ext.refl _).new _)))
abbrev z6:List Value:=[(.string ⟨#[]⟩),(.int .u32 0),(.slice none 0 0),(.int .u16 0),(.slice none 0 0),(.slice none 0 0)]
theorem S.policy_Policy_Clone_p (hE:aU E) (h:BitVec 16) (l:jP) {pv:Value} (hlen:l.length<=32) (hv:Rows H 2 pv (eZ l)) (hQ:∀ pv' H',Ext H H'->dO zH H' 2 pv' (eZ l)->iA H.next pv'->Q (.agg (pcP h pv').toArray) H'):E.call (E.fid i.f123) [.agg (pcP h pv).toArray] H Q:=by
 apply hE.f123;have g0:Has H H H []:=Has.start (Ext.refl H);have g1:=(g0.newbox (pcP h pv)).newbox z6;have hb1:=g1.box (k:=0) (b:=H.next) rfl;have c2:(pcP h pv)[2]? = some bL:=rfl;have ln:lenSlc bL=some (.int .i64 0):=rfl;have g3:aA .lss (.int .i64 0) (.int .i64 0)=some (vb false):=rfl;have hpl:(eZ l).length=l.length:=by simp [eZ]
 simp only [F.f123,aZ,AM.aW,aS,List.toList_toArray,aP,hb1,c2,ln,aD];rw [show (H.new (.cells (pcP h pv) none)).next=H.next+1 from rfl] at g1;generalize (H.new (.cells (pcP h pv) none)).new (.cells z6 none)=H1 at *;have g1:Has H H H1 [aF H.next (pcP h pv),aF (H.next+1) z6]:=g1;refine aM.step fun X hX =>?_
 have st:∀ {K:AH} {c:List Value} {k:Nat} {v:Value},K.get H.next = .cells c none->k<c.length->plain1 v=true->aQ (ptr H.next k) v K=some (K.put H.next (.cells (c.set k v) none)):=fun hk hlt hp=>by
  rw [aJ,if_pos hp,hk]; simp only [hlt,if_true]
 have hs2:=st (k:=2) hb1 (show 2<6 by decide) (v:=bL) rfl
 have g2:=g1.put (k:=0) (b:=H.next) rfl ((pcP h pv).set 2 bL);have hb2:=g2.box (k:=0) (b:=H.next) rfl;have happ:AM.app 2 24 bL bL (H1.put H.next (.cells ((pcP h pv).set 2 bL) none))=some (bL,H1.put H.next (.cells ((pcP h pv).set 2 bL) none)):=rfl;have d4:((pcP h pv).set 2 bL)[4]? = some bL:=rfl;simp only [F.f123_l1,fW,fV,gI,gJ,kI,nN,g3,hs2,hb2,d4,aD];generalize H1.put H.next (.cells ((pcP h pv).set 2 bL) none)=H2 at *;have hs4:=st (k:=4) hb2 (show 4<6 by decide) (v:=bL) rfl
 have g3':=g2.put (k:=0) (b:=H.next) rfl (((pcP h pv).set 2 bL).set 4 bL);have hb3:=g3'.box (k:=0) (b:=H.next) rfl;have d5:(((pcP h pv).set 2 bL).set 4 bL)[5]? = some pv:=rfl;simp only [happ,hs4,hb3,d5,aD];generalize H2.put H.next (.cells (((pcP h pv).set 2 bL).set 4 bL) none)=H3 at *;obtain ⟨v',H4,a1,a2,a3⟩:=(dO.nil zH H3 2).app (Nat.zero_le _) (bytes:=4) (x:=pv) (new:=eZ l) (hv.mono g3'.ext) (fun r hr=>by obtain ⟨p,_,rfl⟩:=List.mem_map.1 hr; rfl) (by decide) (by decide) (by simp only [List.length_nil]; rw [hpl]; omega) (by simp only [List.length_nil]; rw [hpl]; omega)
 rw [List.nil_append] at a2;obtain ⟨e4,f4⟩:=oX a3 (Ext.refl H3) (fun b hb=>by simp [blk] at hb)
 have g4:=g3'.grow e4;have hb4:=g4.box (k:=0) (b:=H.next) rfl;have lt4:=g3'.box_lt (k:=0) (b:=H.next) rfl;have lt4':=g3'.box_lt (k:=1) (b:=H.next+1) rfl;have hs5:=st (k:=5) hb4 (show 5<6 by decide) (v:=v') a2.plain
 have g5:=g4.put (k:=0) (b:=H.next) rfl (pcP h v');have hcs:(((pcP h pv).set 2 bL).set 4 bL).set 5 v'=pcP h v':=rfl;rw [hcs] at hs5;have hb5:=g5.box (k:=0) (b:=H.next) rfl;have hc5:=g5.box (k:=1) (b:=H.next+1) rfl;have r5:dO zH (H4.put H.next (.cells (pcP h v') none)) 2 v' (eZ l):=a2.keep fun b hb _=>AH.get_put_ne _ _ (by have:=f4 b hb; omega)
 have hl5:aE 6 (ptr H.next 0) (H4.put H.next (.cells (pcP h v') none))=some (.agg (pcP h v').toArray):=by rw [aL,hb5]; rfl
 simp only [a1,hs5,hl5,aD];generalize H4.put H.next (.cells (pcP h v') none)=H5 at *
 have hp6:(pcP h v').all plain1=true:=by
  have:=a2.plain;simp [pcP,this]
 have hs6:aG 6 (ptr (H.next+1) 0) (.agg (pcP h v').toArray) H5=some (H5.put (H.next+1) (.cells (pcP h v') none)):=by
  rw [cX,hc5];have h3:AM.bF z6 0 (pcP h v')=pcP h v':=rfl;have h4:(pcP h v').length=6:=rfl;have h5:z6.length=6:=rfl;simp only [List.size_toArray,List.toList_toArray,h4,h5,hp6,Nat.zero_add,Nat.le_refl,and_self,if_true,h3]
 have g6:=g5.put (k:=1) (b:=H.next+1) rfl (pcP h v');have hb6:=g6.box (k:=1) (b:=H.next+1) rfl;have r6:dO zH (H5.put (H.next+1) (.cells (pcP h v') none)) 2 v' (eZ l):=r5.keep fun b hb _=>AH.get_put_ne _ _ (by have:=f4 b hb; omega)
 have hl6:aE 6 (ptr (H.next+1) 0) (H5.put (H.next+1) (.cells (pcP h v') none))=some (.agg (pcP h v').toArray):=by rw [aL,hb6]; rfl
 simp only [hs6,hl6,aD];exact hQ v' _ g6.ext r6 fun b hb=>by have:=f4 b hb; have:=g3'.ext.1; omega
end
end Go.AM
end
section
namespace Go.AM
set_option maxRecDepth 20000
section
variable {E:Sy} {H H' H0 Z:AH} {Q:Value->AH->Prop} {X L:List Res} {w:Nat} {T:Tr} {M:List eI} {nx:Int}
theorem Has.fresh (g:Has H Z H' L):zZ (eO L) H H' :=
 ⟨g.ext,fun r hr=>(g.all r hr).1,fun b hb=>by obtain ⟨r,hr,hb⟩:=List.mem_flatMap.1 hb; exact ⟨((g.all r hr).2 b hb).1,((g.all r hr).2 b hb).2.1⟩,g.nd⟩
theorem Has.flat {A B:List Res} (g:Has H0 Z H (A++eO L :: B)):Has H0 Z H (A++(L++B)):=by
 refine ⟨g.ext,g.sub,fun r hr =>?_,?_⟩
 ·rcases List.mem_append.1 hr with hr | hr
  ·exact g.all r (by simp [hr])
  ·rcases List.mem_append.1 hr with hr | hr
   ·have:=g.all (eO L) (by simp)
    exact ⟨this.1 r hr,fun b hb=>this.2 b (List.mem_flatMap.2 ⟨r,hr,hb⟩)⟩
   ·exact g.all r (by simp [hr])
 ·have:=g.nd
  simp only [List.flatMap_append,List.flatMap_cons] at this ⊢;exact this
theorem WkO.has (h:WkO X H0 H w T M nx):Has H0 H0 H X:=by
 obtain ⟨p,m,L,q,v,e,o,own,_,_⟩:=h;refine ⟨e,(Sub.refl H0).ext e,fun r hr =>?_,?_⟩
 ·have hm:r∈aAB p m L T q v M nx w X:=by simp [aAB,hr]
  refine ⟨o.holds r hm,fun b hb =>?_⟩;have hf:b∈(eO (aAB p m L T q v M nx w X)).fp:=List.mem_flatMap.2 ⟨r,hm,hb⟩;refine ⟨own b hf,o.lt b hf,?_⟩;have:=own b hf;unfold AH.get;rw [if_neg (by omega)]
 ·have:=o.nd
  simp only [eO,aAB,List.flatMap_cons] at this;exact (List.nodup_append.1 (List.nodup_append.1 (List.nodup_append.1 this).2.1).2.1).2.1
abbrev aKS:Nat->Value:=fun p=>ptr p 0
abbrev aDk:Int×Int->Value:=fun o => .agg #[vi o.1,vi o.2]
def dY (f:Nat) (nn:Bool) (d:Value):List Value:=[u8 1#8,u8 0#8,vi 0,u16 1#16,ptr f 0,vb nn,bL,d]
def tkC (ma me:Nat):List Value:=[.map (some ma),.map (some me),vi 8]
def kC (w tk pt nt:Nat) (ps fs:Value) (done:Int):List Value:=[ptr w 0,ptr tk 0,ptr pt 0,ptr nt 0,ps,fs,vi done,vi 0]
theorem S.f181 (hE:aU E) (hQ:∀ tk ma me f x H',Has H H H' [cF u8 aKS ma [(1#8,x)],cF u8 vi me [],aF tk (tkC ma me),aF f (zs 16 (.pointer none)),aF x (dY f false (.pointer none))]->Q (ptr tk 0) H'):E.call (E.fid i.f181) [vi 8] H Q:=by
 apply hE.f181;have g0:Has H H H []:=Has.start (Ext.refl H);have g1:=(g0.newmap u8 aKS).newmap u8 vi;have m1:jH max2 [vi 8,.int .i64 1]=some (vi 8):=rfl;have m2:jH min2 [vi 8,.int .i64 16]=some (vi 8):=rfl;have b1:∀ ma me,aX [(0,1),(1,1),(2,1)] #[(.map none),(.map none),(.int .i64 0)] [(0,.map (some ma)),(1,.map (some me)),(2,vi 8)]=some (.agg (tkC ma me).toArray):=fun _ _=>rfl;have b2:aX [(0,16)] (zs 16 (.pointer none)).toArray []=some (.agg (zs 16 (.pointer none)).toArray):=rfl;simp only [F.f181,sJ,m1,m2,b1,aZ,AM.aW,aS,List.toList_toArray,aD];rw [show (H.new (.map [] 0 true)).next=H.next+1 from rfl] at g1;have n2:((H.new (.map [] 0 true)).new (.map [] 0 true)).next=H.next+1+1:=rfl;generalize hma:H.next=ma at *;generalize (H.new (.map [] 0 true)).new (.map [] 0 true)=H2 at *;have g2:=(g1.newbox (tkC ma (ma+1)));have hb2:=g2.box (k:=2) (b:=H2.next) rfl;have c0:(tkC ma (ma+1))[0]? = some (.map (some ma)):=rfl;rw [n2] at hb2 g2;generalize htk:ma+1+1=tk at *;have hz:eA (.agg (zs 16 (.pointer none)).toArray)=some (.cells (zs 16 (.pointer none)) none,kR):=rfl;simp only [hb2,c0,b2,hz,AM.aW,aS,aD];generalize H2.new (.cells (tkC ma (ma+1)) none)=H3 at *;have g3:=g2.newbox (zs 16 (.pointer none));have hb3:=g3.box (k:=3) (b:=H3.next) rfl;have hk3:=g3.box (k:=2) (b:=tk) rfl;generalize hf:H3.next=f at *;generalize H3.new (.cells (zs 16 (.pointer none)) none)=H4 at *;refine S.f112 hE fun H5 e5 =>?_;have g5:=g3.grow e5;have hb5:=g5.box (k:=3) (b:=f) rfl;have hk5:=g5.box (k:=2) (b:=tk) rfl;have b3:aX [(0,1),(1,1),(2,2),(4,1),(5,1),(6,1),(7,1)] #[(.int .u8 0),(.int .u8 0),(.int .i64 0),(.int .u16 0),(.pointer none),(.bool false),(.slice none 0 0),(.pointer none)] [(0,(.int .u8 1)),(2,fQ.v ⟨0,1#16⟩),(3,ptr f 0)]=some (.agg (dY f false (.pointer none)).toArray):=rfl;refine ⟨by rw [hb5,hb3],by simp only [hb2,hk5,aD],?_⟩
 simp only [b3,aZ,AM.aW,aS,List.toList_toArray,aD];have g6:=g5.newbox (dY f false (.pointer none));generalize hx:H5.next=x at *;generalize H5.new (.cells (dY f false (.pointer none)) none)=H6 at *;obtain ⟨H7,s1,g7⟩:=g6.mapset (n:=0) (kd:=0) rfl (fun a b=>aFq a b) 1#8 x;have s1:cN 0 (.map (some ma)) (.int .u8 1) (ptr x 0) H6=some H7:=s1;simp only [s1,n2,aD];exact hQ tk ma (ma+1) f x H7 g7
theorem S.f129 (hE:aU E) (hQ:∀ pm pt H',Has H H H' [cF u16 aDk pm [],aF pt [.map (some pm)]]->Q (ptr pt 0) H'):E.call (E.fid i.f129) [] H Q:=by
 apply hE.f129;have g0:Has H H H []:=Has.start (Ext.refl H);have g1:=g0.newmap u16 aDk;have b1:∀ pm,aX [(0,1)] #[(.map none)] [(0,.map (some pm))]=some (.agg [.map (some pm)].toArray):=fun _=>rfl;simp only [F.f129,sJ,b1,aZ,AM.aW,aS,List.toList_toArray,aD];exact hQ _ _ _ (g1.newbox [.map (some H.next)])
end
end Go.AM
end
section
namespace Go.AM
set_option maxRecDepth 20000
section
variable {E:Sy} {H H' H0 Z:AH} {Q:Value->AH->Prop} {X:List Res} {w:Nat} {T:Tr} {M:List eI} {nx:Int}
structure KI where
 ma:Nat
 me:Nat
 tk:Nat
 f:Nat
 x:Nat
 pm:Nat
 pt:Nat
 nt:Nat
 k:Nat
 w:Nat
 n1:Nat
 Hf:AH
 ps:Value
 fs:Value
 pv:Value
def ntC:List Value:=aHy 0 0 (.int .u32 0) (.map none) (.map none) 0 0
def KI.L (K:KI) (fc xc:List Value) (own:List (BitVec 16×(Int×Int))) (done:Int):List Res :=
 [cF u8 aKS K.ma [(1#8,K.x)],cF u8 vi K.me [],aF K.tk (tkC K.ma K.me),aF K.f fc,aF K.x xc,cF u16 aDk K.pm own,aF K.pt [.map (some K.pm)],aF K.nt ntC,aF K.k (kC K.w K.tk K.pt K.nt K.ps K.fs done),frR K.n1 K.Hf]
structure KI.Pol (K:KI) (h:BitVec 16) (l:jP):Prop where
 n1:K.n1<=K.Hf.next
 ps:dO zH K.Hf 6 K.ps [pcP h K.pv]/\iA K.n1 K.ps
 pv:dO zH K.Hf 2 K.pv (eZ l)
 pvf:iA K.n1 K.pv
theorem KI.Pol.rows {K:KI} {h:BitVec 16} {l:jP} (p:K.Pol h l) (hf:(frR K.n1 K.Hf).P H):Rows H 6 K.ps [pcP h K.pv]/\Rows H 2 K.pv (eZ l):=by
 have kp:∀ {sz:Nat} {v:Value} {rows:List (List Value)},dO zH K.Hf sz v rows->iA K.n1 v->Rows H sz v rows:=fun g fr=>(g.keep fun b hb hlt=>hf b (by rw [List.mem_range'_1]; have:=fr b hb; omega)).toRows
 exact ⟨kp p.ps.1 p.ps.2,kp p.pv p.pvf⟩
theorem S.kernel_New_p (hE:aU E) (h:BitVec 16) (l:jP) (hh:h &&& ~~~51199#16=0#16) (ok:lU h l) {v pv:Value} (hv:Rows H 6 v [pcP h pv]) (hpp:plain1 pv=true) (hpv:Rows H 2 pv (eZ l))
  (hQ:∀ (K:KI) H',Has H H H' (K.L (zs 16 (.pointer none)) (dY K.f false (.pointer none)) [] 0)->K.Pol h l->Q (.tuple #[ptr K.k 0,vi 0]) H'):E.call (E.fid i.f62) [v,vi 60,vi 8] H Q:=by
 apply hE.f62;have l1:lenSlc v=some (vi 1):=by have:=hv.lenSlc; simpa using this
 have d16:¬ (16:Int)<1:=by omega
 simp only [F.f62,l1,gC,gt_iff_lt,d16,decide_false,aD];refine S.f187 hE 60 fun w H1 o1 =>?_;refine S.f181 hE fun tk ma me f x H2 g2 =>?_;have o2:=o1.add g2.fresh;refine S.f129 hE fun pm pt H3 g3 =>?_;have o3:=o2.add g3.fresh;refine S.f113 hE ?_;have o4:=o3.box ntC;have hbk:∀ nt,aX [(0,1),(1,1),(2,1),(3,1),(4,1),(5,1),(6,1),(7,1)] #[(.pointer none),(.pointer none),(.pointer none),(.pointer none),(.slice none 0 0),(.slice none 0 0),(.int .i64 0),(.int .i64 0)] [(0,ptr w 0),(1,ptr tk 0),(2,ptr pt 0),(3,ptr nt 0)]=some (.agg (kC w tk pt nt bL bL 0).toArray):=fun _=>rfl;simp only [hbk,aZ,AM.aW,aS,List.toList_toArray,l1,aD];have n4:(H3.new (.cells (aHy 0 0 (.int .u32 0) (.map none) (.map none) 0 0) none)).next=H3.next+1:=rfl;have o4:WkO _ H (H3.new (.cells (aHy 0 0 (.int .u32 0) (.map none) (.map none) 0 0) none)) w _ _ _:=o4;generalize hnt:H3.next=nt at *;generalize H3.new (.cells (aHy 0 0 (.int .u32 0) (.map none) (.map none) 0 0) none)=H4 at *;have o5:=o4.box (kC w tk pt nt bL bL 0);have hk5:=o5.held;rw [n4] at o5 hk5;generalize hk:nt+1=k at *;generalize H4.new (.cells (kC w tk pt nt bL bL 0) none)=H5 at *;have e5:=o5.ext;have ltk:=AH.lt_cells hk5;refine aM.step fun X hX =>?_;obtain ⟨b,o,f1,f2⟩:=(hv.mono e5).ix (i:=0) (by simp)
 have f2:(H5.get b).row o 6=some (pcP h pv):=f2;have f1:aK 6 v (.int .i64 0)=some (ptr b o):=f1;have lo:aE 6 (ptr b o) H5=some (.agg (pcP h pv).toArray):=by rw [aL,f2]; rfl
 have hp6:(pcP h pv).all plain1=true:=by simp [pcP,hpp]
 have hst:aG 6 (ptr H5.next 0) (.agg (pcP h pv).toArray) (H5.new (.cells z6 none))=some (H5.new (.cells (pcP h pv) none)):=eF rfl rfl hp6;have x6:Ext H5 (H5.new (.cells (pcP h pv) none)):=(Ext.refl _).new _;have hld:∀ {K:AH},Ext (H5.new (.cells (pcP h pv) none)) K->aE 6 (ptr H5.next 0) K=some (.agg (pcP h pv).toArray):=fun e=>by rw [aL,e.cells (AH.get_new_self _ _)]; rfl
 have k3:(kC w tk pt nt bL bL 0)[3]? = some (ptr nt 0):=rfl;have k4:(kC w tk pt nt bL bL 0)[4]? = some bL:=rfl;have k5:(kC w tk pt nt bL bL 0)[5]? = some bL:=rfl;have hk6:=x6.cells hk5;have c01:aA .lss (.int .i64 0) (vi 1)=some (vb true):=rfl;have ld6:=hld (Ext.refl _);simp only [F.f62_l1,fW,fV,gI,gJ,c01,f1,lo,aP,hst,ld6,hk6,k3,aD];generalize hH6:H5.new (.cells (pcP h pv) none)=H6 at *;refine S.compile_Filter_p hE nt h l hh ok (hpv.mono (e5.trans x6)) fun fb H7 e7 =>?_;have g4:aA .neq (.int .i64 0) (.int .i64 0)=some (vb false):=rfl;have hk7:=e7.cells hk6;have ld7:=hld e7;have hb1:bR 1 1 #[(.pointer none)] [(0,ptr fb 0)]=some (.cells [ptr fb 0] none,dN 1 1):=cQ 1 [.pointer none] [ptr fb 0] rfl rfl;simp only [cZ,List.getElem?_cons_zero,List.getElem?_cons_succ,g4,hk7,k4,k5,ld7,hb1,AM.aW,cW,aD];have x8:Ext H7 (H7.new (.cells [ptr fb 0] none)):=(Ext.refl _).new _;have gs8:=AH.get_new_self H7 (.cells [ptr fb 0] none);generalize hs:H7.next=s at *;generalize H7.new (.cells [ptr fb 0] none)=H8 at *;have hk8:=x8.cells hk7;have E8:=((e5.trans x6).trans e7).trans x8;refine S.policy_Policy_Clone_p hE h l ok.len (hpv.mono E8) fun pv' H9 e9 r9 f9 =>?_;have hk9:=e9.cells hk8;refine ⟨e9.get (AH.lt_cells gs8),by rw [aN,aN,hk9,hk7],by rw [aN,aN,hk9,hk7],?_⟩
 have hp9:(pcP h pv').all plain1=true:=by simp [pcP,r9.plain]
 have hb6:bR 1 6 #[(.string ⟨#[]⟩),(.int .u32 0),(.slice none 0 0),(.int .u16 0),(.slice none 0 0),(.slice none 0 0)] [(0,.agg (pcP h pv').toArray)]=some (.cells (pcP h pv') none,dN 1 1):=cQ 6 z6 (pcP h pv') rfl rfl;obtain ⟨psv,H10,a1,a2,a3⟩:=(dO.nil zH H9 6).app1 (Nat.zero_le _) (bytes:=104) (pcP h pv') rfl hp9 (by decide) (by decide) (by simp)
 rw [List.nil_append] at a2;obtain ⟨e10,f10⟩:=oX a3 (Ext.refl H9) (fun b hb=>by simp [blk] at hb)
 have hk10:=e10.cells hk9;have gs10:=(e9.trans e10).cells gs8;simp only [hb6,AM.aW,cW,a1,gN,aD];refine ⟨(e9.trans e10).get (AH.lt_cells gs8),by rw [hk10,hk7],?_⟩
 obtain ⟨fsv,H11,b1,b2,b3⟩:=(dO.nil zH H10 1).app (Nat.zero_le _) (bytes:=8) (x:=slc s 0 1 1) (new:=[[ptr fb 0]]) (Rows.made (f:=none) (by rw [gs10]; rfl) (.inl rfl) rfl (by simp)) (by simp) (by decide) (by decide) (by simp) (by simp)
 obtain ⟨e11,f11⟩:=oX b3 (Ext.refl H10) (fun b hb=>by simp [blk] at hb)
 have hk11:=e11.cells hk10;simp only [b1,gN,aD];have E11:Ext H5 H11:=((((x6.trans e7).trans x8).trans e9).trans e10).trans e11;have o11:=o5.add (aLg E11)
 have st:∀ {K:AH} {c:List Value} {j:Nat} {v:Value},K.get k = .cells c none->j<c.length->plain1 v=true->aQ (ptr k j) v K=some (K.put k (.cells (c.set j v) none)):=fun hk hlt hp=>by
  rw [aJ,if_pos hp,hk]; simp only [hlt,if_true]
 have hs4:=st (j:=4) hk11 (show 4<8 by decide) a2.plain
 have q4:(kC w tk pt nt bL bL 0).set 4 psv=kC w tk pt nt psv bL 0:=rfl;rw [q4] at hs4;have o12:=(o11.openX (k:=3) (r:=aF k (kC w tk pt nt bL bL 0)) rfl).2 _ _ (aF.put hk11 (kC w tk pt nt psv bL 0));have hk12:(H11.put k (.cells (kC w tk pt nt psv bL 0) none)).get k = .cells (kC w tk pt nt psv bL 0) none:=AH.get_put_self _ _ (AH.lt_cells hk11);have hs5:=st (j:=5) hk12 (show 5<8 by decide) b2.plain
 have q5:(kC w tk pt nt psv bL 0).set 5 fsv=kC w tk pt nt psv fsv 0:=rfl;rw [q5] at hs5;have o13:=(o12.openX (k:=3) (r:=aF k (kC w tk pt nt psv bL 0)) rfl).2 _ _ (aF.put hk12 (kC w tk pt nt psv fsv 0));have hjj:aA .add (.int .i64 0) (.int .i64 1)=some (vi 1):=rfl;simp only [hs4,hs5,hjj,aD];generalize (H11.put k (.cells (kC w tk pt nt psv bL 0) none)).put k (.cells (kC w tk pt nt psv fsv 0) none)=H13 at *;refine hX _ _ (aM.step fun X2 hX2 =>?_);have hk13:H13.get k = .cells (kC w tk pt nt psv fsv 0) none:=(o13.openX (k:=3) (r:=aF k (kC w tk pt nt psv fsv 0)) rfl).1.holds;have c11:aA .lss (vi 1) (vi 1)=some (vb false):=by rw [aV]; simp
 have k0:(kC w tk pt nt psv fsv 0)[0]? = some (ptr w 0):=rfl;obtain ⟨p,q,hw,⟨m,Lp,hi,bi⟩,_⟩:=o13.open_;have w0:([ptr p 0,ptr q 0]:List Value)[0]? = some (ptr p 0):=rfl;have k16:(.int .u16 1:Value)=u16 1#16:=rfl;simp only [F.f62_l1,fW,fV,gI,gJ,c11,hk13,k0,hw,w0,k16,aD];refine S.f27 hE hi 1#16 true ?_ fun L' H14 u14 =>?_
 ·exact ⟨by decide,by decide⟩
 have o14:=bi _ _ _ u14;have hk14:H14.get k = .cells (kC w tk pt nt psv fsv 0) none:=(o14.openX (k:=3) (r:=aF k (kC w tk pt nt psv fsv 0)) rfl).1.holds;obtain ⟨p',q',hw',_,⟨tv,tr,tn,bt⟩⟩:=o14.open_;have w1:([ptr p' 0,ptr q' 0]:List Value)[1]? = some (ptr q' 0):=rfl;have i0:(.int .i64 0:Value)=vi 0:=rfl;simp only [hk14,k0,hw',w1,i0,aD];refine S.f109 hE q' tv _ _ tr tn o14.tab 0 true fun H15 u15 =>?_;have o15:=bt _ _ _ _ u15 ?_
 ·have g15:=o15.has
  have g16:=Has.flat (A:=[]) g15;have g17:=Has.flat (A:=[cF u8 aKS ma [(1#8,x)],cF u8 vi me [],aF tk (tkC ma me),aF f (zs 16 (.pointer none)),aF x (dY f false (.pointer none))]) g16;exact hQ ⟨ma,me,tk,f,x,pm,pt,nt,k,w,H5.next,H11,psv,fsv,pv'⟩ H15 g17 ⟨E11.1,⟨a2.ext e11,fun b hb=>by show H5.next<=b; have:=f10 b hb; have:=(((x6.trans e7).trans x8).trans e9).1; omega⟩,r9.ext (e10.trans e11),fun b hb=>by show H5.next<=b; have:=f9 b hb; have:=((x6.trans e7).trans x8).1; omega⟩
 ·have e:(aFJ aDt 0 true).1=[⟨0,⟨0,0#16⟩,1#16,1⟩]:=rfl
  rw [e];exact ⟨by unfold aJ3; simp,by simp,by omega,by omega,by simp⟩
end
end Go.AM
end
section
namespace Go.AM
set_option maxRecDepth 20000
section
variable {E:Sy} {H H' H0 Z:AH} {Q:Value->AH->Prop} {A B R R':List Res} {K:KI} {fc xc:List Value} {own:List (BitVec 16×(Int×Int))} {done:Int}
theorem Has.assoc (g:Has H0 Z H (A++R++R')):Has H0 Z H (A++(R++R')):=by rw [<- List.append_assoc]; exact g
theorem Has.fin4 {r:Nat} {z:List Value} (g:Has H0 Z H (A++(R++[aF r z]))) (hz:z.length=4) (cs:List Value) (h1:cs.length=4) (h2:cs.all plain1=true) :
  ∃ H',aG 4 (ptr r 0) (.agg cs.toArray) H=some H'/\aE 4 (ptr r 0) H'=some (.agg cs.toArray)/\Has H0 Z H' (A++R):=by
 have hk:(A++(R++[aF r z]))[A.length+R.length]? = some (aF r z):=by
  rw [List.getElem?_append_right (by omega),List.getElem?_append_right (by omega)]
  simp
 have hb:=g.box hk;have g2:=g.put hk cs;refine ⟨H.put r (.cells cs none),?_,?_,?_⟩
 ·rw [cX,hb]
  have:AM.bF z 0 cs=cs:=by simp [bF,h1,hz]
  simp only [List.size_toArray,List.toList_toArray,h1,h2,hz,Nat.zero_add,Nat.le_refl,and_self,if_true,this]
 ·rw [aL,AH.get_put_self _ _ (AH.lt_cells hb),fC _ _ 4 h1]; rfl
 ·have g3:=g2.drop (A.length+R.length)
  have e:((A++(R++[aF r z])).set (A.length+R.length) (aF r cs)).eraseIdx (A.length+R.length)=A++R:=by
   rw [<- List.append_assoc,show A.length+R.length=(A++R).length by simp,List.set_append_right _ _ (Nat.le_refl _)]
   simp [List.eraseIdx_append];intro h; omega
  rw [e] at g3;exact g3
theorem Has.less {r:Res} (g:Has H0 Z H (A++(R++[r]))):Has H0 Z H (A++R):=by
 have g3:=g.drop (A.length+R.length)
 have e:(A++(R++[r])).eraseIdx (A.length+R.length)=A++R:=by
  rw [<- List.append_assoc,show A.length+R.length=(A++R).length by simp]
  simp [List.eraseIdx_append];intro h; omega
 rw [e] at g3;exact g3
theorem dK (A:List Res) {j:Nat} {r:Res} (h:R[j]? = some r):(A++R)[A.length+j]? = some r:=by
 rw [List.getElem?_append_right (by omega)]; simpa using h
theorem aAN (A:List Res) (j:Nat) (r:Res):(A++R).set (A.length+j) r=A++R.set j r:=by
 rw [List.set_append_right _ _ (by omega)]; simp
theorem aY {r r':Res} {j:Nat} (h:R[j]? = some r):(R++[r'])[j]? = some r:=by
 rw [List.getElem?_append_left]
 ·exact h
 ·exact (List.getElem?_eq_some_iff.1 h).1
theorem gL {b j:Nat} {c:List Value} {v:Value} (hb:H.get b = .cells c none) (hj:j<c.length) (hp:plain1 v=true):aQ (ptr b j) v H=some (H.put b (.cells (c.set j v) none)):=by
 rw [aJ,if_pos hp,hb]; simp only [hj,if_true]
abbrev iD (own:List (BitVec 16×(Int×Int))) (p:BitVec 16):Int×Int:=(own.lookup p).getD (0,0)
theorem tN {r:Nat} (h:dP u16 aDk H r own) (p:BitVec 16):look 0 (.agg #[(.int .i64 0),(.int .i64 0)]) false (.map (some r)) (u16 p) H=some (.agg #[vi (iD own p).1,vi (iD own p).2]):=by
 have:=h.look (kd:=0) (fun a b=>fP a b) p (.agg #[(.int .i64 0),(.int .i64 0)]) false;rw [this];unfold iD;cases own.lookup p <;> rfl
theorem S.f131 (hE:aU E) (g:Has H0 Z H (K.L fc xc own done++R)) (p:BitVec 16) (hQ:Q (vi (if (iD own p).2=0 then 111 else 0)) H):E.call (E.fid i.f131) [ptr K.pt 0,u16 p] H Q:=by
 apply hE.f131;have hb:=g.box (k:=6) (b:=K.pt) rfl;have hm:=g.mapAt (k:=5) rfl;have i0:(.int .i64 0:Value)=vi 0:=rfl;have p1:mF (.agg #[vi (iD own p).1,vi (iD own p).2]) 1=some (vi (iD own p).2):=rfl;simp only [F.f131,iI,hb,tN hm,p1,i0,eU,aD]
 by_cases h:(iD own p).2=0
 ·rw [if_pos h] at hQ
  simp only [h,decide_true,aD];exact hQ
 ·rw [if_neg h] at hQ
  simp only [h,decide_false,aD];exact hQ
theorem S.f130 (hE:aU E) (g:Has H0 Z H (K.L fc xc own done++R)) (p:BitVec 16) (hp:p≠0#16) (hbad:(iD own p).1 > 0->Q (.tuple #[(.int .u16 0),vi 98]) H)
  (hok:¬ (iD own p).1 > 0->∀ H',Has H0 Z H' (K.L fc xc (dQ p (1,0) own) done++R)->Q (.tuple #[u16 p,vi 0]) H'):E.call (E.fid i.f130) [ptr K.pt 0,u16 p] H Q:=by
 apply hE.f130;have hb:=g.box (k:=6) (b:=K.pt) rfl;have hm:=g.mapAt (k:=5) rfl;have i0:(.int .i64 0:Value)=vi 0:=rfl;have n0:(.int .u16 0:Value)=u16 0#16:=rfl;have p0:mF (.agg #[vi (iD own p).1,vi (iD own p).2]) 0=some (vi (iD own p).1):=rfl;have hbv:aX [(0,1),(1,1)] #[vi 0,vi 0] [(0,(.int .i64 1))]=some (.agg #[vi 1,vi 0]):=rfl;have hlk:look 0 (.agg #[vi 0,vi 0]) false (.map (some K.pm)) (u16 p) H=some (.agg #[vi (iD own p).1,vi (iD own p).2]):=tN hm p;simp only [F.f130,iI,n0,cV,hp,decide_false,F.f130_j1,hb,i0,hlk,p0,gC,aD]
 by_cases h:(iD own p).1 > 0
 ·simp only [h,decide_true,aD]
  exact hbad h
 ·obtain ⟨H1,s1,g1⟩:=g.mapset (n:=5) (kd:=0) (r:=K.pm) (l:=own) (fv:=aDk) rfl (fun a b=>fP a b) p (1,0)
  have s1:cN 0 (.map (some K.pm)) (u16 p) (.agg #[vi 1,vi 0]) H=some H1:=s1;simp only [h,decide_false,hb,hbv,s1,aD];exact hok h H1 g1
theorem S.f133 (hE:aU E) (g:Has H0 Z H (K.L fc xc own done++R)) (p:BitVec 16) (ho:iD own p=(1,0)) (hQ:∀ H',Has H0 Z H' (K.L fc xc (dQ p (1,1) own) done++R)->Q (vi 0) H'):E.call (E.fid i.f133) [ptr K.pt 0,u16 p] H Q:=by
 apply hE.f133;have hb:=g.box (k:=6) (b:=K.pt) rfl;have hm:=g.mapAt (k:=5) rfl;have hlk:=tN hm p;rw [ho] at hlk;have hs:aG 2 (ptr H.next 0) (.agg #[vi 1,vi 0]) (H.new (.cells [(.int .i64 0),(.int .i64 0)] none))=some (H.new (.cells [vi 1,vi 0] none)):=eF (n:=2) (c:=[vi 1,vi 0]) rfl rfl rfl;have g1:=(g.newbox [vi 1,vi 0]).assoc;have r1:(R++[aF H.next [vi 1,vi 0]])[R.length]? = some (aF H.next [vi 1,vi 0]):=by simp
 have hb1:=g1.box (b:=H.next) (dK (K.L fc xc own done) r1);have c1:aA .geq (vi 0) (vi 1)=some (vb false):=by rw [eP]; rfl
 have c2:aA .add (vi 0) (.int .i64 1)=some (vi 1):=rfl;simp only [F.f133,iI,hb,hlk,aP,hs,hb1,c1,c2,aD];have st:aQ (ptr H.next 1) (vi 1) (H.new (.cells [vi 1,vi 0] none))=some ((H.new (.cells [vi 1,vi 0] none)).put H.next (.cells [vi 1,vi 1] none)):=gL hb1 (show 1<2 by decide) rfl
 have g2:=g1.put (b:=H.next) (dK (K.L fc xc own done) r1) [vi 1,vi 1];rw [aAN] at g2;have r2:((R++[aF H.next [vi 1,vi 0]]).set R.length (aF H.next [vi 1,vi 1]))[R.length]? = some (aF H.next [vi 1,vi 1]):=by simp
 have hb2:=g2.box (b:=H.next) (dK (K.L fc xc own done) r2);have hp2:=g2.box (k:=6) (b:=K.pt) rfl;have e:(R++[aF H.next [vi 1,vi 0]]).set R.length (aF H.next [vi 1,vi 1])=R++[aF H.next [vi 1,vi 1]]:=by simp
 rw [e] at g2;generalize (H.new (.cells [vi 1,vi 0] none)).put H.next (.cells [vi 1,vi 1] none)=H2 at *;have hld:aE 2 (ptr H.next 0) H2=some (.agg #[vi 1,vi 1]):=by rw [aL,hb2]; rfl
 obtain ⟨H3,s3,g3⟩:=g2.mapset (n:=5) (kd:=0) (r:=K.pm) (l:=own) (fv:=aDk) rfl (fun a b=>fP a b) p (1,1);have s3:cN 0 (.map (some K.pm)) (u16 p) (.agg #[vi 1,vi 1]) H2=some H3:=s3;simp only [st,hp2,hld,s3,aD];have g3:Has H0 Z H3 (K.L fc xc (dQ p (1,1) own) done++(R++[aF H.next [vi 1,vi 1]])):=g3;exact hQ H3 g3.less
theorem S.port_Table_Drop_l (hE:aU E) (p:BitVec 16) (g:Has H0 Z H (K.L fc xc [(p,(1,1))] done++R)) (hQ:∀ H',Has H0 Z H' (K.L fc xc [] done++R)->Q (vi 0) H'):E.call (E.fid i.f132) [ptr K.pt 0,u16 p,vb true] H Q:=by
 apply hE.f132;have hb:=g.box (k:=6) (b:=K.pt) rfl;have hm:=g.mapAt (k:=5) rfl;have hlk:=tN hm p;have ho:iD [(p,((1:Int),(1:Int)))] p=(1,1):=by simp [iD]
 rw [ho] at hlk;have hs:aG 2 (ptr H.next 0) (.agg #[vi 1,vi 1]) (H.new (.cells [(.int .i64 0),(.int .i64 0)] none))=some (H.new (.cells [vi 1,vi 1] none)):=eF (n:=2) (c:=[vi 1,vi 1]) rfl rfl rfl;have g1:=(g.newbox [vi 1,vi 1]).assoc;have r1:∀ c,(R++[aF H.next c])[R.length]? = some (aF H.next c):=fun c=>by simp
 have hb1:=g1.box (b:=H.next) (dK (K.L fc xc [(p,(1,1))] done) (r1 [vi 1,vi 1]));have c1:aA .eql (vi 1) (.int .i64 0)=some (vb false):=by rw [show (.int .i64 0:Value)=vi 0 from rfl,eU]; rfl
 have c2:aA .sub (vi 1) (.int .i64 1)=some (vi 0):=rfl;have c3:aA .eql (vi 0) (.int .i64 0)=some (vb true):=by rw [show (.int .i64 0:Value)=vi 0 from rfl,eU]; rfl
 have s1:aQ (ptr H.next 0) (vi 0) (H.new (.cells [vi 1,vi 1] none))=some ((H.new (.cells [vi 1,vi 1] none)).put H.next (.cells [vi 0,vi 1] none)):=gL hb1 (show 0<2 by decide) rfl
 have g2:=g1.put (b:=H.next) (dK (K.L fc xc [(p,(1,1))] done) (r1 [vi 1,vi 1])) [vi 0,vi 1];have e2:∀ c c',(R++[aF H.next c]).set R.length (aF H.next c')=R++[aF H.next c']:=fun c c'=>by simp
 rw [aAN,e2] at g2;have hb2:=g2.box (b:=H.next) (dK (K.L fc xc [(p,(1,1))] done) (r1 [vi 0,vi 1]));simp only [F.f132,iI,hb,hlk,aP,hs,hb1,c1,F.f132_j1,c2,s1,aD];generalize (H.new (.cells [vi 1,vi 1] none)).put H.next (.cells [vi 0,vi 1] none)=H2 at *;have s2:aQ (ptr H.next 1) (vi 0) H2=some (H2.put H.next (.cells [vi 0,vi 0] none)):=gL hb2 (show 1<2 by decide) rfl
 have g3:=g2.put (b:=H.next) (dK (K.L fc xc [(p,(1,1))] done) (r1 [vi 0,vi 1])) [vi 0,vi 0];rw [aAN,e2] at g3;have hb3:=g3.box (b:=H.next) (dK (K.L fc xc [(p,(1,1))] done) (r1 [vi 0,vi 0]));have hp3:=g3.box (k:=6) (b:=K.pt) rfl;simp only [hb2,c2,s2,F.f132_j2,hb3,c3,hp3,aD];generalize H2.put H.next (.cells [vi 0,vi 0] none)=H3 at *;obtain ⟨H4,d1,u⟩:=cF.del (fk:=u16) (fv:=aDk) (g3.mapAt (k:=5) rfl) (fun a b=>fP a b) p;have g4:=g3.step (k:=5) (r:=cF u16 aDk K.pm [(p,(1,1))]) rfl u;have ha:tH p [(p,((1:Int),(1:Int)))]=[]:=by simp [tH]
 rw [ha] at g4;simp only [d1,aD];have g4:Has H0 Z H4 (K.L fc xc [] done++(R++[aF H.next [vi 0,vi 0]])):=g4;exact hQ H4 g4.less
end
end Go.AM
end
section
namespace Go.AM
set_option maxRecDepth 20000
section
variable {E:Sy} {H H' H0 Z:AH} {Q:Value->AH->Prop} {A B R R':List Res} {K:KI} {fc xc:List Value} {own:List (BitVec 16×(Int×Int))} {done:Int}
def bQ (port:Int) (lis:Bool):List Value:=[u8 3#8,vi 0,u16 0#16,vi 0,u16 0#16,vi port,vb lis]
def eG (n:BitVec 32) (A B:BitVec 64):List Value:=[u8 1#8,vb false,u32 n,u64 A,u64 B,(.string ⟨#[]⟩),(.string ⟨#[]⟩)]
def dL (K:KI) (n:BitVec 32) (A B:BitVec 64):List Value:=ptr K.k 0 :: ptr K.x 0 :: eG n A B
theorem S.f24 (hE:aU E) {f:Nat} (hf:H.get f = .cells fc none) (q:Nat) (hi:q<16) {v:Value} (hv:fc[q]? = some v) (hQ:Q v H):E.call (E.fid i.f24) [ptr f 0,u64 (BitVec.ofNat 64 q)] H Q:=by
 apply hE.f24;have hn:(BitVec.ofNat 64 q).toNat=q:=by rw [BitVec.toNat_ofNat]; exact Nat.mod_eq_of_lt (by omega)
 have k16:(.int .u64 16:Value)=u64 16#64:=rfl;have hlt:¬ (16#64:BitVec 64).toNat<=(BitVec.ofNat 64 q).toNat:=by rw [hn]; show ¬ 16<=q; omega
 have hix:cJ 16 1 (ptr f 0) (u64 (BitVec.ofNat 64 q))=some (ptr f q):=by
  show (if (0:Int)<=((BitVec.ofNat 64 q).toNat:Int)/\((BitVec.ofNat 64 q).toNat:Int)<(16:Nat) then _ else none)=_
  rw [hn,if_pos ⟨by omega,by omega⟩]
  show some (Value.pointer (some ((⟨f,0,none⟩:Addr).add ((q:Int).toNat*1))))=_
  rw [Int.toNat_natCast,Nat.mul_one,aCf (a:=⟨f,0,none⟩) rfl,Nat.zero_add]
 simp only [F.f24,iI,k16,wX,hlt,decide_false,hix,hf,hv,aD];exact hQ
theorem S.f73 (hE:aU E) (g:Has H0 Z H (K.L fc xc own done++R)) (hx:xc[4]? = some (ptr K.f 0)) {a ja:Nat} {n:BitVec 32} {A B:BitVec 64} (ha:R[ja]? = some (aF a (dL K n A B)))
  (q:Nat) (hi:q<16) {o jo:Nat} {port:Int} {lis:Bool} (hv:fc[q]? = some (ptr o 0)) (ho:R[jo]? = some (aF o (bQ port lis))) (hQ:Q (.tuple #[ptr o 0,vi 0]) H) :
  E.call (E.fid i.f73) [ptr a 0,u64 (BitVec.ofNat 64 q),(.int .u8 3),(.int .u16 0)] H Q:=by
 apply hE.f73;have hba:=g.box (b:=a) (dK (K.L fc xc own done) ha);have hbo:=g.box (b:=o) (dK (K.L fc xc own done) ho);have hbx:=g.box (k:=4) (b:=K.x) rfl;have hbf:=g.box (k:=3) (b:=K.f) rfl;have a1:(dL K n A B)[1]? = some (ptr K.x 0):=rfl;have o0:(bQ port lis)[0]? = some (u8 3#8):=rfl;have o4:(bQ port lis)[4]? = some (u16 0#16):=rfl;have e1:aA .eql (u8 3#8) (.int .u8 2)=some (vb false):=rfl;have e2:aA .neq (u8 3#8) (.int .u8 3)=some (vb false):=rfl;have n0:(.int .u16 0:Value)=u16 0#16:=rfl;simp only [F.f73,hba,a1,hbx,hx,aD];refine S.f24 hE hbf q hi hv ?_;simp only [eY,hbo,o0,o4,e1,e2,n0,aD];refine S.right_Set_Has_p hE 0#16 0#16 ?_;have z0:(0#16 &&& ~~~0#16:BitVec 16)=0#16:=by decide
 simp only [z0,decide_true,aD];exact hQ
theorem jJ {r:Nat} {L:List Res} {z:List Value} (g:Has H0 Z H (L++(R++[aF r z]))) (hz:z.length=4) {cs:List Value} (h1:cs.length=4) (h2:cs.all plain1=true) (hQ:∀ H3,Has H0 Z H3 (L++R)->Q (.agg cs.toArray) H3) :
  opt (aG 4 (ptr r 0) (.agg cs.toArray) H) fun H3=>opt (aE 4 (ptr r 0) H3) fun v=>Q v H3:=by
 obtain ⟨H3,s1,s2,s3⟩:=g.fin4 hz cs h1 h2;simp only [s1,s2,aD];exact hQ H3 s3
theorem S.f67 (hE:aU E) (g:Has H0 Z H (K.L fc xc own done++R)) (hx:xc[4]? = some (ptr K.f 0)) {dv:Value} {sl:uQ} (hxd:xc[7]? = some dv) (hd:lZ Z dv sl) (hsl:sl.length<2 ^ 62) {a ja:Nat} {n:BitVec 32} {A B:BitVec 64} (ha:R[ja]? = some (aF a (dL K n A B)))
  (q:Nat) (hi:q<16) {o jo:Nat} {port:Int} {lis:Bool} (hv:fc[q]? = some (ptr o 0)) (ho:R[jo]? = some (aF o (bQ port lis))) (p:BitVec 16)
  (hQ:∀ H',Has H0 Z H' (K.L fc xc own done++R)->Q (.agg (if (sl.all fun x=>x.2.port 32768#16 p)=true then aB9 (if (iD own p).2=0 then 111 else 0) else gZ (-1) 13).toArray) H') :
  E.call (E.fid i.f67) [ptr a 0,u64 (BitVec.ofNat 64 q),u64 (p.setWidth 64)] H Q:=by
 apply hE.f67;have g1:=(g.newbox z4).assoc
 have hQ':∀ (cs:List Value) H',cs.length=4->cs.all plain1=true->(if (sl.all fun x=>x.2.port 32768#16 p)=true then aB9 (if (iD own p).2=0 then 111 else 0) else gZ (-1) 13)=cs->Has H0 Z H' (K.L fc xc own done++(R++[aF H.next z4]))->opt (aG 4 (ptr H.next 0) (.agg cs.toArray) H') fun H3=>opt (aE 4 (ptr H.next 0) H3) fun v=>Q v H3:=by
  intro cs H' h1 h2 h3 g';obtain ⟨H3,s1,s2,s3⟩:=g'.fin4 rfl cs h1 h2;have:=hQ H3 s3;rw [h3] at this;simp only [s1,s2,aD];exact this
 simp only [F.f67,aP,aD];generalize H.new (.cells z4 none)=H1 at *;refine S.f73 hE g1 hx (aY ha) q hi hv (aY ho) ?_;have hp:(p.setWidth 64).toNat=p.toNat:=by simp; omega
 have hgt:¬ (65535#64:BitVec 64).toNat<(p.setWidth 64).toNat:=by rw [hp]; show ¬ 65535<p.toNat; have:=p.isLt; omega
 have k6:(.int .u64 65535:Value)=u64 65535#64:=rfl;have g4:aA .neq (vi 0) (.int .i64 0)=some (vb false):=rfl;have hba:=g1.box (b:=a) (dK (K.L fc xc own done) (aY ha));have hbx:=g1.box (k:=4) (b:=K.x) rfl;have a1:(dL K n A B)[1]? = some (ptr K.x 0):=rfl
 have hcv:aR .u16 (u64 (p.setWidth 64))=some (u16 p):=by
  rw [zI]; congr 2;apply BitVec.eq_of_toNat_eq; simp
 have kc:(.int .u16 32768:Value)=u16 32768#16:=rfl;simp only [cZ,List.getElem?_cons_zero,List.getElem?_cons_succ,g4,k6,aFI,hgt,decide_false,hba,a1,hbx,hxd,hcv,kc,aD];refine S.f20 hE (hd.sub g1.sub) hsl 32768#16 p ?_;cases hm:(sl.all fun x=>x.2.port 32768#16 p) with
 | false =>
  rw [hm] at hQ';simp only [aD];refine S.f2 hE 13 fun H2 e2 =>?_;exact hQ' (gZ (-1) 13) H2 rfl rfl rfl (g1.grow e2)
 | true =>
  rw [hm] at hQ';have hbk:=g1.box (k:=8) (b:=K.k) rfl;have a0:(dL K n A B)[0]? = some (ptr K.k 0):=rfl;have k2:(kC K.w K.tk K.pt K.nt K.ps K.fs done)[2]? = some (ptr K.pt 0):=rfl;simp only [hba,a0,hbk,k2,hcv,aD];refine S.f131 hE g1 p ?_;refine S.f96 hE _ fun H2 e2 =>?_;obtain ⟨l1,l2,_⟩:=zQ (if (iD own p).2=0 then 111 else 0);exact hQ' _ H2 l1 l2 rfl (g1.grow e2)
end
end Go.AM
end
