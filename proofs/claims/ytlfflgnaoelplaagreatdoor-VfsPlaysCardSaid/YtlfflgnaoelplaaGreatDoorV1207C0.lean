/- CONTRACTS ON THE PRINTED FUNCTIONS. -/
import Derived.Test.YtlfflgnaoelplaaGreatDoorV1207F
set_option linter.all false
namespace Go.AM
section
def dK(F:List Nat)(H H':AH):Prop:=H.next<=H'.next/\∀ b,b<H.next->b ∉ F->H'.get b=H.get b
theorem dK.refl(F:List Nat)(H:AH):dK F H H:=⟨Nat.le_refl _,λ_ _ _=>rfl⟩
theorem dK.trans{F F':List Nat}{H H' H'':AH}(h:dK F H H')(h':dK F' H' H'')(hs:∀ b∈F',b∈F\/H.next<=b):dK F H H'' :=
 ⟨Nat.le_trans h.1 h'.1,λb hb hf=>by
  rw[h'.2 b (Nat.lt_of_lt_of_le hb h.1) (λk=>(hs b k).elim hf (λk=>by omega)),h.2 b hb hf]⟩
theorem dK.trans'{F:List Nat}{H H' H'':AH}(h:dK F H H')(h':dK F H' H''):dK F H H'':=h.trans h' λ_ k => .inl k
theorem dK.new{F:List Nat}{H H':AH}(h:dK F H H')(o:cZ):dK F H (H'.new o) :=
 ⟨Nat.le_succ_of_le h.1,λb hb hf=>by rw[AH.get_new_lt _ _ (Nat.lt_of_lt_of_le hb h.1)];exact h.2 b hb hf⟩
theorem dK.put{F:List Nat}{H H':AH}(h:dK F H H'){b:Nat}(hb:b∈F\/H.next<=b)(o:cZ):dK F H (H'.put b o) :=
 ⟨h.1,λx hx hf=>by rw[AH.get_put_ne _ _ (by rintro rfl;exact hb.elim hf (λk=>by omega))];exact h.2 x hx hf⟩
theorem Ext.only{F:List Nat}{H H':AH}(h:Ext H H'):dK F H H':=⟨h.1,λb hb _=>h.2 b hb⟩
theorem dK.get{F:List Nat}{H H':AH}(h:dK F H H'){b:Nat}(hb:b<H.next)(hf:b ∉ F):H'.get b=H.get b:=h.2 b hb hf
theorem dK.obj{F:List Nat}{H H':AH}(h:dK F H H'){b:Nat}{o:cZ}(ho:o ≠ .dead)(hg:H.get b=o)(hf:b ∉ F):H'.get b=o:=by
 rw[h.2 b (AH.lt_of_get (by rw[hg];exact ho)) hf,hg]
theorem dK.cells{F:List Nat}{H H':AH}(h:dK F H H'){b:Nat}{c:List Value}{f:Option Nat}(hg:H.get b = .cells c f)(hf:b ∉ F):H'.get b = .cells c f:=h.obj (by simp) hg hf
theorem dK.mono{F F':List Nat}{H H':AH}(h:dK F H H')(hs:∀ b∈F,b∈F'\/H.next<=b):dK F' H H' :=
 ⟨h.1,λb hb hf=>h.2 b hb λk=>(hs b k).elim hf (λk=>by omega)⟩
theorem dK.ext{F:List Nat}{H0 H H':AH}(h:dK F H H')(e:Ext H0 H)(hs:∀ b∈F,H0.next<=b):Ext H0 H' :=
 ⟨Nat.le_trans e.1 h.1,λb hb=>by rw[h.2 b (Nat.lt_of_lt_of_le hb e.1) (λk=>by have:=hs b k;omega)];exact e.2 b hb⟩
def Sub(Z H:AH):Prop:=Z.next<=H.next/\∀ b,Z.get b ≠ .dead->H.get b=Z.get b
theorem Sub.refl(H:AH):Sub H H:=⟨Nat.le_refl _,λ_ _=>rfl⟩
theorem Ext.sub{H H':AH}(e:Ext H H'):Sub H H':=⟨e.1,λ_ hb=>e.get (AH.lt_of_get hb)⟩
theorem Sub.trans{A B C:AH}(h:Sub A B)(h':Sub B C):Sub A C:=⟨Nat.le_trans h.1 h'.1,λb hb=>by rw[h'.2 b (by rw[h.2 b hb];exact hb),h.2 b hb]⟩
theorem Sub.ext{Z H H':AH}(h:Sub Z H)(e:Ext H H'):Sub Z H':=h.trans e.sub
theorem Sub.only{Z H H':AH}{F:List Nat}(h:Sub Z H)(o:dK F H H')(hF:∀ b∈F,Z.get b = .dead):Sub Z H' :=
 ⟨Nat.le_trans h.1 o.1,λb hb=>by
  have h1:=h.2 b hb;rw[o.2 b (AH.lt_of_get (by rw[h1];exact hb)) (λk=>hb (hF b k)),h1]⟩
theorem AH.get_ge(H:AH){b:Nat}(h:H.next<=b):H.get b = .dead:=by simp[AH.get,Nat.not_lt.2 h]
theorem Rows.sub{Z H:AH}{sz:Nat}{v:Value}{rows:List (List Value)}(h:Rows Z sz v rows)(e:Sub Z H):Rows H sz v rows:=by
 refine⟨h.len,?_⟩;rcases h.at_ with h | ⟨b,o,c,h1,h2,h3,h4⟩
 ·exact .inl h
 ·have:=e.2 b (iI h4)
  exact .inr ⟨b,o,c,h1,h2,by rw[this];exact h3,by rw[this];exact h4⟩
def AH.freeze(Z:AH)(n b:Nat)(o:cZ):AH:={ next:=n,raw:=λx=>if x=b then o else Z.get x }
theorem AH.get_freeze(Z:AH)(n b:Nat)(o:cZ)(x:Nat)(hn:Z.next<=n)(hb:b<n):(Z.freeze n b o).get x=if x=b then o else Z.get x:=by
 by_cases h:x=b
 ·subst h;simp[AH.get,AH.freeze,hb]
 ·by_cases k:x<n
  ·simp[AH.get,AH.freeze,h,k]
  ·have:¬ x<Z.next:=by omega
   simp[AH.get,AH.freeze,h,k,this]
theorem Sub.freeze{Z H:AH}(h:Sub Z H){b:Nat}(hb:b<H.next):Sub (Z.freeze H.next b (H.get b)) H :=
 ⟨Nat.le_refl _,λx hx=>by
  rw[AH.get_freeze _ _ _ _ _ h.1 hb]at hx ⊢
  split
  ·rename_i e;rw[e]
  ·rename_i e;rw[if_neg e]at hx;exact h.2 x hx⟩
theorem Sub.to_freeze{Z H:AH}(h:Sub Z H){b:Nat}(hb:b<H.next):Sub Z (Z.freeze H.next b (H.get b)) :=
 ⟨h.1,λx hx=>by
  rw[AH.get_freeze _ _ _ _ _ h.1 hb]
  split
  ·rename_i e;rw[<- h.2 x hx,e]
  ·rfl⟩
def cB(Z H:AH)(sz:Nat)(v:Value)(rows:List (List Value)):Prop :=
 (∀ r∈rows,r.length=sz/\r.all plain1=true)/\((rows=[]/\v=aZ)\/∃ b f c cs,Z.get b = .dead/\v=slc b 0 rows.length c/\H.get b = .cells cs f/\rows.length<=c/\cs.length=c*sz/\cs.take (rows.length*sz)=rows.flatten /\
  (f=none\/f=some sz))
section
variable {Z H H':AH}{sz:Nat}{v:Value}{rows:List (List Value)}
theorem cB.nil(Z H:AH)(sz:Nat):cB Z H sz aZ []:=⟨by simp,.inl ⟨rfl,rfl⟩⟩
theorem cB.made{b n:Nat}{f:Option Nat}(hb:Z.get b = .dead)(hg:H.get b = .cells rows.flatten f)(hf:f=none\/f=some sz)(hn:rows.length=n)(hr:∀ r∈rows,r.length=sz/\r.all plain1=true):cB Z H sz (slc b 0 n n) rows:=by
 subst hn;have hfl:=fL rows λr h=>(hr r h).1;exact⟨hr,.inr ⟨b,f,rows.length,rows.flatten,hb,rfl,hg,Nat.le_refl _,hfl,by rw[<- hfl,List.take_length],hf⟩⟩
theorem cB.room{b c:Nat}{cs:List Value}(hb:Z.get b = .dead)(hg:H.get b = .cells cs none)(hc:cs.length=c*sz):cB Z H sz (slc b 0 0 c) [] :=
 ⟨by simp,.inr ⟨b,none,c,cs,hb,rfl,hg,Nat.zero_le _,hc,by simp,.inl rfl⟩⟩
theorem cB.toRows(h:cB Z H sz v rows):Rows H sz v rows:=by
 rcases h.2 with ⟨rfl,rfl⟩ | ⟨b,f,c,cs,h1,rfl,h3,h4,h5,h6,h7⟩
 ·exact Rows.nil _ _ none
 ·refine⟨λr hr=>(h.1 r hr).1,.inr ⟨b,0,c,rfl,h4,?_,?_⟩⟩
  ·rw[h3];rcases h7 with rfl | rfl<;>simp[fits]
  ·have:rows.length*sz<=c*sz:=Nat.mul_le_mul_right _ h4
   rw[h3,gG,if_pos (by omega),List.drop_zero,h6]
theorem cB.plain(h:cB Z H sz v rows):plain1 v=true:=by
 rcases h.2 with ⟨_,rfl⟩ | ⟨b,f,c,cs,h1,rfl,_⟩<;>rfl
theorem cB.keep(h:cB Z H sz v rows)(e:∀ b,blk v=some b->b<H.next->H'.get b=H.get b):cB Z H' sz v rows:=by
 refine⟨h.1,?_⟩;rcases h.2 with h | ⟨b,f,c,cs,h1,rfl,h3,h4⟩
 ·exact .inl h
 ·exact .inr ⟨b,f,c,cs,h1,rfl,by rw[e b rfl (AH.lt_cells h3)];exact h3,h4⟩
theorem cB.ext(h:cB Z H sz v rows)(e:Ext H H'):cB Z H' sz v rows:=h.keep λb _ hb=>e.get hb
theorem cB.blk_lt(h:cB Z H sz v rows){b:Nat}(hb:blk v=some b):b<H.next:=by
 rcases h.2 with ⟨_,rfl⟩ | ⟨b',f,c,cs,h1,rfl,h3,_⟩
 ·simp[blk]at hb
 ·simp[blk]at hb;subst hb;exact AH.lt_cells h3
def eY(v:Value):List Nat:=match blk v with | some b=>[b] | none=>[]
theorem bZ{v:Value}{b:Nat}:b∈eY v↔blk v=some b:=by
 unfold eY;cases blk v<;>simp[eq_comm]
def aBh(H H':AH)(v v':Value):Prop:=dK (eY v) H H'/\∀ b,blk v'=some b->blk v=some b\/H.next<=b
theorem cB.app(h:cB Z H sz v rows)(hZ:Z.next<=H.next){bytes:Nat}{x:Value}{new:List (List Value)}(hx:Rows H sz x new)(hp:∀ r∈new,r.all plain1=true)(hs:sz≠0)(hb:bytes≠0)(h1:(rows.length+new.length)*bytes<=2 ^ 46)(h2:rows.length+new.length<2 ^ 62):
  ∃ v' H',AM.app sz bytes v x H=some (v',H')/\cB Z H' sz v' (rows++new)/\aBh H H' v v':=by
 have hrows:=h.toRows
 have hall:∀ r∈rows++new,r.length=sz/\r.all plain1=true:=by
  intro r hr;rcases List.mem_append.1 hr with hr | hr
  ·exact h.1 r hr
  ·exact⟨hx.len r hr,hp r hr⟩
 have hpn:new.flatten.all plain1=true:=pJ hp;have hpo:rows.flatten.all plain1=true:=pJ λr hr=>(h.1 r hr).2;have hfn:=fL new hx.len;have hfo:=fL rows λr hr=>(h.1 r hr).1;have hnew:jP sz new.length x H=some new.flatten:=zD hx;rcases h.2 with ⟨rfl,rfl⟩ | ⟨b,f,c,cs,g1,rfl,g3,g4,g5,g6,g7⟩
 ·by_cases hn:new=[]
  ·subst hn
   refine⟨aZ,H,?_,⟨by simp,.inl ⟨rfl,rfl⟩⟩,dK.refl _ _,λb hb => .inl hb⟩
   have e:=nU hx;simp at e hnew;simp[AM.app,e,hnew]
  ·have hpos:0<new.length:=List.length_pos_iff.2 hn
   refine⟨slc H.next 0 new.length new.length,H.new (.cells new.flatten (some sz)),?_,cB.made (AH.get_ge _ hZ) (AH.get_new_self _ _) (.inr rfl) (by simp) (by simpa using hall),(dK.refl _ _).new _,λb hb => .inr (by simp[blk]at hb;omega)⟩
   simp only[AM.app,nU hx,hnew,Option.bind_some,hpn,Bool.not_true,Bool.false_eq_true,if_false];simp at h1 h2;rw[if_neg (by omega),if_neg (by simp;omega)]
   simp[fM]
 ·have hlt:=AH.lt_cells g3
  have hbl:eY (slc b 0 rows.length c)=[b]:=rfl;have hmul:(rows.length+new.length)*sz=rows.length*sz+new.length*sz:=Nat.add_mul _ _ _
  by_cases hcap:rows.length+new.length<=c
  ·have hle:(rows.length+new.length)*sz<=c*sz:=Nat.mul_le_mul_right _ hcap
   refine⟨slc b 0 (rows.length+new.length) c,H.put b (.cells (splice cs (rows.length*sz) new.flatten) f),?_,⟨hall,.inr ⟨b,f,c,_,g1,by simp,AH.get_put_self _ _ hlt,by simpa using hcap,?_,?_,?_⟩⟩,(dK.refl _ _).put (.inl (by simp[hbl])) _,λb' hb' => .inl (by simpa[blk] using hb')⟩
   ·simp only[AM.app,nU hx,hnew,Option.bind_some,hpn,Bool.not_true,Bool.false_eq_true,if_false]
    rw[if_pos hcap];simp only[Option.isSome_none,Bool.false_eq_true,if_false,g3];rw[if_pos (by omega),Nat.zero_add]
   ·rw[jB (by omega)];exact g5
   ·simp only[List.length_append,List.flatten_append,hmul,splice]
    rw[List.take_append_of_le_length (by rw[List.length_append,List.length_take,hfn];omega),List.take_of_length_le (by rw[List.length_append,List.length_take,hfn];omega),g6]
   ·exact g7
  ·have hold:fM sz rows.length (slc b 0 rows.length c) H=some rows.flatten:=by
    have:rows.length*sz<=c*sz:=Nat.mul_le_mul_right _ g4;simp only[fM,Option.isSome_none,Bool.false_eq_true,if_false,g3,gG];rw[if_pos (by omega),List.drop_zero,g6]
   have hfin:∀ H1:AH,H1.next=H.next->AM.app sz bytes (slc b 0 rows.length c) x H=some (eA (rows.length+new.length) (rows.length+new.length) H.next,H1.new (.cells (rows.flatten++new.flatten) (some sz))) ->
     dK [b] H H1 ->
     ∃ v' H',AM.app sz bytes (slc b 0 rows.length c) x H=some (v',H')/\cB Z H' sz v' (rows++new)/\aBh H H' (slc b 0 rows.length c) v':=by
    intro H1 e1 e2 e3;exact⟨_,_,e2,cB.made (AH.get_ge _ hZ) (by rw[<- e1,AH.get_new_self,List.flatten_append]) (.inr rfl) (by simp) hall,by rw[hbl];exact e3.new _,λb' hb' => .inr (by simp[blk]at hb'; omega)⟩
   have pre:AM.app sz bytes (slc b 0 rows.length c) x H=(match f with
     | none=>some (eA (rows.length+new.length) (rows.length+new.length) H.next,H.new (.cells (rows.flatten++new.flatten) (some sz)))
     | some e=>if e=sz then some (eA (rows.length+new.length) (rows.length+new.length) H.next,(H.put b .dead).new (.cells (rows.flatten++new.flatten) (some sz))) else none):=by
    simp only[AM.app,nU hx,hnew,Option.bind_some,hpn,Bool.not_true,Bool.false_eq_true,if_false];rw[if_neg hcap,if_neg (by omega),hold]
    simp only[Option.bind_some,hpo,Bool.not_true,Bool.false_eq_true,if_false,g3];cases f<;>rfl
   rcases g7 with rfl | rfl
   ·exact hfin H rfl pre (dK.refl _ _)
   ·exact hfin (H.put b .dead) rfl (by rw[pre];simp) ((dK.refl _ _).put (.inl (by simp)) _)
theorem cB.app1(h:cB Z H sz v rows)(hZ:Z.next<=H.next){bytes:Nat}(new:List Value)(hl:new.length=sz)(hp:new.all plain1=true)(hs:sz≠0)(hb:bytes≠0)(h1:(rows.length+1)*bytes<=2 ^ 46):
  ∃ v' H',AM.app sz bytes v (slc H.next 0 1 1) (H.new (.cells new none))=some (v',H')/\cB Z H' sz v' (rows++[new])/\aBh H H' v v':=by
 have hb1:1<=bytes:=by omega
 have h2:(rows.length+1)*1<=(rows.length+1)*bytes:=Nat.mul_le_mul_left _ hb1;obtain⟨v',H',a1,a2,a3,a4⟩:=(h.ext ((Ext.refl H).new (.cells new none))).app (Nat.le_succ_of_le hZ) (bytes:=bytes) (x:=slc H.next 0 1 1) (new:=[new]) (Rows.made (f:=none) (by rw[AH.get_new_self];simp) (.inl rfl) rfl (by simpa using hl)) (by simpa using hp) hs hb h1 (by simp at *; omega)
 refine⟨v',H',a1,a2,⟨by have:=a3.1;simp at this;omega,λb hb hf =>?_⟩,λb hb=>(a4 b hb).imp id λk=>by simp at k;omega⟩
 rw[a3.2 b (by simp;omega) hf,AH.get_new_lt _ _ hb]
end
theorem oN(c:List Value)(f:Option Nat)(n:Nat)(h:c.length=n):(cZ.cells c f).row 0 n=some c:=by
 rw[gG,if_pos (by omega),List.drop_zero,List.take_of_length_le (by omega)]
theorem aDe(a b c v:List Value)(h:b.length=v.length):splice (a++b++c) a.length v=a++v++c:=by
 have h1:(a++b++c).take a.length=a:=by rw[List.append_assoc,List.take_left' rfl]
 have h2:(a++b++c).drop (a.length+v.length)=c:=by rw[<- h,<- List.length_append,List.drop_left' rfl]
 simp only[splice,h1,h2]
theorem wZ(size:Nat):∀ (vs:List Value) (k:Nat) (pre post:List Value),pre.length=k*size->post.length=vs.length*size->(∀ v∈vs,(dF v).length=size) ->
  pQ (λi=>some (i*size,size)) (pre++post) ((List.range' k vs.length).zip vs)=some (pre++vs.flatMap dF)
 | [],k,pre,post,_,h2,_=>by
  simp at h2;simp[h2]
 | v :: vs,k,pre,post,h1,h2,h3=>by
  have hv:=h3 v (by simp)
  have e:post=post.take size++post.drop size:=(List.take_append_drop _ _).symm;have hl:(post.take size).length=size:=by rw[List.length_take,h2,List.length_cons,Nat.succ_mul];omega
  have hs:splice (pre++post) (k*size) (dF v)=(pre++dF v)++post.drop size:=by
   conv=>lhs;rw[e]
   rw[<- h1,<- List.append_assoc,aDe _ _ _ _ (by omega)]
  simp only[List.length_cons,List.range'_succ,List.zip_cons_cons,aC4];rw[hv,hs];have ih:=wZ size vs (k+1) (pre++dF v) (post.drop size) (by rw[List.length_append,h1,hv,Nat.succ_mul]) (by rw[List.length_drop,h2,List.length_cons,Nat.succ_mul];omega) (λx hx=>h3 x (by simp[hx]))
  rw[ih];have hle:k*size+size<=pre.length+post.length:=by rw[h1,h2,List.length_cons,Nat.succ_mul];omega
  simp[hle]
theorem fJ(len size:Nat)(zero:List Value)(parts:List (Nat×Value))(vs:List Value)(hz:zero.length=size)(hp:parts=(List.range' 0 vs.length).zip vs)(hn:vs.length=len)(hd:vs.all iK=true)(hl:∀ v∈vs,(dF v).length=size):
  buildS len size zero.toArray parts=some (.cells (vs.flatMap dF) none,eA len len):=by
 subst hp hn;rw[fW _ _ _ _ hz]
 have h1:((List.range' 0 vs.length).zip vs).all (λp=>iK p.2)=true:=by
  rw[List.all_eq_true]at hd ⊢;intro p hp;exact hd _ (List.of_mem_zip hp).2
 have:=wZ size vs 0 [] (List.replicate vs.length zero).flatten (by simp) (by simp[hz]) hl
 simp only[List.nil_append]at this;simp[h1,this]
 rfl
theorem gC(size:Nat)(zero cs:List Value)(hz:zero.length=size)(h:cs.length=size):buildS 1 size zero.toArray [(0,.agg cs.toArray)]=some (.cells cs none,eA 1 1):=by
 have:=fJ 1 size zero [(0,.agg cs.toArray)] [.agg cs.toArray] hz rfl rfl rfl (by simpa using h)
 simpa using this
theorem aDg(zero x:Value)(h:dF x=[x])(hd:iK x=true):buildS 1 1 #[zero] [(0,x)]=some (.cells [x] none,eA 1 1):=by
 have:=fJ 1 1 [zero] [(0,x)] [x] rfl rfl rfl (by simp[hd]) (by simp[h])
 simpa[h] using this
@[simp] theorem aI4(c:cR)(g:FuncId)(a b:Array Value)(args:List Value)(H:AH)(K:Value->AH->Prop):nO c (.func (.func g) a b) args H K=c g (a.toList++args++b.toList) H K:=uH rfl
theorem tD{α:Type}[DecidableEq α]:∀ (l m:List α),l.Nodup->(∀ x∈l,x∈m)->l.length<=m.length
 | [],m,_,_=>Nat.zero_le _
 | x :: l,m,hn,hs=>by
  have hx:=hs x (by simp)
  rw[List.nodup_cons]at hn;have:=tD l (m.erase x) hn.2 λy hy=>(List.mem_erase_of_ne (by rintro rfl;exact hn.1 hy)).2 (hs y (by simp[hy]))
  rw[List.length_erase_of_mem hx]at this;have:=List.length_pos_of_mem hx;simp only[List.length_cons];omega
theorem kW(a b:Nat)(hb:b≠0):aA .rem (vi a) (vi b)=some (vi ((a % b:Nat):Int)):=by
 rw[xG _ _ _ (by omega)]
 simp[Int.tmod]
theorem aBY(a b:Nat)(hb:b≠0)(ha:a<2 ^ 63):aA .quo (vi a) (vi b)=some (vi ((a / b:Nat):Int)):=by
 have h1:a / b<=a:=Nat.div_le_self _ _;rw[aDl _ _ _ (by omega)]
 have e:(a:Int).tdiv b=((a / b:Nat):Int):=by simp[Int.tdiv]
 rw[e];generalize a / b=q at *;rw[kT (by omega) (by omega)]
theorem cV(a b:Nat)(h:a+b<2 ^ 63):aA .add (vi a) (vi b)=some (vi ((a+b:Nat):Int)):=by
 rw[eM (by omega) (by omega)];simp
theorem mL(a n:Nat)(hn:n≠0)(ha:a<2 ^ 63):aA .quo (vi a) (vi (no_index (OfNat.ofNat n)))=some (vi ((a / n:Nat):Int)):=aBY a n hn ha
def eK{K V:Type}(fk:K->Value)(fv:V->Value)(H:AH)(r:Nat)(l:List (K×V)):Prop :=
 ∃ es clock,H.get r = .map es clock true/\es.map (λe=>(e.key,e.val))=(l.map λp=>(fk p.1,fv p.2))/\(es.map (·.born)).Nodup/\(∀ e∈es,e.born<clock)/\(l.map Prod.fst).Nodup
def kD{K V:Type}[DecidableEq K](k:K)(v:V):List (K×V)->List (K×V)
 | []=>[(k,v)]
 | p :: l=>if p.1=k then(k,v) :: l else p :: kD k v l
section
variable {K V:Type}[DecidableEq K]{fk:K->Value}{fv:V->Value}{H:AH}{r kd:Nat}
theorem eK.lt{l:List (K×V)}(h:eK fk fv H r l):r<H.next:=by
 obtain⟨es,clock,h1,_⟩:=h;exact AH.lt_of_get (by rw[h1];simp)
theorem eK.keep{H':AH}{l:List (K×V)}(h:eK fk fv H r l)(e:H'.get r=H.get r):eK fk fv H' r l:=by
 obtain⟨es,clock,h1,h2⟩:=h;exact⟨es,clock,by rw[e];exact h1,h2⟩
theorem eK.new(H:AH):eK fk fv (H.new (.map [] 0 true)) H.next ([]:List (K×V)):=⟨[],0,AH.get_new_self _ _,rfl,by simp,by simp,by simp⟩
theorem eK.nodup{l:List (K×V)}(h:eK fk fv H r l):(l.map Prod.fst).Nodup:=by
 obtain⟨_,_,_,_,_,_,h⟩:=h;exact h
theorem nW(hk:∀ a b,cN kd (fk a) (fk b)=some (decide (a=b)))(k:K):∀ (es:List MapEntry) (l:List (K×V)),es.map (λe=>(e.key,e.val))=l.map (λp=>(fk p.1,fv p.2)) ->
  mM kd (fk k) es=some ((l.findIdx? λp=>decide (k=p.1)).bind λi=>(l[i]?).map λp=>(i,fv p.2))
 | [],[],_=>rfl
 | [],_ :: _,h=>by simp at h
 | _ :: _,[],h=>by simp at h
 | e :: es,p :: l,h=>by
  simp only[List.map_cons,List.cons.injEq,Prod.mk.injEq]at h;obtain⟨⟨h1,h2⟩,h3⟩:=h;have ih:=nW hk k es l h3;simp only[mM,h1,hk,Option.bind_some]
  by_cases e:k=p.1
  ·simp[e,h2,List.findIdx?_cons]
  ·simp only[e,decide_false,ih,Option.map_some,List.findIdx?_cons,if_false,Bool.false_eq_true]
   congr 1
   cases l.findIdx? λp=>decide (k=p.1)<;>simp
   rename_i i;cases l[i]?<;>rfl
theorem pV(k:K):∀ l:List (K×V),(l.findIdx? λp=>decide (k=p.1)).bind (λi=>(l[i]?).map λp=>(i,fv p.2))=(l.findIdx? λp=>decide (k=p.1)).bind (λi=>(l.lookup k).map λv=>(i,fv v))
 | []=>rfl
 | p :: l=>by
  have ih:=pV k l
  by_cases e:k=p.1
  ·subst e
   simp[List.findIdx?_cons,List.lookup]
  ·have e':(k == p.1)=false:=by simpa using e
   simp only[List.findIdx?_cons,e,decide_false,Bool.false_eq_true,if_false,List.lookup,e'];cases hf:l.findIdx? λp=>decide (k=p.1) with
   | none=>simp
   | some i =>
    rw[hf]at ih;simp at ih ⊢;cases h1:l[i]?<;>cases h2:l.lookup k<;>simp[h1,h2]at ih ⊢
    exact ih
theorem qG(k:K):∀ l:List (K×V),(l.findIdx? λp=>decide (k=p.1))=none↔l.lookup k=none
 | []=>by simp
 | p :: l=>by
  have ih:=qG k l
  by_cases e:k=p.1
  ·subst e;simp[List.findIdx?_cons,List.lookup]
  ·have e':(k == p.1)=false:=by simpa using e
   simp only[List.findIdx?_cons,e,decide_false,Bool.false_eq_true,if_false,List.lookup,e'];rw[Option.map_eq_none_iff];exact ih
theorem eK.look{l:List (K×V)}(h:eK fk fv H r l)(hk:∀ a b,cN kd (fk a) (fk b)=some (decide (a=b)))(k:K)(zero:Value)(ok:Bool):
  AM.look kd zero ok (.map (some r)) (fk k) H=some (match l.lookup k with | some v=>(if ok then .tuple #[fv v,.bool true] else fv v) | none=>(if ok then .tuple #[zero,.bool false] else zero)):=by
 obtain⟨es,clock,h1,h2,_⟩:=h;simp only[AM.look,lN,h1,Option.bind_some];rw[nW hk k es l h2,pV];have:=qG k l;cases hf:l.findIdx? λp=>decide (k=p.1) with
 | none =>
  have this:=this.1 hf;simp only[this,Option.bind_none,Option.map_some]
 | some i =>
  rw[hf]at this;cases hl:l.lookup k with
  | none=>rw[hl]at this;simp at this
  | some v=>simp
theorem xF(k:K)(v:V):∀ (l:List (K×V)) (i:Nat),(l.findIdx? λp=>decide (k=p.1))=some i->kD k v l=l.set i (k,v)
 | [],i,h=>by simp at h
 | p :: l,i,h=>by
  by_cases e:k=p.1
  ·subst e
   simp[List.findIdx?_cons]at h;subst h;simp[kD]
  ·have e':¬ p.1=k:=λx=>e x.symm
   simp only[List.findIdx?_cons,e,decide_false,Bool.false_eq_true,if_false,Option.map_eq_some_iff]at h;obtain⟨j,h1,rfl⟩:=h;simp[kD,e',xF k v l j h1]
theorem aAf(k:K)(v:V):∀ (l:List (K×V)),(l.findIdx? λp=>decide (k=p.1))=none->kD k v l=l++[(k,v)]
 | [],_=>rfl
 | p :: l,h=>by
  by_cases e:k=p.1
  ·subst e;simp[List.findIdx?_cons]at h
  ·have e':¬ p.1=k:=λx=>e x.symm
   simp only[List.findIdx?_cons,e,decide_false,Bool.false_eq_true,if_false,Option.map_eq_none_iff]at h;simp[kD,e',aAf k v l h]
theorem zR(k:K)(v:V):∀ (l:List (K×V)),(kD k v l).map Prod.fst=if k∈l.map Prod.fst then l.map Prod.fst else l.map Prod.fst++[k]
 | []=>by simp[kD]
 | p :: l=>by
  by_cases e:p.1=k
  ·subst e;simp[kD]
  ·have e':¬ k=p.1:=λx=>e x.symm
   simp only[kD,e,if_false,List.map_cons,zR k v l,List.mem_cons,e',false_or]
   split<;>simp
theorem wX(k:K)(v:V)(l:List (K×V))(h:(l.map Prod.fst).Nodup):((kD k v l).map Prod.fst).Nodup:=by
 rw[zR]
 split
 ·exact h
 ·rename_i hk
  rw[List.nodup_append];exact⟨h,by simp,λa ha b hb=>by simp at hb;subst hb;rintro rfl;exact hk ha⟩
theorem eK.set{l:List (K×V)}(h:eK fk fv H r l)(hk:∀ a b,cN kd (fk a) (fk b)=some (decide (a=b)))(k:K)(v:V):
  ∃ o,o ≠ .dead/\setMap kd (.map (some r)) (fk k) (fv v) H=some (H.put r o)/\eK fk fv (H.put r o) r (kD k v l):=by
 have hlt:=h.lt;obtain⟨es,clock,h1,h2,h3,h4,h5⟩:=h;have hlen:es.length=l.length:=by simpa using congrArg List.length h2
 simp only[setMap,h1];rw[nW hk k es l h2];cases hf:l.findIdx? λp=>decide (k=p.1) with
 | none =>
  refine⟨.map (es++[{ key:=fk k,val:=fv v,born:=clock }]) (clock+1) true,by simp,by simp,_,_,AH.get_put_self _ _ hlt,?_,?_,?_,wX k v l h5⟩
  ·rw[aAf k v l hf,List.map_append,List.map_append,h2]
   rfl
  ·rw[List.map_append,List.nodup_append]
   refine⟨h3,by simp,λa ha b hb =>?_⟩
   obtain⟨e,he,rfl⟩:=List.mem_map.1 ha;have:=h4 e he;simp at hb;omega
  ·intro e he
   rcases List.mem_append.1 he with he | he
   ·exact Nat.lt_succ_of_lt (h4 e he)
   ·simp at he;subst he;exact Nat.lt_succ_self _
 | some i =>
  have hi:i<l.length:=by
   have:=List.findIdx?_eq_some_iff_getElem.1 hf;exact this.1
  refine⟨.map (es.modify i λe=>{ e with key:=fk k,val:=fv v }) clock true,by simp,by simp[hi],_,_,AH.get_put_self _ _ hlt,?_,?_,?_,wX k v l h5⟩
  rotate_left
  ·have:(es.modify i λe=>{ e with key:=fk k,val:=fv v }).map (·.born)=es.map (·.born):=by
    apply List.ext_getElem?;intro j;simp only[List.getElem?_map,List.getElem?_modify];cases es[j]?<;>simp
    split<;>rfl
   rw[this];exact h3
  ·intro e he
   obtain⟨j,hj⟩:=List.mem_iff_getElem?.1 he;rw[List.getElem?_modify]at hj;cases hx:es[j]? with
   | none=>rw[hx]at hj;simp at hj
   | some x =>
    have hm:=h4 x (List.mem_of_getElem? hx);rw[hx]at hj;simp at hj;subst hj
    split<;>exact hm
  rw[xF k v l i hf];apply List.ext_getElem?;intro j;have:=congrArg (λx=>x[j]?) h2;simp only[List.getElem?_map]at this;simp only[List.getElem?_map,List.getElem?_modify,List.getElem?_set]
  by_cases e:i=j
  ·subst e
   simp[hi];have:i<es.length:=by omega
   simp[this]
  ·simp[e,this]
end
theorem lL{A B:Type}(f:A->B):∀ {l:List A},(l.map f).Nodup->l.Nodup
 | [],_=>by simp
 | x :: l,h=>by
  rw[List.map_cons,List.nodup_cons]at h;rw[List.nodup_cons];exact⟨λhm=>h.1 (List.mem_map.2 ⟨x,hm,rfl⟩),lL f h.2⟩
theorem kH{A B:Type}(f:A->B):∀ (l:List A) (i:Nat),(l.eraseIdx i).map f=(l.map f).eraseIdx i
 | [],_=>by simp
 | _ :: _,0=>by simp
 | x :: l,i+1=>by simp[kH f l i]
def fD{K V:Type}[DecidableEq K](k:K):List (K×V)->List (K×V)
 | []=>[]
 | p :: l=>if p.1=k then l else p :: fD k l
section
variable {K V:Type}[DecidableEq K]{fk:K->Value}{fv:V->Value}{H:AH}{r kd:Nat}
theorem sF(k:K):∀ (l:List (K×V)) (i:Nat),(l.findIdx? λp=>decide (k=p.1))=some i->fD k l=l.eraseIdx i
 | [],i,h=>by simp at h
 | p :: l,i,h=>by
  by_cases e:k=p.1
  ·subst e
   simp[List.findIdx?_cons]at h;subst h;simp[fD]
  ·have e':¬ p.1=k:=λx=>e x.symm
   simp only[List.findIdx?_cons,e,decide_false,Bool.false_eq_true,if_false,Option.map_eq_some_iff]at h;obtain⟨j,h1,rfl⟩:=h;simp[fD,e',sF k l j h1]
theorem zP(k:K):∀ (l:List (K×V)),(l.findIdx? λp=>decide (k=p.1))=none->fD k l=l
 | [],_=>rfl
 | p :: l,h=>by
  by_cases e:k=p.1
  ·subst e;simp[List.findIdx?_cons]at h
  ·have e':¬ p.1=k:=λx=>e x.symm
   simp only[List.findIdx?_cons,e,decide_false,Bool.false_eq_true,if_false,Option.map_eq_none_iff]at h;simp[fD,e',zP k l h]
theorem gT(k:K):∀ (l:List (K×V)),List.Sublist (fD k l) l
 | []=>List.Sublist.slnil
 | p :: l=>by
  simp only[fD]
  split
  ·exact List.sublist_cons_self _ _
  ·exact(gT k l).cons₂ _
theorem eK.del{l:List (K×V)}(h:eK fk fv H r l)(hk:∀ a b,cN kd (fk a) (fk b)=some (decide (a=b)))(k:K):
  ∃ H',jN kd (.map (some r)) (fk k) H=some H'/\eK fk fv H' r (fD k l)/\(H'=H\/∃ o,o ≠ .dead/\H'=H.put r o):=by
 have hlt:=h.lt;have h0:=h;obtain⟨es,clock,h1,h2,h3,h4,h5⟩:=h;have hlen:es.length=l.length:=by simpa using congrArg List.length h2
 simp only[jN,h1];rw[nW hk k es l h2];cases hf:l.findIdx? λp=>decide (k=p.1) with
 | none=>exact⟨H,rfl,by rw[zP k l hf];exact h0,.inl rfl⟩
 | some i =>
  have hi:i<l.length:=(List.findIdx?_eq_some_iff_getElem.1 hf).1;refine⟨H.put r (.map (es.eraseIdx i) clock true),by simp[hi],⟨_,_,AH.get_put_self _ _ hlt,?_,?_,?_,?_⟩,.inr ⟨_,by simp,rfl⟩⟩
  ·rw[sF k l i hf,kH,kH,h2]
  ·rw[kH];exact h3.sublist (List.eraseIdx_sublist _ _)
  ·exact λe he=>h4 e (List.mem_of_mem_eraseIdx he)
  ·exact h5.sublist ((gT k l).map _)
theorem eK.len{l:List (K×V)}(h:eK fk fv H r l):iB (.map (some r)) H=some (vi l.length):=by
 obtain⟨es,clock,h1,h2,_⟩:=h;have hlen:es.length=l.length:=by simpa using congrArg List.length h2
 simp[iB,h1,hlen]
def fF(fk:K->Value)(fv:V->Value)(H:AH)(ib r:Nat)(l done:List (K×V)):Prop :=
 ∃ es clock,H.get r = .map es clock true/\es.map (λe=>(e.key,e.val))=(l.map λp=>(fk p.1,fv p.2))/\(es.map (·.born)).Nodup/\(∀ e∈es,e.born<clock)/\(l.map Prod.fst).Nodup /\
  ∃ ix:List Nat,ix.Nodup/\(∀ i∈ix,i<l.length)/\ix.filterMap (l[·]?)=done/\H.get ib = .miter (some r) clock (ix.filterMap λi=>(es[i]?).map (·.born)) clock
theorem fF.start{l:List (K×V)}(h:eK fk fv H r l):∃ o,lY (.map (some r)) H=some (o,kB)/\fF fk fv (H.new o) H.next r l []:=by
 have hlt:=h.lt;obtain⟨es,clock,h1,h2,h3,h4,h5⟩:=h;exact⟨.miter (some r) clock [] clock,by simp[lY,h1],es,clock,by rw[AH.get_new_lt _ _ hlt];exact h1,h2,h3,h4,h5,[],by simp,by simp,rfl,AH.get_new_self _ _⟩
theorem fF.map{ib:Nat}{l done:List (K×V)}(h:fF fk fv H ib r l done):eK fk fv H r l:=by
 obtain⟨es,clock,h1,h2,h3,h4,h5,_⟩:=h;exact⟨es,clock,h1,h2,h3,h4,h5⟩
theorem fF.keep{H':AH}{ib:Nat}{l done:List (K×V)}(h:fF fk fv H ib r l done)(e1:H'.get r=H.get r)(e2:H'.get ib=H.get ib):fF fk fv H' ib r l done:=by
 obtain⟨es,clock,h1,h2,h3,h4,h5,ix,h6,h7,h8,h9⟩:=h;exact⟨es,clock,by rw[e1];exact h1,h2,h3,h4,h5,ix,h6,h7,h8,by rw[e2];exact h9⟩
theorem fF.lt{ib:Nat}{l done:List (K×V)}(h:fF fk fv H ib r l done):ib<H.next:=by
 obtain⟨es,clock,h1,h2,h3,h4,h5,ix,h6,h7,h8,h9⟩:=h;exact AH.lt_of_get (by rw[h9];simp)
theorem qA{es:List MapEntry}:∀ {ix:List Nat},(∀ i∈ix,i<es.length)->ix.filterMap (λi=>(es[i]?).map (·.born))=ix.map λi=>(es[i]?.map (·.born)).getD 0
 | [],_=>rfl
 | i :: ix,h=>by
  have hi:=h i (by simp)
  rw[List.filterMap_cons,List.map_cons,qA λj hj=>h j (by simp[hj])]
  simp[hi]
theorem aAa{es:List MapEntry}(h:(es.map (·.born)).Nodup){i j:Nat}(hi:i<es.length)(hj:j<es.length)(e:es[i].born=es[j].born):i=j:=by
 have:=(List.getElem_inj (h₀:=by simpa using hi) (h₁:=by simpa using hj) h).1 (by simpa using e)
 exact this
theorem sL{A:Type}{l:List A}(h:l.Nodup):∀ {ix:List Nat},ix.Nodup->(ix.filterMap (l[·]?)).Nodup
 | [],_=>by simp
 | i :: ix,hn=>by
  rw[List.nodup_cons]at hn;rw[List.filterMap_cons];cases hi:l[i]? with
  | none=>exact sL h hn.2
  | some x =>
   simp only[List.nodup_cons];refine⟨λhm =>?_,sL h hn.2⟩;obtain⟨j,hj,hx⟩:=List.mem_filterMap.1 hm;have hil:=(List.getElem?_eq_some_iff.1 hi).1;have:=(List.getElem?_inj hil h).1 (hi.trans hx.symm);subst this;exact hn.1 hj
theorem fF.nodup{ib:Nat}{l done:List (K×V)}(h:fF fk fv H ib r l done):done.Nodup/\∀ p∈done,p∈l:=by
 obtain⟨es,clock,h1,h2,h3,h4,h5,ix,h6,h7,rfl,h9⟩:=h;refine⟨sL (lL _ h5) h6,λp hp =>?_⟩;obtain⟨i,_,hi⟩:=List.mem_filterMap.1 hp;exact List.mem_of_getElem? hi
theorem List.perm_of_nodup_nodup_toFinset_eq'{A:Type}{l m:List A}(h1:l.Nodup)(h2:m.Nodup)(h3:∀ x∈l,x∈m)(h4:∀ x∈m,x∈l):l.Perm m:=by
 classical
 rw[List.perm_iff_count];intro a
 by_cases ha:a∈l
 ·rw[List.Nodup.count h1,List.Nodup.count h2,if_pos ha,if_pos (h3 a ha)]
 ·rw[List.count_eq_zero_of_not_mem ha,List.count_eq_zero_of_not_mem λk=>ha (h4 a k)]
theorem fF.next{ib:Nat}{l done:List (K×V)}(h:fF fk fv H ib r l done){Q:Value->AH->Prop}(more:∀ p o,p∈l->p ∉ done->fF fk fv (H.put ib o) ib r l (done++[p])->oW (ptr ib 0) (H.put ib o)=some (.tuple #[fk p.1,fv p.2])->Q (.tuple #[.bool true,fk p.1,fv p.2]) (H.put ib o))(fin:done.Perm l->Q (.tuple #[.bool false]) H):nT (ptr ib 0) H Q:=by
 have hlt:=h.lt;have hnd:=h.nodup;obtain⟨es,clock,h1,h2,h3,h4,h5,ix,h6,h7,h8,h9⟩:=h;have hlen:es.length=l.length:=by simpa using congrArg List.length h2
 have hne:r≠ib:=by rintro rfl;rw[h1]at h9;simp at h9
 have hat:∀ i (hi:i<es.length),es[i].key=fk (l[i]'(by omega)).1/\es[i].val=fv (l[i]'(by omega)).2:=by
  intro i hi;have:=congrArg (λx=>x[i]?) h2;simp only[List.getElem?_map,List.getElem?_eq_getElem hi,List.getElem?_eq_getElem (show i<l.length by omega),Option.map_some,Option.some.injEq,Prod.mk.injEq]at this
  exact this
 have hb:=qA (es:=es) (ix:=ix) λi hi=>by rw[hlen];exact h7 i hi
 simp only[nT,h9,h1];refine⟨λ⟨_,k2,k3⟩ =>?_,λe he hn =>?_,λhall =>?_⟩
 ·obtain⟨e,he⟩:=List.exists_mem_of_ne_nil _ k2
  have a:=List.all_eq_true.1 k3 e he;have b:=h4 e he;simp at a;omega
 ·obtain⟨i,hi,rfl⟩:=List.getElem_of_mem he
  have hil:i<l.length:=by omega
  have hni:i ∉ ix:=λhm=>hn (List.mem_filterMap.2 ⟨i,hm,by simp[hi]⟩)
  obtain⟨g1,g2⟩:=hat i hi;rw[g1,g2]
  have hs:(ix.filterMap λi=>(es[i]?).map (·.born))++[es[i].born]=(ix++[i]).filterMap λi=>(es[i]?).map (·.born):=by
   rw[List.filterMap_append];simp[hi]
  refine more l[i] _ (List.getElem_mem hil) ?_ ⟨es,clock,by rw[AH.get_put_ne _ _ hne];exact h1,h2,h3,h4,h5,ix++[i],?_,?_,?_,?_⟩ ?_
  ·rw[<- h8]
   intro hm;obtain⟨j,hj,hx⟩:=List.mem_filterMap.1 hm;have:=(List.getElem?_inj hil (lL _ h5)).1 ((List.getElem?_eq_getElem hil).trans hx.symm);subst this;exact hni hj
  ·rw[List.nodup_append]
   exact⟨h6,by simp,λa ha b hb=>by simp at hb;subst hb;rintro rfl;exact hni ha⟩
  ·intro j hj
   rcases List.mem_append.1 hj with hj | hj
   ·exact h7 j hj
   ·simp at hj;subst hj;exact hil
  ·rw[List.filterMap_append,h8];simp[hil]
  ·rw[AH.get_put_self _ _ hlt,hs]
  ·simp only[oW,AH.get_put_self _ _ hlt,List.getLast?_append,List.getLast?_singleton,Option.some_or,AH.get_put_ne _ _ hne,h1,if_true]
   have:es.find? (λe=>e.born == es[i].born)=some es[i]:=by
    rw[List.find?_eq_some_iff_getElem];refine⟨by simp,i,hi,rfl,λj hj =>?_⟩
    simp only[Bool.not_eq_true',beq_eq_false_iff_ne,ne_eq];intro e;have:=aAa h3 (by omega) hi e
    omega
   rw[this];simp[g1,g2]
 ·refine fin ?_
  refine List.perm_of_nodup_nodup_toFinset_eq' hnd.1 (lL _ h5) hnd.2 λp hp =>?_;obtain⟨i,hi,rfl⟩:=List.getElem_of_mem hp;have hie:i<es.length:=by omega
  have:=hall es[i] (List.getElem_mem hie) (h4 _ (List.getElem_mem hie));obtain⟨j,hj,hx⟩:=List.mem_filterMap.1 this;have hjl:j<es.length:=by rw[hlen];exact h7 j hj
  simp[hjl]at hx;have:=aAa h3 hjl hie hx;subst this;rw[<- h8];exact List.mem_filterMap.2 ⟨j,hj,by simp[hi]⟩
end
end
section
structure Res where
 fp:List Nat
 P:AH->Prop
 keep:∀ {H H':AH},P H->(∀ b∈fp,H'.get b=H.get b)->P H'
structure Has(H0 Z H:AH)(L:List Res):Prop where
 ext:Ext H0 H
 sub:Sub Z H
 all:∀ r∈L,r.P H/\∀ b∈r.fp,H0.next<=b/\b<H.next/\Z.get b = .dead
 nd:(L.flatMap Res.fp).Nodup
structure Upd(r r':Res)(H H':AH):Prop where
 only:dK r.fp H H'
 holds:r'.P H'
 fp:∀ b∈r'.fp,(b∈r.fp\/H.next<=b)/\b<H'.next
 nd:r'.fp.Nodup
theorem Upd.trans{r r' r'':Res}{H H' H'':AH}(h:Upd r r' H H')(h':Upd r' r'' H' H''):Upd r r'' H H'' :=
 ⟨h.only.trans h'.only λb hb=>(h.fp b hb).1,h'.holds,λb hb=>⟨by
  rcases(h'.fp b hb).1 with k | k
  ·exact(h.fp b k).1
  ·exact .inr (Nat.le_trans h.only.1 k),(h'.fp b hb).2⟩,h'.nd⟩
theorem Upd.ext{r r':Res}{H H' H'':AH}(h:Upd r r' H H')(e:Ext H' H''):Upd r r' H H'' :=
 ⟨h.only.trans (e.only (F:=[])) (by simp),r'.keep h.holds λb hb=>e.get (h.fp b hb).2,λb hb=>⟨(h.fp b hb).1,Nat.lt_of_lt_of_le (h.fp b hb).2 e.1⟩,h.nd⟩
theorem Upd.after{r r':Res}{H H' H'':AH}(e:Ext H H')(h:Upd r r' H' H''):Upd r r' H H'' :=
 ⟨(e.only (F:=r.fp)).trans' h.only,h.holds,λb hb=>⟨(h.fp b hb).1.imp id λk=>Nat.le_trans e.1 k,(h.fp b hb).2⟩,h.nd⟩
theorem Upd.refl{r:Res}{H:AH}(h:r.P H)(hf:∀ b∈r.fp,b<H.next)(hn:r.fp.Nodup):Upd r r H H:=⟨dK.refl _ _,h,λb hb=>⟨.inl hb,hf b hb⟩,hn⟩
def Fz(n:Nat)(Z Z':AH):Prop:=Sub Z Z'/\∀ b,b<n->Z'.get b=Z.get b
theorem Fz.refl(n:Nat)(Z:AH):Fz n Z Z:=⟨Sub.refl _,λ_ _=>rfl⟩
theorem Fz.dead{n:Nat}{Z Z':AH}(h:Fz n Z Z'){b:Nat}(hb:b<n)(hd:Z.get b = .dead):Z'.get b = .dead:=by rw[h.2 b hb,hd]
section
variable {H0 Z H H':AH}{L:List Res}
theorem Has.refreeze(h:Has H0 Z H L){Z':AH}(e:Ext H H')(f:Fz H.next Z Z')(s:Sub Z' H'):Has H0 Z' H' L :=
 ⟨h.ext.trans e,s,λr hr=>by
  obtain⟨h1,h2⟩:=h.all r hr;exact⟨r.keep h1 λb hb=>e.get (h2 b hb).2.1,λb hb=>⟨(h2 b hb).1,Nat.lt_of_lt_of_le (h2 b hb).2.1 e.1,f.dead (h2 b hb).2.1 (h2 b hb).2.2⟩⟩,h.nd⟩
theorem Has.start(e:Ext H0 H):Has H0 H H []:=⟨e,Sub.refl _,by simp,by simp⟩
theorem Has.get(h:Has H0 Z H L){k:Nat}{r:Res}(hk:L[k]? = some r):r.P H:=(h.all r (List.mem_of_getElem? hk)).1
theorem Has.grow(h:Has H0 Z H L)(e:Ext H H'):Has H0 Z H' L :=
 ⟨h.ext.trans e,h.sub.ext e,λr hr=>by
  obtain⟨h1,h2⟩:=h.all r hr;exact⟨r.keep h1 λb hb=>e.get (h2 b hb).2.1,λb hb=>⟨(h2 b hb).1,Nat.lt_of_lt_of_le (h2 b hb).2.1 e.1,(h2 b hb).2.2⟩⟩,h.nd⟩
theorem Has.add(h:Has H0 Z H L)(r:Res)(e:Ext H H')(hp:r.P H')(hf:∀ b∈r.fp,H.next<=b/\b<H'.next)(hn:r.fp.Nodup):Has H0 Z H' (L++[r]):=by
 have g:=h.grow e;refine⟨g.ext,g.sub,λx hx =>?_,?_⟩
 ·rcases List.mem_append.1 hx with hx | hx
  ·exact g.all x hx
  ·simp only[List.mem_singleton]at hx;subst hx
   exact⟨hp,λb hb=>⟨Nat.le_trans h.ext.1 (hf b hb).1,(hf b hb).2,AH.get_ge _ (Nat.le_trans h.sub.1 (hf b hb).1)⟩⟩
 ·rw[List.flatMap_append,List.nodup_append]
  refine⟨h.nd,by simpa using hn,λa ha b hb =>?_⟩
  simp only[List.mem_flatMap]at ha;obtain⟨y,hy,ha⟩:=ha;have:=((h.all y hy).2 a ha).2.1;have:=(hf b (by simpa using hb)).1
  omega
theorem oF:∀ {L:List Res} (_:(L.flatMap Res.fp).Nodup) {i j:Nat} {r s:Res} (_:L[i]? = some r) (_:L[j]? = some s) (_:i≠j) {b:Nat} (_:b∈r.fp),b ∉ s.fp
 | [],_,i,j,r,s,hi,_,_,b,_=>by simp at hi
 | x :: L,hn,i,j,r,s,hi,hj,hij,b,hb=>by
  rw[List.flatMap_cons,List.nodup_append]at hn;obtain⟨_,h2,h3⟩:=hn;intro hs;cases i with
  | zero =>
   cases j with
   | zero=>exact hij rfl
   | succ j =>
    simp at hi;subst hi;exact h3 b hb b (List.mem_flatMap.2 ⟨s,List.mem_of_getElem? (by simpa using hj),hs⟩) rfl
  | succ i =>
   cases j with
   | zero =>
    simp at hj;subst hj;exact h3 b hs b (List.mem_flatMap.2 ⟨r,List.mem_of_getElem? (by simpa using hi),hb⟩) rfl
   | succ j=>exact oF h2 (by simpa using hi) (by simpa using hj) (by omega) hb hs
theorem uA:∀ {L:List Res} (_:(L.flatMap Res.fp).Nodup) {n:Nat} (_:∀ r∈L,∀ b∈r.fp,b<n) {k:Nat} {r r':Res} (_:L[k]? = some r) (_:∀ b∈r'.fp,b∈r.fp\/n<=b) (_:r'.fp.Nodup),((L.set k r').flatMap Res.fp).Nodup
 | [],_,n,_,k,r,r',hk,_,_=>by simp at hk
 | x :: L,hn,n,hlt,k,r,r',hk,hf,hr=>by
  rw[List.flatMap_cons,List.nodup_append]at hn;obtain⟨h1,h2,h3⟩:=hn;cases k with
  | zero =>
   simp at hk;subst hk;rw[List.set_cons_zero,List.flatMap_cons,List.nodup_append];refine⟨hr,h2,λa ha b hb =>?_⟩;rcases hf a ha with h | h
   ·exact h3 a h b hb
   ·obtain⟨y,hy,hb⟩:=List.mem_flatMap.1 hb
    have:=hlt y (by simp[hy]) b hb
    omega
  | succ k =>
   rw[List.set_cons_succ,List.flatMap_cons,List.nodup_append];refine⟨h1,uA h2 (λr hr=>hlt r (by simp[hr])) (by simpa using hk) hf hr,λa ha b hb =>?_⟩
   obtain⟨y,hy,hb⟩:=List.mem_flatMap.1 hb;rcases List.mem_or_eq_of_mem_set hy with hy | e
   ·exact h3 a ha b (List.mem_flatMap.2 ⟨y,hy,hb⟩)
   ·subst e
    rcases hf b ‹b∈y.fp› with h | h
    ·exact h3 a ha b (List.mem_flatMap.2 ⟨r,List.mem_of_getElem? (by simpa using hk),h⟩)
    ·have:=hlt x (by simp) a ha
     omega
theorem Has.step(h:Has H0 Z H L){k:Nat}{r r':Res}(hk:L[k]? = some r)(u:Upd r r' H H'):Has H0 Z H' (L.set k r'):=by
 have hr:=h.all r (List.mem_of_getElem? hk);refine⟨u.only.ext h.ext λb hb=>(hr.2 b hb).1,h.sub.only u.only λb hb=>(hr.2 b hb).2.2,λx hx =>?_,uA h.nd (λr hr b hb=>((h.all r hr).2 b hb).2.1) hk (λb hb=>(u.fp b hb).1) u.nd⟩;obtain⟨j,hj,hjx⟩:=List.getElem_of_mem hx
 by_cases e:k=j
 ·subst e
  rw[List.getElem_set_self]at hjx;subst hjx;refine⟨u.holds,λb hb=>⟨?_,(u.fp b hb).2,?_⟩⟩
  ·rcases(u.fp b hb).1 with g | g
   ·exact(hr.2 b g).1
   ·exact Nat.le_trans h.ext.1 g
  ·rcases(u.fp b hb).1 with g | g
   ·exact(hr.2 b g).2.2
   ·exact AH.get_ge _ (Nat.le_trans h.sub.1 g)
 ·rw[List.getElem_set_ne e]at hjx
  have hj':j<L.length:=by simpa using hj
  have hjx':L[j]? = some x:=by rw[List.getElem?_eq_getElem hj',hjx]
  obtain⟨h1,h2⟩:=h.all x (List.mem_of_getElem? hjx');refine⟨x.keep h1 λb hb=>u.only.get (h2 b hb).2.1 (oF h.nd hjx' hk (Ne.symm e) hb),λb hb=>⟨(h2 b hb).1,Nat.lt_of_lt_of_le (h2 b hb).2.1 u.only.1,(h2 b hb).2.2⟩⟩
theorem qC:∀ {L:List Res} (_:(L.flatMap Res.fp).Nodup) (k:Nat),((L.eraseIdx k).flatMap Res.fp).Nodup
 | [],_,_=>by simp
 | x :: L,hn,0=>by
  rw[List.flatMap_cons,List.nodup_append]at hn;exact hn.2.1
 | x :: L,hn,k+1=>by
  rw[List.flatMap_cons,List.nodup_append]at hn;rw[List.eraseIdx_cons_succ,List.flatMap_cons,List.nodup_append];refine⟨hn.1,qC hn.2.1 k,λa ha b hb =>?_⟩;obtain⟨y,hy,hb⟩:=List.mem_flatMap.1 hb;exact hn.2.2 a ha b (List.mem_flatMap.2 ⟨y,List.mem_of_mem_eraseIdx hy,hb⟩)
theorem xW(h:Sub Z H):∀ (l:List Nat),(∀ b∈l,b<H.next)->∃ Z',Sub Z Z'/\Sub Z' H/\(∀ b∈l,Z'.get b=H.get b)/\∀ b,b ∉ l->Z'.get b=Z.get b
 | [],_=>⟨Z,Sub.refl _,h,by simp,λ_ _=>rfl⟩
 | b :: l,hl=>by
  obtain⟨Z',h1,h2,h3,h4⟩:=xW h l λx hx=>hl x (by simp[hx])
  have hb:=hl b (by simp)
  have hg:∀ x,(Z'.freeze H.next b (H.get b)).get x=if x=b then H.get b else Z'.get x:=λx=>AH.get_freeze _ _ _ _ _ h2.1 hb;refine⟨_,h1.trans (h2.to_freeze hb),h2.freeze hb,λx hx =>?_,λx hx =>?_⟩
  ·rw[hg]
   split
   ·rename_i e;rw[e]
   ·rename_i e;exact h3 x (by simpa[e] using hx)
  ·simp only[List.mem_cons,not_or]at hx
   rw[hg,if_neg hx.1,h4 x hx.2]
theorem Has.freeze(h:Has H0 Z H L){k:Nat}{r:Res}(hk:L[k]? = some r):∃ Z',Fz H0.next Z Z'/\r.P Z'/\Has H0 Z' H (L.eraseIdx k):=by
 have hr:=h.all r (List.mem_of_getElem? hk);obtain⟨Z',h1,h2,h3,h4⟩:=xW h.sub r.fp λb hb=>(hr.2 b hb).2.1;refine⟨Z',⟨h1,λb hb=>h4 b λhm =>?_⟩,r.keep hr.1 h3,h.ext,h2,λx hx =>?_,qC h.nd k⟩
 ·have:=(hr.2 b hm).1
  omega
 obtain⟨j,hjk,hj⟩:=List.mem_eraseIdx_iff_getElem?.1 hx;obtain⟨g1,g2⟩:=h.all x (List.mem_of_getElem? hj);exact⟨g1,λb hb=>⟨(g2 b hb).1,(g2 b hb).2.1,by rw[h4 b (oF h.nd hj hk hjk hb)];exact(g2 b hb).2.2⟩⟩
end
def bE(b:Nat)(c:List Value):Res:=⟨[b],λH=>H.get b = .cells c none,λh e=>by rw[e _ (by simp)];exact h⟩
def zH:AH:=⟨0,λ_ => .dead⟩
theorem lQ(b:Nat):zH.get b = .dead:=by simp[AH.get,zH]
def cQ(sz:Nat)(v:Value)(rows:List (List Value)):Res:=⟨eY v,λH=>cB zH H sz v rows,λh e=>h.keep λb hb _=>e b (bZ.2 hb)⟩
def iL{K V:Type}[DecidableEq K](fk:K->Value)(fv:V->Value)(r:Nat)(l:List (K×V)):Res:=⟨[r],λH=>eK fk fv H r l,λh e=>h.keep (e _ (by simp))⟩
section
variable {H0 Z H H':AH}{L:List Res}
theorem mG(v:Value):(eY v).Nodup:=by unfold eY;split<;>simp
theorem Has.box(h:Has H0 Z H L){k b:Nat}{c:List Value}(hk:L[k]? = some (bE b c)):H.get b = .cells c none:=h.get hk
theorem Has.box_lt(h:Has H0 Z H L){k b:Nat}{c:List Value}(hk:L[k]? = some (bE b c)):b<H.next:=AH.lt_cells (h.box hk)
theorem Has.newbox(h:Has H0 Z H L)(c:List Value):Has H0 Z (H.new (.cells c none)) (L++[bE H.next c]) :=
 h.add _ ((Ext.refl H).new _) (AH.get_new_self _ _) (by simp[bE]) (by simp[bE])
theorem Has.put(h:Has H0 Z H L){k b:Nat}{c:List Value}(hk:L[k]? = some (bE b c))(c':List Value):Has H0 Z (H.put b (.cells c' none)) (L.set k (bE b c')) :=
 h.step hk ⟨(dK.refl _ _).put (.inl (by simp[bE])) _,AH.get_put_self _ _ (h.box_lt hk),λx hx=>⟨.inl hx,by simp[bE]at hx;subst hx;exact h.box_lt hk⟩,by simp[bE]⟩
theorem Has.slice(h:Has H0 Z H L){k sz:Nat}{v:Value}{rows:List (List Value)}(hk:L[k]? = some (cQ sz v rows)):cB zH H sz v rows:=h.get hk
theorem Has.rows(h:Has H0 Z H L){k sz:Nat}{v:Value}{rows:List (List Value)}(hk:L[k]? = some (cQ sz v rows)):Rows H sz v rows:=(h.slice hk).toRows
theorem cB.upd{sz:Nat}{v v':Value}{rows rows':List (List Value)}(g:aBh H H' v v')(h':cB zH H' sz v' rows'):Upd (cQ sz v rows) (cQ sz v' rows') H H' :=
 ⟨g.1,h',λb hb=>⟨(g.2 b (bZ.1 hb)).imp bZ.2 id,h'.blk_lt (bZ.1 hb)⟩,mG v'⟩
theorem Has.app(h:Has H0 Z H L){k sz:Nat}{v x:Value}{rows new:List (List Value)}(hk:L[k]? = some (cQ sz v rows)){bytes:Nat}(hx:Rows H sz x new)(hp:∀ r∈new,r.all plain1=true)(hs:sz≠0)(hb:bytes≠0)(h1:(rows.length+new.length)*bytes<=2 ^ 46)(h2:rows.length+new.length<2 ^ 62):
  ∃ v' H',AM.app sz bytes v x H=some (v',H')/\plain1 v'=true/\Has H0 Z H' (L.set k (cQ sz v' (rows++new))):=by
 obtain⟨v',H',a1,a2,a3⟩:=(h.slice hk).app (Nat.zero_le _) hx hp hs hb h1 h2;exact⟨v',H',a1,a2.plain,h.step hk (cB.upd a3 a2)⟩
theorem Has.newroom(h:Has H0 Z H L)(sz:Nat):Has H0 Z (H.new (.cells [] none)) (L++[cQ sz (slc H.next 0 0 0) []]) :=
 h.add _ ((Ext.refl H).new _) (cB.room (lQ _) (AH.get_new_self _ _) (by simp)) (by simp[cQ,eY,blk]) (by simp[cQ,eY,blk])
end
end
section
def dC(rs:List Res):Res:=⟨rs.flatMap Res.fp,λH=>∀ r∈rs,r.P H,fun {H H'} h e r hr=>r.keep (h r hr) λb hb=>e b (List.mem_flatMap.2 ⟨r,hr,hb⟩)⟩
section
variable {H H':AH}{rs:List Res}{r r':Res}
theorem xM:∀ {rs:List Res} {k:Nat},(rs.flatMap Res.fp).Nodup->rs[k]? = some r->r.fp.Nodup
 | [],k,_,hk=>by simp at hk
 | x :: rs,0,h,hk=>by
  simp at hk;subst hk;rw[List.flatMap_cons,List.nodup_append]at h;exact h.1
 | x :: rs,k+1,h,hk=>by
  rw[List.flatMap_cons,List.nodup_append]at h;exact xM h.2.1 (by simpa using hk)
structure Ow(r:Res)(H:AH):Prop where
 holds:r.P H
 lt:∀ b∈r.fp,b<H.next
 nd:r.fp.Nodup
theorem Ow.upd(h:Ow r H)(u:Upd r r' H H'):Ow r' H':=⟨u.holds,λb hb=>(u.fp b hb).2,u.nd⟩
theorem Ow.refl(h:Ow r H):Upd r r H H:=Upd.refl h.holds h.lt h.nd
theorem Ow.ext(h:Ow r H)(e:Ext H H'):Upd r r H H':=h.refl.ext e
theorem Ow.mono(h:Ow r H)(e:Ext H H'):Ow r H':=h.upd (h.ext e)
theorem Ow.part(h:Ow (dC rs) H){k:Nat}(hk:rs[k]? = some r):Ow r H :=
 ⟨h.holds r (List.mem_of_getElem? hk),λb hb=>h.lt b (List.mem_flatMap.2 ⟨r,List.mem_of_getElem? hk,hb⟩),xM h.nd hk⟩
theorem Ow.set(h:Ow (dC rs) H){k:Nat}(hk:rs[k]? = some r)(u:Upd r r' H H'):Upd (dC rs) (dC (rs.set k r')) H H':=by
 have hlt:∀ r∈rs,∀ b∈r.fp,b<H.next:=λr hr b hb=>h.lt b (List.mem_flatMap.2 ⟨r,hr,hb⟩);refine⟨u.only.mono λb hb => .inl (List.mem_flatMap.2 ⟨r,List.mem_of_getElem? hk,hb⟩),λx hx =>?_,λb hb =>?_,uA h.nd hlt hk (λb hb=>(u.fp b hb).1) u.nd⟩
 ·obtain⟨j,hj,hjx⟩:=List.getElem_of_mem hx
  by_cases e:k=j
  ·subst e
   rw[List.getElem_set_self]at hjx;subst hjx;exact u.holds
  ·rw[List.getElem_set_ne e]at hjx
   have hj':j<rs.length:=by simpa using hj
   have hjx':rs[j]? = some x:=by rw[List.getElem?_eq_getElem hj',hjx]
   exact x.keep (h.holds x (List.mem_of_getElem? hjx')) λb hb=>u.only.get (hlt x (List.mem_of_getElem? hjx') b hb) (oF h.nd hjx' hk (Ne.symm e) hb)
 ·obtain⟨x,hx,hb'⟩:=List.mem_flatMap.1 hb
  clear hb;have hb:=hb';rcases List.mem_or_eq_of_mem_set hx with hx | e
  ·exact⟨.inl (List.mem_flatMap.2 ⟨x,hx,hb⟩),Nat.lt_of_lt_of_le (hlt x hx b hb) u.only.1⟩
  ·subst e
   exact⟨(u.fp b hb).1.imp (λk=>List.mem_flatMap.2 ⟨r,List.mem_of_getElem? hk,k⟩) id,(u.fp b hb).2⟩
theorem Ow.add(h:Ow (dC rs) H)(r:Res)(e:Ext H H')(hp:r.P H')(hf:∀ b∈r.fp,H.next<=b/\b<H'.next)(hn:r.fp.Nodup):Upd (dC rs) (dC (rs++[r])) H H':=by
 refine⟨e.only,λx hx =>?_,λb hb =>?_,?_⟩
 ·rcases List.mem_append.1 hx with hx | hx
  ·exact x.keep (h.holds x hx) λb hb=>e.get (h.lt b (List.mem_flatMap.2 ⟨x,hx,hb⟩))
  ·simp only[List.mem_singleton]at hx;subst hx;exact hp
 ·simp only[dC,List.flatMap_append,List.mem_append]at hb
  rcases hb with hb | hb
  ·exact⟨.inl hb,Nat.lt_of_lt_of_le (h.lt b hb) e.1⟩
  ·have:=hf b (by simpa using hb)
   exact⟨.inr this.1,this.2⟩
 ·simp only[dC,List.flatMap_append]
  rw[List.nodup_append];refine⟨h.nd,by simpa using hn,λa ha b hb =>?_⟩
  have:=h.lt a ha;have:=(hf b (by simpa using hb)).1
  omega
theorem Ow.erase(h:Ow (dC rs) H)(k:Nat):Upd (dC rs) (dC (rs.eraseIdx k)) H H :=
 ⟨dK.refl _ _,λx hx=>h.holds x (List.mem_of_mem_eraseIdx hx),λb hb=>by
  obtain⟨x,hx,hb⟩:=List.mem_flatMap.1 hb;have:b∈(dC rs).fp:=List.mem_flatMap.2 ⟨x,List.mem_of_mem_eraseIdx hx,hb⟩;exact⟨.inl this,h.lt b this⟩,qC h.nd k⟩
theorem bE.put{b:Nat}{c:List Value}(h:H.get b = .cells c none)(c':List Value):Upd (bE b c) (bE b c') H (H.put b (.cells c' none)) :=
 ⟨(dK.refl _ _).put (.inl (by simp[bE])) _,AH.get_put_self _ _ (AH.lt_cells h),λx hx=>⟨.inl hx,by simp[bE]at hx;subst hx;simpa using AH.lt_cells h⟩,by simp[bE]⟩
section
variable {K V:Type}[DecidableEq K]{fk:K->Value}{fv:V->Value}{m:Nat}{l:List (K×V)}{kd:Nat}
theorem iL.set(h:eK fk fv H m l)(hk:∀ a b,cN kd (fk a) (fk b)=some (decide (a=b)))(k:K)(v:V):
  ∃ H',setMap kd (.map (some m)) (fk k) (fv v) H=some H'/\Upd (iL fk fv m l) (iL fk fv m (kD k v l)) H H':=by
 obtain⟨o,_,h2,h3⟩:=h.set hk k v;exact⟨_,h2,(dK.refl _ _).put (.inl (by simp[iL])) _,h3,λx hx=>⟨.inl hx,by simp[iL]at hx;subst hx;exact h.lt⟩,by simp[iL]⟩
theorem iL.del(h:eK fk fv H m l)(hk:∀ a b,cN kd (fk a) (fk b)=some (decide (a=b)))(k:K):
  ∃ H',jN kd (.map (some m)) (fk k) H=some H'/\Upd (iL fk fv m l) (iL fk fv m (fD k l)) H H':=by
 obtain⟨H',h2,h3,h4⟩:=h.del hk k;refine⟨H',h2,?_,h3,λx hx=>⟨.inl hx,by simp[iL]at hx;subst hx;exact h3.lt⟩,by simp[iL]⟩
 rcases h4 with rfl | ⟨o,_,rfl⟩
 ·exact dK.refl _ _
 ·exact(dK.refl _ _).put (.inl (by simp[iL])) _
end
end
end
section
abbrev aK:=List UInt8
abbrev bX{K V:Type}[DecidableEq K](k:K)(l:List (K×V)):Option V:=@List.lookup K V instBEqOfDecidableEq k l
theorem lZ{K V:Type}[DecidableEq K](k:K)(e:K×V)(l:List (K×V)):bX k (e :: l)=if k=e.1 then some e.2 else bX k l:=by
 by_cases h:k=e.1
 ·subst h;simp[bX,List.lookup]
 ·have:(k == e.1)=false:=by simpa using h
  simp[bX,List.lookup,this,h]
structure Nd where
 kind:BitVec 8
 data:List (BitVec 8)
 ents:List (aK×BitVec 16)
 parent:BitVec 16
 text:List UInt8
 links:Int
 held:Int
 deriving DecidableEq
def Nd.none:Nd:=⟨0#8,[],[],0#16,[],0,0⟩
instance:Inhabited Nd:=⟨Nd.none⟩
structure Tr where
 N:List Nd
 limit:Int
 change:Int
 deriving DecidableEq
def Tr.node(T:Tr)(n:BitVec 16):Nd:=T.N.getD n.toNat Nd.none
def Tr.new(limit:Int):Tr:=⟨[Nd.none,{ Nd.none with kind:=2#8,parent:=1#16,links:=1 }],min (max limit 1) 256,0⟩
def Tr.len(T:Tr):Nat:=T.N.countP λx=>decide (x.kind≠0#8)
def mR(c:UInt8):Bool:=decide (c<33)||decide (126<c)||decide (c=47)||decide (c=35)
def cP(s:aK):Bool:=s.all (λc => !mR c)&&decide (1<=s.length)&&decide (s.length<=14)&&decide (s≠[46])&&decide (s≠[46,46])
def Tr.dir(T:Tr)(n:BitVec 16):Int:=if(T.node n).kind=0#8 then 2 else if(T.node n).kind=2#8 then 0 else 20
def Tr.look(T:Tr)(n:BitVec 16)(s:aK):BitVec 16×Int :=
 if T.dir n≠0 then(0#16,T.dir n) else match bX s (T.node n).ents with
  | some k=>(k,0)
  | none=>(0#16,2)
def Tr.room(T:Tr)(n:BitVec 16)(s:aK):Int :=
 if T.dir n≠0 then T.dir n else if cP s=false then 22 else if(bX s (T.node n).ents).isSome then 17 else if(T.node n).links=0 then 2 else if 32<=(T.node n).ents.length then 28 else 0
def fS(x:aK×BitVec 16):List (aK×BitVec 16)->List (aK×BitVec 16)
 | []=>[x]
 | y :: l=>if Op.bytesLess y.1 x.1 then y :: fS x l else x :: y :: l
def Tr.deepF(T:Tr):Nat->BitVec 16->Nat
 | 0,_=>0
 | f+1,n=>if n=1#16 then 0 else T.deepF f (T.node n).parent+1
def Tr.tallF(T:Tr):Nat->BitVec 16->Nat
 | 0,_=>0
 | f+1,n=>((T.node n).ents.foldl (λb e=>if(T.node e.2).kind=2#8 then max b (T.tallF f e.2) else b) 0)+1
def Tr.withinF(T:Tr)(outer:BitVec 16):Nat->BitVec 16->Bool
 | 0,_=>false
 | f+1,n=>if(T.node n).kind≠2#8 then false else if n=outer then true else if n=(T.node n).parent then false else T.withinF outer f (T.node n).parent
def Tr.deep(T:Tr)(n:BitVec 16):Nat:=T.deepF 17 n
def Tr.tall(T:Tr)(n:BitVec 16):Nat:=T.tallF 20 n
def Tr.within(T:Tr)(outer n:BitVec 16):Bool:=T.withinF outer 18 n
def nK:List Nd->Nat
 | []=>0
 | x :: l=>if x.kind=0#8 then 0 else nK l+1
def Tr.free(T:Tr):Nat:=nK (T.N.drop 1)+1
def Tr.upd(T:Tr)(n:BitVec 16)(f:Nd->Nd):Tr:={ T with N:=T.N.modify n.toNat f }
def Tr.put(T:Tr)(n:Nat)(x:Nd):Tr:={ T with N:=if n<T.N.length then T.N.set n x else T.N++[x] }
def Tr.bump(T:Tr):Tr:={ T with change:=T.change+1 }
def Nd.addE(s:aK)(k:BitVec 16)(x:Nd):Nd:={ x with ents:=fS (s,k) x.ents }
def Nd.delE(s:aK)(x:Nd):Nd:={ x with ents:=fD s x.ents }
def Nd.addL(k:Int)(x:Nd):Nd:={ x with links:=x.links+k }
def Nd.addH(k:Int)(x:Nd):Nd:={ x with held:=x.held+k }
def Nd.made(inn:BitVec 16)(k:BitVec 8)(text:List UInt8):Nd:=⟨k,[],[],if k=2#8 then inn else 0#16,if k=3#8 then text else[],1,0⟩
def Tr.make(T:Tr)(inn:BitVec 16)(s:aK)(k:BitVec 8)(text:List UInt8):Tr×(BitVec 16×Int) :=
 if T.room inn s≠0 then(T,(0#16,T.room inn s))
 else if k=0#8\/3#8<k\/(k=3#8/\(text.length<1\/120<text.length)) then(T,(0#16,22))
 else if T.limit<=T.len\/(k=2#8/\16<=T.deep inn) then(T,(0#16,28))
 else(((T.put T.free (Nd.made inn k text)).upd inn (Nd.addE s (BitVec.ofNat 16 T.free))).bump,(BitVec.ofNat 16 T.free,0))
def Tr.add(T:Tr)(inn:BitVec 16)(s:aK)(n:BitVec 16):Tr×Int :=
 if(T.node n).kind=0#8 then(T,2) else if(T.node n).kind=2#8 then(T,1) else if T.room inn s≠0 then(T,T.room inn s)
 else if(T.node n).links=0 then(T,2) else if 256<=(T.node n).links then(T,31)
 else(((T.upd inn (Nd.addE s n)).upd n (Nd.addL 1)).bump,0)
def Tr.tidy(T:Tr)(n:BitVec 16):Tr:=if(T.node n).links=0/\(T.node n).held=0 then T.upd n (λ_=>Nd.none) else T
def Tr.drop(T:Tr)(inn:BitVec 16)(s:aK)(dir:Bool):Tr×Int :=
 if(T.look inn s).2≠0 then(T,(T.look inn s).2)
 else if dir=true/\(T.node (T.look inn s).1).kind≠2#8 then(T,20)
 else if dir=false/\(T.node (T.look inn s).1).kind=2#8 then(T,21)
 else if dir=true/\0<(T.node (T.look inn s).1).ents.length then(T,39)
 else((((T.upd inn (Nd.delE s)).upd (T.look inn s).1 (Nd.addL (-1))).bump).tidy (T.look inn s).1,0)
def Tr.hold(T:Tr)(n:BitVec 16)(more:Bool):Tr×Int :=
 if(T.node n).kind=0#8 then(T,2) else if more=true then(T.upd n (Nd.addH 1),0) else if(T.node n).held=0 then(T,22) else((T.upd n (Nd.addH (-1))).tidy n,0)
def Tr.mayOld(T:Tr)(n:BitVec 16):Option (BitVec 16)->Int
 | none=>0
 | some y=>if(T.node n).kind=2#8/\(T.node y).kind≠2#8 then 20 else if(T.node n).kind≠2#8/\(T.node y).kind=2#8 then 21
  else if(T.node y).kind=2#8/\0<(T.node y).ents.length then 39 else 0
def Tr.may(T:Tr)(n to:BitVec 16)(other:aK)(old:Option (BitVec 16)):Int :=
 if cP other=false then 22 else if(T.node to).links=0 then 2
 else if(T.node n).kind=2#8/\T.within n to=true then 22
 else if(T.node n).kind=2#8/\16<T.deep to+T.tall n then 28
 else T.mayOld n old
def Tr.moved(T:Tr)(fr:BitVec 16)(s:aK)(to:BitVec 16)(other:aK)(n:BitVec 16):Tr :=
 let U:=(T.upd fr (Nd.delE s)).upd to (Nd.addE other n)
 (if(T.node n).kind=2#8 then U.upd n (λx=>{ x with parent:=to }) else U).bump
def Tr.move(T:Tr)(fr:BitVec 16)(s:aK)(to:BitVec 16)(other:aK):Tr×Int :=
 if(T.look fr s).2≠0 then(T,(T.look fr s).2) else if T.dir to≠0 then(T,T.dir to)
 else if bX other (T.node to).ents=some (T.look fr s).1 then(T,0)
 else if bX other (T.node to).ents=none/\fr≠to/\32<=(T.node to).ents.length then(T,28)
 else if T.may (T.look fr s).1 to other (bX other (T.node to).ents)≠0 then(T,T.may (T.look fr s).1 to other (bX other (T.node to).ents))
 else(Tr.moved (if(bX other (T.node to).ents).isSome then(T.drop to other (decide ((T.node (T.look fr s).1).kind=2#8))).1 else T) fr s to other (T.look fr s).1,0)
def iG(d:List (BitVec 8))(at_:Nat)(b:List (BitVec 8)):List (BitVec 8) :=
 let e:=d++List.replicate (at_+b.length - d.length) 0#8
 e.take at_++b++e.drop (at_+b.length)
def qE(d:List (BitVec 8))(n:Nat):List (BitVec 8):=d.take n++List.replicate (n - d.length) 0#8
def Tr.write(T:Tr)(n:BitVec 16)(at_:Int)(b:List (BitVec 8)):Tr×Int :=
 if(T.node n).kind=0#8 then(T,2) else if(T.node n).kind=2#8 then(T,21) else if(T.node n).kind≠1#8\/at_<0 then(T,22)
 else if 1024<at_\/1024<at_+b.length then(T,27) else((T.upd n (λx=>{ x with data:=iG x.data at_.toNat b })).bump,0)
def Tr.cut(T:Tr)(n:BitVec 16)(size:Int):Tr×Int :=
 if(T.node n).kind=0#8 then(T,2) else if(T.node n).kind=2#8 then(T,21) else if(T.node n).kind≠1#8\/size<0 then(T,22)
 else if 1024<size then(T,27) else((T.upd n (λx=>{ x with data:=qE x.data size.toNat })).bump,0)
end
section
def kL{α:Type}(P:α->Bool)(l:List α):Int:=match l.findIdx? P with | some i=>(i:Int) | none => -1
theorem vL{α:Type}{sz:Nat}:∀ (rows:List (List α)),(∀ r∈rows,r.length=sz)->∀ (i k:Nat) (x:α) (h:i<rows.length),k<sz->(rows.set i (rows[i].set k x)).flatten=rows.flatten.set (i*sz+k) x
 | [],_,i,k,x,h,_=>by simp at h
 | r :: rows,hl,0,k,x,h,hk=>by
  have h1:=hl r (by simp)
  simp only[List.set_cons_zero,List.getElem_cons_zero,List.flatten_cons,Nat.zero_mul,Nat.zero_add];rw[List.set_append_left _ _ (by omega)]
 | r :: rows,hl,i+1,k,x,h,hk=>by
  have h1:=hl r (by simp)
  have ih:=vL rows (λy hy=>hl y (by simp[hy])) i k x (by simpa using h) hk
  simp only[List.set_cons_succ,List.getElem_cons_succ,List.flatten_cons,ih,Nat.succ_mul];rw[List.set_append_right _ _ (by omega)]
  congr 2
  omega
theorem cB.store{Z H:AH}{sz:Nat}{v:Value}{rows:List (List Value)}(h:cB Z H sz v rows){i k:Nat}(hi:i<rows.length)(hk:k<sz)(x:Value)(hx:plain1 x=true):
  ∃ b o H',aP sz v (vi i)=some (ptr b o)/\(H.get b).row o sz=some rows[i]/\aR (ptr b (o+k)) x H=some H'/\cB Z H' sz v (rows.set i (rows[i].set k x))/\dK (eY v) H H':=by
 have hr:=h.toRows;rcases h.2 with ⟨rfl,_⟩ | ⟨b,f,c,cs,g1,rfl,g3,g4,g5,g6,g7⟩
 ·simp at hi
 ·have hlt:=AH.lt_cells g3
  have hle:(i+1)*sz<=rows.length*sz:=Nat.mul_le_mul_right _ hi;have hle2:rows.length*sz<=c*sz:=Nat.mul_le_mul_right _ g4;rw[Nat.succ_mul]at hle;obtain⟨b',o',e1,e2⟩:=hr.ix hi;have e3:=qR sz b 0 rows.length c i hi;rw[e3]at e1;simp only[Option.some.injEq,Value.pointer.injEq,Addr.mk.injEq,and_true]at e1;obtain⟨rfl,rfl⟩:=e1;refine⟨b,0+i*sz,H.put b (.cells (cs.set (i*sz+k) x) f),e3,e2,?_,⟨?_,.inr ⟨b,f,c,_,g1,by simp,AH.get_put_self _ _ hlt,by simpa using g4,by simpa using g5,?_,g7⟩⟩,(dK.refl _ _).put (.inl (by simp[eY,blk])) _⟩
  ·rw[aO,if_pos hx,g3]
   simp only;rw[if_pos (by omega),Nat.zero_add]
  ·intro r hr'
   rcases List.mem_or_eq_of_mem_set hr' with hr' | rfl
   ·exact h.1 r hr'
   ·obtain⟨q1,q2⟩:=h.1 _ (List.getElem_mem hi)
    refine⟨by simpa using q1,?_⟩
    rw[List.all_eq_true]at q2 ⊢;intro y hy;rcases List.mem_or_eq_of_mem_set hy with hy | rfl
    ·exact q2 y hy
    ·exact hx
  ·rw[List.length_set,List.take_set,g6,vL rows (λr hr=>(h.1 r hr).1) i k x hi hk]
theorem pW{α:Type}{sz:Nat}:∀ (rows:List (List α)),(∀ r∈rows,r.length=sz)->∀ (i:Nat) (x:List α) (_:i<rows.length),x.length=sz->(rows.set i x).flatten=rows.flatten.take (i*sz)++x++rows.flatten.drop (i*sz+sz)
 | [],_,i,x,h,_=>by simp at h
 | r :: rows,hl,0,x,h,hx=>by
  have h1:=hl r (by simp)
  simp[<- h1]
 | r :: rows,hl,i+1,x,h,hx=>by
  have h1:=hl r (by simp)
  have ih:=pW rows (λy hy=>hl y (by simp[hy])) i x (by simpa using h) hx
  simp only[List.set_cons_succ,List.flatten_cons,ih,Nat.succ_mul];rw[List.take_append,List.drop_append,List.take_of_length_le (l:=r) (by omega),List.drop_eq_nil_of_le (as:=r) (by omega)]
  simp[h1,show i*sz+sz - sz=i*sz by omega,show i*sz+sz+sz - sz=i*sz+sz by omega]
theorem cB.storeN{Z H:AH}{sz:Nat}{v:Value}{rows:List (List Value)}(h:cB Z H sz v rows){i:Nat}(hi:i<rows.length)(x:List Value)(hx:x.length=sz)(hp:x.all plain1=true):
  ∃ b o H',aP sz v (vi i)=some (ptr b o)/\storeN sz (ptr b o) (.agg x.toArray) H=some H'/\cB Z H' sz v (rows.set i x)/\dK (eY v) H H':=by
 rcases h.2 with ⟨rfl,_⟩ | ⟨b,f,c,cs,g1,rfl,g3,g4,g5,g6,g7⟩
 ·simp at hi
 ·have hlt:=AH.lt_cells g3
  have hle:(i+1)*sz<=rows.length*sz:=Nat.mul_le_mul_right _ hi;have hle2:rows.length*sz<=c*sz:=Nat.mul_le_mul_right _ g4;rw[Nat.succ_mul]at hle;have e3:=qR sz b 0 rows.length c i hi;have hlen:(splice cs (i*sz) x).length=cs.length:=by rw[jB (by omega)]
  refine⟨b,0+i*sz,H.put b (.cells (splice cs (i*sz) x) f),e3,?_,⟨?_,.inr ⟨b,f,c,_,g1,by simp,AH.get_put_self _ _ hlt,by simpa using g4,by rw[hlen];exact g5,?_,g7⟩⟩,(dK.refl _ _).put (.inl (by simp[eY,blk])) _⟩
  ·rw[bJ,g3]
   simp only[List.toList_toArray,Nat.zero_add];rw[if_pos ⟨hx,by omega,hp⟩]
  ·intro r hr'
   rcases List.mem_or_eq_of_mem_set hr' with hr' | rfl
   ·exact h.1 r hr'
   ·exact⟨hx,hp⟩
  ·rw[List.length_set,pW rows (λr hr=>(h.1 r hr).1) i x hi hx]
   have h6:rows.flatten=cs.take (rows.length*sz):=g6.symm;rw[h6];unfold splice;rw[hx,List.take_append,List.take_append,List.drop_take,List.take_take];simp only[List.length_take,List.length_append,hx];rw[List.take_take,Nat.min_eq_left (show i*sz<=cs.length by omega),Nat.min_eq_right (show i*sz<=rows.length*sz by omega),Nat.min_eq_left (show i*sz<=rows.length*sz by omega),List.take_of_length_le (l:=x) (by omega)]
def eQ(n:Nat)(v:Value):Prop:=∀ b,blk v=some b->n<=b
theorem gS{H0 H H':AH}{v v':Value}(g:aBh H H' v v')(e:Ext H0 H)(hf:eQ H0.next v):Ext H0 H'/\eQ H0.next v' :=
 ⟨g.1.ext e λb hb=>hf b (bZ.1 hb),λb hb=>(g.2 b hb).elim (hf b) λk=>Nat.le_trans e.1 k⟩
end
section
variable {E:Sy}{H:AH}{Q:Value->AH->Prop}
structure aG where
 m:Int
 i:BitVec 16
 deriving DecidableEq
def aG.cells(p:aG):List Value:=[vi p.m,u16 p.i]
abbrev aG.v(p:aG):Value := .agg p.cells.toArray
structure aX where
 id:Int
 at_:aG
 root:BitVec 16
 held:Int
 deriving DecidableEq
def aX.cells(m:aX):List Value:=[vi m.id,vi m.at_.m,u16 m.at_.i,u16 m.root,vi m.held]
abbrev aX.v(m:aX):Value := .agg m.cells.toArray
@[simp] theorem aJK(a:Addr):bU dB .eql (.pointer (some a)) (.pointer none)=some (.bool false):=rfl
@[simp] theorem aJ2:bU dB .eql (.pointer none) (.pointer none)=some (.bool true):=rfl
@[simp] theorem aJp(a:Addr):bU dB .neq (.pointer (some a)) (.pointer none)=some (.bool true):=rfl
@[simp] theorem aJE:bU dB .neq (.pointer none) (.pointer none)=some (.bool false):=rfl
@[simp] theorem aJ4(a:Addr):aF (.pointer (some a))=some (.pointer (some a)):=rfl
theorem S.f92(hE:bF E)(T:List aX)(hT:T.length<2 ^ 63)(v f:Value)(hv:Rows H 5 v (T.map aX.cells))(P:aX->Bool)(hf:∀ H' m (K:Value->AH->Prop),Ext H H'->m∈T->(∀ H'',Ext H' H''->K (vb (P m)) H'')->nO E.call f [aX.v m] H' K)(hQ:∀ H',Ext H H'->Q (vi (kL P T)) H'):E.call 102 [v,f] H Q:=by
 apply hE.f92;have hl:=hv.lenSlc;rw[List.length_map]at hl;simp[F.f92,hl];refine bY.count T.length (λj s H'=>s=[v,f,vi T.length,vi j]/\Ext H H'/\∀ i (hi:i<T.length),i<j->P T[i]=false) ?_ ⟨rfl,Ext.refl _,λi _ h=>by omega⟩
 rintro j _ H' X hj hX ⟨rfl,e1,hn⟩;simp only[F.f92_l1,eF,eR,eW,fR,bS,aD];refine nL (λh =>?_) (λh =>?_)
 ·have hjl:j<T.length:=by omega
  obtain⟨b,o,f1,f2⟩:=(hv.mono e1).ix (i:=j) (by simpa using hjl)
  simp only[List.getElem_map]at f2;simp only[f1,aD,aQ,f2,Option.map_some];refine hf H' T[j] _ e1 (List.getElem_mem hjl) λH2 e2 =>?_;cases hp:P T[j] with
  | true =>
   have:kL P T=(j:Int):=by
    have:T.findIdx? P=some j:=List.findIdx?_eq_some_iff_getElem.2 ⟨hjl,hp,λi hi=>by simpa using hn i (by omega) hi⟩
    simp[kL,this]
   simp only[aS];rw[<- this];exact hQ _ (e1.trans e2)
  | false =>
   simp only[aM];rw[cS (by omega),aD]
   refine hX hjl _ _ ⟨rfl,e1.trans e2,λi hi hij =>?_⟩
   by_cases e:i=j
   ·subst e;exact hp
   ·exact hn i hi (by omega)
 ·have:j=T.length:=by omega
  subst this
  have:kL P T = -1:=by
   have:T.findIdx? P=none:=by
    rw[List.findIdx?_eq_none_iff];intro x hx;obtain⟨i,hi,rfl⟩:=List.getElem_of_mem hx;exact hn i hi hi
   simp[kL,this]
  rw[<- this];exact hQ _ e1
theorem S.f91(hE:bF E)(T:List aX)(hT:T.length<2 ^ 63)(v f:Value)(hv:Rows H 5 v (T.map aX.cells))(P:aX->Bool)(hf:∀ H' m (K:Value->AH->Prop),Ext H H'->m∈T->(∀ H'',Ext H' H''->K (vb (P m)) H'')->nO E.call f [aX.v m] H' K)(hQ:∀ H',Ext H H'->Q (vb (T.any P)) H'):E.call 87 [v,f] H Q:=by
 apply hE.f91;refine S.f92 hE T hT v f hv P hf λH' e =>?_
 have:T.any P=decide (0<=kL P T):=by
  unfold kL;cases h:T.findIdx? P with
  | none =>
   rw[List.findIdx?_eq_none_iff]at h
   simpa using h
  | some i =>
   obtain⟨hi,h2,_⟩:=List.findIdx?_eq_some_iff_getElem.1 h;simp;exact⟨_,List.getElem_mem hi,h2⟩
 simp;rw[<- this];exact hQ _ e
def pM(H:AH)(p:Nat)(T:List aX)(nx:Int):Prop:=T.length<2 ^ 62/\∃ v,H.get p = .cells [v,vi nx] none/\Rows H 5 v (T.map aX.cells)
theorem pM.mono{H H':AH}{p:Nat}{T:List aX}{nx:Int}(h:pM H p T nx)(e:Ext H H'):pM H' p T nx:=by
 obtain⟨h0,v,h1,h2⟩:=h;exact⟨h0,v,e.cells h1,h2.mono e⟩
theorem S.f43(hE:bF E)(m:aX)(b:Nat)(id:Int)(hb:H.get b = .cells [vi id] none)(hQ:∀ H',Ext H H'->Q (vb (decide (m.id=id))) H'):E.call 108 [m.v,ptr b 0] H Q:=by
 apply hE.f43;have hlt:=AH.lt_cells hb;simp[F.f43,aX.cells,AH.get_new,Nat.ne_of_lt hlt,hb];exact hQ _ ((Ext.refl _).new _)
def rB(T:List aX)(id:Int):Int:=kL (λm=>decide (m.id=id)) T
theorem S.f42(hE:bF E)(p:Nat)(T:List aX)(nx id:Int)(hT:pM H p T nx)(hQ:∀ H',Ext H H'->Q (vi (rB T id)) H'):E.call 91 [ptr p 0,vi id] H Q:=by
 apply hE.f42;obtain⟨h0,v,h1,h2⟩:=hT;have hlt:=AH.lt_cells h1;have hb:eX (vi id)=some (.cells [vi id] none,kB):=rfl;have x1:Ext H (H.new (.cells [vi id] none)):=(Ext.refl H).new _;simp[F.f42,hb,AH.get_new,Nat.ne_of_lt hlt,h1];refine S.f92 hE T (by omega) v _ (h2.mono x1) (λm=>decide (m.id=id)) (λH' m K e _ hK =>?_) λH' e=>hQ _ (x1.trans e)
 simp;exact S.f43 hE m H.next id (e.cells (AH.get_new_self _ _)) hK
end
section
variable {E:Sy}{H:AH}{Q:Value->AH->Prop}
theorem jJ{α:Type}(P:α->Bool)(l:List α):(l.find? P=none/\kL P l = -1)\/∃ (i:Nat) (hi:i<l.length),kL P l=i/\l.find? P=some l[i]/\P l[i]=true/\l.findIdx? P=some i:=by
 unfold kL;cases h:l.findIdx? P with
 | none =>
  rw[List.findIdx?_eq_none_iff]at h;exact .inl ⟨List.find?_eq_none.2 λx hx=>by simp[h x hx],rfl⟩
 | some i =>
  obtain⟨hi,h2,h3⟩:=List.findIdx?_eq_some_iff_getElem.1 h;refine .inr ⟨i,hi,rfl,?_,h2,rfl⟩;rw[List.find?_eq_some_iff_getElem];exact⟨h2,i,hi,rfl,λj hj=>by simpa using h3 j hj⟩
def lC(T:List aX)(id:Int):Option aX:=T.find? λm=>decide (m.id=id)
def aIu:aX:=⟨0,⟨0,0#16⟩,0#16,0⟩
def wL(o:Option aX):aX:=o.getD aIu
theorem S.f36(hE:bF E)(p:Nat)(T:List aX)(nx id:Int)(hT:pM H p T nx)(hQ:∀ H',Ext H H'->Q (.tuple #[(wL (lC T id)).v,vb (lC T id).isSome]) H'):E.call 83 [ptr p 0,vi id] H Q:=by
 apply hE.f36;simp only[F.f36,bD];have x1:Ext H (H.new (.cells [vi 0,vi 0,.int .u16 0,.int .u16 0,vi 0] none)):=(Ext.refl H).new _;refine S.f42 hE p T nx id (hT.mono x1) λH2 e2 =>?_;have x2:=x1.trans e2;have kz:=e2.cells (AH.get_new_self H (.cells [vi 0,vi 0,.int .u16 0,.int .u16 0,vi 0] none));have lz:=AH.lt_cells kz;rcases jJ (λm:aX=>decide (m.id=id)) T with ⟨h1,h2⟩ | ⟨j,hj,h1,h2,_,_⟩
 ·have h1:lC T id=none:=h1
  have h2:rB T id = -1:=h2;simp[h2,kz,lz,splice];rw[h1]at hQ;exact hQ _ (x2.put (b:=H.next) (by omega) _)
 ·have h1:rB T id=j:=h1
  have h2:lC T id=some T[j]:=h2;have hT2:=hT.mono x2;obtain⟨h0,v,k1,k2⟩:=hT2;obtain⟨b,o,f1,f2⟩:=k2.ix (i:=j) (by simpa using hj)
  simp only[List.getElem_map]at f2;have hneg:¬ ((j:Int)<0):=by omega
  rw[h2]at hQ;simp only[wL,Option.getD_some,Option.isSome_some]at hQ;generalize T[j]=m at *;simp[h1,hneg,k1,f1,f2,kz,lz,splice,aX.cells];exact hQ _ (x2.put (b:=H.next) (by omega) _)
def dG(p:aG)(m:aX):Bool:=decide (m.id≠0)&&decide (m.at_=p)
theorem xR(p q:aG):(p=q)↔p.m=q.m/\p.i=q.i:=by
 cases p;cases q;simp
theorem S.f39(hE:bF E)(m:aX)(b:Nat)(p:aG)(hb:H.get b = .cells p.cells none)(hQ:∀ H',Ext H H'->Q (vb (dG p m)) H'):E.call 103 [m.v,ptr b 0] H Q:=by
 apply hE.f39;have hlt:=AH.lt_cells hb;unfold dG at hQ
 by_cases h0:m.id=0
 ·simp[F.f39,aX.cells,AH.get_new,Nat.ne_of_lt hlt,hb,h0]
  simpa[h0] using hQ _ ((Ext.refl _).new _)
 ·simp[F.f39,aX.cells,aG.cells,AH.get_new,Nat.ne_of_lt hlt,hb,h0]
  simpa[h0,xR,Bool.decide_and] using hQ _ ((Ext.refl _).new _)
def kQ(T:List aX):Nat->aG->aG
 | 0,p=>p
 | n+1,p=>match T.find? (dG p) with
  | none=>p
  | some m=>kQ T n ⟨m.id,m.root⟩
def above(T:List aX)(p:aG):Nat:=(T.filter λm=>decide (p.m<m.id)).length
def seen(T:List aX)(p:aG):aG:=kQ T T.length p
def lG(T:List aX):Prop:=∀ m∈T,m.id≠0->m.at_.m<m.id
theorem aBO(T:List aX)(p:aG):above T p<=T.length:=List.length_filter_le _ _
theorem uK{α:Type}(P R:α->Bool):∀ (l:List α),(∀ x∈l,P x=true->R x=true)->∀ y∈l,P y=false->R y=true->(l.filter P).length<(l.filter R).length
 | [],_,y,hy,_,_=>by simp at hy
 | x :: l,h,y,hy,h1,h2=>by
  have hle:(l.filter P).length<=(l.filter R).length:=by
   have:∀ l':List α,(∀ x∈l',P x=true->R x=true)->(l'.filter P).length<=(l'.filter R).length:=by
    intro l'
    induction l' with
    | nil=>intro _;simp
    | cons z l' ih =>
     intro hh;have:=ih λx hx=>hh x (by simp[hx])
     have hz:=hh z (by simp)
     simp only[List.filter_cons];cases hp:P z with
     | true=>simp[hz hp];omega
     | false=>cases hr:R z<;>simp<;>omega
   exact this l λx hx=>h x (by simp[hx])
  rcases List.mem_cons.1 hy with rfl | hy
  ·simp[List.filter_cons,h1,h2];omega
  ·have ih:=uK P R l (λx hx=>h x (by simp[hx])) y hy h1 h2
   have hx:=h x (by simp)
   simp only[List.filter_cons];cases hp:P x with
   | true=>simp[hx hp];omega
   | false=>cases hr:R x<;>simp<;>omega
theorem oH{T:List aX}(hT:lG T){p:aG}{m:aX}(h:T.find? (dG p)=some m):above T ⟨m.id,m.root⟩<above T p:=by
 have hm:=List.find?_some h;have hmem:=List.mem_of_find?_eq_some h;simp only[dG,Bool.and_eq_true,decide_eq_true_eq]at hm;obtain⟨h1,rfl⟩:=hm;have:=hT m hmem h1;refine uK _ _ T (λx _ hx =>?_) m hmem (by simp) (by simpa using this)
 simp only[decide_eq_true_eq]at hx ⊢;omega
theorem oU{T:List aX}(hT:lG T):∀ (n:Nat) (p:aG),above T p<=n->kQ T n p=kQ T (n+1) p
 | 0,p,h=>by
  cases hf:T.find? (dG p) with
  | none=>simp[kQ,hf]
  | some m=>have:=oH hT hf;omega
 | n+1,p,h=>by
  cases hf:T.find? (dG p) with
  | none=>simp[kQ,hf]
  | some m =>
   have:=oH hT hf;have ih:=oU hT n ⟨m.id,m.root⟩ (by omega)
   rw[kQ,kQ,hf];exact ih
theorem sU{T:List aX}(hT:lG T)(p:aG):∀ (d n:Nat),above T p<=n->kQ T (n+d) p=kQ T n p
 | 0,_,_=>rfl
 | d+1,n,h=>by rw[<- Nat.add_assoc,<- oU hT (n+d) p (by omega),sU hT p d n h]
theorem aEn{T:List aX}{p:aG}(h:T.find? (dG p)=none):seen T p=p:=by
 unfold seen;cases T.length<;>simp[kQ,h]
theorem aAi{T:List aX}(hT:lG T){p:aG}{m:aX}(h:T.find? (dG p)=some m):seen T p=seen T ⟨m.id,m.root⟩:=by
 have h1:=oH hT h;have h2:=aBO T p;unfold seen;obtain⟨n,hn⟩:∃ n,T.length=n+1:=⟨T.length - 1,by omega⟩
 rw[hn,kQ,h];exact oU hT n _ (by omega)
theorem S.f38(hE:bF E)(p:Nat)(T:List aX)(nx:Int)(q:aG)(hT:pM H p T nx)(ho:lG T)(hQ:∀ H',Ext H H'->Q (seen T q).v H'):E.call 78 [ptr p 0,q.v] H Q:=by
 apply hE.f38;have hp1:p<H.next:=by obtain⟨_,v,h1,_⟩:=hT;exact AH.lt_cells h1
 simp[F.f38];generalize hH2:(H.new _).new _=H2;have x2:Ext H H2:=by subst hH2;exact((Ext.refl H).new _).new _
 have k1:H2.get H.next = .cells q.cells none:=by subst hH2;simp[AH.get_new]
 have k2:H2.get (H.next+1) = .cells [vi 0,u16 0#16] none:=by subst hH2;simp[AH.get_new]
 clear hH2;refine bY.ind (λn s H'=>∃ r,n=above T r/\s=[ptr p 0,ptr H.next 0,ptr (H.next+1) 0]/\Ext H H'/\seen T r=seen T q/\H'.get H.next = .cells r.cells none/\H'.get (H.next+1) = .cells [vi 0,u16 0#16] none) ?_ (above T q) ⟨q,rfl,rfl,x2,rfl,k1,k2⟩;rintro n _ H' X hX ⟨r,rfl,rfl,e1,hs,m1,m2⟩;have hT1:=hT.mono e1;obtain⟨h0,v,t1,t2⟩:=hT1;have l1:=AH.lt_cells m1;have l2:=AH.lt_cells m2;simp[F.f38_l1,t1];refine S.f92 hE T (by omega) v _ t2 (dG r) (λH3 m K e _ hK =>?_) λH3 e3 =>?_
 ·simp
  exact S.f39 hE m H.next r (e.cells m1) hK
 rcases jJ (dG r) T with ⟨h1,h2⟩ | ⟨j,hj,h1,h2,_,_⟩
 ·rw[h2]
  have n1:=e3.cells m1;have n2:=e3.cells m2;have ln2:=AH.lt_cells n2;simp[n1,aG.cells,n2,splice,ln2];have:=hQ _ ((e1.trans e3).put (b:=H.next+1) (by omega) (.cells r.cells none))
  rw[<- hs,aEn h1]at this;exact this
 ·have hneg:¬ ((j:Int)<0):=by omega
  have t1':=e3.cells t1;have n1:=e3.cells m1;have ln1:=AH.lt_cells n1;obtain⟨b,o,f1,f2⟩:=(t2.mono e3).ix (i:=j) (by simpa using hj)
  simp only[List.getElem_map]at f2;have hst:=oH ho h2;have hss:=aAi ho h2;generalize T[j]=m at *
  have c0:(H3.get b).cell o=some (vi m.id):=by
   have:=eG f2 (j:=0) (by omega)
   rw[Nat.add_zero]at this;rw[this];rfl
  have c3:(H3.get b).cell (o+3)=some (u16 m.root):=by
   have:=eG f2 (j:=3) (by omega)
   rw[this];rfl
  simp[h1,hneg,t1',f1,c0,c3,splice,n1,aG.cells];refine hX (above T ⟨m.id,m.root⟩) hst _ _ ⟨⟨m.id,m.root⟩,rfl,rfl,(e1.trans e3).put (b:=H.next) (by omega) _,by rw[<- hss];exact hs,?_,?_⟩
  ·rw[AH.get_put_self _ _ ln1];rfl
  ·rw[AH.get_put_ne _ _ (by omega)];exact e3.cells m2
end
section
variable {E:Sy}{H:AH}{Q:Value->AH->Prop}
def gW(T:List aX)(p:aG):Option aG:=match lC T p.m with
 | none=>none
 | some m=>if m.id=0\/m.root≠p.i then none else some m.at_
def vV(o:Option aG):aG:=o.getD ⟨0,0#16⟩
theorem S.f35(hE:bF E)(p:Nat)(T:List aX)(nx:Int)(q:aG)(hT:pM H p T nx)(hQ:∀ H',Ext H H'->Q (.tuple #[(vV (gW T q)).v,vb (gW T q).isSome]) H'):E.call 105 [ptr p 0,q.v] H Q:=by
 apply hE.f35;simp[F.f35,AH.get_new,aG.cells];generalize hH2:(H.new _).new _=H2;have x2:Ext H H2:=by subst hH2;exact((Ext.refl H).new _).new _
 have k1:H2.get H.next = .cells [vi q.m,u16 q.i] none:=by subst hH2;simp[AH.get_new]
 have k2:H2.get (H.next+1) = .cells [vi 0,u16 0#16] none:=by subst hH2;simp[AH.get_new]
 clear hH2;refine S.f36 hE p T nx q.m (hT.mono x2) λH3 e3 =>?_;have x3:=x2.trans e3;have m1:=e3.cells k1;have m2:=e3.cells k2;have l1:=AH.lt_cells m1;have l2:=AH.lt_cells m2;unfold gW at hQ;have hp:∀ (A B:cZ),Ext H (H3.put (H.next+1) B |>.new A):=λA B=>(x3.put (b:=H.next+1) (by omega) B).new A
 cases hg:lC T q.m with
 | none =>
  rw[hg]at hQ;simp[wL,aIu,aX.cells,splice,AH.get_new,Nat.ne_of_lt l1,Nat.ne_of_lt l2,l2,m1,m2]
  simpa[vV,aG.v,aG.cells] using hQ _ (hp _ _)
 | some m =>
  rw[hg]at hQ;simp only at hQ
  by_cases h0:m.id=0
  ·simp[wL,h0,aX.cells,splice,AH.get_new,Nat.ne_of_lt l1,Nat.ne_of_lt l2,l2,m1,m2]
   simpa[vV,aG.v,aG.cells,h0] using hQ _ (hp _ _)
  ·by_cases hr:m.root=q.i
   ·simp[wL,h0,hr,aX.cells,splice,AH.get_new,Nat.ne_of_lt l1,Nat.ne_of_lt l2,l2,m1,m2]
    simpa[vV,aG.v,aG.cells,h0,hr] using hQ _ (hp _ _)
   ·simp[wL,h0,hr,aX.cells,splice,AH.get_new,Nat.ne_of_lt l1,Nat.ne_of_lt l2,l2,m1,m2]
    simpa[vV,aG.v,aG.cells,h0,hr] using hQ _ (hp _ _)
def nF(n:BitVec 16)(m:aX):Bool:=decide (m.root=n)||decide (m.id≠0)&&decide (m.at_.i=n)
theorem S.f41(hE:bF E)(m:aX)(b:Nat)(n:BitVec 16)(hb:H.get b = .cells [u16 n] none)(hQ:∀ H',Ext H H'->Q (vb (nF n m)) H'):E.call 88 [m.v,ptr b 0] H Q:=by
 apply hE.f41;have hlt:=AH.lt_cells hb;unfold nF at hQ;have hQ:=hQ _ ((Ext.refl H).new (.cells m.cells none))
 by_cases h1:m.root=n
 ·simp[F.f41,aX.cells,AH.get_new,Nat.ne_of_lt hlt,hb,h1]at hQ ⊢
  exact hQ
 ·by_cases h0:m.id=0
  ·simp[F.f41,aX.cells,AH.get_new,Nat.ne_of_lt hlt,hb,h0,h1]at hQ ⊢
   exact hQ
  ·simp[F.f41,aX.cells,AH.get_new,Nat.ne_of_lt hlt,hb,h0,h1]at hQ ⊢
   exact hQ
theorem S.f40(hE:bF E)(p:Nat)(T:List aX)(nx:Int)(n:BitVec 16)(hT:pM H p T nx)(hQ:∀ H',Ext H H'->Q (vb (T.any (nF n))) H'):E.call 53 [ptr p 0,u16 n] H Q:=by
 apply hE.f40;obtain⟨h0,v,h1,h2⟩:=hT;have hlt:=AH.lt_cells h1;have hb:eX (u16 n)=some (.cells [u16 n] none,kB):=rfl;have x1:Ext H (H.new (.cells [u16 n] none)):=(Ext.refl H).new _;simp[F.f40,hb,AH.get_new,Nat.ne_of_lt hlt,h1];refine S.f91 hE T (by omega) v _ (h2.mono x1) (nF n) (λH' m K e _ hK =>?_) λH' e=>hQ _ (x1.trans e)
 simp;exact S.f41 hE m H.next n (e.cells (AH.get_new_self _ _)) hK
theorem S.f90(hE:bF E)(T:List aX)(hT:T.length<=1000)(v:Value)(hv:Rows H 5 v (T.map aX.cells))(hQ:∀ v' H',Ext H H'->cB zH H' 5 v' (T.map aX.cells)->(∀ b,blk v'=some b->H.next<=b)->Q v' H'):
  E.call 95 [v] H Q:=by
 apply hE.f90
 have hpl:∀ r∈T.map aX.cells,r.all plain1=true:=by
  intro r hr;obtain⟨x,_,rfl⟩:=List.mem_map.1 hr
  rfl
 have hnil:(∃ k c,v = .slice none k c/\T=[])\/(∃ a k c,v = .slice (some a) k c):=by
  rcases hv.at_ with ⟨h1,a,rfl⟩ | ⟨b,o,c,rfl,_⟩
  ·cases a with
   | none=>exact .inl ⟨_,_,rfl,by simpa using h1⟩
   | some a=>exact .inr ⟨_,_,_,rfl⟩
  ·exact .inr ⟨_,_,_,rfl⟩
 rcases hnil with ⟨k,c,rfl,rfl⟩ | ⟨a,k,c,hva⟩
 ·simp[F.f90,bU,tL]
  exact hQ _ _ (Ext.refl _) (cB.nil _ _ _) (by simp[blk])
 ·have hb:bU tL .eql v (.slice none 0 0)=some (.bool false):=by rw[hva];rfl
  simp[F.f90,hb];have x1:Ext H (H.new (.cells [] none)):=(Ext.refl H).new _;have hG0:cB zH (H.new (.cells [] none)) 5 (slc H.next 0 0 0) []:=cB.room (lQ _) (AH.get_new_self _ _) rfl;obtain⟨w,H3,a1,a2,a3,a4⟩:=hG0.app (Nat.zero_le _) (bytes:=40) (hv.mono x1) hpl (by omega) (by omega) (by simp;omega) (by simp;omega)
  rw[a1];simp;refine hQ w H3 (a3.ext x1 (by intro b hb;rw[bZ]at hb;simp[blk]at hb;omega)) (by simpa using a2) λb hb=>(a4 b hb).elim (λh=>by simp[blk]at h;omega) (λh=>by simp at h;omega)
theorem S.f37(hE:bF E)(p:Nat)(T:List aX)(nx:Int)(hT:pM H p T nx)(hn:T.length<=1000)(hQ:∀ v H',Ext H H'->Rows H' 5 v (T.map aX.cells)->Q v H'):E.call 67 [ptr p 0] H Q:=by
 apply hE.f37;obtain⟨h0,v,h1,h2⟩:=hT;simp[F.f37,h1];exact S.f90 hE T hn v h2 λv' H' e g _=>hQ v' H' e g.toRows
theorem S.f44(hE:bF E)(hQ:∀ H',Ext H H'->Q (aG.v ⟨0,1#16⟩) H'):E.call 10 [] H Q:=by
 apply hE.f44;simp[F.f44,splice];exact hQ _ ((Ext.refl _).new _)
def jA(p:Nat)(v:Value)(T:List aX)(nx:Int):Res:=⟨p :: eY v,λH=>H.get p = .cells [v,vi nx] none/\cB zH H 5 v (T.map aX.cells),
 λh e=>⟨by rw[e _ (by simp)];exact h.1,h.2.keep λb hb _=>e b (by simp[bZ.2 hb])⟩⟩
theorem jA.at_{p:Nat}{v:Value}{T:List aX}{nx:Int}(h:(jA p v T nx).P H)(hn:T.length<2 ^ 62):pM H p T nx:=⟨hn,v,h.1,h.2.toRows⟩
theorem Upd.put0{p:Nat}{v v':Value}{T T':List aX}{nx nx':Int}{H H1:AH}(h:(jA p v T nx).P H)(hp:p ∉ eY v)(o:dK (p :: eY v) H H1)(g:cB zH H1 5 v' (T'.map aX.cells))(hb:∀ b,blk v'=some b->blk v=some b\/H.next<=b):
  Upd (jA p v T nx) (jA p v' T' nx') H (H1.put p (.cells [v',vi nx'] none)):=by
 have hlt:p<H.next:=AH.lt_cells h.1
 have hpb:p ∉ eY v':=λk=>by
  rcases hb p (bZ.1 k) with k | k
  ·exact hp (bZ.2 k)
  ·omega
 refine⟨o.put (.inl (by simp[jA])) _,⟨AH.get_put_self _ _ (Nat.lt_of_lt_of_le hlt o.1),g.keep λb hb _=>AH.get_put_ne _ _ (by rintro rfl;exact hpb (bZ.2 hb))⟩,λb hb' =>?_,?_⟩
 ·simp only[jA,List.mem_cons]at hb'
  rcases hb' with rfl | hb'
  ·exact⟨.inl (by simp[jA]),Nat.lt_of_lt_of_le hlt o.1⟩
  ·refine⟨(hb b (bZ.1 hb')).imp (λk=>by simp[jA,bZ.2 k]) id,g.blk_lt (bZ.1 hb')⟩
 ·simp only[jA,List.nodup_cons]
  exact⟨hpb,mG v'⟩
end
section
variable {E:Sy}{H:AH}{Q:Value->AH->Prop}
def jM:List aX:=[⟨0,⟨0,0#16⟩,1#16,0⟩]
def aBe(r:Res)(H H':AH):Prop:=Ext H H'/\r.P H'/\(∀ b∈r.fp,H.next<=b/\b<H'.next)/\r.fp.Nodup
theorem S.f33(hE:bF E)(hQ:∀ p v H',aBe (jA p v jM 1) H H'->Q (ptr p 0) H'):E.call 69 [] H Q:=by
 apply hE.f33;simp[-fW,F.f33,splice];rw[gC 5 [_,_,_,_,_] [vi 0,vi 0,u16 0#16,u16 1#16,vi 0] rfl rfl,cX,eN];simp[splice];refine hQ (H.next+1) (slc H.next 0 1 1) _ ⟨((Ext.refl H).new _).new _,⟨by rw[<- AH.next_new,AH.get_new_self],cB.made (lQ _) (by simp[AH.get_new];rfl) (.inl rfl) rfl (by simp[jM,aX.cells])⟩,?_,?_⟩
 ·simp[jA,eY,blk];omega
 ·simp[jA,eY,blk]
structure sW(T:List aX)(nx:Int):Prop where
 older:lG T
 len:T.length<=16
 nx0:0<=nx
 nx1:nx<2 ^ 61
 held:∀ m∈T,0<=m.held/\m.held<2 ^ 61
structure aKD where
 T:List aX
 nx:Int
 n:Int
 e:Int
def dJ(T:List aX)(nx:Int)(root:BitVec 16)(p:aG):aKD :=
 if rB T p.m<0 then⟨T,nx,0,22⟩ else if seen T p≠p then⟨T,nx,0,16⟩ else if 16<=T.length then⟨T,nx,0,28⟩ else⟨T++[⟨nx,p,root,0⟩],nx+1,nx,0⟩
theorem S.f34(hE:bF E)(p:Nat)(v:Value)(T:List aX)(nx:Int)(hr:(jA p v T nx).P H)(hnd:(jA p v T nx).fp.Nodup)(ok:sW T nx)(root:BitVec 16)(q:aG)(hQ:∀ v' H',Upd (jA p v T nx) (jA p v' (dJ T nx root q).T (dJ T nx root q).nx) H H'->Q (.tuple #[vi (dJ T nx root q).n,vi (dJ T nx root q).e]) H'):
  E.call 61 [ptr p 0,u16 root,q.v] H Q:=by
 apply hE.f34;have hlen:=ok.len;have hT:=jA.at_ hr (by omega)
 have hpv:p ∉ eY v:=by simp only[jA,List.nodup_cons]at hnd;exact hnd.1
 have hfp:∀ b∈(jA p v T nx).fp,b<H.next:=by
  intro b hb;simp only[jA,List.mem_cons]at hb;rcases hb with rfl | hb
  ·exact AH.lt_cells hr.1
  ·exact hr.2.blk_lt (bZ.1 hb)
 have same:∀ H',Ext H H'->Upd (jA p v T nx) (jA p v T nx) H H':=λH' e=>(Upd.refl hr hfp hnd).ext e;have x1:Ext H (H.new (.cells q.cells none)):=(Ext.refl H).new _;have hlp:=AH.lt_cells hr.1;simp[-fW,F.f34];have k1:(H.new (.cells q.cells none)).get H.next = .cells q.cells none:=AH.get_new_self _ _;have q0:q.cells[0]? = some (vi q.m):=rfl;have r2:=oN q.cells none 2 rfl;simp[-fW,q0];unfold dJ at hQ;refine S.f42 hE p T nx q.m (hT.mono x1) λH2 e2 =>?_;have x2:=x1.trans e2;have k2:=e2.cells k1
 by_cases hf:rB T q.m<0
 ·simp only[hf,if_true]at hQ
  simp[hf];exact hQ v _ (same _ x2)
 ·simp only[hf,if_false]at hQ
  simp[-fW,hf,k2,r2];refine S.f38 hE p T nx q (hT.mono x2) ok.older λH3 e3 =>?_;have x3:=x2.trans e3;have k3:=e3.cells k2;have hpc:seen T q=q↔((seen T q).m=q.m/\(seen T q).i=q.i):=xR _ _
  by_cases hs:seen T q=q
  ·have hss:=hpc.1 hs
   simp only[hs,ne_eq,not_true,if_false]at hQ;obtain⟨h0,v1,t1,t2⟩:=hT.mono x3;have t1:=x3.cells hr.1;have hlv:=(hr.2.toRows.mono x3).lenSlc;rw[List.length_map]at hlv;simp[-fW,k3,r2,hss.1,hss.2,aG.cells,t1,hlv]
   by_cases h16:16<=T.length
   ·have h16':(16:Int)<=T.length:=by omega
    simp only[h16,if_true]at hQ;simp[h16'];exact hQ v _ (same _ x3)
   ·have h16':¬ (16:Int)<=T.length:=by omega
    simp only[h16,if_false]at hQ;have n0:=ok.nx0;have n1:=ok.nx1;have l3:=AH.lt_cells t1;simp[-fW,h16',t1];rw[eM (by omega) (by omega),aD]
    simp[-fW,t1,l3];have hpk:H.next≠p:=by omega
    simp only[aG.cells]at k3;have hg3:=hr.2.ext x3;have hg4:cB zH (H3.put p (.cells [v,vi (nx+1)] none)) 5 v (T.map aX.cells):=hg3.keep λb hb _=>AH.get_put_ne _ _ (by rintro rfl;exact hpv (bZ.2 hb))
    obtain⟨v',H6,a1,a2,a3,a4⟩:=hg4.app1 (Nat.zero_le _) (bytes:=40) (aX.cells ⟨nx,q,root,0⟩) rfl rfl (by omega) (by omega) (by simp;omega)
    have hpv6:H6.get p = .cells [v,vi (nx+1)] none:=a3.cells (AH.get_put_self _ _ l3) hpv;have l6:=AH.lt_cells hpv6;have r2':=oN [vi q.m,u16 q.i] none 2 rfl;simp[-fW,AH.get_put_ne _ _ hpk,k3,r2',splice];rw[gC 5 [_,_,_,_,_] [vi nx,vi q.m,u16 q.i,u16 root,vi 0] rfl rfl,cX,eN];simp only[aX.cells]at a1;rw[a1];simp[a2.plain,hpv6];refine hQ v' _ ?_
    have hO:dK (p :: eY v) H H6:=by
     refine((x3.only (F:=p :: eY v)).put (.inl (by simp)) _).trans a3 λb hb => .inl (by simp[hb])
    refine Upd.put0 hr hpv hO (by simpa using a2) λb hb=>(a4 b hb).imp id λh =>?_
    have:=x3.1;simp at h;omega
  ·have hss:¬ ((seen T q).m=q.m/\(seen T q).i=q.i):=λh=>hs (hpc.2 h)
   simp only[hs,ne_eq,not_false_eq_true,if_true]at hQ;simp[-fW,k3,r2]
   by_cases hm:(seen T q).m=q.m
   ·have hi:¬ (seen T q).i=q.i:=λh=>hss ⟨hm,h⟩
    simp[aG.cells,hm,hi];exact hQ v _ (same _ x3)
   ·simp[aG.cells,hm]
    exact hQ v _ (same _ x3)
end
section
variable {E:Sy}{H0 Z H:AH}{L:List Res}{Q:Value->AH->Prop}
def aG.zero:aG:=⟨0,0#16⟩
theorem aG.ext_iff(x y:aG):x=y↔x.m=y.m/\x.i=y.i:=xR x y
@[simp] theorem aG.cells_length(p:aG):p.cells.length=2:=rfl
@[simp] theorem aX.cells_length(m:aX):m.cells.length=5:=rfl
@[simp] theorem aID(p:aG):p.cells.all plain1=true:=rfl
@[simp] theorem aHz(a b:Value)(p:aG):splice [a,b] 0 p.cells=p.cells:=rfl
@[simp] theorem aHv(q p:aG):splice q.cells 0 p.cells=p.cells:=rfl
@[simp] theorem aJa(p:aG):p.cells.take 2=p.cells:=rfl
@[simp] theorem aJ3(p:aX):p.cells.all plain1=true:=rfl
@[simp] theorem aJh(a b c d e:Value)(p:aX):splice [a,b,c,d,e] 0 p.cells=p.cells:=rfl
@[simp] theorem aKh(p:aX):p.cells.take 5=p.cells:=rfl
theorem aIX:sW jM 1:=⟨by unfold lG;simp[jM],by simp[jM],by omega,by omega,by simp[jM]⟩
@[simp] theorem aIG(a:Int)(b:BitVec 16):aV [(0,1),(1,1)] #[vi 0,.int .u16 0] [(0,vi a),(1,u16 b)]=some (aG.v ⟨a,b⟩):=rfl
end
section
variable {E:Sy}{H:AH}{Q:Value->AH->Prop}
structure aKx where
 arg:Int
 op:BitVec 8
 mask:BitVec 64
 value:BitVec 64
def aHV(op:Nat)(mask value a:BitVec 64):Bool :=
 if op=1 then decide (a=value) else if op=2 then decide (a≠value) else if op=3 then decide (a.toNat<value.toNat) else if op=4 then decide (a.toNat<=value.toNat)
 else if op=5 then decide (value.toNat<a.toNat) else if op=6 then decide (value.toNat<=a.toNat) else if op=7 then decide (a&&&mask=value) else false
def aKE(l:List (BitVec 64))(n:Nat):BitVec 64:=l.getD n 0
def holds(c:aKx)(args:List (BitVec 64)):Bool:=if c.arg<0\/5<c.arg then false else aHV c.op.toNat c.mask c.value (aKE args c.arg.toNat)
end
section
variable {E:Sy}{H:AH}{Q:Value->AH->Prop}
theorem Rows.plain{H:AH}{sz:Nat}{v:Value}{rows:List (List Value)}(h:Rows H sz v rows):plain1 v=true:=by
 rcases h.at_ with ⟨_,c,rfl⟩ | ⟨b,o,c,rfl,_⟩<;>rfl
end
section
theorem nrf{α:Type}{a b:α}(h:a=b):a=b:=Eq.trans h rfl
def tk{α:Type}(x:α):α:=x
@[simp] theorem aL{α:Type}(x:α):tk x=x:=Eq.trans (Eq.refl x) (Eq.refl x)
@[congr] theorem aKG{v v':Value}{A B:Prop}(h:tk v=v'):ifB v A B=ifB v' A B:=by rw[<- h,aL]
@[congr] theorem aKL{α:Type}{o o':Option α}{K:α->Prop}(h:tk o=o'):opt o K=opt o' K:=by rw[<- h,aL]
@[congr] theorem aJT{α β:Type}{o o':Option (α×β)}{K:α->β->Prop}(h:tk o=o'):gJ o K=gJ o' K:=by rw[<- h,aL]
@[congr] theorem aKZ{o o':Option (cZ×(Nat->Value))}{H:AH}{K:Value->AH->Prop}(h:tk o=o'):AM.mk o H K=AM.mk o' H K:=by rw[<- h,aL]
@[congr] theorem aJY{E:Sy}{f f':FuncId}{a a':List Value}{H H':AH}{K:Value->AH->Prop}(h1:tk f=f')(h2:tk a=a')(h3:tk H=H'):E.call f a H K=E.call f' a' H' K:=by rw[<- h1,<- h2,<- h3];rfl
@[congr] theorem aJj{c:cR}{f f':Value}{a a':List Value}{H H':AH}{K:Value->AH->Prop}(h1:tk f=f')(h2:tk a=a')(h3:tk H=H'):nO c f a H K=nO c f' a' H' K:=by rw[<- h1,<- h2,<- h3];rfl
@[congr] theorem aK4{v v':Value}{b:Bool}{m:(Value->AH->Prop)->Prop}{H:AH}{K:Value->AH->Prop}(h:tk v=v'):gd v b m H K=gd v' b m H K:=by rw[<- h,aL]
@[congr] theorem aJD{B:List Value->AH->(List Value->AH->Prop)->Prop}{l l':List Value}{H H':AH}(h1:tk l=l')(h2:tk H=H'):bY B l H=bY B l' H':=by rw[<- h1,<- h2];rfl
@[simp high] theorem fK(b:Nat):kB b=ptr b 0:=nrf rfl
@[simp high] theorem aJn(n c b:Nat):eA n c b=slc b 0 n c:=nrf rfl
@[simp high] theorem bB(c:List Value)(f:Option Nat)(i:Nat):(cZ.cells c f).cell i=c[i]? :=nrf rfl
@[simp high] theorem aIx(c:List Value)(f:Option Nat)(i n:Nat):(cZ.cells c f).row i n=if i+n<=c.length then some ((c.drop i).take n) else none:=nrf rfl
@[simp high] theorem fQ(a:Array Value):eX (.agg a)=some (.cells a.toList none,kB):=nrf rfl
@[simp high] theorem aA2(o:Option Addr)(n c:Nat):lenSlc (.slice o n c)=some (.int .i64 n):=nrf rfl
@[simp high] theorem dV(b:Bool):un .not (.bool b)=some (.bool !b):=nrf rfl
@[simp high] theorem aU(x y:Value):pick (.bool true) x y=some x:=nrf rfl
@[simp high] theorem bC(x y:Value):pick (.bool false) x y=some y:=nrf rfl
@[simp high] theorem uO(a b:Int):fY max2 [vi a,vi b]=some (vi (if b > a then b else a)):=nrf rfl
@[simp high] theorem aJ6(a b:Int):fY min2 [vi a,vi b]=some (vi (if b<a then b else a)):=nrf rfl
@[simp high] theorem aJS:(.int .u8 0:Value)=u8 0#8:=nrf rfl
@[simp high] theorem aJ5:(.int .u8 1:Value)=u8 1#8:=nrf rfl
@[simp high] theorem aJ0(x:BitVec 8):iK (u8 x)=true:=nrf rfl
@[simp high] theorem xV:(.int .u16 0:Value)=u16 0#16:=nrf rfl
@[simp high] theorem aI6:(.int .u16 1:Value)=u16 1#16:=nrf rfl
@[simp high] theorem aIT(x:BitVec 16):iK (u16 x)=true:=nrf rfl
@[simp high] theorem aHO(x:BitVec 16):plain1 (u16 x)=true:=nrf rfl
@[simp high] theorem aJC:(.int .u64 0:Value)=u64 0#64:=nrf rfl
@[simp high] theorem aJd:(.int .u64 1:Value)=u64 1#64:=nrf rfl
@[simp high] theorem aIk(x:BitVec 64):plain1 (u64 x)=true:=nrf rfl
@[simp high] theorem aIi(a:Array Value):dF (.agg a)=a.toList:=nrf rfl
@[simp high] theorem aIf(k:IntKind)(n:Int):dF (.int k n)=[.int k n]:=nrf rfl
@[simp high] theorem aIs(o:Option Nat):dF (.map o)=[.map o]:=nrf rfl
@[simp high] theorem aIQ(x:BitVec 8):dF (u8 x)=[u8 x]:=nrf rfl
@[simp high] theorem aHF(x:BitVec 16):dF (u16 x)=[u16 x]:=nrf rfl
@[simp high] theorem aJt(a:Array Value):iK (.agg a)=true:=nrf rfl
@[simp high] theorem aJf(k:IntKind)(n:Int):iK (.int k n)=true:=nrf rfl
@[simp high] theorem aJz(o:Option Nat):iK (.map o)=true:=nrf rfl
@[simp high] theorem tJ(k:IntKind)(n:Int):plain1 (.int k n)=true:=nrf rfl
@[simp high] theorem aHh(o:Option Addr)(n c:Nat):plain1 (.slice o n c)=true:=nrf rfl
@[simp high] theorem aHN(o:Option Nat):plain1 (.map o)=true:=nrf rfl
@[simp high] theorem aIy(place:Nat->Option (Nat×Nat))(cells:List Value):pQ place cells []=some cells:=nrf rfl
@[simp high] theorem aJV(l:List UInt8):(.string ⟨l.toArray⟩:Value)=str l:=nrf rfl
@[simp high] theorem aI9(l:List UInt8):iK (str l)=true:=nrf rfl
@[simp high] theorem aAN(l:List UInt8):plain1 (str l)=true:=nrf rfl
@[simp high] theorem aHM(l:List UInt8):dF (str l)=[str l]:=nrf rfl
@[simp high] theorem aBK(a:Addr):bU dB .eql (.pointer (some a)) (.pointer none)=some (.bool false):=nrf rfl
@[simp high] theorem aBE:bU dB .eql (.pointer none) (.pointer none)=some (.bool true):=nrf rfl
@[simp high] theorem aIt(a:Addr):bU dB .neq (.pointer (some a)) (.pointer none)=some (.bool true):=nrf rfl
@[simp high] theorem aHI:bU dB .neq (.pointer none) (.pointer none)=some (.bool false):=nrf rfl
@[simp high] theorem aIB(a:Addr):aF (.pointer (some a))=some (.pointer (some a)):=nrf rfl
@[simp high] theorem AH.next_put_z(H:AH)(b:Nat)(o:cZ):(H.put b o).next=H.next:=nrf rfl
@[simp high] theorem AH.next_new_z(H:AH)(o:cZ):(H.new o).next=H.next+1:=nrf rfl
theorem aDA{α:Type}{f:α->List Value}{P:α->Prop}:∀ {rows:List (List Value)},(∀ r∈rows,∃ x,r=f x/\P x)->∃ l:List α,rows=l.map f/\∀ x∈l,P x
 | [],_=>⟨[],rfl,by simp⟩
 | r :: rows,h=>by
  obtain⟨x,rfl,hx⟩:=h r (by simp)
  obtain⟨l,rfl,hl⟩:=aDA (rows:=rows) (λr hr=>h r (by simp[hr]))
  exact⟨x :: l,rfl,by intro y hy;rcases List.mem_cons.1 hy with rfl | hy;exact hx;exact hl y hy⟩
theorem rE.rowsOf{α:Type}{f:α->List Value}{P:α->Prop}{H:AH}{n:Nat}{e:Sh}{v:Value}(hf:∀ r,SV H e r->∃ x,r=f x/\P x)(h:rE H (.slice n e) v):∃ l:List α,Rows H n v (l.map f)/\l.length<=9223372036854775807/\∀ x∈l,P x:=by
 obtain⟨w,rows,e1,h1,h2,h3⟩:=(show SV H (.slice n e) [v] from h);obtain rfl:v=w:=by simpa using e1
 obtain⟨l,rfl,hl⟩:=aDA λr hr=>hf r (h3 r hr);exact⟨l,h1,by simpa using h2,hl⟩
@[simp] theorem AH.get_new1(H:AH)(a b:cZ):((H.new a).new b).get (H.next+1)=b:=AH.get_new_self (H.new a) b
@[simp] theorem aY(a:Addr):aF (.pointer (some a))=some (.pointer (some a)):=nrf rfl
def aI:=And.intro @eF<|And.intro @eR<|And.intro @eW<|And.intro @fR<|And.intro @jZ<|And.intro @nQ<|And.intro @aGu<|And.intro @aKB<|And.intro @aKf<|And.intro @aKs<|And.intro @aJy<|And.intro @aJI<|And.intro @aIW<|And.intro @aJx<|And.intro @aJA<|And.intro @aJq<|And.intro @aY<|And.intro @aJ<|And.intro @aE<|And.intro @bB<|And.intro @dT<|And.intro @rI<|And.intro @gM<|And.intro @kA<|And.intro @aBa<|And.intro @aU<|And.intro @bC<|And.intro @dV<|And.intro @dU<|And.intro @fQ<|And.intro @fK<|And.intro @AM.cX<|And.intro @eN<|And.intro @eJ<|And.intro @AH.next_new_z<|And.intro @aL<|And.intro @aD<|And.intro @Nat.zero_add<|And.intro @Nat.add_zero<|And.intro @List.getElem?_cons_zero.{0}<|And.intro @List.getElem?_cons_succ.{0}<|And.intro Bool.not_true<|And.intro Bool.not_false<|And.intro @List.toList_toArray.{0}<|And.intro @aS @aM
@[congr] theorem aK0{g g':Value}{w:Bool}{o:Option Value}{H:AH}{K:VK}(h:tk g=g'):gO g w o H K=gO g' w o H K:=by rw[<- h,aL]
@[congr] theorem aKS{g g':Value}{w:Bool}{x:Value}{H:AH}{K:VK}(h:tk g=g'):gV g w x H K=gV g' w x H K:=by rw[<- h,aL]
end
section
structure Ly where
 blk:Nat
 data:Value
 nm:Option Nat
 ord:List (aK×BitVec 16)
abbrev LyL:=List (BitVec 16×Ly)
def inC(n:BitVec 16)(x:Nd)(y:Ly):List Value:=[u16 n,u8 x.kind,y.data,.map y.nm,u16 x.parent,str x.text,vi x.links,vi x.held]
def bP(l:List (BitVec 8)):List (List Value):=l.map λb=>[u8 b]
def fA(n:BitVec 16)(x:Nd)(y:Ly):List Res:=[bE y.blk (inC n x y),cQ 1 y.data (bP x.data)]++y.nm.toList.map (λr=>iL str u16 r y.ord)
def cM(n:BitVec 16)(x:Nd)(y:Ly):Res:=dC (fA n x y)
def gL(p m:Nat)(L:LyL)(T:Tr):List Res :=
 bE p [.map (some m),vi T.limit,vi T.change] :: iL u16 (λb=>ptr b 0) m (L.map λe=>(e.1,e.2.blk)) :: L.map λe=>cM e.1 (T.node e.1) e.2
def pE(p m:Nat)(L:LyL)(T:Tr):Res:=dC (gL p m L T)
structure uN(x:Nd)(y:Ly):Prop where
 dir:x.kind=2#8->∃ r,y.nm=some r
 nodir:x.kind≠2#8->y.nm=none
 perm:y.ord.Perm x.ents
structure Cov(L:LyL)(T:Tr):Prop where
 nd:(L.map Prod.fst).Nodup
 mem:∀ n,n∈L.map Prod.fst↔(T.node n).kind≠0#8
 ok:∀ e∈L,uN (T.node e.1) e.2
structure Ino(H:AH)(p m:Nat)(L:LyL)(T:Tr):Prop where
 ow:Ow (pE p m L T) H
 cov:Cov L T
structure gI(p m:Nat)(L:LyL)(T:Tr)(L':LyL)(T':Tr)(H H':AH):Prop where
 upd:Upd (pE p m L T) (pE p m L' T') H H'
 cov:Cov L' T'
section
variable {E:Sy}{H H' H'':AH}{Q:Value->AH->Prop}{p m:Nat}{L L' L'':LyL}{T T' T'':Tr}
theorem gI.ino(u:gI p m L T L' T' H H')(h:Ino H p m L T):Ino H' p m L' T':=⟨h.ow.upd u.upd,u.cov⟩
theorem gI.trans(u:gI p m L T L' T' H H')(u':gI p m L' T' L'' T'' H' H''):gI p m L T L'' T'' H H'':=⟨u.upd.trans u'.upd,u'.cov⟩
theorem gI.after(e:Ext H H')(u:gI p m L T L' T' H' H''):gI p m L T L' T' H H'':=⟨u.upd.after e,u.cov⟩
theorem Ino.same(h:Ino H p m L T)(e:Ext H H'):gI p m L T L T H H':=⟨h.ow.ext e,h.cov⟩
theorem Ino.mono(h:Ino H p m L T)(e:Ext H H'):Ino H' p m L T:=(h.same e).ino h
theorem Ino.head(h:Ino H p m L T):H.get p = .cells [.map (some m),vi T.limit,vi T.change] none:=h.ow.holds (bE p [.map (some m),vi T.limit,vi T.change]) (by simp[gL])
theorem Ino.map(h:Ino H p m L T):eK u16 (λb=>ptr b 0) H m (L.map λe=>(e.1,e.2.blk)):=h.ow.holds (iL u16 (λb=>ptr b 0) m (L.map λe:BitVec 16×Ly=>(e.1,e.2.blk))) (by simp[gL])
theorem jI{A B C:Type}[DecidableEq A](f:B->C)(a:A):∀ l:List (A×B),(l.map λe=>(e.1,f e.2)).lookup a=(l.lookup a).map f
 | []=>rfl
 | e :: l=>by
  simp only[List.map_cons,List.lookup];cases a == e.1
  ·exact jI f a l
  ·rfl
theorem oO{A B:Type}[DecidableEq A]{a:A}{b:B}:∀ {l:List (A×B)},l.lookup a=some b->(a,b)∈l
 | [],h=>by simp at h
 | e :: l,h=>by
  simp only[List.lookup]at h
  by_cases k:a=e.1
  ·subst k;simp at h;subst h;simp
  ·have:(a == e.1)=false:=by simpa using k
   rw[this]at h;exact List.mem_cons_of_mem _ (oO h)
theorem iH{A B:Type}[DecidableEq A]{a:A}:∀ {l:List (A×B)},l.lookup a=none↔a ∉ l.map Prod.fst
 | []=>by simp
 | e :: l=>by
  by_cases k:a=e.1
  ·subst k;simp[List.lookup]
  ·have:(a == e.1)=false:=by simpa using k
   simp only[List.lookup,this,List.map_cons,List.mem_cons,k,false_or];exact iH
theorem fI{A B:Type}[DecidableEq A]{a:A}{b:B}:∀ {l:List (A×B)},(l.map Prod.fst).Nodup->(a,b)∈l->l.lookup a=some b
 | [],_,h=>by simp at h
 | e :: l,hn,h=>by
  rw[List.map_cons,List.nodup_cons]at hn;rcases List.mem_cons.1 h with rfl | h
  ·simp[List.lookup]
  ·have k:a≠e.1:=by rintro rfl;exact hn.1 (List.mem_map.2 ⟨_,h,rfl⟩)
   have:(a == e.1)=false:=by simpa using k
   simp only[List.lookup,this];exact fI hn.2 h
theorem aBt{A B:Type}[DecidableEq A]{a:A}{l l':List (A×B)}(hp:l.Perm l')(hn:(l.map Prod.fst).Nodup):l.lookup a=l'.lookup a:=by
 cases h:l.lookup a with
 | none =>
  symm
  rw[iH]at h ⊢;exact λk=>h ((hp.map _).mem_iff.2 k)
 | some b=>exact(fI ((hp.map _).nodup_iff.1 hn) (hp.mem_iff.1 (oO h))).symm
theorem Ino.node(h:Ino H p m L T){k:Nat}{n:BitVec 16}{y:Ly}(hk:L[k]? = some (n,y)):Ow (cM n (T.node n) y) H :=
 h.ow.part (rs:=gL p m L T) (k:=k+2) (by simp[gL,hk])
theorem cM.box{n:BitVec 16}{x:Nd}{y:Ly}(h:Ow (cM n x y) H):H.get y.blk = .cells (inC n x y) none:=h.holds (bE y.blk (inC n x y)) (by simp[fA])
theorem cM.bytes{n:BitVec 16}{x:Nd}{y:Ly}(h:Ow (cM n x y) H):cB zH H 1 y.data (bP x.data):=h.holds (cQ 1 y.data (bP x.data)) (by simp[fA])
theorem cM.names{n:BitVec 16}{x:Nd}{y:Ly}(h:Ow (cM n x y) H){r:Nat}(hr:y.nm=some r):eK str u16 H r y.ord:=h.holds (iL str u16 r y.ord) (by simp[fA,hr])
theorem Ino.get(h:Ino H p m L T)(n:BitVec 16):((T.node n).kind=0#8/\look 0 (.pointer none) false (.map (some m)) (u16 n) H=some (.pointer none)) \/
  ∃ (k:Nat) (y:Ly),(T.node n).kind≠0#8/\L[k]? = some (n,y)/\look 0 (.pointer none) false (.map (some m)) (u16 n) H=some (ptr y.blk 0)/\H.get y.blk = .cells (inC n (T.node n) y) none/\uN (T.node n) y:=by
 have hl:=h.map.look (kd:=0) (λa b=>kX a b) n (.pointer none) false;rw[jI]at hl;cases hy:L.lookup n with
 | none =>
  rw[hy]at hl;refine .inl ⟨Classical.byContradiction λk=>iH.1 hy ((h.cov.mem n).2 k),?_⟩
  simpa using hl
 | some y =>
  rw[hy]at hl;have hm:=oO hy;obtain⟨k,hk⟩:=List.mem_iff_getElem?.1 hm;exact .inr ⟨k,y,(h.cov.mem n).1 (List.mem_map.2 ⟨_,hm,rfl⟩),hk,by simpa using hl,cM.box (h.node hk),h.cov.ok _ hm⟩
def iU(L:LyL)(n:BitVec 16):Value:=match L.lookup n with | some y=>ptr y.blk 0 | none => .pointer none
theorem bG{k:Nat}{n:BitVec 16}{y:Ly}(hn:(L.map Prod.fst).Nodup)(hk:L[k]? = some (n,y)):iU L n=ptr y.blk 0:=by
 simp[iU,fI hn (List.mem_of_getElem? hk)]
theorem dO{n:BitVec 16}(h:Cov L T)(hk:(T.node n).kind=0#8):iU L n = .pointer none:=by
 have:L.lookup n=none:=iH.2 λhm=>(h.mem n).1 hm hk;simp[iU,this]
theorem S.f8(hE:bF E)(h:Ino H p m L T)(n:BitVec 16)(hQ:Q (iU L n) H):E.call 44 [ptr p 0,u16 n] H Q:=by
 apply hE.f8;have hh:=h.head;rcases h.get n with ⟨h1,h2⟩ | ⟨k,y,h1,h2,h3,h4,h5⟩
 ·rw[dO h.cov h1]at hQ
  simpa[F.f8,hh,h2] using hQ
 ·rw[bG h.cov.nd h2]at hQ
  simpa[F.f8,hh,h3] using hQ
theorem S.f17(hE:bF E)(h:Ino H p m L T)(n:BitVec 16)(hQ:Q (.tuple #[if T.dir n=0 then iU L n else .pointer none,vi (T.dir n)]) H):E.call 74 [ptr p 0,u16 n] H Q:=by
 apply hE.f17;simp only[F.f17];refine S.f8 hE h n ?_;unfold Tr.dir at hQ;rcases h.get n with ⟨h1,h2⟩ | ⟨k,y,h1,h2,h3,h4,h5⟩
 ·rw[dO h.cov h1]at hQ ⊢
  simpa[h1] using hQ
 ·rw[bG h.cov.nd h2]at hQ ⊢
  by_cases h6:(T.node n).kind=2#8
  ·simpa[h4,inC,h6] using hQ
  ·simpa[h4,inC,h6,h1] using hQ
theorem Ino.name(h:Ino H p m L T){k:Nat}{n:BitVec 16}{y:Ly}(hk:L[k]? = some (n,y))(hd:(T.node n).kind=2#8)(s:aK)(zero:Value)(ok:Bool):
  ∃ r,y.nm=some r/\eK str u16 H r y.ord/\look 1 zero ok (.map (some r)) (str s) H=some (match bX s (T.node n).ents with | some v=>(if ok then .tuple #[u16 v,.bool true] else u16 v) | none=>(if ok then .tuple #[zero,.bool false] else zero))/\iB (.map (some r)) H=some (vi (T.node n).ents.length):=by
 have hok:uN (T.node n) y:=h.cov.ok _ (List.mem_of_getElem? hk);obtain⟨r,hr⟩:=hok.dir hd;have hm:=cM.names (h.node hk) hr;have hl:=hm.look (kd:=1) (λa b=>sS a b) s zero ok;have hn:=hm.len;rw[aBt hok.perm hm.nodup]at hl;rw[hok.perm.length_eq]at hn;refine⟨r,hr,hm,?_,hn⟩;cases ho:bX s (T.node n).ents<;>(simp only[bX]at ho;rw[hl,ho])
theorem S.f10(hE:bF E)(h:Ino H p m L T)(n:BitVec 16)(s:aK)(hQ:Q (.tuple #[u16 (T.look n s).1,vi (T.look n s).2]) H):E.call 35 [ptr p 0,u16 n,str s] H Q:=by
 apply hE.f10;simp only[F.f10];refine S.f17 hE h n ?_;unfold Tr.look at hQ
 by_cases hd:T.dir n=0
 ·have hk:(T.node n).kind=2#8:=by
   unfold Tr.dir at hd
   split at hd
   ·simp at hd
   ·split at hd
    ·assumption
    ·simp at hd
  rcases h.get n with ⟨h1,h2⟩ | ⟨k,y,h1,h2,h3,h4,h5⟩
  ·rw[h1]at hk;simp at hk
  ·obtain⟨r,g1,g2,g3,g4⟩:=h.name h2 hk s (.int .u16 0) true
   rw[bG h.cov.nd h2];have hQ':=hQ;cases hl:bX s (T.node n).ents with
   | none =>
    rw[hl]at g3;simp[hd,hl]at hQ;simp at g3
    simpa[hd,h4,inC,g1,g3] using hQ
   | some v =>
    rw[hl]at g3;simp[hd,hl]at hQ;simp at g3
    simpa[hd,h4,inC,g1,g3] using hQ
 ·simp[hd]at hQ
  simpa[hd] using hQ
end
end
section
section
variable {E:Sy}{H H' H'':AH}{Q:Value->AH->Prop}{p m:Nat}{L L' L'':LyL}{T T' T'':Tr}
@[simp] theorem aIp(a b:Int):aA .lss (.int .i32 a) (.int .i32 b)=some (vb (decide (a<b))):=oQ _ _ _
@[simp] theorem aIj(a b:Int):aA .gtr (.int .i32 a) (.int .i32 b)=some (vb (decide (b<a))):=rR _ _ _
@[simp] theorem aH3(a b:Int):aA .eql (.int .i32 a) (.int .i32 b)=some (vb (decide (a=b))):=oJ _ _ _
theorem yK(s:List UInt8)(j:Nat)(hj:j<s.length)(h:s[j].toNat<128):Utf8.decode ⟨s.toArray⟩ j=(s[j].toNat,1) :=
 Go.decode_ascii ⟨s.toArray⟩ j (by simpa using hj) (show s[j].toNat<128 from h)
theorem aEt(s:List UInt8)(j:Nat)(hj:j<s.length)(h:¬ s[j].toNat<128):128<=(Utf8.decode ⟨s.toArray⟩ j).1 :=
 (Go.decode_high ⟨s.toArray⟩ j (by simpa using hj) (show 128<=s[j].toNat by omega)).1
theorem S.f116(hE:bF E)(s:List UInt8)(hs:s.length<2 ^ 63)(f:Value)(P:Nat->Bool)(hP:∀ c,128<=c->P c=true)(hf:∀ H' (c:Nat) (K:Value->AH->Prop),Ext H H'->(∀ H'',Ext H' H''->K (vb (P c)) H'')->nO E.call f [.int .i32 (c:Int)] H' K)(hQ:∀ H' k,Ext H H'->(decide (k<0)=s.all λb => !P b.toNat)->Q (vi k) H'):E.call 111 [str s,f,vb true] H Q:=by
 apply hE.f116;simp only[F.f116,gD,wH,aL,cX,pT];refine bY.count s.length (λj l H'=>l=[f,vb true,ptr H.next 0]/\Ext H H'/\H'.get H.next = .siter ⟨s.toArray⟩ j/\∀ i (hi:i<s.length),i<j->P s[i].toNat=false) ?_ ⟨rfl,(Ext.refl H).new _,AH.get_new_self _ _,λi _ h=>by omega⟩
 rintro j _ H' X hj hX ⟨rfl,e1,hi,hn⟩;have hlt:H.next<H'.next:=AH.lt_of_get (by rw[hi];simp)
 simp only[F.f116_l1,eF,eR,eW,aBT,ptr,hi,aAS,aL]
 by_cases hjl:j<s.length
 ·simp only[if_pos hjl,aL,eJ]
  have hput:∀ o,Ext H (H'.put H.next o):=λo=>e1.put (Nat.le_refl _) o;simp only[dU,List.getElem?_cons_zero,aD,aL,aS,List.getElem?_cons_succ];refine hf _ _ _ (hput _) λH2 e2 =>?_;simp only[aB7,aL,aD]
  by_cases hp:P (Utf8.decode ⟨s.toArray⟩ j).1=true
  ·simp only[hp,beq_self_eq_true,aL,aS]
   refine hQ _ _ ((hput _).trans e2) ?_
   have:(s.all λb => !P b.toNat)=false:=by
    rw[List.all_eq_false];refine⟨s[j],List.getElem_mem hjl,?_⟩
    by_cases h:s[j].toNat<128
    ·rw[yK s j hjl h]at hp
     simpa using hp
    ·simpa using hP _ (by omega)
   rw[this];simp
  ·have hlow:s[j].toNat<128:=Classical.byContradiction λh=>hp (hP _ (aEt s j hjl h))
   have hd:=yK s j hjl hlow;have hpf:P (Utf8.decode ⟨s.toArray⟩ j).1=false:=by simpa using hp
   simp only[hpf,Bool.false_beq,aL,aM];refine hX hjl _ _ ⟨rfl,(hput _).trans e2,?_,λi hi hij =>?_⟩
   ·rw[e2.obj (by simp) (AH.get_put_self _ _ hlt),hd]
   ·by_cases e:i=j
    ·subst e;rw[hd]at hpf;exact hpf
    ·exact hn i hi (by omega)
 ·simp only[if_neg hjl,aL,eJ]
  simp only[aGC,List.getElem?_cons_zero,aD,aL,aM];refine hQ _ _ e1 ?_
  have:(s.all λb => !P b.toNat)=true:=by
   rw[List.all_eq_true];intro b hb;obtain⟨i,hi,rfl⟩:=List.getElem_of_mem hb
   simpa using hn i hi (by omega)
  rw[this];rfl
theorem S.f3(hE:bF E)(c:Nat)(hQ:Q (vb (decide (c<33)||decide (126<c)||decide (c=47)||decide (c=35))) H):E.call 94 [.int .i32 (c:Int)] H Q:=by
 apply hE.f3;simp only[F.f3,aIp,aIj,aH3,aL,aD]
 by_cases h1:c<33
 ·have:(c:Int)<33:=by omega
  simp[this]
  simpa[h1] using hQ
 ·have h1':¬ (c:Int)<33:=by omega
  by_cases h2:126<c
  ·have:(126:Int)<c:=by omega
   simp[h1',this]
   simpa[h1,h2] using hQ
  ·have h2':¬ (126:Int)<c:=by omega
   by_cases h3:c=47
   ·subst h3
    simpa using hQ
   ·have h3':¬ (c:Int)=47:=by omega
    have e:((c:Int)=35)=(c=35):=by rw[eq_iff_iff];omega
    simp[h1',h2',h3',e]
    simpa[h1,h2,h3] using hQ
theorem S.f2(hE:bF E)(s:aK)(hs:s.length<2 ^ 63)(hQ:∀ H',Ext H H'->Q (vb (cP s)) H'):E.call 65 [str s] H Q:=by
  apply hE.f2;have l1:(.string ⟨#[46]⟩:Value)=str [46]:=rfl;have l2:(.string ⟨#[46,46]⟩:Value)=str [46,46]:=rfl;have bad:∀ b:Bool,b=false->cP s=b->Q (vb false) H:=λb h1 h2=>by rw[<- h1,<- h2];exact hQ H (Ext.refl H)
  simp only[F.f2,dN,aL,aD,bS]
  by_cases h1:s.length<1
  · have:((s.length:Int)<1):=by omega
    simp[this]
    exact bad _ rfl (by have : ¬ 1 <= s.length := by omega
                        simp[cP,this])
  have h1':¬ ((s.length:Int)<1):=by omega
  by_cases h2:14<s.length
  · have:((14:Int)<s.length):=by omega
    simp[h1',this]
    exact bad _ rfl (by have : ¬ s.length <= 14 := by omega
                        simp[cP,this])
  have h2':¬ ((14:Int)<s.length):=by omega
  by_cases h3:s=[46]
  · simp[h1',h2',l1,h3]
    exact bad _ rfl (by simp[cP,h3])
  by_cases h4:s=[46,46]
  · simp[h1',h2',l1,l2,h3,h4]
    exact bad _ rfl (by simp[cP,h4])
  simp[h1',h2',l1,l2,h3,h4];apply hE.f112;simp only[F.f112]
  have hP:∀ c:Nat,128<=c->(λc:Nat=>decide (c<33)||decide (126<c)||decide (c=47)||decide (c=35)) c=true:=λc hc=>by
    have:126<c:=by omega
    simp[this]
  refine S.f116 hE s hs _ _ hP (λH' c K e hK =>?_) λH' k e hk =>?_
  · simp
    exact S.f3 hE c (hK H' (Ext.refl _))
  · have hq:=hQ H' e
    have:cP s=decide (k<0):=by
      rw[hk];have a1:1<=s.length:=by omega
      have a2:s.length<=14:=by omega
      simp only[cP,a1,a2,h3,h4,decide_true,Bool.and_true,ne_eq,not_false_eq_true]
      congr 1
      funext c
      unfold mR
      congr 1
      have g:∀ n:Nat,n<256->(decide (c<UInt8.ofNat n)=decide (c.toNat<n))/\(decide (UInt8.ofNat n<c)=decide (n<c.toNat))/\(decide (c=UInt8.ofNat n)=decide (c.toNat=n)):=by
        intro n hn;refine⟨?_,?_,?_⟩
        · congr 1;rw[eq_iff_iff,UInt8.lt_iff_toNat_lt,UInt8.toNat_ofNat_of_lt' hn]
        · congr 1;rw[eq_iff_iff,UInt8.lt_iff_toNat_lt,UInt8.toNat_ofNat_of_lt' hn]
        · congr 1;rw[eq_iff_iff,<- UInt8.toNat_inj,UInt8.toNat_ofNat_of_lt' hn]
      rw[show(33:UInt8)=UInt8.ofNat 33 from rfl,show(126:UInt8)=UInt8.ofNat 126 from rfl,show(47:UInt8)=UInt8.ofNat 47 from rfl,show(35:UInt8)=UInt8.ofNat 35 from rfl,(g 33 (by omega)).1,(g 126 (by omega)).2.1,(g 47 (by omega)).2.2,(g 35 (by omega)).2.2]
    rw[this]at hq
    simpa using hq
end
end
section
section
variable {T:Tr}
theorem Tr.node_lt{n:BitVec 16}(h:(T.node n).kind≠0#8):n.toNat<T.N.length:=by
 apply Classical.byContradiction;intro k;apply h;unfold Tr.node;rw[List.getD_eq_getElem?_getD,List.getElem?_eq_none (by omega)]
 rfl
theorem Tr.node_upd{n:BitVec 16}(h:(T.node n).kind≠0#8)(f:Nd->Nd)(k:BitVec 16):(T.upd n f).node k=if k=n then f (T.node n) else T.node k:=by
 have hl:=Tr.node_lt h;unfold Tr.upd Tr.node;simp only[List.getD_eq_getElem?_getD,List.getElem?_modify]
 by_cases e:k=n
 ·subst e
  simp[hl]
 ·have:n.toNat≠k.toNat:=λx=>e (BitVec.toNat_inj.1 x.symm)
  simp[e,this]
@[simp] theorem Tr.upd_limit(n:BitVec 16)(f:Nd->Nd):(T.upd n f).limit=T.limit:=rfl
@[simp] theorem Tr.upd_change(n:BitVec 16)(f:Nd->Nd):(T.upd n f).change=T.change:=rfl
@[simp] theorem Tr.bump_limit:T.bump.limit=T.limit:=rfl
@[simp] theorem Tr.bump_change:T.bump.change=T.change+1:=rfl
@[simp] theorem Tr.bump_node(n:BitVec 16):T.bump.node n=T.node n:=rfl
end
section
variable {E:Sy}{H H' H'':AH}{Q:Value->AH->Prop}{p m:Nat}{L L' L'':LyL}{T T' T'':Tr}
theorem aAP{A B:Type}{L:List (A×B)}(hn:(L.map Prod.fst).Nodup){k i:Nat}{n:A}{y:B}{e:A×B}(hk:L[k]? = some (n,y))(hi:L[i]? = some e)(h:i≠k):e.1≠n:=by
 intro he;have hkl:=(List.getElem?_eq_some_iff.1 hk).1;have hil:=(List.getElem?_eq_some_iff.1 hi).1;have:=(List.getElem?_inj (show i<(L.map Prod.fst).length by simpa using hil) hn).1 (show(L.map Prod.fst)[i]? = (L.map Prod.fst)[k]? by simp[hi,hk,he])
 exact h this
theorem jV{A B:Type}(f:A->B){l:List A}{k:Nat}{a b:A}(hk:l[k]? = some a)(h:f b=f a):(l.set k b).map f=l.map f:=by
 rw[List.map_set,h];apply List.ext_getElem?;intro i;simp only[List.getElem?_set,List.getElem?_map]
 split
 ·rename_i e;subst e
  split
  ·simp[hk]
  ·rename_i h2;simp at h2;simp[List.getElem?_eq_none h2]
 ·rfl
theorem aEo(hn:(L.map Prod.fst).Nodup){k:Nat}{n:BitVec 16}{y y':Ly}(hk:L[k]? = some (n,y))(g:BitVec 16×Ly->Res)(g':BitVec 16×Ly->Res)(hg:∀ e∈L,e.1≠n->g' e=g e):
  (L.set k (n,y')).map g'=(L.map g).set k (g' (n,y')):=by
 apply List.ext_getElem?;intro i;simp only[List.getElem?_map,List.getElem?_set,List.length_map]
 by_cases e:k=i
 ·subst e
  have:=(List.getElem?_eq_some_iff.1 hk).1;simp[this]
 ·simp only[e,if_false]
  cases hi:L[i]? with
  | none=>rfl
  | some x=>simp[hg x (List.mem_of_getElem? hi) (aAP hn hk hi (Ne.symm e))]
theorem aCx{k:Nat}{n:BitVec 16}{y y':Ly}(hk:L[k]? = some (n,y)):(L.set k (n,y')).map Prod.fst=L.map Prod.fst:=jV _ hk rfl
theorem Ino.set(h:Ino H p m L T){k:Nat}{n:BitVec 16}{y y':Ly}(hk:L[k]? = some (n,y)){f:Nd->Nd}(hb:y'.blk=y.blk)(hkind:(f (T.node n)).kind≠0#8)(ok:uN (f (T.node n)) y')(u:Upd (cM n (T.node n) y) (cM n (f (T.node n)) y') H H'):gI p m L T (L.set k (n,y')) (T.upd n f) H H':=by
 have h0:(T.node n).kind≠0#8:=(h.cov.mem n).1 (List.mem_map.2 ⟨_,List.mem_of_getElem? hk,rfl⟩);have hnode:=λj=>Tr.node_upd h0 f j;have hs:=h.ow.set (rs:=gL p m L T) (k:=k+2) (r:=cM n (T.node n) y) (by simp[gL,hk]) u
 have hl:(gL p m L T).set (k+2) (cM n (f (T.node n)) y')=gL p m (L.set k (n,y')) (T.upd n f):=by
  simp only[gL,List.set_cons_succ,Tr.upd_limit,Tr.upd_change]
  congr 2
  ·rw[jV _ hk];simp[hb]
  ·rw[aEo h.cov.nd hk (λe=>cM e.1 (T.node e.1) e.2) (λe=>cM e.1 ((T.upd n f).node e.1) e.2) (λe _ he=>by simp only[hnode,if_neg he])]
   simp only[hnode,if_true]
 refine⟨by unfold pE;rw[<- hl];exact hs,by rw[aCx hk];exact h.cov.nd,λj =>?_,λe he =>?_⟩
 ·rw[aCx hk,h.cov.mem j,hnode]
  split
  ·rename_i e;subst e;simp[h0,hkind]
  ·rfl
 ·obtain⟨i,hi⟩:=List.mem_iff_getElem?.1 he
  rw[List.getElem?_set]at hi;have hkl:=(List.getElem?_eq_some_iff.1 hk).1
  by_cases e':k=i
  ·subst e'
   simp[hkl]at hi;subst hi;rw[hnode,if_pos rfl];exact ok
  ·simp only[e',if_false]at hi
   rw[hnode,if_neg (aAP h.cov.nd hk hi (Ne.symm e'))];exact h.cov.ok e (List.mem_of_getElem? hi)
theorem cM.put{n:BitVec 16}{x x':Nd}{y:Ly}(h:Ow (cM n x y) H)(hd:x'.data=x.data):Upd (cM n x y) (cM n x' y) H (H.put y.blk (.cells (inC n x' y) none)):=by
 have:=h.set (k:=0) (r:=bE y.blk (inC n x y)) (by simp[fA]) (bE.put (cM.box h) (inC n x' y))
 have e:(fA n x y).set 0 (bE y.blk (inC n x' y))=fA n x' y:=by simp[fA,hd]
 rw[e]at this;exact this
theorem cM.setMap{n:BitVec 16}{x x':Nd}{y:Ly}{r:Nat}{o:List (aK×BitVec 16)}(h:Ow (cM n x y) H)(hr:y.nm=some r)(hd:x'.data=x.data)(hc:inC n x' { y with ord:=o }=inC n x y)(u:Upd (iL str u16 r y.ord) (iL str u16 r o) H H'):Upd (cM n x y) (cM n x' { y with ord:=o }) H H':=by
 have:=h.set (k:=2) (r:=iL str u16 r y.ord) (by simp[fA,hr]) u
 have e:(fA n x y).set 2 (iL str u16 r o)=fA n x' { y with ord:=o }:=by
  have hc':=hc;rw[hr]at hc';simp[fA,hd,hr,hc']
 rw[e]at this;exact this
theorem Ino.bump(h:Ino H p m L T):gI p m L T L T.bump H (H.put p (.cells [.map (some m),vi T.limit,vi (T.change+1)] none)):=by
 have:=h.ow.set (rs:=gL p m L T) (k:=0) (r:=bE p [.map (some m),vi T.limit,vi T.change]) (by simp[gL]) (bE.put h.head [.map (some m),vi T.limit,vi (T.change+1)])
 exact⟨this,h.cov.nd,h.cov.mem,h.cov.ok⟩
theorem S.f118(hE:bF E)(h:Ino H p m L T)(hc : -9223372036854775808<=T.change/\T.change<9223372036854775807)(hQ:∀ v H',gI p m L T L T.bump H H'->Q v H'):E.call 86 [ptr p 2,vi 1] H Q:=by
 apply hE.f118;simp only[F.f118,aY,aL,aD];rw[aJ,aD];apply hE.f117;have hw:IntKind.i64.wrap (T.change+1)=T.change+1:=kT (by omega) (by omega)
 simp only[nR,ptr,vi,h.head,hw,List.getElem?_cons_succ,List.getElem?_cons_zero,List.set_cons_succ,List.set_cons_zero,Nat.add_zero];exact hQ _ _ h.bump
theorem Ino.gone(h:Ino H p m L T){k:Nat}{n:BitVec 16}{y:Ly}(hk:L[k]? = some (n,y)):∃ H',jN 0 (.map (some m)) (u16 n) H=some H'/\gI p m L T (L.eraseIdx k) (T.upd n λ_=>Nd.none) H H':=by
 have h0:(T.node n).kind≠0#8:=(h.cov.mem n).1 (List.mem_map.2 ⟨_,List.mem_of_getElem? hk,rfl⟩);have hnode:=λj=>Tr.node_upd h0 (λ_=>Nd.none) j;obtain⟨H',g1,g2⟩:=iL.del h.map (kd:=0) (λa b=>kX a b) n;have hkl:=(List.getElem?_eq_some_iff.1 hk).1
 have hfi:((L.map λe=>(e.1,e.2.blk)).findIdx? λp=>decide (n=p.1))=some k:=by
  rw[List.findIdx?_eq_some_iff_getElem];refine⟨by simpa using hkl,?_,λj hj =>?_⟩
  ·have:=(List.getElem?_eq_some_iff.1 hk).2
   simp[this]
  ·have hjl:j<L.length:=by omega
   have:=aAP h.cov.nd hk (List.getElem?_eq_getElem hjl) (by omega)
   simp only[List.getElem_map,decide_eq_true_eq];exact λe=>this e.symm
 have hdel:fD n (L.map λe=>(e.1,e.2.blk))=(L.eraseIdx k).map λe=>(e.1,e.2.blk):=by rw[sF n _ k hfi,kH]
 have hs:=h.ow.set (rs:=gL p m L T) (k:=1) (by simp[gL]) g2
 have ho:=h.ow.upd hs;have he:=ho.erase (k+2)
 have hmem:∀ e∈L.eraseIdx k,e∈L/\e.1≠n:=by
  intro e hm;obtain⟨i,hik,hi⟩:=List.mem_eraseIdx_iff_getElem?.1 hm;exact⟨List.mem_of_getElem? hi,aAP h.cov.nd hk hi hik⟩
 have hl:((gL p m L T).set 1 (iL u16 (λb=>ptr b 0) m (fD n (L.map λe=>(e.1,e.2.blk))))).eraseIdx (k+2)=gL p m (L.eraseIdx k) (T.upd n λ_=>Nd.none):=by
  simp only[gL,List.set_cons_succ,List.set_cons_zero,List.eraseIdx_cons_succ,Tr.upd_limit,Tr.upd_change,hdel]
  congr 2
  rw[<- kH];apply List.map_congr_left;intro e hm;rw[hnode,if_neg (hmem e hm).2]
 refine⟨H',g1,?_,?_,λj =>?_,λe hm =>?_⟩
 ·have:=hs.trans he
  rw[hl]at this;exact this
 ·rw[kH];exact h.cov.nd.sublist (List.eraseIdx_sublist _ _)
 ·rw[hnode]
  constructor
  ·intro hj
   obtain⟨e,hm,rfl⟩:=List.mem_map.1 hj;rw[if_neg (hmem e hm).2];exact(h.cov.mem _).1 (List.mem_map.2 ⟨e,(hmem e hm).1,rfl⟩)
  ·intro hj
   split at hj
   ·exact(hj rfl).elim
   ·rename_i hne
    obtain⟨e,hm,rfl⟩:=List.mem_map.1 ((h.cov.mem j).2 hj);obtain⟨i,hi⟩:=List.mem_iff_getElem?.1 hm;refine List.mem_map.2 ⟨e,List.mem_eraseIdx_iff_getElem?.2 ⟨i,?_,hi⟩,rfl⟩;rintro rfl;rw[hk]at hi;simp at hi;subst hi;exact hne rfl
 ·rw[hnode,if_neg (hmem e hm).2]
  exact h.cov.ok e (hmem e hm).1
def Shr(L L':LyL):Prop:=∀ k,iU L' k=iU L k\/iU L' k = .pointer none
theorem Shr.refl(L:LyL):Shr L L:=λ_ => .inl rfl
theorem Shr.trans(h:Shr L L')(h':Shr L' L''):Shr L L'':=λk=>(h' k).elim (λe=>(h k).imp (λf=>e.trans f) λf=>e.trans f) .inr
theorem aED(h:L'.map (λe=>(e.1,e.2.blk))=L.map λe=>(e.1,e.2.blk))(k:BitVec 16):iU L' k=iU L k:=by
 have a:=congrArg (λl=>l.lookup k) h;simp only[jI]at a;unfold iU;cases h1:L'.lookup k<;>cases h2:L.lookup k<;>simp[h1,h2]at a ⊢
 exact a
theorem Shr.set{k:Nat}{n:BitVec 16}{y y':Ly}(hk:L[k]? = some (n,y))(hb:y'.blk=y.blk):Shr L (L.set k (n,y')):=λj => .inl (aED (jV _ hk (by simp[hb])) j)
theorem Shr.erase(hn:(L.map Prod.fst).Nodup)(k:Nat):Shr L (L.eraseIdx k):=by
 intro j;cases h:(L.eraseIdx k).lookup j with
 | none=>exact .inr (by simp[iU,h])
 | some y =>
  left;have hm:=List.mem_of_mem_eraseIdx (oO h);simp[iU,h,fI hn hm]
theorem S.f21(hE:bF E)(h:Ino H p m L T)(n:BitVec 16)(hk:(T.node n).kind≠0#8)(hQ:∀ L' H',Shr L L'->gI p m L T L' (T.tidy n) H H'->Q (.tuple #[]) H'):E.call 89 [ptr p 0,u16 n] H Q:=by
 apply hE.f21;unfold Tr.tidy at hQ;have hh:=h.head;rcases h.get n with ⟨h1,h2⟩ | ⟨k,y,h1,h2,h3,h4,h5⟩
 ·exact(hk h1).elim
 by_cases g1:(T.node n).links=0
 ·by_cases g2:(T.node n).held=0
  ·obtain⟨H',e1,e2⟩:=h.gone h2
   simp[F.f21,hh,h3,h4,inC,g1,g2,e1];exact hQ _ _ (Shr.erase h.cov.nd k) (by simpa[g1,g2] using e2)
  ·simp[F.f21,hh,h3,h4,inC,g1,g2]
   exact hQ L _ (Shr.refl L) (by simpa[g1,g2] using h.same (Ext.refl H))
 ·simp[F.f21,hh,h3,h4,inC,g1]
  exact hQ L _ (Shr.refl L) (by simpa[g1] using h.same (Ext.refl H))
end
end
section
section
variable {E:Sy}{H H' H'':AH}{Q:Value->AH->Prop}{p m:Nat}{L L' L'':LyL}{T T' T'':Tr}
theorem uN.same{x x':Nd}{y:Ly}(h:uN x y)(h1:x'.kind=x.kind)(h2:x'.ents=x.ents):uN x' y :=
 ⟨λk=>h.dir (by rw[<- h1];exact k),λk=>h.nodir (by rw[<- h1];exact k),by rw[h2];exact h.perm⟩
theorem aF0(n:BitVec 16)(x:Nd)(y:Ly)(k:Int):(inC n x y).set 7 (vi (x.held+k))=inC n (x.addH k) y:=rfl
theorem aD0(n:BitVec 16)(x:Nd)(y:Ly)(k:Int):(inC n x y).set 6 (vi (x.links+k))=inC n (x.addL k) y:=rfl
theorem Ino.held(h:Ino H p m L T){k:Nat}{n:BitVec 16}{y:Ly}(hk:L[k]? = some (n,y))(h1:(T.node n).kind≠0#8)(d:Int):
  gI p m L T (L.set k (n,y)) (T.upd n (Nd.addH d)) H (H.put y.blk (.cells ((inC n (T.node n) y).set 7 (vi ((T.node n).held+d))) none)):=by
 rw[aF0];exact h.set hk rfl h1 ((h.cov.ok _ (List.mem_of_getElem? hk)).same rfl rfl) (cM.put (h.node hk) rfl)
theorem Ino.links(h:Ino H p m L T){k:Nat}{n:BitVec 16}{y:Ly}(hk:L[k]? = some (n,y))(h1:(T.node n).kind≠0#8)(d:Int):
  gI p m L T (L.set k (n,y)) (T.upd n (Nd.addL d)) H (H.put y.blk (.cells ((inC n (T.node n) y).set 6 (vi ((T.node n).links+d))) none)):=by
 rw[aD0];exact h.set hk rfl h1 ((h.cov.ok _ (List.mem_of_getElem? hk)).same rfl rfl) (cM.put (h.node hk) rfl)
theorem S.f9(hE:bF E)(h:Ino H p m L T)(n:BitVec 16)(more:Bool)(hb:0<=(T.node n).held/\(T.node n).held<9223372036854775807)(hQ:∀ L' H',gI p m L T L' (T.hold n more).1 H H'->Q (vi (T.hold n more).2) H'):E.call 72 [ptr p 0,u16 n,vb more] H Q:=by
 apply hE.f9;simp only[F.f9];refine S.f8 hE h n ?_;unfold Tr.hold at hQ;rcases h.get n with ⟨h1,h2⟩ | ⟨k,y,h1,h2,h3,h4,h5⟩
 ·rw[dO h.cov h1]
  simp[h1]at hQ;simp;exact hQ L _ (h.same (Ext.refl H))
 ·rw[bG h.cov.nd h2]
  cases more with
  | true =>
   simp[h1]at hQ;have hs:=h.held h2 h1 1;simp[h4,inC];simp[inC]at hs;rw[eM (by omega) (by omega)]
   simp[h4,inC];exact hQ _ _ hs
  | false =>
   simp[h1]at hQ
   by_cases g:(T.node n).held=0
   ·simp[g]at hQ
    simp[h4,inC,g];exact hQ L _ (h.same (Ext.refl H))
   ·simp[g]at hQ
    have hs:=h.held h2 h1 (-1);simp[h4,inC,g];simp[inC]at hs;rw[fZ (by omega) (by omega)]
    simp[h4,inC];rw[show(T.node n).held - 1=(T.node n).held + -1 by omega]
    refine S.f21 hE (hs.ino h) n ?_ λL' H' _ u=>hQ _ _ (hs.trans u);rw[Tr.node_upd h1,if_pos rfl];exact h1
theorem Tr.dir_zero{n:BitVec 16}:T.dir n=0↔(T.node n).kind=2#8:=by
 unfold Tr.dir;constructor
 ·intro h
  split at h
  ·simp at h
  ·split at h
   ·assumption
   ·simp at h
 ·intro h
  rw[if_neg (by rw[h];decide),if_pos h]
theorem S.f19(hE:bF E)(h:Ino H p m L T)(n:BitVec 16)(s:aK)(hs:s.length<2 ^ 63)(hQ:∀ H',Ext H H'->Q (.tuple #[if T.room n s=0 then iU L n else .pointer none,vi (T.room n s)]) H'):E.call 84 [ptr p 0,u16 n,str s] H Q:=by
 apply hE.f19;simp only[F.f19];refine S.f17 hE h n ?_;unfold Tr.room at hQ
 by_cases hd:T.dir n=0
 ·have hk:=Tr.dir_zero.1 hd
  rcases h.get n with ⟨h1,h2⟩ | ⟨k,y,h1,h2,h3,h4,h5⟩
  ·rw[h1]at hk;simp at hk
  have hp:=bG h.cov.nd h2;simp only[hd,if_true,aL];rw[hp];simp[hd];refine S.f2 hE s hs λH1 e1 =>?_;have hh:=h.mono e1;have k4:=e1.cells h4;obtain⟨r,g1,g2,g3,g4⟩:=hh.name h2 hk s (.int .u16 0) true
  by_cases c1:cP s=true
  ·simp only[hd,c1]at hQ
   cases c2:bX s (T.node n).ents with
   | some v =>
    rw[c2]at g3;simp at g3;simp[c2]at hQ;simp[c1,k4,inC,g1,g3];exact hQ _ e1
   | none =>
    rw[c2]at g3;simp at g3;simp[c2]at hQ;simp[c1,k4,inC,g1,g3]
    by_cases c3:(T.node n).links=0
    ·simp[c3]at hQ
     simp[c3];exact hQ _ e1
    ·simp[c3]at hQ
     simp[c3,k4,inC,g1,g4]
     by_cases c4:32<=(T.node n).ents.length
     ·have c4':(32:Int)<=(T.node n).ents.length:=by omega
      have c4'':¬ (T.node n).ents.length<32:=by omega
      simp[c4,c4'']at hQ;simp[c4'];exact hQ _ e1
     ·have c4':¬ (32:Int)<=(T.node n).ents.length:=by omega
      have c4'':(T.node n).ents.length<32:=by omega
      simp[c4,c4'',hp]at hQ;simp[c4'];exact hQ _ e1
  ·have c1:cP s=false:=by simpa using c1
   simp[hd,c1]at hQ;simp[c1];exact hQ _ e1
 ·simp[hd]at hQ
  simp[hd];exact hQ _ (Ext.refl H)
theorem aEF{K V:Type}[DecidableEq K](k:K){l l':List (K×V)}(h:l.Perm l')(hn:(l.map Prod.fst).Nodup):(fD k l).Perm (fD k l'):=by
 induction h with
 | nil=>exact List.Perm.refl _
 | cons x h ih =>
  rw[List.map_cons,List.nodup_cons]at hn;simp only[fD]
  split
  ·exact h
  ·exact(ih hn.2).cons _
 | swap x y l =>
  simp only[fD]
  by_cases h1:x.1=k
  ·by_cases h2:y.1=k
   ·simp[h1,h2]at hn
   ·simp[h1,h2]
  ·by_cases h2:y.1=k
   ·simp[h1,h2]
   ·simp only[h1,h2,if_false]
    exact List.Perm.swap _ _ _
 | trans h1 _ ih1 ih2=>exact(ih1 hn).trans (ih2 ((h1.map _).nodup_iff.1 hn))
theorem Ino.delName(h:Ino H p m L T){k:Nat}{n:BitVec 16}{y:Ly}(hk:L[k]? = some (n,y))(hd:(T.node n).kind=2#8)(s:aK):
  ∃ r H',y.nm=some r/\jN 1 (.map (some r)) (str s) H=some H'/\gI p m L T (L.set k (n,{ y with ord:=fD s y.ord })) (T.upd n (Nd.delE s)) H H':=by
 have hok:uN (T.node n) y:=h.cov.ok _ (List.mem_of_getElem? hk);obtain⟨r,hr⟩:=hok.dir hd;have hm:=cM.names (h.node hk) hr;obtain⟨H',g1,g2⟩:=iL.del hm (kd:=1) (λa b=>sS a b) s;refine⟨r,H',hr,g1,h.set hk rfl ?_ ⟨λ_=>hok.dir hd,λk=>(k hd).elim,?_⟩ (cM.setMap (h.node hk) hr rfl rfl g2)⟩
 ·show(T.node n).kind≠0#8
  rw[hd];decide
 ·exact aEF s hok.perm hm.nodup
theorem Tr.look_ok{n:BitVec 16}{s:aK}(h:(T.look n s).2=0):(T.node n).kind=2#8/\bX s (T.node n).ents=some (T.look n s).1:=by
 unfold Tr.look at h ⊢
 by_cases hd:T.dir n=0
 ·simp only[hd,ne_eq,not_true,if_false]at h ⊢
  refine⟨Tr.dir_zero.1 hd,?_⟩;cases hl:bX s (T.node n).ents with
  | none=>simp[hl]at h
  | some v=>rfl
 ·simp[hd]at h
theorem S.f7(hE:bF E)(h:Ino H p m L T)(n:BitVec 16)(s:aK)(dir:Bool)(hc : -9223372036854775808<=T.change/\T.change<9223372036854775807)(hx:(T.look n s).2=0->(T.node (T.look n s).1).kind≠0#8/\0<=(T.node (T.look n s).1).links/\(T.node (T.look n s).1).links<9223372036854775807)(hQ:∀ L' H',((T.drop n s dir).2≠0->L'=L/\Ext H H')->Shr L L'->gI p m L T L' (T.drop n s dir).1 H H'->Q (vi (T.drop n s dir).2) H'):E.call 54 [ptr p 0,u16 n,str s,vb dir] H Q:=by
 apply hE.f7;simp only[F.f7];refine S.f10 hE h n s ?_;unfold Tr.drop at hQ;have hh:=h.head
 by_cases c1:(T.look n s).2=0
 ·obtain⟨g1,g2,g3⟩:=hx c1
  obtain⟨k1,k2⟩:=Tr.look_ok c1;generalize hv:(T.look n s).1=v at *;rcases h.get v with ⟨h1,h2⟩ | ⟨k,y,h1,h2,h3,h4,h5⟩
  ·exact(g1 h1).elim
  rcases h.get n with ⟨q1,q2⟩ | ⟨j,z,q1,q2,q3,q4,q5⟩
  ·rw[q1]at k1;simp at k1
  have last:∀ Qx:Value->AH->Prop,(∀ L' H',Shr L L'->gI p m L T L' ((((T.upd n (Nd.delE s)).upd v (Nd.addL (-1))).bump).tidy v) H H'->Qx (vi 0) H') ->
   (opt (aF (ptr p 0)) λv29=>opt (aB v29 0) λv30=>opt (aC v30 H) λv31=>opt (look 0 (.pointer none) false v31 (u16 n) H) λv32=>opt (aF v32) λv33=>opt (aB v33 3) λv34=>opt (aC v34 H) λv35 =>
    opt (jN 1 v35 (str s) H) λH18=>opt (aF (ptr y.blk 0)) λv36=>opt (aB v36 6) λv37=>opt (aC v37 H18) λv38=>opt (aA .sub v38 (vi 1)) λv39=>opt (aF (ptr y.blk 0)) λv40=>opt (aB v40 6) λv41 =>
    opt (aR v41 v39 H18) λH19=>opt (aF (ptr p 0)) λv42=>opt (aB v42 2) λv43=>E.call 86 [v43,vi 1] H19 λv44 H20=>E.call 89 [ptr p 0,u16 v] H20 λv45 H21=>Qx (vi 0) H21):=by
   intro Qx hQx;obtain⟨r,H1,r1,r2,r3⟩:=h.delName q2 k1 s;have hI:=r3.ino h;have hkd:(Nd.delE s (T.node n)).kind=(T.node n).kind:=rfl;have hnode:=λw=>Tr.node_upd q1 (Nd.delE s) w
   have hv1:((T.upd n (Nd.delE s)).node v).kind≠0#8:=by
    rw[hnode];split
    ·rename_i e;subst e;exact q1
    ·exact g1
   have hv2:((T.upd n (Nd.delE s)).node v).links=(T.node v).links:=by
    rw[hnode];split
    ·rename_i e;subst e;rfl
    ·rfl
   rcases hI.get v with ⟨w1,_⟩ | ⟨i,x,w1,w2,w3,w4,w5⟩
   ·exact(hv1 w1).elim
   have hxb:x.blk=y.blk:=by
    have:(L.set j (n,{ z with ord:=fD s z.ord })).map (λe=>(e.1,e.2.blk))=L.map λe=>(e.1,e.2.blk):=jV _ q2 rfl
    have a:=congrArg (λl=>l.lookup v) this;rw[jI,jI,fI hI.cov.nd (List.mem_of_getElem? w2),fI h.cov.nd (List.mem_of_getElem? h2)]at a
    simpa using a
   simp[hh,q3,q4,inC,r1,r2];rw[<- hxb];simp[w4,inC,hv2];rw[fZ (by omega) (by omega)]
   simp[w4,inC];have hs:=hI.links w2 hv1 (-1);simp[inC,hv2]at hs;have u2:=r3.trans hs;rw[show(T.node v).links - 1=(T.node v).links + -1 by omega]
   refine S.f118 hE (u2.ino h) hc λ_ H3 u3 =>?_;have u3':=u2.trans u3;refine S.f21 hE (u3'.ino h) v ?_ λL4 H4 sh u4=>hQx _ _ (((Shr.set (y':={ z with ord:=fD s z.ord }) q2 rfl).trans (Shr.set w2 rfl)).trans sh) (u3'.trans u4)
   rw[Tr.bump_node,Tr.node_upd hv1,if_pos rfl];exact hv1
  simp only[c1]at hQ;have same:∀ H',Ext H H'->gI p m L T L T H H':=λH' e=>h.same e
  by_cases c2:(T.node v).kind=2#8
  ·cases dir with
   | true =>
    obtain⟨r,e1,e2,e3,e4⟩:=h.name h2 c2 s (.int .u16 0) true
    by_cases c3:0<(T.node v).ents.length
    ·have c3':(0:Int)<(T.node v).ents.length:=by omega
     simp[c2,c3]at hQ;simp[hh,h3,h4,inC,c1,c2,e1,e4,c3,c3'];exact hQ L _ rfl (Ext.refl H) (Shr.refl L) (same _ (Ext.refl H))
    ·have c3':¬ (0:Int)<(T.node v).ents.length:=by omega
     simp[c2,c3]at hQ;simp[hh,h3,h4,inC,c1,c2,e1,e4,c3,c3'];have:=last _ hQ
     simpa[hh] using this
   | false =>
    simp[c2]at hQ;simp[hh,h3,h4,inC,c1,c2];exact hQ L _ rfl (Ext.refl H) (Shr.refl L) (same _ (Ext.refl H))
  ·cases dir with
   | true =>
    simp[c2]at hQ;simp[hh,h3,h4,inC,c1,c2];exact hQ L _ rfl (Ext.refl H) (Shr.refl L) (same _ (Ext.refl H))
   | false =>
    simp[c2]at hQ;simp[hh,h3,h4,inC,c1,c2];have:=last _ hQ
    simpa[hh] using this
 ·simp[c1]at hQ
  simp[c1];exact hQ L _ rfl (Ext.refl H) (Shr.refl L) (h.same (Ext.refl H))
end
end
section
def Tr.chainOk(T:Tr):Nat->BitVec 16->Prop
 | 0,_=>True
 | f+1,n=>n=1#16\/((T.node n).kind≠0#8/\T.chainOk f (T.node n).parent)
def Tr.fitsF(T:Tr):Nat->BitVec 16->Prop
 | 0,_=>False
 | f+1,n=>(T.node n).kind=2#8/\∀ e∈(T.node n).ents,(T.node e.2).kind≠0#8/\((T.node e.2).kind=2#8->T.fitsF f e.2)
theorem Tr.tallF_le(T:Tr):∀ (f:Nat) (n:BitVec 16),T.tallF f n<=f
 | 0,_=>Nat.le_refl _
 | f+1,n=>by
  simp only[Tr.tallF]
  have:∀ (l:List (aK×BitVec 16)) (b:Nat),b<=f->l.foldl (λb e=>if(T.node e.2).kind=2#8 then max b (T.tallF f e.2) else b) b<=f:=by
   intro l
   induction l with
   | nil=>intro b hb;exact hb
   | cons e l ih =>
    intro b hb;simp only[List.foldl_cons];refine ih _ ?_
    split
    ·have:=Tr.tallF_le T f e.2
     omega
    ·exact hb
  have:=this (T.node n).ents 0 (Nat.zero_le _);omega
theorem Tr.tallF_eq(T:Tr):∀ (f:Nat) (n:BitVec 16),T.fitsF f n->∀ g,f<=g->T.tallF g n=T.tallF f n
 | 0,_,h,_,_=>h.elim
 | f+1,n,h,g,hg=>by
  obtain⟨g,rfl⟩:∃ g',g=g'+1:=⟨g - 1,by omega⟩
  simp only[Tr.tallF]
  congr 1
  have:∀ (l:List (aK×BitVec 16)) (b:Nat),(∀ e∈l,e∈(T.node n).ents)->l.foldl (λb e=>if(T.node e.2).kind=2#8 then max b (T.tallF g e.2) else b) b=l.foldl (λb e=>if(T.node e.2).kind=2#8 then max b (T.tallF f e.2) else b) b:=by
   intro l
   induction l with
   | nil=>intro b _;rfl
   | cons e l ih =>
    intro b hb;simp only[List.foldl_cons];have he:=(h.2 e (hb e (by simp))).2
    rw[ih _ λx hx=>hb x (by simp[hx])]
    congr 1
    split
    ·rename_i hk
     rw[Tr.tallF_eq T f e.2 (he hk) g (by omega)]
    ·rfl
  exact this _ _ λ_ h=>h
section
variable {E:Sy}{H H' H'':AH}{Q:Value->AH->Prop}{p m:Nat}{L L' L'':LyL}{T T' T'':Tr}
theorem Ino.lookP(h:Ino H p m L T)(n:BitVec 16):look 0 (.pointer none) false (.map (some m)) (u16 n) H=some (iU L n):=by
 rcases h.get n with ⟨h1,h2⟩ | ⟨k,y,h1,h2,h3,h4,h5⟩
 ·rw[dO h.cov h1,h2]
 ·rw[bG h.cov.nd h2,h3]
theorem Tr.tall_le(T:Tr)(n:BitVec 16):T.tall n<=20:=Tr.tallF_le T 20 n
theorem Tr.deep_le(T:Tr)(n:BitVec 16):T.deep n<=17:=by
 have:∀ g k,T.deepF g k<=g:=by
  intro g
  induction g with
  | zero=>intro k;exact Nat.le_refl _
  | succ g ih =>
   intro k;simp only[Tr.deepF]
   split
   ·omega
   ·have:=ih (T.node k).parent;omega
 exact this 17 n
theorem S.f16(hE:bF E)(h:Ino H p m L T)(n:BitVec 16)(hc:T.chainOk 17 n)(hQ:Q (vi (T.deep n)) H):E.call 85 [ptr p 0,u16 n] H Q:=by
 apply hE.f16;simp only[F.f16];have hh:=h.head;obtain⟨D,hD⟩:∃ D,D=T.deepF 17 n:=⟨_,rfl⟩;unfold Tr.deep at hQ;rw[<- hD]at hQ;refine bY.count 17 (λj l H'=>H'=H/\∃ k,l=[ptr p 0,u16 k,vi j]/\D=j+T.deepF (17 - j) k/\T.chainOk (17 - j) k) ?_ ⟨rfl,n,rfl,by rw[hD];exact(Nat.zero_add _).symm,hc⟩
 clear hD hc;rintro j _ _ X hj hX ⟨rfl,k,rfl,h1,h2⟩
 by_cases hj':j=17
 ·subst hj'
  have:D=17:=by rw[h1];rfl
  rw[this]at hQ
  by_cases hk:k=1#16
  ·simp[F.f16_l1,hk]
   exact hQ
  ·simp[F.f16_l1,hk]
   exact hQ
 ·obtain⟨f,hf⟩:∃ f,17 - j=f+1:=⟨16 - j,by omega⟩
  have hf':17 - (j+1)=f:=by omega
  rw[hf]at h1 h2;simp only[Tr.deepF,Tr.chainOk]at h1 h2;have hji:(j:Int)<=16:=by omega
  by_cases hk:k=1#16
  ·simp[hk]at h1
   simp[F.f16_l1,hk];rw[h1]at hQ;exact hQ
  ·rcases h2 with h2 | ⟨h2,h3⟩
   ·exact(hk h2).elim
   rcases h.get k with ⟨q1,_⟩ | ⟨i,y,q1,q2,q3,q4,q5⟩
   ·exact(h2 q1).elim
   simp[hk]at h1;simp[F.f16_l1,hk,hji,hh,q3,q4,inC];rw[cS (by omega),aD]
   exact hX (by omega) _ _ ⟨rfl,_,rfl,by rw[hf'];omega,by rw[hf'];exact h3⟩
theorem S.f14(hE:bF E)(h:Ino H p m L T)(n o:BitVec 16)(hQ:Q (vb (T.within o n)) H):E.call 66 [ptr p 0,u16 n,u16 o] H Q:=by
 apply hE.f14;simp only[F.f14];refine S.f8 hE h n ?_;have hh:=h.head;obtain⟨D,hD⟩:∃ D,D=T.withinF o 18 n:=⟨_,rfl⟩;unfold Tr.within at hQ;rw[<- hD]at hQ;refine bY.count 18 (λj l H'=>H'=H/\∃ k,l=[ptr p 0,u16 o,iU L k,vi j]/\D=T.withinF o (18 - j) k) ?_ ⟨rfl,n,rfl,hD⟩;clear hD;rintro j _ _ X hj hX ⟨rfl,k,rfl,h1⟩
 by_cases hj':j=18
 ·subst hj'
  rw[h1]at hQ;simp[F.f14_l1];exact hQ
 ·obtain⟨f,hf⟩:∃ f,18 - j=f+1:=⟨17 - j,by omega⟩
  have hf':18 - (j+1)=f:=by omega
  have hji:(j:Int)<18:=by omega
  rw[hf]at h1;simp only[Tr.withinF]at h1;rcases h.get k with ⟨q1,q2⟩ | ⟨i,y,q1,q2,q3,q4,q5⟩
  ·simp[q1]at h1
   rw[h1]at hQ;simp[F.f14_l1,hji,dO h.cov q1];exact hQ
  ·by_cases c1:(T.node k).kind=2#8
   ·by_cases c2:k=o
    ·simp[c1,c2]at h1
     subst c2;simp[c1]at h1;rw[h1]at hQ;simp[F.f14_l1,hji,bG h.cov.nd q2,q4,inC,c1];exact hQ
    ·by_cases c3:(T.node k).parent=k
     ·have c3':k=(T.node k).parent:=c3.symm
      simp only[c1,ne_eq,not_true,if_false,c2]at h1;rw[if_pos c3']at h1;rw[h1]at hQ;simp[F.f14_l1,hji,bG h.cov.nd q2,q4,inC,c1,c2,c3];exact hQ
     ·have c3':¬ k=(T.node k).parent:=λe=>c3 e.symm
      simp only[c1,ne_eq,not_true,if_false,c2,c3']at h1;simp[F.f14_l1,hji,bG h.cov.nd q2,q4,inC,c1,c2,c3,hh,h.lookP];rw[cS (by omega),aD]
      exact hX (by omega) _ _ ⟨rfl,_,rfl,by rw[hf'];exact h1⟩
   ·simp[c1]at h1
    rw[h1]at hQ;simp[F.f14_l1,hji,bG h.cov.nd q2,q4,inC,c1];exact hQ
theorem aDo{A B:Type}(f:B->A->B)(hc:∀ b x y,f (f b x) y=f (f b y) x){l l':List A}(hp:l.Perm l'):∀ b,l.foldl f b=l'.foldl f b:=by
 induction hp with
 | nil=>intro b;rfl
 | cons x _ ih=>intro b;exact ih _
 | swap x y l=>intro b;simp only[List.foldl_cons,hc]
 | trans _ _ ih1 ih2=>intro b;rw[ih1,ih2]
theorem S.f20(hE:bF E):∀ (f:Nat) {H:AH} {Q:Value->AH->Prop} (_:Ino H p m L T) (n:BitVec 16) (_:T.fitsF f n) (_:f<=20) (_:∀ H',Ext H H'->Q (vi (T.tall n)) H'),E.call 107 [ptr p 0,u16 n] H Q
 | 0,_,_,_,_,hf,_,_=>hf.elim
 | f+1,H,Q,h,n,hf,hle,hQ=>by
  apply hE.f20;obtain⟨hd,hf⟩:=hf;have hh:=h.head;rcases h.get n with ⟨q1,q2⟩ | ⟨k,y,q1,q2,q3,q4,q5⟩
  ·rw[q1]at hd;simp at hd
  obtain⟨r,hr⟩:=q5.dir hd;have hm:=cM.names (h.node q2) hr;obtain⟨o,o1,o2⟩:=fF.start hm;have x1:Ext H (H.new o):=(Ext.refl H).new o;simp only[F.f20,aY,aJ,aL,aD,aE,hh,bB,List.getElem?_cons_zero,Nat.add_zero,q3,q4,inC,List.getElem?_cons_succ,Nat.zero_add,hr,o1,cX,pT]
  let g:Nat->aK×BitVec 16->Nat:=λb e=>if(T.node e.2).kind=2#8 then max b (T.tallF 20 e.2) else b
  have hg:∀ b e,b<=20->g b e<=20:=by
   intro b e hb;simp only[g]
   split
   ·have:=Tr.tallF_le T 20 e.2
    omega
   ·exact hb
  refine bY.ind (λj l H'=>Ext H H'/\∃ done b,l=[ptr p 0,vi (b:Nat),ptr H.next 0]/\fF str u16 H' H.next r y.ord done/\b=done.foldl g 0/\b<=20/\j+done.length=y.ord.length) ?_ y.ord.length ⟨x1,[],0,rfl,o2,rfl,by omega,by simp⟩
  rintro j _ H' X hX ⟨e1,done,b,rfl,it,hb,hb20,hj⟩;have hi:=h.mono e1;simp only[F.f20_l1,eF,eR,eW];refine fF.next it (λe ob he hnd it' hen =>?_) λhp =>?_
  ·have hput:Ext H (H'.put H.next ob):=e1.put (Nat.le_refl _) ob
   have hi:=h.mono hput;have he':e∈(T.node n).ents:=q5.perm.mem_iff.1 he;obtain⟨w1,w2⟩:=hf e he';rcases hi.get e.2 with ⟨v1,_⟩ | ⟨i,z,v1,v2,v3,v4,v5⟩
   ·exact(w1 v1).elim
   have hlen:done.length+1<=y.ord.length:=by
    have:=tD (done++[e]) y.ord it'.nodup.1 it'.nodup.2
    simpa using this
   have hhd:=hi.head
   by_cases c:(T.node e.2).kind=2#8
   ·simp[hen,hhd,v3,v4,inC,c]
    refine S.f20 hE f hi e.2 (w2 c) (by omega) λH2 e2 =>?_
    unfold Tr.tall
    have hmx:(if(T.tallF 20 e.2:Int) > (b:Int) then(T.tallF 20 e.2:Int) else(b:Int))=((max b (T.tallF 20 e.2):Nat):Int):=by
     split<;>omega
    simp only[uO,hmx,aL,aD];refine hX (j - 1) (by omega) _ _ ⟨hput.trans e2,done++[e],_,rfl,it'.keep (e2.get it'.map.lt) (e2.get it'.lt),?_,?_,?_⟩
    ·rw[List.foldl_append,<- hb];simp[g,c]
    ·have:=hg b e hb20
     simpa[g,c] using this
    ·simp;omega
   ·simp[hen,hhd,v3,v4,inC,c]
    refine hX (j - 1) (by omega) _ _ ⟨hput,done++[e],b,rfl,it',?_,hb20,?_⟩
    ·rw[List.foldl_append,<- hb];simp[g,c]
    ·simp;omega
  ·have:T.tallF 20 n=b+1:=by
    rw[Tr.tallF_eq T (f+1) n ⟨hd,hf⟩ 20 hle];simp only[Tr.tallF,Nat.add_right_cancel_iff];rw[hb];have e1:done.foldl g 0=(T.node n).ents.foldl g 0:=aDo g (λb x z=>by simp only[g];split<;>split<;>omega) (hp.trans q5.perm) 0
    rw[e1]
    have:∀ (l:List (aK×BitVec 16)) (b:Nat),(∀ e∈l,e∈(T.node n).ents)->l.foldl (λb e=>if(T.node e.2).kind=2#8 then max b (T.tallF f e.2) else b) b=l.foldl g b:=by
     intro l
     induction l with
     | nil=>intro b _;rfl
     | cons e l ih =>
      intro b hbb;simp only[List.foldl_cons];rw[ih _ λx hx=>hbb x (by simp[hx])]
      congr 1
      simp only[g]
      split
      ·rename_i hk
       rw[Tr.tallF_eq T f e.2 ((hf e (hbb e (by simp))).2 hk) 20 (by omega)]
      ·rfl
    exact this _ _ λ_ h=>h
   simp;rw[cS (by omega),aD]
   unfold Tr.tall at hQ;rw[this]at hQ;exact hQ _ e1
end
end
section
theorem jT(x:aK×BitVec 16):∀ l,(fS x l).Perm (x :: l)
 | []=>List.Perm.refl _
 | y :: l=>by
  simp only[fS]
  split
  ·exact((jT x l).cons y).trans (List.Perm.swap _ _ _)
  ·exact List.Perm.refl _
theorem rS{K V:Type}[DecidableEq K](k:K)(v:V):∀ (l:List (K×V)),k ∉ l.map Prod.fst->kD k v l=l++[(k,v)]
 | [],_=>rfl
 | p :: l,h=>by
  simp only[List.map_cons,List.mem_cons,not_or]at h;have e:¬ p.1=k:=λx=>h.1 x.symm;simp[kD,e,rS k v l h.2]
theorem xE:∀ l:List Nd,nK l<=l.length
 | []=>Nat.le_refl _
 | x :: l=>by
  simp only[nK]
  split
  ·exact Nat.zero_le _
  ·have:=xE l
   simp;omega
theorem aBi:∀ (l:List Nd) (i:Nat),i<nK l->(l.getD i Nd.none).kind≠0#8
 | [],i,h=>by simp[nK]at h
 | x :: l,i,h=>by
  simp only[nK]at h
  split at h
  ·omega
  ·rename_i hk
   cases i with
   | zero=>simpa using hk
   | succ i=>simpa using aBi l i (by omega)
theorem aCq:∀ (l:List Nd),(l.getD (nK l) Nd.none).kind=0#8
 | []=>rfl
 | x :: l=>by
  simp only[nK]
  split
  ·simpa using ‹x.kind=0#8›
  ·simpa using aCq l
structure Tr.Free(T:Tr)(n:Nat):Prop where
 pos:1<=n
 le:n<=T.N.length
 lt:n<65536
 zero:(T.node (BitVec.ofNat 16 n)).kind=0#8
 used:∀ k:Nat,1<=k->k<n->(T.node (BitVec.ofNat 16 k)).kind≠0#8
theorem Tr.free_ok{T:Tr}(h1:1<=T.N.length)(h2:T.N.length<=60000):T.Free T.free:=by
 have hl:=xE (T.N.drop 1);rw[List.length_drop]at hl;have hlt:T.free<65536:=by unfold Tr.free;omega
 have hn:∀ k:Nat,1<=k->k<65536->T.node (BitVec.ofNat 16 k)=(T.N.drop 1).getD (k - 1) Nd.none:=by
  intro k k1 k2;unfold Tr.node;rw[BitVec.toNat_ofNat,Nat.mod_eq_of_lt (by omega)]
  simp only[List.getD_eq_getElem?_getD,List.getElem?_drop];rw[show 1+(k - 1)=k by omega]
 refine⟨by unfold Tr.free;omega,by unfold Tr.free;omega,hlt,?_,λk k1 k2 =>?_⟩
 ·rw[hn _ (by unfold Tr.free;omega) hlt]
  exact aCq _
 ·rw[hn k k1 (by omega)]
  exact aBi _ _ (by unfold Tr.free at k2;omega)
theorem Tr.node_put{T:Tr}{n:Nat}(h1:n<=T.N.length)(h2:n<65536)(x:Nd)(k:BitVec 16):(T.put n x).node k=if k=BitVec.ofNat 16 n then x else T.node k:=by
 have hk:(BitVec.ofNat 16 n).toNat=n:=by rw[BitVec.toNat_ofNat,Nat.mod_eq_of_lt (by omega)]
 unfold Tr.put Tr.node;simp only[List.getD_eq_getElem?_getD]
 by_cases e:k=BitVec.ofNat 16 n
 ·subst e
  rw[hk]
  split
  ·rename_i hlt;simp[hlt]
  ·have:n=T.N.length:=by omega
   subst this;simp
 ·have hne:n≠k.toNat:=λx=>e (by rw[x];simp)
  rw[if_neg e]
  split
  ·simp[hne]
  ·have:n=T.N.length:=by omega
   subst this;rw[List.getElem?_append]
   split
   ·rfl
   ·rename_i hlt
    rw[List.getElem?_eq_none (by simp;omega),List.getElem?_eq_none (by omega)]
@[simp] theorem Tr.put_limit{T:Tr}(n:Nat)(x:Nd):(T.put n x).limit=T.limit:=rfl
@[simp] theorem Tr.put_change{T:Tr}(n:Nat)(x:Nd):(T.put n x).change=T.change:=rfl
section
variable {E:Sy}{H H' H'':AH}{Q:Value->AH->Prop}{p m:Nat}{L L' L'':LyL}{T T' T'':Tr}
theorem Ino.addName(h:Ino H p m L T){k:Nat}{n:BitVec 16}{y:Ly}(hk:L[k]? = some (n,y))(hd:(T.node n).kind=2#8)(s:aK)(v:BitVec 16)(hno:bX s (T.node n).ents=none):
  ∃ r H',y.nm=some r/\setMap 1 (.map (some r)) (str s) (u16 v) H=some H'/\gI p m L T (L.set k (n,{ y with ord:=kD s v y.ord })) (T.upd n (Nd.addE s v)) H H':=by
 have hok:uN (T.node n) y:=h.cov.ok _ (List.mem_of_getElem? hk);obtain⟨r,hr⟩:=hok.dir hd;have hm:=cM.names (h.node hk) hr;obtain⟨H',g1,g2⟩:=iL.set hm (kd:=1) (λa b=>sS a b) s v;refine⟨r,H',hr,g1,h.set hk rfl ?_ ⟨λ_=>hok.dir hd,λk=>(k hd).elim,?_⟩ (cM.setMap (h.node hk) hr rfl rfl g2)⟩
 ·show(T.node n).kind≠0#8
  rw[hd];decide
 ·have hnk:s ∉ y.ord.map Prod.fst:=λhm=>iH.1 hno ((hok.perm.map _).mem_iff.1 hm)
  show(kD s v y.ord).Perm (fS (s,v) (T.node n).ents)
  rw[rS s v y.ord hnk];exact(List.perm_append_singleton _ _).trans ((hok.perm.cons _).trans (jT _ _).symm)
theorem S.f5(hE:bF E)(h:Ino H p m L T)(n:BitVec 16)(s:aK)(hs:s.length<2 ^ 63)(v:BitVec 16)(hc : -9223372036854775808<=T.change/\T.change<9223372036854775807)(hl:0<=(T.node v).links)(hQ:∀ L' H',((T.add n s v).2≠0->L'=L/\Ext H H')->gI p m L T L' (T.add n s v).1 H H'->Q (vi (T.add n s v).2) H'):E.call 55 [ptr p 0,u16 n,str s,u16 v] H Q:=by
 apply hE.f5;simp only[F.f5];refine S.f8 hE h v ?_;refine S.f19 hE h n s hs λH1 e1 =>?_;unfold Tr.add at hQ;have h':=h.mono e1;have same:=λH' (e:Ext H1 H')=>h.same (e1.trans e);rcases h'.get v with ⟨q1,q2⟩ | ⟨k,y,q1,q2,q3,q4,q5⟩
 ·simp[q1]at hQ
  simp[dO h.cov q1];exact hQ L _ rfl e1 (same _ (Ext.refl _))
 ·by_cases c1:(T.node v).kind=2#8
  ·simp[c1]at hQ
   simp[bG h.cov.nd q2,q4,inC,c1];exact hQ L _ rfl e1 (same _ (Ext.refl _))
  by_cases c2:T.room n s=0
  ·by_cases c3:(T.node v).links=0
   ·simp[q1,c1,c2,c3]at hQ
    simp[bG h.cov.nd q2,q4,inC,c1,c2,c3];exact hQ L _ rfl e1 (same _ (Ext.refl _))
   by_cases c4:256<=(T.node v).links
   ·simp[q1,c1,c2,c3,c4]at hQ
    simp[bG h.cov.nd q2,q4,inC,c1,c2,c3,c4];exact hQ L _ rfl e1 (same _ (Ext.refl _))
   have hd:(T.node n).kind=2#8/\bX s (T.node n).ents=none:=by
    unfold Tr.room at c2
    by_cases d1:T.dir n=0
    ·refine⟨Tr.dir_zero.1 d1,?_⟩
     simp only[d1,ne_eq,not_true,if_false]at c2;cases hl:bX s (T.node n).ents with
     | none=>rfl
     | some x =>
      rw[hl]at c2
      split at c2<;>simp at c2
    ·simp[d1]at c2
   simp[q1,c1,c2,c3,c4]at hQ;rcases h'.get n with ⟨w1,w2⟩ | ⟨j,z,w1,w2,w3,w4,w5⟩
   ·rw[w1]at hd;simp at hd
   obtain⟨r,H2,r1,r2,r3⟩:=h'.addName w2 hd.1 s v hd.2;have hI:=r3.ino h';have hvn:v≠n:=by rintro rfl;exact c1 hd.1
   have hnode:(T.upd n (Nd.addE s v)).node v=T.node v:=by rw[Tr.node_upd w1,if_neg hvn]
   rcases hI.get v with ⟨x1,_⟩ | ⟨i,x,x1,x2,x3,x4,x5⟩
   ·rw[hnode]at x1;exact(q1 x1).elim
   have hxb:x.blk=y.blk:=by
    have:(L.set j (n,{ z with ord:=kD s v z.ord })).map (λe=>(e.1,e.2.blk))=L.map λe=>(e.1,e.2.blk):=jV _ w2 rfl
    have a:=congrArg (λl=>l.lookup v) this;rw[jI,jI,fI hI.cov.nd (List.mem_of_getElem? x2),fI h.cov.nd (List.mem_of_getElem? q2)]at a
    simpa using a
   rw[hnode,hxb]at x4;have hs:=hI.links x2 (by rw[hnode];exact q1) 1
   rw[hnode,hxb]at hs;simp[bG h.cov.nd q2,bG h.cov.nd w2,q4,w4,inC,c1,c2,c3,c4,r1,r2,x4];rw[eM (by omega) (by omega)]
   simp[bG h.cov.nd q2,inC,x4];simp[inC]at hs;have u2:=r3.trans hs;refine S.f118 hE (u2.ino h') hc λ_ H3 u3=>hQ _ _ (.after e1 (u2.trans u3))
  ·simp[q1,c1,c2]at hQ
   simp[bG h.cov.nd q2,q4,inC,c1,c2];exact hQ L _ rfl e1 (same _ (Ext.refl _))
theorem Ino.born(h:Ino H p m L T){n:Nat}(hn:T.Free n){x:Nd}{y:Ly}(hx:x.kind≠0#8)(ok:uN x y)(e:Ext H H')(hr:Ow (cM (BitVec.ofNat 16 n) x y) H')(hf:∀ b∈(cM (BitVec.ofNat 16 n) x y).fp,H.next<=b):
  ∃ H'',setMap 0 (.map (some m)) (u16 (BitVec.ofNat 16 n)) (ptr y.blk 0) H'=some H''/\gI p m L T (L++[(BitVec.ofNat 16 n,y)]) (T.put n x) H H'':=by
 have h1:=h.mono e;have hnode:=λk=>Tr.node_put hn.le hn.lt x k;have hnk:BitVec.ofNat 16 n ∉ L.map Prod.fst:=λhm=>(h.cov.mem _).1 hm hn.zero;obtain⟨H'',g1,g2⟩:=iL.set h1.map (kd:=0) (λa b=>kX a b) (BitVec.ofNat 16 n) y.blk;have ha:=h.ow.add (cM (BitVec.ofNat 16 n) x y) e hr.holds (λb hb=>⟨hf b hb,hr.lt b hb⟩) hr.nd;have ho:=h.ow.upd ha;have hs:=ho.set (k:=1) (by simp[gL]) g2
 have hl:(gL p m L T++[cM (BitVec.ofNat 16 n) x y]).set 1 (iL u16 (λb=>ptr b 0) m (kD (BitVec.ofNat 16 n) y.blk (L.map λe=>(e.1,e.2.blk))))=gL p m (L++[(BitVec.ofNat 16 n,y)]) (T.put n x):=by
  simp only[gL,List.cons_append,List.set_cons_succ,List.set_cons_zero,Tr.put_limit,Tr.put_change]
  congr 2
  ·rw[rS _ _ _ (by simpa using hnk)];simp
  ·rw[List.map_append]
   congr 1
   ·apply List.map_congr_left
    intro a ha;rw[hnode,if_neg];intro e';exact hnk (e'▸List.mem_map.2 ⟨a,ha,rfl⟩)
   ·simp[hnode]
 refine⟨H'',g1,⟨?_,?_,λk =>?_,λa ha =>?_⟩⟩
 ·have:=ha.trans hs
  rw[hl]at this;exact this
 ·rw[List.map_append,List.nodup_append]
  exact⟨h.cov.nd,by simp,λa ha b hb=>by simp at hb;subst hb;rintro rfl;exact hnk ha⟩
 ·rw[hnode,List.map_append,List.mem_append,h.cov.mem k]
  by_cases e:k=BitVec.ofNat 16 n
  ·subst e;simp[hx]
  ·simp[e]
 ·rcases List.mem_append.1 ha with ha | ha
  ·have:a.1≠BitVec.ofNat 16 n:=by rintro e;exact hnk (e▸List.mem_map.2 ⟨a,ha,rfl⟩)
   rw[hnode,if_neg this];exact h.cov.ok a ha
  ·simp only[List.mem_singleton]at ha
   subst ha;rw[hnode,if_pos rfl];exact ok
theorem Ino.len(h:Ino H p m L T):iB (.map (some m)) H=some (vi L.length):=by
 have:=h.map.len
 simpa using this
theorem zA:∀ (l:List Nd) (K:List Nat) (_:K.Nodup) (_:∀ k,k∈K↔(l.getD k Nd.none).kind≠0#8),l.countP (λx=>decide (x.kind≠0#8))=K.length:=by
 intro l
 induction l with
 | nil =>
  intro K hn hk
  have:K=[]:=by
   apply List.eq_nil_iff_forall_not_mem.2;intro k hm;exact(hk k).1 hm rfl
  subst this;rfl
 | cons x l ih =>
  intro K hn hk
  have hK':((K.erase 0).map (· - 1)).Nodup:=by
   have h0:∀ a∈K.erase 0,a≠0:=λa ha=>by rintro rfl;exact(hn.mem_erase_iff.1 ha).1 rfl
   have he:(K.erase 0).Nodup:=hn.erase 0
   revert h0 he
   generalize K.erase 0=K';intro h0 he
   induction K' with
   | nil=>simp
   | cons a K' ih2 =>
    rw[List.nodup_cons]at he;rw[List.map_cons,List.nodup_cons];refine⟨λhm =>?_,ih2 (λb hb=>h0 b (by simp[hb])) he.2⟩
    obtain⟨b,hb,e⟩:=List.mem_map.1 hm;have:=h0 a (by simp);have:=h0 b (by simp[hb])
    have:a=b:=by omega
    subst this;exact he.1 hb
  have:=ih ((K.erase 0).map (· - 1)) hK' (λk=>by
   rw[List.mem_map];constructor
   ·rintro⟨a,ha,rfl⟩
    obtain⟨h1,h2⟩:=hn.mem_erase_iff.1 ha;have:=(hk a).1 h2;cases a with
    | zero=>exact(h1 rfl).elim
    | succ a=>simpa using this
   ·intro hm
    exact⟨k+1,hn.mem_erase_iff.2 ⟨by omega,(hk (k+1)).2 (by simpa using hm)⟩,by omega⟩)
  rw[List.countP_cons,this,List.length_map];have h0:=hk 0
  by_cases hx:x.kind=0#8
  ·have:0 ∉ K:=λhm=>by simpa[hx] using h0.1 hm
   simp[hx,List.erase_of_not_mem this]
  ·have hm:0∈K:=h0.2 (by simpa using hx)
   have:=List.length_erase_of_mem hm;have:=List.length_pos_of_mem hm;simp[hx];omega
theorem Cov.len(h:Cov L T)(hN:T.N.length<=65536):L.length=T.len:=by
 have:(L.map λe=>e.1.toNat).Nodup:=by
  have:=h.nd
  revert this
  generalize L=L';intro hn
  induction L' with
  | nil=>simp
  | cons e l ih =>
   rw[List.map_cons,List.nodup_cons]at hn ⊢;refine⟨λhm=>hn.1 ?_,ih hn.2⟩;obtain⟨a,ha,e'⟩:=List.mem_map.1 hm;exact List.mem_map.2 ⟨a,ha,BitVec.toNat_inj.1 e'⟩
 have:=zA T.N (L.map λe=>e.1.toNat) this λk=>by
  constructor
  ·intro hm
   obtain⟨e,he,rfl⟩:=List.mem_map.1 hm;exact(h.mem e.1).1 (List.mem_map.2 ⟨e,he,rfl⟩)
  ·intro hk
   have hlt:k<65536:=by
    apply Classical.byContradiction;intro hc;rw[List.getD_eq_getElem?_getD,List.getElem?_eq_none (by omega)]at hk
    exact hk rfl
   have hkk:(BitVec.ofNat 16 k).toNat=k:=by rw[BitVec.toNat_ofNat,Nat.mod_eq_of_lt (by omega)]
   have:(T.node (BitVec.ofNat 16 k)).kind≠0#8:=by unfold Tr.node;rw[hkk];exact hk
   obtain⟨e,he,e'⟩:=List.mem_map.1 ((h.mem _).2 this);exact List.mem_map.2 ⟨e,he,by rw[e',hkk]⟩
 unfold Tr.len;rw[this,List.length_map]
end
end
section
section
variable {E:Sy}{H H' H'':AH}{Q:Value->AH->Prop}{p m:Nat}{L L' L'':LyL}{T T' T'':Tr}
theorem Tr.room_ok{n:BitVec 16}{s:aK}(h:T.room n s=0):(T.node n).kind=2#8/\bX s (T.node n).ents=none/\(T.node n).links≠0/\cP s=true/\(T.node n).ents.length<32:=by
 unfold Tr.room at h
 by_cases d1:T.dir n=0
 ·simp only[d1,ne_eq,not_true,if_false]at h
  refine⟨Tr.dir_zero.1 d1,?_⟩
  by_cases d2:cP s=false
  ·simp[d2]at h
  simp only[d2,if_false]at h;cases hl:bX s (T.node n).ents with
  | some x=>rw[hl]at h;simp at h
  | none =>
   rw[hl]at h
   by_cases d3:(T.node n).links=0
   ·simp[d3]at h
   by_cases d4:32<=(T.node n).ents.length
   ·simp[d3,d4]at h
   exact⟨rfl,d3,by simpa using d2,by omega⟩
 ·simp[d1]at h
theorem cM.fresh{n:BitVec 16}{x:Nd}{b:Nat}{r:Option Nat}(hb:H.get b = .cells (inC n x ⟨b,aZ,r,[]⟩) none)(hd:x.data=[])(hr:∀ k,r=some k->H.get k = .map [] 0 true/\k≠b):Ow (cM n x ⟨b,aZ,r,[]⟩) H:=by
 refine⟨λy hy =>?_,λy hy =>?_,?_⟩
 ·simp only[fA,List.mem_append,List.mem_cons,List.not_mem_nil,or_false]at hy
  rcases hy with (rfl | rfl) | hy
  ·exact hb
  ·rw[hd];exact cB.nil _ _ _
  ·cases r with
   | none=>simp at hy
   | some k =>
    simp at hy;subst hy;exact⟨[],0,(hr k rfl).1,rfl,by simp,by simp,by simp⟩
 ·cases r with
  | none =>
   simp[cM,fA,dC,bE,cQ,eY,blk]at hy;subst hy;exact AH.lt_cells hb
  | some k =>
   simp[cM,fA,dC,bE,cQ,eY,blk,iL]at hy;rcases hy with rfl | rfl
   ·exact AH.lt_cells hb
   ·exact AH.lt_of_get (by rw[(hr _ rfl).1];simp)
 ·cases r with
  | none=>simp[cM,fA,dC,bE,cQ,eY,blk]
  | some k=>simp[cM,fA,dC,bE,cQ,eY,blk,iL,Ne.symm (hr k rfl).2]
theorem S.f11(hE:bF E)(h:Ino H p m L T)(n:BitVec 16)(s:aK)(hs:s.length<2 ^ 63)(k:BitVec 8)(text:List UInt8)(ht:text.length<2 ^ 63)(hc : -9223372036854775808<=T.change/\T.change<9223372036854775807)(hN:1<=T.N.length/\T.N.length<=60000)(hch:k=2#8->T.room n s=0->T.chainOk 17 n)(hQ:∀ L' H',((T.make n s k text).2.2≠0->L'=L/\Ext H H')->gI p m L T L' (T.make n s k text).1 H H'->Q (.tuple #[u16 (T.make n s k text).2.1,vi (T.make n s k text).2.2]) H'):E.call 46 [ptr p 0,u16 n,str s,u8 k,str text] H Q:=by
  apply hE.f11;simp only[F.f11];refine S.f19 hE h n s hs λH1 e1 =>?_;unfold Tr.make at hQ;have h':=h.mono e1;have hlen:=h'.len;rw[h'.cov.len (by omega)]at hlen
  have hh:=h'.head;have same:=λH' (e:Ext H1 H')=>h.same (e1.trans e)
  by_cases c1:T.room n s=0
  rotate_left
  · simp[c1]at hQ
    simp[c1];exact hQ L _ rfl e1 (same _ (Ext.refl _))
  obtain⟨d1,d2,d3,d4,d5⟩:=Tr.room_ok c1;simp only[c1,if_true,aL,ne_eq,not_true,if_false]at hQ ⊢;rcases h'.get n with ⟨w1,w2⟩ | ⟨j,z,w1,w2,w3,w4,w5⟩
  · rw[w1]at d1;simp at d1
  have hpn:=bG h.cov.nd w2;rw[hpn];have hfree:=Tr.free_ok hN.1 hN.2;have e1':(k<1#8)=(k=0#8):=by rw[eq_iff_iff];constructor<;>intro h<;>bv_omega
  have last:(¬ (k=0#8\/3#8<k\/(k=3#8/\(text.length<1\/120<text.length))))->¬ (T.limit<=T.len\/(k=2#8/\16<=T.deep n))->lp7 (F.f11_l1 E Q) [ptr p 0,u16 n,str s,u8 k,str text,ptr z.blk 0,u16 1#16] H1:=by
    intro g1 g2;simp only[g1,g2,if_false]at hQ;refine bY.ind (λi l H'=>H1=H'/\∃ a:Nat,l=[ptr p 0,u16 n,str s,u8 k,str text,ptr z.blk 0,u16 (BitVec.ofNat 16 a)]/\1<=a/\i+a=T.free) ?_ (T.free - 1) ⟨rfl,1,rfl,by omega,by have:=hfree.pos;omega⟩
    rintro i _ _ X hX ⟨rfl,a,rfl,ha,hia⟩
    by_cases hlt:a<T.free
    · have hu:=hfree.used a ha hlt
      rcases h'.get (BitVec.ofNat 16 a) with ⟨v1,v2⟩ | ⟨j',y,v1,v2,v3,v4,v5⟩
      · exact(hu v1).elim
      simp[F.f11_l1,hh,v3];refine hX (i - 1) (by omega) _ _ ⟨rfl,a+1,?_,by omega,by omega⟩
      simp
      bv_omega
    · have:a=T.free:=by omega
      subst this;have hz:=hfree.zero;rcases h'.get (BitVec.ofNat 16 T.free) with ⟨v1,v2⟩ | ⟨j',y,v1,v2,v3,v4,v5⟩
      rotate_left
      · exact(v1 hz).elim
      have fin:∀ (y:Ly) (H2:AH),Ext H1 H2->y.blk=H1.next->uN (Nd.made n k text) y->Ow (cM (BitVec.ofNat 16 T.free) (Nd.made n k text) y) H2->(∀ b∈(cM (BitVec.ofNat 16 T.free) (Nd.made n k text) y).fp,H1.next<=b) ->
          F.f11_j1 E Q (ptr p 0) (str s) (ptr z.blk 0) (u16 (BitVec.ofNat 16 T.free)) (ptr H1.next 0) H2:=by
        intro y H2 e2 hyb hok hr hf;obtain⟨H3,s1,s2⟩:=h'.born hfree (by show k≠0#8;intro e;exact g1 (.inl e)) hok e2 hr hf
        have hI:=s2.ino h';have hnf:n≠BitVec.ofNat 16 T.free:=by rintro e;rw[e]at w1;exact w1 hz
        have hnode:(T.put T.free (Nd.made n k text)).node n=T.node n:=by rw[Tr.node_put hfree.le hfree.lt,if_neg hnf]
        have w2':(L++[(BitVec.ofNat 16 T.free,y)])[j]? = some (n,z):=by rw[List.getElem?_append_left (List.getElem?_eq_some_iff.1 w2).1];exact w2
        obtain⟨r,H4,r1,r2,r3⟩:=hI.addName w2' (by rw[hnode];exact d1) s (BitVec.ofNat 16 T.free) (by rw[hnode];exact d2)
        have zb:=cM.box (hI.node w2');have h2h:=(h'.mono e2).head;have u4:=s2.trans r3;rw[hyb]at s1;simp[F.f11_j1,h2h,s1,zb,inC,r1,r2];refine S.f118 hE (u4.ino h') hc λ_ H5 u5=>hQ _ _ (by simp) (.after e1 (u4.trans u5))
      by_cases k2:k=2#8
      · subst k2
        simp[F.f11_l1,hh,v2,splice];refine fin ⟨H1.next,aZ,some (H1.next+1),[]⟩ _ (((Ext.refl H1).new _).new _) rfl ⟨λ_=>⟨_,rfl⟩,λh=>(h rfl).elim,List.Perm.refl _⟩ (cM.fresh ?_ rfl λa ha =>?_) λb hb =>?_
        · rw[AH.get_new_ne _ _ (by simp),AH.get_new_self]
          simp[inC,Nd.made]
        · simp only[Option.some.injEq]at ha
          subst ha;exact⟨AH.get_new_self _ _,by omega⟩
        · simp[cM,fA,dC,bE,cQ,eY,blk,iL]at hb
          omega
      · have hfp:∀ b∈(cM (BitVec.ofNat 16 T.free) (Nd.made n k text) ⟨H1.next,aZ,none,[]⟩).fp,H1.next<=b:=by
          intro b hb;simp[cM,fA,dC,bE,cQ,eY,blk,iL]at hb;omega
        have hok:uN (Nd.made n k text) ⟨H1.next,aZ,none,[]⟩:=⟨λh=>(k2 h).elim,λ_=>rfl,List.Perm.refl _⟩
        by_cases k3:k=3#8
        · subst k3
          simp[F.f11_l1,hh,v2,splice];refine fin ⟨H1.next,aZ,none,[]⟩ _ ((Ext.refl H1).new _) rfl hok (cM.fresh ?_ rfl (by simp)) hfp
          rw[AH.get_new_self];simp[inC,Nd.made]
        · simp[F.f11_l1,hh,v2,k2,k3,splice]
          refine fin ⟨H1.next,aZ,none,[]⟩ _ ((Ext.refl H1).new _) rfl hok (cM.fresh ?_ rfl (by simp)) hfp
          rw[AH.get_new_self];simp[inC,Nd.made,k2,k3]
  by_cases t1:k=0#8
  · simp[t1]at hQ
    simp[c1,t1];exact hQ L _ rfl e1 (same _ (Ext.refl _))
  have t1':¬ k<1#8:=by rw[e1'];exact t1
  have t1n:¬ k.toNat=0:=λe=>t1 (BitVec.toNat_inj.1 (by simpa using e))
  by_cases t2:3#8<k
  · simp[t2]at hQ
    have t2n:3<k.toNat:=by simpa[BitVec.lt_def] using t2
    simp[c1,t1',t1n,t2,t2n];exact hQ L _ rfl e1 (same _ (Ext.refl _))
  have t2n:¬ 3<k.toNat:=by simpa[BitVec.lt_def] using t2
  have t2m:k.toNat<=3:=by omega
  have rest:(¬ (k=0#8\/3#8<k\/(k=3#8/\(text.length<1\/120<text.length)))) ->
      (opt (aF (ptr p 0)) λv19=>opt (aB v19 0) λv20=>opt (aC v20 H1) λv21=>opt (iB v21 H1) λv22=>opt (aF (ptr p 0)) λv23=>opt (aB v23 1) λv24=>opt (aC v24 H1) λv25=>opt (aA .geq v22 v25) λv26 =>
       ifB v26 (Q (.tuple #[(.int .u16 0),vi 28]) H1) (
       opt (aA .eql (u8 k) (.int .u8 2)) λv27 =>
       gV v27 true (ptr p 0) H1 λv28 H12 =>
       gV v27 true (u16 n) H12 λv29 H13 =>
       gd v27 true (λk=>E.call 85 [v28,v29] H13 λv h=>k v h) H13 λv30 H14 =>
       gO v27 true (aA .geq v30 (vi 16)) H14 λv31 H15 =>
       opt (pick v27 v31 (.bool false)) λv32 =>
       ifB v32 (Q (.tuple #[(.int .u16 0),vi 28]) H15) (
       lp7 (F.f11_l1 E Q) [ptr p 0,u16 n,str s,u8 k,str text,ptr z.blk 0,(.int .u16 1)] H15))):=by
    intro g1;have last:=last g1;simp only[g1,if_false]at hQ
    by_cases t4:T.limit<=T.len
    · simp[t4]at hQ
      simp[hh,hlen,t4];exact hQ L _ rfl e1 (same _ (Ext.refl _))
    by_cases t5:k=2#8
    · subst t5
      simp[hh,hlen,t4];refine S.f16 hE h' n (hch rfl c1) ?_
      by_cases t6:16<=T.deep n
      · have t6':(16:Int)<=T.deep n:=by omega
        simp only[t6,and_self,or_true,if_true]at hQ;simp[t6'];exact hQ L _ (λ_=>⟨rfl,e1⟩) (same _ (Ext.refl _))
      · have t6':¬ (16:Int)<=T.deep n:=by omega
        have:=last (by simp only[t4,t6,and_false,or_self,not_false_eq_true])
        simp[t6'];exact this
    · have:=last (by simp[t4,t5])
      simp[hh,hlen,t4,t5];exact this
  by_cases t3:k=3#8
  · by_cases t7:text.length<1
    · have:(text.length:Int)<1:=by omega
      simp[t3,t7]at hQ;simp[c1,t3,t7,this];exact hQ L _ rfl e1 (same _ (Ext.refl _))
    have t7':¬ (text.length:Int)<1:=by omega
    by_cases t8:120<text.length
    · have:(120:Int)<text.length:=by omega
      simp[t3,t8]at hQ;simp[c1,t3,t7',this];exact hQ L _ rfl e1 (same _ (Ext.refl _))
    have t8':¬ (120:Int)<text.length:=by omega
    have:=rest (by subst t3;simp[t7,t8])
    simp[c1,t1',t2,t3,t7',t8'];subst t3;exact this
  · have:=rest (by simp[t1,t2,t3])
    simp[c1,t1',t1n,t2,t2n,t2m,t3];exact this
theorem S.f4(hE:bF E)(limit:Int)(hQ:∀ p m L H',Ext H H'->Ino H' p m L (Tr.new limit)->(∀ b∈(pE p m L (Tr.new limit)).fp,H.next<=b)->Q (ptr p 0) H'):E.call 68 [vi limit] H Q:=by
 apply hE.f4;have e1:(if(1:Int) > limit then 1 else limit)=max limit 1:=by omega
 have e2:∀ x:Int,(if(256:Int)<x then 256 else x)=min x 256:=λx=>by omega
 simp[F.f4,e1,e2,splice];generalize hlim:min (max limit 1) 256=lim
 have h0:Ino ((H.new (.map [] 0 true)).new (.cells [.map (some H.next),.int .i64 lim,vi 0] none)) (H.next+1) H.next [] ⟨[Nd.none],lim,0⟩:=by
  refine⟨⟨λr hr =>?_,λb hb =>?_,?_⟩,?_⟩
  ·simp only[gL,List.map_nil,List.mem_cons,List.not_mem_nil,or_false]at hr
   rcases hr with rfl | rfl
   ·exact AH.get_new_self _ _
   ·refine⟨[],0,?_,rfl,by simp,by simp,by simp⟩
    rw[AH.get_new_ne _ _ (by simp),AH.get_new_self]
  ·simp[pE,gL,dC,bE,iL]at hb
   simp;omega
  ·simp[pE,gL,dC,bE,iL]
  ·refine⟨by simp,λn =>?_,by simp⟩
   simp only[List.map_nil,List.not_mem_nil,false_iff,Classical.not_not];unfold Tr.node;cases hn:n.toNat<;>simp[Nd.none]
 have hf:(⟨[Nd.none],lim,0⟩:Tr).Free 1:=by
  refine⟨by omega,by simp,by omega,?_,λk k1 k2=>by omega⟩
  simp[Tr.node,Nd.none]
 have e3:=((Ext.refl ((H.new (.map [] 0 true)).new (.cells [.map (some H.next),.int .i64 lim,vi 0] none))).new (.map [] 0 true)).new (.cells [u16 1#16,u8 2#8,.slice none 0 0,.map (some (H.next+1+1)),u16 1#16,str [],vi 1,vi 0] none)
 obtain⟨H5,s1,s2⟩:=h0.born hf (x:={ Nd.none with kind:=2#8,parent:=1#16,links:=1 }) (y:=⟨H.next+1+1+1,aZ,some (H.next+1+1),[]⟩) (by decide) ⟨λ_=>⟨_,rfl⟩,λh=>(h rfl).elim,List.Perm.refl _⟩ e3
  (cM.fresh (by rw[show H.next+1+1+1=(((H.new (.map [] 0 true)).new (.cells [.map (some H.next),.int .i64 lim,vi 0] none)).new (.map [] 0 true)).next from rfl,AH.get_new_self];rfl) rfl (λk hk=>by
   simp only[Option.some.injEq]at hk;subst hk;refine⟨?_,by omega⟩
   rw[AH.get_new_ne _ _ (by simp)]
   exact AH.get_new_self _ _)) (λb hb=>by simp[cM,fA,dC,bE,cQ,eY,blk,iL]at hb;simp;omega)
 have s1':setMap 0 (.map (some H.next)) (u16 1#16) (ptr (H.next+1+1+1) 0) _=some H5:=s1;rw[s1',aD]
 have hx:(⟨[Nd.none],lim,0⟩:Tr).put 1 { Nd.none with kind:=2#8,parent:=1#16,links:=1 }=Tr.new limit:=by
  simp[Tr.put,Tr.new,hlim]
 rw[hx]at s2;have s3:=s2.ino h0;have x0:Ext H ((H.new (.map [] 0 true)).new (.cells [.map (some H.next),.int .i64 lim,vi 0] none)):=((Ext.refl H).new _).new _;refine hQ (H.next+1) H.next _ H5 (s2.upd.only.ext x0 λb hb =>?_) s3 λb hb =>?_
 ·simp[pE,gL,dC,bE,iL]at hb
  omega
 ·rcases(s2.upd.fp b hb).1 with k | k
  ·simp[pE,gL,dC,bE,iL]at k
   omega
  ·simp at k;omega
end
end
section
theorem uE(size bytes n:Nat)(z:List Value)(hz:z.length=size)(h1:n*bytes<=2 ^ 47)(h2:n<2 ^ 62):xA size bytes z.toArray (vi n) (vi n)=some (.cells (List.replicate n z).flatten none,λb=>slc b 0 n n):=by
 simp only[xA];rw[if_pos ⟨by omega,by omega,by exact_mod_cast h1,by exact_mod_cast h2⟩]
 simp only[Int.toNat_natCast];rw[aDG n size _ (by simpa using hz)]
 rfl
theorem tR(n:Nat)(z:Value):(List.replicate n [z]).flatten=List.replicate n z:=by
 induction n with
 | zero=>rfl
 | succ n ih=>simp[List.replicate_succ,ih]
def dM(a:List (BitVec 8))(i:Nat)(b:List (BitVec 8)):List (BitVec 8):=a.take i++b++a.drop (i+b.length)
theorem uI(a:List (BitVec 8))(i:Nat)(b:List (BitVec 8)):splice (a.map u8) i (b.map u8)=(dM a i b).map u8:=by
 simp[splice,dM]
theorem kP(l:List (BitVec 8)):(bP l).flatten=l.map u8:=by
 unfold bP
 induction l with
 | nil=>rfl
 | cons b l ih=>simp[ih]
theorem cC(l:List (BitVec 8)):(bP l).length=l.length:=by simp[bP]
theorem aBP(d:List (BitVec 8))(at_:Nat)(b:List (BitVec 8)):dM (dM (List.replicate (max d.length (at_+b.length)) 0#8) 0 d) at_ b=iG d at_ b:=by
 have:dM (List.replicate (max d.length (at_+b.length)) 0#8) 0 d=d++List.replicate (at_+b.length - d.length) 0#8:=by
  simp only[dM,List.take_zero,List.nil_append,Nat.zero_add,List.drop_replicate]
  congr 2
  omega
 rw[this];rfl
theorem aJi(d:List (BitVec 8))(n:Nat):dM (List.replicate n 0#8) 0 (d.take n)=qE d n:=by
 simp only[dM,List.take_zero,List.nil_append,Nat.zero_add,List.drop_replicate,qE,List.length_take]
 congr 2
 omega
section
variable {E:Sy}{H H' H'':AH}{Q:Value->AH->Prop}{p m:Nat}{L L' L'':LyL}{T T' T'':Tr}
theorem aCf{sz:Nat}{v:Value}{rows:List (List Value)}(h:Rows H sz v rows){k:Nat}(hk:k<=rows.length):jP sz k v H=some (rows.take k).flatten:=by
 rcases h.at_ with ⟨rfl,c,rfl⟩ | ⟨b,o,c,rfl,_,_,h4⟩
 ·have:k=0:=by simpa using hk
  subst this;cases c<;>simp[jP,fM]
 ·cases k with
  | zero=>simp[jP]
  | succ k =>
   have hle:0+(k+1)*sz<=rows.length*sz:=by rw[Nat.zero_add];exact Nat.mul_le_mul_right _ hk
   have:=mC h4 hle;simp only[Nat.add_zero,List.drop_zero,jU rows h.len]at this;simp only[jP,fM,Option.isSome_none,Bool.false_eq_true,if_false,this]
theorem uP{b o n c sz:Nat}{f:Option Nat}{cs:List Value}{x:Value}{rows:List (List Value)}(hg:H.get b = .cells cs f)(hx:Rows H sz x rows)(hp:∀ r∈rows,r.all plain1=true)(hl:o+(min rows.length n)*sz<=cs.length):
  vQ sz (slc b o n c) x H=some (vi ((min rows.length n:Nat):Int),H.put b (.cells (splice cs o (rows.take (min rows.length n)).flatten) f)):=by
 have h1:Nat.min rows.length n<=rows.length:=Nat.min_le_left _ _;have hpl:(rows.take (Nat.min rows.length n)).flatten.all plain1=true:=pJ λr hr=>hp r (List.mem_of_mem_take hr);have hfl:=fL (rows.take (Nat.min rows.length n)) λr hr=>hx.len r (List.mem_of_mem_take hr);rw[List.length_take]at hfl;have e:min rows.length n=Nat.min rows.length n:=rfl;rw[e]at hl ⊢;have e2:min (Nat.min rows.length n) rows.length=Nat.min rows.length n:=Nat.min_eq_left h1;rw[e2]at hfl;simp only[vQ,nU hx,Option.bind_some,aCf hx h1,hpl,Bool.not_true,Bool.false_eq_true,if_false,Option.isSome_none,hg];rw[if_pos (by omega)]
theorem kZ(l:List (BitVec 8)):∀ r∈bP l,r.all plain1=true:=by
 intro r hr;obtain⟨b,_,rfl⟩:=List.mem_map.1 hr
 rfl
theorem cM.setData{n:BitVec 16}{x:Nd}{y:Ly}(h:Ow (cM n x y) H)(l:List (BitVec 8))(k:Nat)(hk:k=l.length):
  Upd (cM n x y) (cM n { x with data:=l } { y with data:=slc H.next 0 k k }) H ((H.put y.blk (.cells ((inC n x y).set 2 (slc H.next 0 k k)) none)).new (.cells (l.map u8) none)):=by
 subst hk;have hb:=cM.box h;have hlt:=AH.lt_cells hb
 have hrow:∀ r∈bP l,r.length=1/\r.all plain1=true:=λr hr=>by
  obtain⟨b,_,rfl⟩:=List.mem_map.1 hr;exact⟨rfl,rfl⟩
 have hg:cB zH (H.new (.cells (l.map u8) none)) 1 (slc H.next 0 l.length l.length) (bP l) :=
  cB.made (f:=none) (lQ _) (by rw[AH.get_new_self,kP]) (.inl rfl) (cC l) hrow
 have u1:Upd (cQ 1 y.data (bP x.data)) (cQ 1 (slc H.next 0 l.length l.length) (bP l)) H (H.new (.cells (l.map u8) none)) :=
  ⟨((Ext.refl H).new _).only,hg,λb hb=>by simp[cQ,eY,blk]at hb;subst hb;exact⟨.inr (Nat.le_refl _),by simp⟩,by simp[cQ,eY,blk]⟩
 have s1:=h.set (k:=1) (by simp[fA]) u1
 have o1:=h.upd s1;have hb1:(H.new (.cells (l.map u8) none)).get y.blk = .cells (inC n x y) none:=by rw[AH.get_new_lt _ _ hlt];exact hb
 have s2:=o1.set (k:=0) (r:=bE y.blk (inC n x y)) (by simp[fA]) (bE.put hb1 ((inC n x y).set 2 (slc H.next 0 l.length l.length)))
 have s3:=s1.trans s2;rw[AH.new_put_ne _ _ _ (by omega)]at s3
 have e:((fA n x y).set 1 (cQ 1 (slc H.next 0 l.length l.length) (bP l))).set 0 (bE y.blk ((inC n x y).set 2 (slc H.next 0 l.length l.length)))=fA n { x with data:=l } { y with data:=slc H.next 0 l.length l.length }:=by
  simp[fA,inC]
 rw[e]at s3;exact s3
theorem Ino.setData(h:Ino H p m L T){k:Nat}{n:BitVec 16}{y:Ly}(hk:L[k]? = some (n,y))(h1:(T.node n).kind≠0#8)(l:List (BitVec 8))(f:Nd->Nd)(hf:f (T.node n)={ T.node n with data:=l })(a:Nat)(ha:a=l.length):
  gI p m L T (L.set k (n,{ y with data:=slc H.next 0 a a })) (T.upd n f) H ((H.put y.blk (.cells ((inC n (T.node n) y).set 2 (slc H.next 0 a a)) none)).new (.cells (l.map u8) none)):=by
 refine h.set hk rfl (by rw[hf];exact h1) ?_ ?_
 ·have:=h.cov.ok _ (List.mem_of_getElem? hk)
  rw[hf];exact⟨this.dir,this.nodir,this.perm⟩
 rw[hf];exact cM.setData (h.node hk) l a ha
theorem S.f6(hE:bF E)(h:Ino H p m L T)(n:BitVec 16)(size:Int)(hc : -9223372036854775808<=T.change/\T.change<9223372036854775807)(hQ:∀ L' H',((T.cut n size).2≠0->L'=L/\Ext H H')->gI p m L T L' (T.cut n size).1 H H'->Q (vi (T.cut n size).2) H'):E.call 99 [ptr p 0,u16 n,vi size] H Q:=by
 apply hE.f6;simp only[F.f6];refine S.f8 hE h n ?_;unfold Tr.cut at hQ;have same:=h.same (Ext.refl H);rcases h.get n with ⟨q1,q2⟩ | ⟨k,y,q1,q2,q3,q4,q5⟩
 ·simp[q1]at hQ
  simp[dO h.cov q1];exact hQ L _ rfl (Ext.refl H) same
 have hp:=bG h.cov.nd q2;have hlt:=AH.lt_cells q4
 by_cases c1:(T.node n).kind=2#8
 ·simp[c1]at hQ
  simp[hp,q4,inC,c1];exact hQ L _ rfl (Ext.refl H) same
 by_cases c2:(T.node n).kind=1#8
 rotate_left
 ·simp[q1,c1,c2]at hQ
  simp[hp,q4,inC,c1,c2];exact hQ L _ rfl (Ext.refl H) same
 by_cases c3:size<0
 ·simp[c2,c3]at hQ
  simp[hp,q4,inC,c2,c3];exact hQ L _ rfl (Ext.refl H) same
 by_cases c4:1024<size
 ·simp[c2,c3,c4]at hQ
  simp[hp,q4,inC,c2,c3,c4];exact hQ L _ rfl (Ext.refl H) same
 obtain⟨a,rfl⟩:=Int.eq_ofNat_of_zero_le (by omega:0<=size)
 have hmk:=uE 1 1 a [u8 0#8] rfl (by omega) (by omega)
 rw[tR]at hmk;simp[c2,c3,c4]at hQ;simp[hp,q4,inC,c2,c3,c4,hmk,AH.get_new,Nat.ne_of_lt hlt];have hd:=(cM.bytes (h.node q2)).toRows.mono ((Ext.refl H).new (.cells (List.replicate a (u8 0#8)) none));have hcp:=uP (n:=a) (c:=a) (o:=0) (f:=none) (AH.get_new_self H (.cells (List.replicate a (u8 0#8)) none)) hd (kZ _) (by simp;omega)
 have hcell:splice (List.replicate a (u8 0#8)) 0 ((bP (T.node n).data).take (min (bP (T.node n).data).length a)).flatten=(qE (T.node n).data a).map u8:=by
  rw[cC]
  have e1:(bP (T.node n).data).take (min (T.node n).data.length a)=bP ((T.node n).data.take a):=by
   unfold bP;rw[<- List.map_take]
   congr 1
   rw[List.take_eq_take_iff];omega
  rw[e1,kP,<- aJi,<- uI];simp
 rw[hcell]at hcp;have hl:a=(qE (T.node n).data a).length:=by simp[qE];omega
 have hs:=h.setData q2 q1 (qE (T.node n).data a) (λx=>{ x with data:=qE x.data a }) rfl a hl
 rw[hcp];simp[hp,inC,AH.get_new,q4,Nat.ne_of_lt hlt];simp[inC]at hs;refine S.f118 hE (hs.ino h) hc λ_ H3 u3=>hQ _ _ (hs.trans u3)
theorem S.f15(hE:bF E)(h:Ino H p m L T)(n:BitVec 16)(at_:Int)(v:Value)(b:List (BitVec 8))(hv:Rows H 1 v (bP b))(hb:b.length<2 ^ 63)(hc : -9223372036854775808<=T.change/\T.change<9223372036854775807)(hat : -9223372036854775808<=at_/\at_<9223372036854775808)(hdl:(T.node n).data.length<2 ^ 40)(hQ:∀ L' H',((T.write n at_ b).2≠0->L'=L/\Ext H H')->gI p m L T L' (T.write n at_ b).1 H H'->Q (vi (T.write n at_ b).2) H'):E.call 97 [ptr p 0,u16 n,vi at_,v] H Q:=by
 apply hE.f15;simp only[F.f15];refine S.f8 hE h n ?_;unfold Tr.write at hQ;have same:=h.same (Ext.refl H);rcases h.get n with ⟨q1,q2⟩ | ⟨k,y,q1,q2,q3,q4,q5⟩
 ·simp[q1]at hQ
  simp[dO h.cov q1];exact hQ L _ rfl (Ext.refl H) same
 have hp:=bG h.cov.nd q2;have hlt:=AH.lt_cells q4;have hlv:=hv.lenSlc;rw[cC]at hlv
 by_cases c1:(T.node n).kind=2#8
 ·simp[c1]at hQ
  simp[hp,q4,inC,c1];exact hQ L _ rfl (Ext.refl H) same
 by_cases c2:(T.node n).kind=1#8
 rotate_left
 ·simp[q1,c1,c2]at hQ
  simp[hp,q4,inC,c1,c2];exact hQ L _ rfl (Ext.refl H) same
 by_cases c3:at_<0
 ·simp[c2,c3]at hQ
  simp[hp,q4,inC,c2,c3];exact hQ L _ rfl (Ext.refl H) same
 by_cases c4:1024<at_
 ·simp[c2,c3,c4]at hQ
  simp[hp,q4,inC,c2,c3,c4];exact hQ L _ rfl (Ext.refl H) same
 obtain⟨a,rfl⟩:=Int.eq_ofNat_of_zero_le (by omega:0<=at_)
 have hsub:aA .sub (vi 1024) (vi a)=some (vi (1024 - a)):=fZ (by omega) (by omega)
 by_cases c5:1024<(a:Int)+b.length
 ·have c5':(1024:Int) - a<b.length:=by omega
  simp[c2,c3,c4,c5]at hQ;simp[hp,q4,inC,c2,c3,c4,hlv,hsub,c5'];exact hQ L _ rfl (Ext.refl H) same
 have c5':¬ (1024:Int) - a<b.length:=by omega
 have hadd:aA .add (vi a) (vi b.length)=some (vi ((a+b.length:Nat):Int)):=cV _ _ (by omega)
 have hg:=cM.bytes (h.node q2);have hld:=hg.toRows.lenSlc;rw[cC]at hld;generalize hN:max (T.node n).data.length (a+b.length)=N
 have hmx:fY max2 [vi ((T.node n).data.length:Int),vi ((a+b.length:Nat):Int)]=some (vi (N:Int)):=by
  rw[uO]
  congr 2
  split<;>omega
 have hmk:=uE 1 1 N [u8 0#8] rfl (by omega) (by omega)
 rw[tR]at hmk;simp[c2,c3,c4,c5]at hQ;have he:(if((T.node n).data.length:Int)<(a:Int)+b.length then(a:Int)+b.length else((T.node n).data.length:Int))=(N:Int):=by split<;>omega
 simp[hp,q4,inC,c2,c3,c4,c5',hlv,hsub,hadd,hld,he,hmk,AH.get_new,Nat.ne_of_lt hlt];have hd:=hg.toRows.mono ((Ext.refl H).new (.cells (List.replicate N (u8 0#8)) none));have hcp:=uP (n:=N) (c:=N) (o:=0) (f:=none) (AH.get_new_self H (.cells (List.replicate N (u8 0#8)) none)) hd (kZ _) (by simp;omega)
 have hm1:min (bP (T.node n).data).length N=(T.node n).data.length:=by rw[cC];omega
 have hcell:splice (List.replicate N (u8 0#8)) 0 ((bP (T.node n).data).take (min (bP (T.node n).data).length N)).flatten=(dM (List.replicate N 0#8) 0 (T.node n).data).map u8:=by
  rw[hm1,<- cC (T.node n).data,List.take_length,kP,<- uI];simp
 rw[hcell]at hcp;rw[hcp];simp only[aL,eJ,AH.new_put];generalize hB:dM (List.replicate N 0#8) 0 (T.node n).data=B;have hBl:B.length=N:=by subst hB;simp[dM];omega
 have hsl:dQ 1 (slc H.next 0 N N) (some (vi a)) none none (H.new (.cells (B.map u8) none))=some (slc H.next (if N=a then 0 else a) (N - a) (N - a)):=by
  have e:((if(0:Int)<=a/\(a:Int)<=N then some a else none):Option Nat)=some a:=if_pos ⟨by omega,by omega⟩
  simp only[dQ,Option.isSome_none,Bool.false_and,AH.get_new_self,fits,Bool.or_true,Bool.not_true,Bool.or_self,Bool.false_eq_true,if_false,bnd,Option.bind_some,Int.toNat_natCast,e];rw[if_pos (Nat.le_refl _)]
  by_cases hNa:N=a
  ·rw[if_pos hNa,if_pos hNa]
  ·rw[if_neg hNa,if_neg hNa]
   simp only[Addr.add,Nat.mul_one,Nat.zero_add]
   by_cases ha:a=0
   ·subst ha;rfl
   ·simp[ha]
 rw[hsl];simp only[aL,aD];generalize hoff:(if N=a then 0 else a)=off;have hv':=hv.mono ((Ext.refl H).new (.cells (B.map u8) none));have hml:min (bP b).length (N - a)=b.length:=by rw[cC];omega
 have hcp2:=uP (n:=N - a) (c:=N - a) (o:=off) (f:=none) (AH.get_new_self H (.cells (B.map u8) none)) hv' (kZ _) (by
  rw[hml];simp only[Nat.mul_one,List.length_map,hBl];subst hoff
  split<;>omega)
 have hcell2:splice (B.map u8) off ((bP b).take (min (bP b).length (N - a))).flatten=(iG (T.node n).data a b).map u8:=by
  rw[hml,<- cC b,List.take_length,kP,uI,<- aBP,hN,hB]
  congr 1
  by_cases hNa:N=a
  ·have hb0:b=[]:=List.eq_nil_of_length_eq_zero (by omega)
   subst hb0;simp[dM]
  ·rw[if_neg hNa]at hoff
   rw[hoff]
 rw[hcell2]at hcp2;rw[hcp2]
 have hl:N=(iG (T.node n).data a b).length:=by
  rw[<- aBP,hN,hB];simp[dM];omega
 have hs:=h.setData q2 q1 (iG (T.node n).data a b) (λx=>{ x with data:=iG x.data a b }) rfl N hl
 simp[hp,inC,AH.get_new,q4,Nat.ne_of_lt hlt];simp[inC]at hs;refine S.f118 hE (hs.ino h) hc λ_ H3 u3=>hQ _ _ (hs.trans u3)
end
end
section
section
variable {E:Sy}{H H' H'':AH}{Q:Value->AH->Prop}{p m:Nat}{L L' L'':LyL}{T T' T'':Tr}
theorem S.f18(hE:bF E)(h:Ino H p m L T)(n to:BitVec 16)(hn:(T.node n).kind≠0#8)(ht:(T.node to).kind≠0#8)(other:aK)(hs:other.length<2 ^ 63)(is:Bool)(oldv:BitVec 16)(old:Option (BitVec 16))(ho:(is=false/\old=none)\/(is=true/\old=some oldv/\(T.node oldv).kind≠0#8))(hch:(T.node n).kind=2#8->(T.node to).links≠0->T.chainOk 17 to){f:Nat}(hf:(T.node n).kind=2#8->T.fitsF f n)(hf20:f<=20)(hQ:∀ H',Ext H H'->Q (vi (T.may n to other old)) H'):E.call 90 [ptr p 0,iU L n,iU L to,str other,vb is,u16 oldv] H Q:=by
  apply hE.f18;simp only[F.f18];refine S.f2 hE other hs λH1 e1 =>?_;have h':=h.mono e1;have hh:=h'.head;unfold Tr.may at hQ;rcases h'.get n with ⟨q1,_⟩ | ⟨k,y,q1,q2,q3,q4,q5⟩
  · exact(hn q1).elim
  rcases h'.get to with ⟨w1,_⟩ | ⟨j,z,w1,w2,w3,w4,w5⟩
  · exact(ht w1).elim
  have hpn:=bG h.cov.nd q2;have hpt:=bG h.cov.nd w2
  by_cases c1:cP other=true
  rotate_left
  · have c1:cP other=false:=by simpa using c1
    simp[c1]at hQ;simp[c1];exact hQ _ e1
  by_cases c2:(T.node to).links=0
  · simp[c1,c2]at hQ
    simp[c1,c2,hpt,w4,inC];exact hQ _ e1
  have tail:∀ H2,Ext H H2->(∀ H',Ext H H'->Q (vi (T.mayOld n old)) H') ->
      (opt (un .not (vb is)) λv41 =>
       ifB v41 (Q (vi 0) H2) (
       opt (aF (ptr p 0)) λv42 =>
       opt (aB v42 0) λv43 =>
       opt (aC v43 H2) λv44 =>
       opt (look 0 (.pointer none) false v44 (u16 oldv) H2) λv45 =>
       opt (aF (iU L n)) λv46 =>
       opt (aB v46 1) λv47 =>
       opt (aC v47 H2) λv48 =>
       opt (aA .eql v48 (.int .u8 2)) λv49 =>
       gV v49 true v45 H2 λv50 H26 =>
       gO v49 true (aF v50) H26 λv51 H27 =>
       gO v49 true (aB v51 1) H27 λv52 H28 =>
       gO v49 true (aC v52 H28) H28 λv53 H29 =>
       gO v49 true (aA .neq v53 (.int .u8 2)) H29 λv54 H30 =>
       opt (pick v49 v54 (.bool false)) λv55 =>
       ifB v55 (Q (vi 20) H30) (
       opt (aF (iU L n)) λv56 =>
       opt (aB v56 1) λv57 =>
       opt (aC v57 H30) λv58 =>
       opt (aA .neq v58 (.int .u8 2)) λv59 =>
       gV v59 true v45 H30 λv60 H31 =>
       gO v59 true (aF v60) H31 λv61 H32 =>
       gO v59 true (aB v61 1) H32 λv62 H33 =>
       gO v59 true (aC v62 H33) H33 λv63 H34 =>
       gO v59 true (aA .eql v63 (.int .u8 2)) H34 λv64 H35 =>
       opt (pick v59 v64 (.bool false)) λv65 =>
       ifB v65 (Q (vi 21) H35) (
       opt (aF v45) λv66 =>
       opt (aB v66 1) λv67 =>
       opt (aC v67 H35) λv68 =>
       opt (aA .eql v68 (.int .u8 2)) λv69 =>
       gV v69 true v45 H35 λv70 H36 =>
       gO v69 true (aF v70) H36 λv71 H37 =>
       gO v69 true (aB v71 3) H37 λv72 H38 =>
       gO v69 true (aC v72 H38) H38 λv73 H39 =>
       gO v69 true (iB v73 H39) H39 λv74 H40 =>
       gO v69 true (aA .gtr v74 (vi 0)) H40 λv75 H41 =>
       opt (pick v69 v75 (.bool false)) λv76 =>
       ifB v76 (Q (vi 39) H41) (Q (vi 0) H41))))):=by
    intro H2 e2 hQ;unfold Tr.mayOld at hQ;have h2:=h.mono e2;have hh2:=h2.head;rcases ho with ⟨rfl,rfl⟩ | ⟨rfl,rfl,ho⟩
    · simp
      exact hQ _ e2
    · rcases h2.get oldv with ⟨x1,_⟩ | ⟨i,x,x1,x2,x3,x4,x5⟩
      · exact(ho x1).elim
      have q4':=cM.box (h2.node q2)
      by_cases d1:(T.node n).kind=2#8
      · by_cases d2:(T.node oldv).kind=2#8
        · obtain⟨r,r1,r2,r3,r4⟩:=h2.name x2 d2 other (.int .u16 0) true
          by_cases d3:0<(T.node oldv).ents.length
          · have d3':(0:Int)<(T.node oldv).ents.length:=by omega
            simp[d1,d2,d3]at hQ;simp[hh2,x3,x4,hpn,q4',inC,d1,d2,d3,d3',r1,r4];exact hQ _ e2
          · have d3':¬ (0:Int)<(T.node oldv).ents.length:=by omega
            simp[d1,d2,d3]at hQ;simp[hh2,x3,x4,hpn,q4',inC,d1,d2,d3,d3',r1,r4];exact hQ _ e2
        · simp[d1,d2]at hQ
          simp[hh2,x3,x4,hpn,q4',inC,d1,d2];exact hQ _ e2
      · by_cases d2:(T.node oldv).kind=2#8
        · simp[d1,d2]at hQ
          simp[hh2,x3,x4,hpn,q4',inC,d1,d2];exact hQ _ e2
        · simp[d1,d2]at hQ
          simp[hh2,x3,x4,hpn,q4',inC,d1,d2];exact hQ _ e2
  by_cases c3:(T.node n).kind=2#8
  · simp only[c1,c2,c3,Bool.true_eq_false,if_false,true_and]at hQ
    simp[c1,c2,hpt,hpn,q4,w4,inC,c3];refine S.f14 hE h' to n ?_
    by_cases c4:T.within n to=true
    · simp only[c4,if_true]at hQ
      simp[hpn,hpt,c4];exact hQ _ e1
    · have c4:T.within n to=false:=by simpa using c4
      simp only[c4,Bool.false_eq_true,if_false]at hQ;simp[c4,hpn,hpt,q4,w4,inC,c3];refine S.f16 hE h' to (hch c3 c2) ?_;simp[hpn,hpt,q4,inC];refine S.f20 hE f h' n (hf c3) hf20 λH2 e2 =>?_;have hle:=Tr.tall_le T n;have hde:=Tr.deep_le T to;have hadd:aA .add (vi (T.deep to)) (vi (T.tall n))=some (vi ((T.deep to+T.tall n:Nat):Int)):=cV _ _ (by omega)
      have q4':=e2.cells q4
      by_cases c5:16<T.deep to+T.tall n
      · have c5':(16:Int)<(T.deep to:Int)+(T.tall n:Int):=by omega
        simp only[c5,if_true]at hQ;simp[hpn,hpt,q4',q4,inC,hadd,c5'];exact hQ _ (e1.trans e2)
      · have c5':¬ (16:Int)<(T.deep to:Int)+(T.tall n:Int):=by omega
        simp only[c5,if_false]at hQ;have:=tail H2 (e1.trans e2) hQ;simp[hpn,hpt,q4',q4,inC,hadd,c5']
        simpa[c3,hpn] using this
  · simp only[c1,c2,c3,Bool.true_eq_false,if_false,false_and]at hQ
    have:=tail H1 e1 (by simpa[c3] using hQ)
    simp[c1,c2,hpt,hpn,q4,w4,inC,c3]
    simpa[c3,hpn] using this
end
end
section
theorem fP{K V:Type}[DecidableEq K](k j:K):∀ {l:List (K×V)},(l.map Prod.fst).Nodup->bX j (fD k l)=if j=k then none else bX j l
 | [],_=>by simp[fD,bX]
 | e :: l,hn=>by
  rw[List.map_cons,List.nodup_cons]at hn;simp only[fD]
  by_cases h:e.1=k
  ·rw[if_pos h]
   by_cases hj:j=k
   ·rw[if_pos hj]
    exact iH.2 (by rw[hj,<- h];exact hn.1)
   ·rw[if_neg hj]
    have:(j == e.1)=false:=by rw[h];simpa using hj
    simp[bX,List.lookup,this]
  ·rw[if_neg h]
   have ih:=fP k j hn.2
   by_cases hje:j=e.1
   ·subst hje
    simp[bX,List.lookup,h]
   ·have:(j == e.1)=false:=by simpa using hje
    simp only[bX,List.lookup,this]at ih ⊢;exact ih
section
variable {E:Sy}{H H' H'':AH}{Q:Value->AH->Prop}{p m:Nat}{L L' L'':LyL}{T T' T'':Tr}
theorem Ino.ents_nodup(h:Ino H p m L T){n:BitVec 16}(hk:(T.node n).kind=2#8):((T.node n).ents.map Prod.fst).Nodup:=by
 rcases h.get n with ⟨q1,_⟩ | ⟨k,y,q1,q2,q3,q4,q5⟩
 ·rw[q1]at hk;simp at hk
 ·obtain⟨r,hr⟩:=q5.dir hk
  exact(q5.perm.map _).nodup_iff.1 (cM.names (h.node q2) hr).nodup
def Tr.afterDrop(T:Tr)(to:BitVec 16)(other:aK)(n:BitVec 16):Tr:=if(bX other (T.node to).ents).isSome then(T.drop to other (decide ((T.node n).kind=2#8))).1 else T
theorem Tr.tidy_node{n:BitVec 16}(hk:(T.node n).kind≠0#8)(k:BitVec 16)(h:k≠n):(T.tidy n).node k=T.node k:=by
 unfold Tr.tidy
 split
 ·rw[Tr.node_upd hk,if_neg h]
 ·rfl
theorem Tr.tidy_change{n:BitVec 16}:(T.tidy n).change=T.change:=by
 unfold Tr.tidy
 split<;>rfl
theorem Tr.drop_change(n:BitVec 16)(s:aK)(d:Bool):T.change<=(T.drop n s d).1.change/\(T.drop n s d).1.change<=T.change+1:=by
 unfold Tr.drop
 repeat' split
 all_goals
  constructor<;>((try simp only[Tr.tidy_change,Tr.bump_change,Tr.upd_change]);omega)
theorem Tr.drop_ok{to y n:BitVec 16}{other:aK}(ht:(T.node to).kind=2#8)(hy:bX other (T.node to).ents=some y)(hm:T.mayOld n (some y)=0)(hk:(T.node y).kind≠0#8):
  (T.drop to other (decide ((T.node n).kind=2#8))).2=0/\∀ k,k≠y->(T.drop to other (decide ((T.node n).kind=2#8))).1.node k=if k=to then Nd.delE other (T.node to) else T.node k:=by
 have hl:T.look to other=(y,0):=by
  unfold Tr.look;simp[Tr.dir_zero.2 ht,hy]
 unfold Tr.mayOld at hm;have ht0:(T.node to).kind≠0#8:=by rw[ht];decide
 have hnode:=λk=>Tr.node_upd ht0 (Nd.delE other) k
 have hky:((T.upd to (Nd.delE other)).node y).kind≠0#8:=by
  rw[hnode];split
  ·exact ht0
  ·exact hk
 have hnode2:=λk=>Tr.node_upd hky (Nd.addL (-1)) k
 have key:∀ k,k≠y->((((T.upd to (Nd.delE other)).upd y (Nd.addL (-1))).bump).tidy y).node k=if k=to then Nd.delE other (T.node to) else T.node k:=by
  intro k hk';rw[Tr.tidy_node (by rw[Tr.bump_node,hnode2,if_pos rfl];exact hky) k hk',Tr.bump_node,hnode2,if_neg hk',hnode]
 unfold Tr.drop
 by_cases c1:(T.node n).kind=2#8
 ·by_cases c2:(T.node y).kind=2#8
  ·by_cases c3:0<(T.node y).ents.length
   ·simp[c1,c2,c3]at hm
   ·simp only[hl,c1,c2,c3]
    simpa using key
  ·simp[c1,c2]at hm
 ·by_cases c2:(T.node y).kind=2#8
  ·simp[c1,c2]at hm
  ·simp only[hl,c1,c2]
   simpa using key
theorem Tr.mayOld_of{n to:BitVec 16}{other:aK}{old:Option (BitVec 16)}(h:T.may n to other old=0):T.mayOld n old=0:=by
 unfold Tr.may at h
 split at h
 ·simp at h
 ·split at h
  ·simp at h
  ·split at h
   ·simp at h
   ·split at h
    ·simp at h
    ·exact h
theorem S.f12(hE:bF E)(h:Ino H p m L T)(fr to:BitVec 16)(s other:aK)(hs:other.length<2 ^ 63)(hc : -9223372036854775808<=T.change/\T.change<9223372036854775806)(hn:(T.look fr s).2=0->(T.node (T.look fr s).1).kind≠0#8)(hch:(T.node (T.look fr s).1).kind=2#8->(T.node to).kind=2#8->(T.node to).links≠0->T.chainOk 17 to){f:Nat}(hf:(T.look fr s).2=0->(T.node (T.look fr s).1).kind=2#8->T.fitsF f (T.look fr s).1)(hf20:f<=20)(hold:∀ y,(T.node to).kind=2#8->bX other (T.node to).ents=some y->(T.node y).kind≠0#8/\0<=(T.node y).links/\(T.node y).links<9223372036854775807)(hQ:∀ L' H',((T.move fr s to other).2≠0->L'=L/\Ext H H')->Shr L L'->gI p m L T L' (T.move fr s to other).1 H H'->Q (vi (T.move fr s to other).2) H'):
    E.call 58 [ptr p 0,u16 fr,str s,u16 to,str other] H Q:=by
  apply hE.f12;simp only[F.f12];refine S.f10 hE h fr s ?_;have same:=λH' (e:Ext H H')=>h.same e;unfold Tr.move at hQ
  by_cases c1:(T.look fr s).2=0
  rotate_left
  · simp[c1]at hQ
    simp[c1];exact hQ L _ rfl (Ext.refl H) (Shr.refl L) (same _ (Ext.refl H))
  obtain⟨k1,k2⟩:=Tr.look_ok c1;have hn:=hn c1;have hf:=hf c1;simp only[c1,ne_eq,not_true,if_false]at hQ;generalize hnn:(T.look fr s).1=n at *;simp[c1];refine S.f17 hE h to ?_
  by_cases c2:T.dir to=0
  rotate_left
  · simp only[c2,not_false_eq_true,if_true]at hQ
    simp[c2];exact hQ L _ (λ_=>⟨rfl,Ext.refl H⟩) (Shr.refl L) (same _ (Ext.refl H))
  have k3:=Tr.dir_zero.1 c2;simp only[c2,not_true,if_false]at hQ;have hh:=h.head;rcases h.get to with ⟨w1,_⟩ | ⟨j,z,w1,w2,w3,w4,w5⟩
  · rw[w1]at k3;simp at k3
  rcases h.get n with ⟨q1,_⟩ | ⟨k,y,q1,q2,q3,q4,q5⟩
  · exact(hn q1).elim
  have hpt:=bG h.cov.nd w2;have hpn:=bG h.cov.nd q2;obtain⟨r,r1,r2,r3,r4⟩:=h.name w2 k3 other (.int .u16 0) true;have hnd:=h.ents_nodup k3;have frk:(T.node fr).kind≠0#8:=by rw[k1];decide
  have frn:fr≠n\/True := .inr trivial
  have fin:∀ (T1:Tr) (L1:LyL) (H1:AH),gI p m L T L1 T1 H H1->Shr L L1->T1=T.afterDrop to other n -> -9223372036854775808<=T1.change/\T1.change<9223372036854775807->(T1.node fr).kind=2#8->(T1.node to).kind=2#8->(T1.node n).kind=(T.node n).kind ->
      bX other ((T1.upd fr (Nd.delE s)).node to).ents=none->(∀ L' H',Shr L L'->gI p m L T L' (Tr.moved T1 fr s to other n) H H'->Q (vi 0) H')->F.f12_j1 E Q (ptr p 0) (u16 fr) (str s) (u16 to) (str other) (u16 n) (ptr z.blk 0) (ptr y.blk 0) H1:=by
    intro T1 L1 H1 u1 sh1 _ hc1 a1 a2 a3 a4 hQ;have h1:=u1.ino h;have b1:(T1.node fr).kind≠0#8:=by rw[a1];decide
    have b2:(T1.node to).kind≠0#8:=by rw[a2];decide
    have b3:(T1.node n).kind≠0#8:=by rw[a3];exact q1
    have hh1:=h1.head;rcases h1.get fr with ⟨x1,_⟩ | ⟨i1,x,x1,x2,x3,x4,x5⟩
    · exact(b1 x1).elim
    obtain⟨r',H2,d1,d2,d3⟩:=h1.delName x2 a1 s;have h2:=d3.ino h1;have sh2:Shr L (L1.set i1 (fr,{ x with ord:=fD s x.ord })):=sh1.trans (Shr.set x2 rfl)
    have hnode2:=λw=>Tr.node_upd b1 (Nd.delE s) w
    have b2':((T1.upd fr (Nd.delE s)).node to).kind=2#8:=by
      rw[hnode2];split
      · rename_i e;rw[<- e];exact a2
      · exact a2
    have b3':((T1.upd fr (Nd.delE s)).node n).kind=(T.node n).kind:=by
      rw[hnode2];split
      · rename_i e;show(T1.node fr).kind=_;rw[<- e];exact a3
      · exact a3
    rcases h2.get to with ⟨v1,_⟩ | ⟨i2,v,v1,v2,v3,v4,v5⟩
    · rw[b2']at v1;simp at v1
    have pv:ptr v.blk 0=ptr z.blk 0:=by
      rcases sh2 to with e | e
      · rw[bG h2.cov.nd v2,hpt]at e;exact e
      · rw[bG h2.cov.nd v2]at e;simp at e
    have pv:v.blk=z.blk:=by simpa using pv
    obtain⟨r2',H3,f1,f2,f3⟩:=h2.addName v2 b2' other n a4;have h3:=f3.ino h2;have sh3:=sh2.trans (Shr.set (y':={ v with ord:=kD other n v.ord }) v2 rfl)
    have hnode3:=λw=>Tr.node_upd (T:=T1.upd fr (Nd.delE s)) v1 (Nd.addE other n) w
    have b3'':(((T1.upd fr (Nd.delE s)).upd to (Nd.addE other n)).node n).kind=(T.node n).kind:=by
      rw[hnode3];split
      · rename_i e;show((T1.upd fr (Nd.delE s)).node to).kind=_;rw[<- e];exact b3'
      · exact b3'
    rcases h3.get n with ⟨g1,_⟩ | ⟨i3,g,g1,g2,g3,g4,g5⟩
    · rw[b3'']at g1;exact(q1 g1).elim
    have pg:g.blk=y.blk:=by
      rcases sh3 n with e | e
      · rw[bG h3.cov.nd g2,hpn]at e;simpa using e
      · rw[bG h3.cov.nd g2]at e;simp at e
    have u3:=(u1.trans d3).trans f3;rw[pv]at v4;rw[pg]at g4;have hch3:((T1.upd fr (Nd.delE s)).upd to (Nd.addE other n)).change=T1.change:=rfl;unfold Tr.moved at hQ
    by_cases e1:(T1.node n).kind=2#8
    · have e2:(((T1.upd fr (Nd.delE s)).upd to (Nd.addE other n)).node n).kind=2#8:=by rw[b3'',<- a3];exact e1
      have hp4:gI p m (L1.set i1 (fr,{ x with ord:=fD s x.ord }) |>.set i2 (to,{ v with ord:=kD other n v.ord })) ((T1.upd fr (Nd.delE s)).upd to (Nd.addE other n)) (((L1.set i1 (fr,{ x with ord:=fD s x.ord })).set i2 (to,{ v with ord:=kD other n v.ord })).set i3 (n,g))
          (((T1.upd fr (Nd.delE s)).upd to (Nd.addE other n)).upd n (λx=>{ x with parent:=to })) H3 (H3.put g.blk (.cells (inC n { (((T1.upd fr (Nd.delE s)).upd to (Nd.addE other n)).node n) with parent:=to } g) none)) :=
        h3.set g2 (f:=λx=>{ x with parent:=to }) rfl g1 (uN.same g5 rfl rfl) (cM.put (h3.node g2) rfl)
      have u4:=u3.trans hp4;rw[pg]at u4;simp only[inC,e2]at u4;simp only[e1,if_true]at hQ;simp[F.f12_j1,F.f12_j2,hh1,x3,x4,inC,d1,d2,v4,f1,f2,g4,e2];refine S.f118 hE (u4.ino h) hc1 λ_ H5 u5=>hQ _ _ (sh3.trans (Shr.set g2 rfl)) (u4.trans u5)
    · have e2:¬ (((T1.upd fr (Nd.delE s)).upd to (Nd.addE other n)).node n).kind=2#8:=by rw[b3'',<- a3];exact e1
      simp only[e1,if_false]at hQ;simp[F.f12_j1,F.f12_j2,hh1,x3,x4,inC,d1,d2,v4,f1,f2,g4,e2];refine S.f118 hE (u3.ino h) hc1 λ_ H5 u5=>hQ _ _ sh3 (u3.trans u5)
  simp only[c2,if_true,aL];rw[hpt]
  have hmy:∀ (is:Bool) (oldv:BitVec 16) (old:Option (BitVec 16)) (Q':Value->AH->Prop),((is=false/\old=none)\/(is=true/\old=some oldv/\(T.node oldv).kind≠0#8))->(∀ H',Ext H H'->Q' (vi (T.may n to other old)) H') ->
      E.call 90 [ptr p 0,ptr y.blk 0,ptr z.blk 0,str other,vb is,u16 oldv] H Q':=by
    intro is oldv old Q' ho hq;have:=S.f18 hE h n to hn w1 other hs is oldv old ho (λa b=>hch a k3 b) hf hf20 hq;rw[hpn,hpt]at this;exact this
  cases c3:bX other (T.node to).ents with
  | none =>
    rw[c3]at r3;simp at r3;have hmm:=hmy false 0#16 none
    have go:∀ A:AH->Prop,(∀ L' H',((if T.may n to other none≠0 then(T,T.may n to other none) else(Tr.moved T fr s to other n,0)).2≠0->L'=L/\Ext H H')->Shr L L'->gI p m L T L' (if T.may n to other none≠0 then(T,T.may n to other none) else(Tr.moved T fr s to other n,0)).1 H H'->Q (vi (if T.may n to other none≠0 then(T,T.may n to other none) else(Tr.moved T fr s to other n,0)).2) H') ->
        E.call 90 [ptr p 0,ptr y.blk 0,ptr z.blk 0,str other,vb false,u16 0#16] H (λv35 H15 =>
         opt (aA .neq v35 (vi 0)) λv36 =>
         ifB v36 (Q v35 H15) (ifB (.bool false) (A H15) (F.f12_j1 E Q (ptr p 0) (u16 fr) (str s) (u16 to) (str other) (u16 n) (ptr z.blk 0) (ptr y.blk 0) H15))):=by
      intro A hQ;refine hmm _ (.inl ⟨rfl,rfl⟩) λH1 e1 =>?_
      by_cases d:T.may n to other none=0
      · simp only[d,ne_eq,not_true,if_false]at hQ
        simp[d];refine fin T L H1 (same _ e1) (Shr.refl L) (by simp[Tr.afterDrop,c3]) ⟨hc.1,by omega⟩ k1 k3 rfl ?_ λL' H' sh u=>hQ L' H' (λh=>(h:False).elim) sh u
        rw[Tr.node_upd frk]
        split
        · rename_i e
          show bX other (fD s (T.node fr).ents)=none
          rw[fP _ _ (h.ents_nodup k1),<- e,c3]
          split<;>rfl
        · exact c3
      · simp only[d,ne_eq,not_false_eq_true,if_true]at hQ
        simp[d];exact hQ L _ (λ_=>⟨rfl,e1⟩) (Shr.refl L) (same _ e1)
    by_cases c4:fr=to
    · simp[c3,c4]at hQ
      subst c4;simp[c2,hh,q3,w4,inC,r1,r3];exact go _ (by simpa using hQ)
    · by_cases c5:32<=(T.node to).ents.length
      · have c5':(32:Int)<=(T.node to).ents.length:=by omega
        simp[c3,c4,c5]at hQ;simp[c2,hh,q3,w4,inC,r1,r3,r4,c4,c5'];exact hQ L _ rfl (Ext.refl H) (Shr.refl L) (same _ (Ext.refl H))
      · have c5':¬ (32:Int)<=(T.node to).ents.length:=by omega
        simp[c3,c4,c5]at hQ;simp[c2,hh,q3,w4,inC,r1,r3,r4,c4,c5'];exact go _ (by simpa using hQ)
  | some o =>
    rw[c3]at r3;simp at r3
    by_cases c4:o=n
    · subst c4
      simp[c3]at hQ;simp[c2,hh,q3,w4,inC,r1,r3];exact hQ L _ (Shr.refl L) (same _ (Ext.refl H))
    · obtain⟨o1,o2,o3⟩:=hold o k3 c3
      have c4':¬ n=o:=λe=>c4 e.symm;simp[c3,c4]at hQ;simp[c2,hh,q3,w4,inC,r1,r3,c4];refine hmy true o (some o) _ (.inr ⟨rfl,rfl,o1⟩) λH1 e1 =>?_
      by_cases d:T.may n to other (some o)=0
      · obtain⟨g1,g2⟩:=Tr.drop_ok k3 c3 (Tr.mayOld_of d) o1
        simp only[d,ne_eq,not_true,if_false]at hQ;simp[d];have h1:=h.mono e1;have q4':=e1.cells q4;simp[q4',inC]
        have hlk:T.look to other=(o,0):=by
          unfold Tr.look;simp[c2,c3]
        refine S.f7 hE h1 to other _ ⟨hc.1,by omega⟩ (λ_=>by rw[hlk];exact⟨o1,o2,o3⟩) λL2 H2 _ sh u2 =>?_
        simp only[g1];simp;have hm:=Tr.mayOld_of d;unfold Tr.mayOld at hm
        have of:fr≠o:=by
          rintro rfl
          have hpos:0<(T.node fr).ents.length:=by
            cases he:(T.node fr).ents with
            | nil=>rw[he]at k2;simp[bX]at k2
            | cons a b=>simp
          simp only[k1]at hm
          by_cases d1:(T.node n).kind=2#8
          · simp[d1,hpos]at hm
          · simp[d1]at hm
        have ot:to≠o:=by
          rintro rfl
          have hpos:0<(T.node to).ents.length:=by
            cases he:(T.node to).ents with
            | nil=>rw[he]at c3;simp[bX]at c3
            | cons a b=>simp
          simp only[k3]at hm
          by_cases d1:(T.node n).kind=2#8
          · simp[d1,hpos]at hm
          · simp[d1]at hm
        have e1':(T.drop to other (decide ((T.node n).kind=2#8))).1=T.afterDrop to other n:=by simp[Tr.afterDrop,c3]
        have hchg:=Tr.drop_change (T:=T) to other (decide ((T.node n).kind=2#8))
        have hkk:∀ w,w≠o->((T.drop to other (decide ((T.node n).kind=2#8))).1.node w).kind=(T.node w).kind:=by
          intro w hw;rw[g2 w hw]
          split
          · rename_i e;rw[e];rfl
          · rfl
        refine fin _ L2 H2 (.after e1 u2) sh e1' ⟨by omega,by omega⟩ (by rw[hkk fr of];exact k1) (by rw[hkk to ot];exact k3) (hkk n c4') ?_ λL' H' sh' u =>?_
        · rw[Tr.node_upd (by rw[hkk fr of];exact frk)]
          split
          · rename_i e
            show bX other (fD s ((T.drop to other (decide ((T.node n).kind=2#8))).1.node fr).ents)=none
            rw[g2 fr of,if_pos e.symm]
            show bX other (fD s (fD other (T.node to).ents))=none
            have hnd2:((fD other (T.node to).ents).map Prod.fst).Nodup:=hnd.sublist ((gT other _).map _);rw[fP _ _ hnd2,fP _ _ hnd];simp
          · rw[g2 to ot,if_pos rfl]
            show bX other (fD other (T.node to).ents)=none
            rw[fP _ _ hnd];simp
        · exact hQ L' H' (by simp) sh' (by simpa using u)
      · simp only[d,ne_eq,not_false_eq_true,if_true]at hQ
        simp[d];exact hQ L _ (λ_=>⟨rfl,e1⟩) (Shr.refl L) (same _ e1)
end
end
section
open Go.Sort (swp SWO PermIn SortedIn scanUp scanDown)
section
variable {α:Type}[Inhabited α]{enc:α->Value}{H H' H'':AH}{b c n:Nat}{d d':Array α}{tail:List Value}{f:Option Nat}
def iA(enc:α->Value)(d:Array α)(tail:List Value)(f:Option Nat):cZ := .cells (d.toList.map enc++tail) f
theorem cU{i:Nat}(h:i<n):aP 1 (slc b 0 n c) (vi (i:Int))=some (ptr b i):=by
 rw[qR _ _ _ _ _ _ h];simp
theorem bH(hg:H.get b=iA enc d tail f){i:Nat}(hi:i<d.size):aC (ptr b i) H=some (enc d[i]!):=by
 simp only[aE,hg,iA,aC2];rw[List.getElem?_append_left (by simpa using hi)]
 simp[hi]
theorem aIl(d:Array α){i:Nat}(hi:i<d.size)(x:α):(d.toList.map enc++tail).set i (enc x)=(d.setIfInBounds i x).toList.map enc++tail:=by
 rw[List.set_append_left _ _ (by simpa using hi),Array.toList_setIfInBounds,List.map_set]
theorem aAd(hp:∀ x,plain1 (enc x)=true)(hg:H.get b=iA enc d tail f){i:Nat}(hi:i<d.size)(x:α):aR (ptr b i) (enc x) H=some (H.put b (iA enc (d.setIfInBounds i x) tail f)):=by
 simp only[aO,hp,if_true,hg,iA];rw[if_pos (by simp;omega),aIl d hi]
theorem sD(hg:H.get b=iA enc d tail f):b<H.next:=AH.lt_cells hg
theorem fO(hp:∀ x,plain1 (enc x)=true)(hg:H.get b=iA enc d tail f){i j:Nat}(hi:i<d.size)(hj:j<d.size):
  aR (ptr b i) (enc d[j]!) H=some (H.put b (iA enc (d.setIfInBounds i d[j]!) tail f)) /\
  aR (ptr b j) (enc d[i]!) (H.put b (iA enc (d.setIfInBounds i d[j]!) tail f))=some (H.put b (iA enc (swp d i j) tail f)):=by
 refine⟨aAd hp hg hi _,?_⟩;rw[aAd hp (AH.get_put_self _ _ (sD hg)) (by simpa using hj),AH.put_put]
 rfl
structure cW(H:AH)(b:Nat)(enc:α->Value)(tail:List Value)(f:Option Nat)(d':Array α)(H':AH):Prop where
 only:dK [b] H H'
 get:H'.get b=iA enc d' tail f
theorem cW.refl(hg:H.get b=iA enc d tail f):cW H b enc tail f d H:=⟨dK.refl _ _,hg⟩
theorem cW.trans(h:cW H b enc tail f d H')(h':cW H' b enc tail f d' H''):cW H b enc tail f d' H'':=⟨h.only.trans' h'.only,h'.get⟩
theorem cW.put(h:cW H b enc tail f d H')(d':Array α):cW H b enc tail f d' (H'.put b (iA enc d' tail f)) :=
 ⟨h.only.put (.inl (by simp)) _,AH.get_put_self _ _ (sD h.get)⟩
theorem cW.ext(h:cW H b enc tail f d H')(e:Ext H' H''):cW H b enc tail f d H'' :=
 ⟨h.only.trans' e.only,by rw[e.get (sD h.get)];exact h.get⟩
end
theorem eC(a b:Nat)(h:b<=a)(ha:a<2 ^ 62):aA .sub (vi a) (vi b)=some (vi ((a - b:Nat):Int)):=by
 rw[fZ (by omega) (by omega)];congr 2;omega
theorem eS(a:Nat)(h:1<=a)(ha:a<2 ^ 62):aA .sub (vi a) (vi 1)=some (vi ((a - 1:Nat):Int)):=eC a 1 h ha
theorem cK(a:Nat)(ha:a<2 ^ 62):aA .add (vi a) (vi 1)=some (vi ((a+1:Nat):Int)):=cV a 1 (by omega)
theorem aIb(a:Nat)(ha:a<2 ^ 61):aA .mul (vi 2) (vi a)=some (vi ((2*a:Nat):Int)):=by
 rw[sT (by omega) (by omega)];congr 2
theorem aAp{α:Type}[Inhabited α](p:α->Bool)(d:Array α)(j:Nat):∀ (m i:Nat),j+1 - i<=m->i<=scanUp p d j i/\(i<=j+1->scanUp p d j i<=j+1)
 | 0,i,h=>by
  rw[scanUp,if_neg (by simp;omega)]
  exact⟨Nat.le_refl _,id⟩
 | m+1,i,h=>by
  rw[scanUp]
  split
  ·rename_i hc
   have:i<=j:=by simp at hc;exact hc.1
   have:=aAp p d j m (i+1) (by omega)
   exact⟨by omega,λ_=>this.2 (by omega)⟩
  ·exact⟨Nat.le_refl _,id⟩
theorem lT{α:Type}[Inhabited α](p:α->Bool)(d:Array α)(i:Nat):∀ j,scanDown p d i j<=j/\(i<=j+1->i<=scanDown p d i j+1)
 | 0=>⟨Nat.le_refl _,id⟩
 | j+1=>by
  rw[scanDown]
  split
  ·have:=lT p d i j
   rename_i hc;have:i<=j+1:=by simp at hc;exact hc.1
   exact⟨by omega,λ_=>by omega⟩
  ·exact⟨Nat.le_refl _,id⟩
theorem qY:∀ (x y:List UInt8),Op.bytesLess x y=decide (x<y)
 | [],[]=>by simp[Op.bytesLess]
 | [],_ :: _=>by simp[Op.bytesLess]
 | _ :: _,[]=>by simp[Op.bytesLess]
 | a :: x,b :: y=>by
  rw[Op.bytesLess,qY x y,Bool.eq_iff_iff];simp[List.cons_lt_cons_iff]
def cF(x y:BitVec 16):Bool:=decide (x.toNat<y.toNat)
theorem aB0:SWO cF:=⟨λx=>by simp[cF],λx y z=>by simp only[cF,decide_eq_true_eq];omega,λx y z=>by simp only[cF,decide_eq_false_iff_not];omega⟩
end
section
def lE(l:List (aK×BitVec 16)):Prop:=l.Pairwise λa b=>a.1<b.1
theorem yW{a b c:aK}(h:a<b)(h':b<c):a<c:=List.lt_trans h h'
theorem yL(a:aK):¬ a<a:=List.lt_irrefl a
theorem aFa{a b:aK}(h:¬ a<b)(h':¬ b<a):a=b:=List.le_antisymm h' h
theorem lE.nodup{l:List (aK×BitVec 16)}(h:lE l):(l.map Prod.fst).Nodup:=by
 unfold List.Nodup;rw[List.pairwise_map];exact h.imp fun {a b} hab e=>by rw[e]at hab;exact yL _ hab
theorem kS{x y:aK×BitVec 16}:∀ {l:List (aK×BitVec 16)},y∈fS x l↔y=x\/y∈l:=fun {l}=>by
 rw[(jT x l).mem_iff,List.mem_cons]
theorem lE.insert{x:aK×BitVec 16}:∀ {l:List (aK×BitVec 16)},lE l->bX x.1 l=none->lE (fS x l)
 | [],_,_=>List.pairwise_singleton _ _
 | y :: l,h,hn=>by
  have hy:=List.pairwise_cons.1 h;rw[lZ]at hn;have hne:¬ x.1=y.1:=by intro e;rw[if_pos e]at hn;simp at hn
  rw[if_neg hne]at hn;simp only[fS,qY]
  by_cases hlt:y.1<x.1
  ·rw[if_pos (by simpa using hlt)]
   refine List.pairwise_cons.2 ⟨λz hz =>?_,lE.insert hy.2 hn⟩;rcases kS.1 hz with rfl | hz
   ·exact hlt
   ·exact hy.1 z hz
  ·rw[if_neg (by simpa using hlt)]
   have hxy:x.1<y.1:=by
    refine Classical.byContradiction λhc=>hne (aFa hc hlt)
   refine List.pairwise_cons.2 ⟨λz hz =>?_,h⟩;rcases List.mem_cons.1 hz with rfl | hz
   ·exact hxy
   ·exact yW hxy (hy.1 z hz)
theorem lE.del{s:aK}{l:List (aK×BitVec 16)}(h:lE l):lE (fD s l):=h.sublist (gT s l)
theorem iP{s:aK}{k:BitVec 16}:∀ {l:List (aK×BitVec 16)},bX s l=some k->(s,k)∈l
 | [],h=>by simp[bX]at h
 | e :: l,h=>by
  rw[lZ]at h
  by_cases he:s=e.1
  ·rw[if_pos he]at h
   have:=Option.some.inj h;subst he;subst this;exact List.mem_cons_self
  ·rw[if_neg he]at h
   exact List.mem_cons_of_mem _ (iP h)
def eP(k:BitVec 16)(l:List (aK×BitVec 16)):Nat:=l.countP λe=>decide (e.2=k)
def Tr.refs(T:Tr)(k:BitVec 16):Nat:=(T.N.map λx=>eP k x.ents).sum
theorem qF(k:BitVec 16)(x:aK×BitVec 16)(l:List (aK×BitVec 16)):eP k (fS x l)=eP k l+if x.2=k then 1 else 0:=by
 unfold eP;rw[(jT x l).countP_eq,List.countP_cons];simp
theorem xP(k:BitVec 16){s:aK}{v:BitVec 16}:∀ {l:List (aK×BitVec 16)},bX s l=some v->eP k (fD s l)+(if v=k then 1 else 0)=eP k l
 | [],h=>by simp[bX]at h
 | e :: l,h=>by
  rw[lZ]at h
  by_cases he:s=e.1
  ·rw[if_pos he]at h
   have:=Option.some.inj h;subst he;subst this;simp[fD,eP,List.countP_cons]
  ·rw[if_neg he]at h
   have ih:=xP k h;have he':¬ e.1=s:=λx=>he x.symm;simp only[fD,if_neg he',eP,List.countP_cons]at ih ⊢;omega
theorem aFm{k:BitVec 16}{l:List (aK×BitVec 16)}(h:0<eP k l):∃ s,(s,k)∈l:=by
 obtain⟨e,he,hk⟩:=List.countP_pos_iff.1 h;refine⟨e.1,?_⟩;have:e.2=k:=by simpa using hk
 rw[<- this];exact he
theorem aAs{k:BitVec 16}{l:List (aK×BitVec 16)}:eP k l<=l.length:=List.countP_le_length
theorem aG0{k:BitVec 16}{s:aK}{l:List (aK×BitVec 16)}(h:(s,k)∈l):1<=eP k l:=List.countP_pos_iff.2 ⟨_,h,by simp⟩
theorem rV(g:Nd->Nat)(f:Nd->Nd):∀ (N:List Nd) (i:Nat) (x:Nd),N[i]? = some x->((N.modify i f).map g).sum+g x=(N.map g).sum+g (f x)
 | [],i,x,h=>by simp at h
 | y :: N,0,x,h=>by
  simp at h;subst h;simp;omega
 | y :: N,i+1,x,h=>by
  have:=rV g f N i x (by simpa using h)
  simp at this ⊢; omega
theorem aDH(g:Nd->Nat):∀ {N:List Nd} {x:Nd},x∈N->g x<=(N.map g).sum
 | [],_,h=>by simp at h
 | y :: N,x,h=>by
  rcases List.mem_cons.1 h with rfl | h
  ·simp
  ·have:=aDH g h
   simp;omega
theorem aDF(g:Nd->Nat):∀ {N:List Nd},0<(N.map g).sum->∃ (i:Nat) (x:Nd),N[i]? = some x/\0<g x
 | [],h=>by simp at h
 | y :: N,h=>by
  by_cases hy:0<g y
  ·exact⟨0,y,rfl,hy⟩
  ·obtain⟨i,x,h1,h2⟩:=aDF g (N:=N) (by simp at h;omega)
   exact⟨i+1,x,by simpa using h1,h2⟩
section
variable {T T':Tr}
theorem Tr.node_get'{n:BitVec 16}(h:n.toNat<T.N.length):T.N[n.toNat]? = some (T.node n):=by
 simp[Tr.node,List.getD_eq_getElem?_getD,h]
theorem Tr.refs_upd{n:BitVec 16}(hn:n.toNat<T.N.length)(f:Nd->Nd)(k:BitVec 16):(T.upd n f).refs k+eP k (T.node n).ents=T.refs k+eP k (f (T.node n)).ents :=
 rV (λx=>eP k x.ents) f T.N n.toNat (T.node n) (Tr.node_get' hn)
theorem Tr.refs_upd_same{n:BitVec 16}(hn:n.toNat<T.N.length){f:Nd->Nd}(k:BitVec 16)(hf:(f (T.node n)).ents=(T.node n).ents):(T.upd n f).refs k=T.refs k:=by
 have:=Tr.refs_upd hn f k;rw[hf]at this;omega
theorem Tr.refs_one{n k:BitVec 16}{s:aK}(h:(s,k)∈(T.node n).ents):1<=T.refs k:=by
 have hn:n.toNat<T.N.length:=by
  by_cases hn:n.toNat<T.N.length
  ·exact hn
  ·simp only[Tr.node,List.getD_eq_getElem?_getD]at h
   rw[List.getElem?_eq_none (by omega)]at h
   simp[Nd.none]at h
 exact Nat.le_trans (aG0 h) (aDH (λx=>eP k x.ents) (List.mem_of_getElem? (Tr.node_get' hn)))
theorem Tr.refs_pos{k:BitVec 16}(hl:T.N.length<=65536)(h:0<T.refs k):∃ n s,(s,k)∈(T.node n).ents:=by
 obtain⟨i,x,h1,h2⟩:=aDF (λx=>eP k x.ents) h;obtain⟨s,hs⟩:=aFm h2;obtain⟨hi,hx⟩:=List.getElem?_eq_some_iff.1 h1;refine⟨BitVec.ofNat 16 i,s,?_⟩;have e:(BitVec.ofNat 16 i).toNat=i:=by rw[BitVec.toNat_ofNat,Nat.mod_eq_of_lt (by omega)]
 have:=Tr.node_get' (T:=T) (n:=BitVec.ofNat 16 i) (by rw[e];exact hi)
 rw[e,h1]at this;rw[<- Option.some.inj this];exact hs
theorem Tr.refs_put{a:Nat}(x:Nd)(ha:a<=T.N.length)(hlt:a<65536)(k:BitVec 16)(hz:(T.node (BitVec.ofNat 16 a)).ents=[]):(T.put a x).refs k=T.refs k+eP k x.ents:=by
 have e:(BitVec.ofNat 16 a).toNat=a:=by rw[BitVec.toNat_ofNat,Nat.mod_eq_of_lt (by omega)]
 unfold Tr.put Tr.refs
 by_cases h:a<T.N.length
 ·rw[if_pos h]
  have h1:=Tr.node_get' (T:=T) (n:=BitVec.ofNat 16 a) (by rw[e];exact h)
  rw[e]at h1;have:=rV (λx=>eP k x.ents) (λ_=>x) T.N a _ h1
  have hm:T.N.modify a (λ_=>x)=T.N.set a x:=by
   apply List.ext_getElem?;intro i;rw[List.getElem?_modify,List.getElem?_set]
   by_cases hi:a=i
   ·subst hi;simp[h]
   ·simp[hi]
  rw[hm,hz]at this
  simpa[eP] using this
 ·rw[if_neg h]
  simp
end
end
section
def Tr.rootIn(T:Tr):Nat->BitVec 16->Prop
 | 0,n=>n=1#16
 | f+1,n=>n=1#16\/((T.node n).kind=2#8/\T.rootIn f (T.node n).parent)
structure Tr.WF(T:Tr):Prop where
 lim:1<=T.limit/\T.limit<=256
 len:2<=T.N.length/\(T.N.length:Int)<=T.limit+1
 n0:(T.node 0#16).kind=0#8
 zero:∀ n,(T.node n).kind=0#8->T.node n=Nd.none
 root:(T.node 1#16).kind=2#8/\(T.node 1#16).parent=1#16/\(T.node 1#16).links=1
 ents:∀ n s k,(s,k)∈(T.node n).ents->(T.node n).kind=2#8/\(T.node n).links≠0/\cP s=true/\(T.node k).kind≠0#8/\k≠1#16/\((T.node k).kind=2#8->(T.node k).parent=n)
 rising:∀ n,lE (T.node n).ents
 size:∀ n,(T.node n).ents.length<=32
 links:∀ n,n≠1#16->(T.node n).kind≠0#8->(T.node n).links=T.refs n
 dirs:∀ n,(T.node n).kind=2#8->T.refs n<=1
 held:∀ n,0<=(T.node n).held
 depth:∀ n,(T.node n).kind=2#8->(T.node n).links≠0->T.rootIn 16 n
 data:∀ n,(T.node n).data.length<=1024
section
variable {T T':Tr}{n k:BitVec 16}
theorem Tr.rootIn_mono:∀ {f:Nat} {n:BitVec 16},T.rootIn f n->∀ {g},f<=g->T.rootIn g n
 | 0,n,h,0,_=>h
 | 0,n,h,g+1,_ => .inl h
 | f+1,n,h,0,hg=>by omega
 | f+1,n,h,g+1,hg=>h.imp id λh=>⟨h.1,Tr.rootIn_mono h.2 (by omega)⟩
theorem Tr.deepF_root:∀ {f:Nat} {n:BitVec 16},T.rootIn f n->∀ {g},f<=g->T.deepF g n=T.deepF f n
 | 0,n,h,0,_=>rfl
 | 0,n,h,g+1,_=>by
  have:n=1#16:=h;simp[Tr.deepF,this]
 | f+1,n,h,0,hg=>by omega
 | f+1,n,h,g+1,hg=>by
  simp only[Tr.deepF]
  split
  ·rfl
  ·rename_i hn
   rcases h with h | h
   ·exact(hn h).elim
   ·rw[Tr.deepF_root h.2 (g:=g) (by omega)]
theorem Tr.rootIn_deep:∀ {f:Nat} {n:BitVec 16},T.rootIn f n->T.rootIn (T.deepF f n) n
 | 0,n,h=>h
 | f+1,n,h=>by
  simp only[Tr.deepF]
  split
  ·assumption
  ·rename_i hn
   rcases h with h | h
   ·exact(hn h).elim
   ·exact .inr ⟨h.1,Tr.rootIn_deep h.2⟩
theorem Tr.deepF_le'(T:Tr):∀ (f:Nat) (n:BitVec 16),T.deepF f n<=f
 | 0,_=>Nat.le_refl _
 | f+1,n=>by
  have:=Tr.deepF_le' T f (T.node n).parent;simp only[Tr.deepF]
  split<;>omega
theorem Tr.rootIn_chain(hr:(T.node 1#16).kind≠0#8):∀ {f:Nat} {n:BitVec 16},T.rootIn f n->∀ g,T.chainOk g n
 | _,_,_,0=>trivial
 | 0,n,h,g+1 => .inl h
 | f+1,n,h,g+1=>h.imp id λh=>⟨by rw[h.1];decide,Tr.rootIn_chain hr h.2 g⟩
theorem Tr.withinF_root(hk:(T.node 1#16).kind=2#8)(hp:(T.node 1#16).parent=1#16)(o:BitVec 16):∀ {f:Nat} {n:BitVec 16},T.rootIn f n->∀ {g},f<g->T.withinF o g n=T.withinF o (f+1) n
 | _,_,_,0,hg=>by omega
 | 0,n,h,g+1,_=>by
  have:n=1#16:=h;subst this;simp[Tr.withinF,hk,hp]
 | f+1,n,h,g+1,hg=>by
  by_cases h1:n=1#16
  ·subst h1
   simp[Tr.withinF,hk,hp]
  ·rcases h with h | h
   ·exact(h1 h).elim
   ·simp only[Tr.withinF]
    split
    ·rfl
    ·split
     ·rfl
     ·split
      ·rfl
      ·have:=Tr.withinF_root hk hp o h.2 (g:=g) (by omega)
       simpa only[Tr.withinF] using this
theorem Tr.rootIn_of(P:BitVec 16->Prop)(hP:∀ m,P m->m≠1#16->(T'.node m).kind=2#8/\(T'.node m).parent=(T.node m).parent/\P (T.node m).parent):∀ {f:Nat} {m:BitVec 16},P m->T.rootIn f m->T'.rootIn f m
 | 0,m,_,h=>h
 | f+1,m,hm,h=>by
  by_cases h1:m=1#16
  ·exact .inl h1
  ·rcases h with h | h
   ·exact .inl h
   ·obtain⟨q1,q2,q3⟩:=hP m hm h1
    refine .inr ⟨q1,?_⟩;rw[q2];exact Tr.rootIn_of P hP q3 h.2
theorem Tr.WF.len16(h:T.WF):T.N.length<=257:=by have:=h.lim;have:=h.len;omega
def Tr.Live(T:Tr)(n:BitVec 16):Prop:=(T.node n).kind=2#8/\(T.node n).links≠0
theorem Tr.WF.above(h:T.WF)(hn:T.Live n)(h1:n≠1#16):T.Live (T.node n).parent/\∃ s,(s,n)∈(T.node (T.node n).parent).ents:=by
 have hl:=h.links n h1 (by rw[hn.1];decide)
 obtain⟨p,s,hs⟩:=Tr.refs_pos (T:=T) (k:=n) (by have:=h.len16;omega) (by have:=hn.2;omega)
 obtain⟨e1,e2,e3,e4,e5,e6⟩:=h.ents p s n hs;rw[e6 hn.1];exact⟨⟨e1,e2⟩,s,hs⟩
theorem Tr.WF.live_of(h:T.WF){s:aK}(hs:(s,k)∈(T.node n).ents)(hk:(T.node k).kind=2#8):T.Live k:=by
 obtain⟨e1,e2,e3,e4,e5,e6⟩:=h.ents n s k hs;refine⟨hk,?_⟩;rw[h.links k e5 e4];have:=Tr.refs_one hs;omega
theorem Tr.WF.deep_le(h:T.WF)(hn:T.Live n):T.deep n<=16:=by
 unfold Tr.deep;rw[Tr.deepF_root (h.depth n hn.1 hn.2) (g:=17) (by omega)]
 exact Tr.deepF_le' T 16 n
theorem Tr.WF.deep20(h:T.WF)(hn:T.Live n):T.deepF 20 n=T.deep n:=by
 unfold Tr.deep;rw[Tr.deepF_root (h.depth n hn.1 hn.2) (g:=20) (by omega),Tr.deepF_root (h.depth n hn.1 hn.2) (g:=17) (by omega)]
theorem Tr.WF.within20(h:T.WF)(hn:T.Live n)(o:BitVec 16):T.withinF o 20 n=T.within o n:=by
 unfold Tr.within;rw[Tr.withinF_root h.root.1 h.root.2.1 o (h.depth n hn.1 hn.2) (g:=20) (by omega),Tr.withinF_root h.root.1 h.root.2.1 o (h.depth n hn.1 hn.2) (g:=18) (by omega)]
theorem Tr.WF.chain(h:T.WF)(hn:T.Live n)(g:Nat):T.chainOk g n:=Tr.rootIn_chain (by rw[h.root.1];decide) (h.depth n hn.1 hn.2) g
theorem Tr.WF.deep_succ(h:T.WF)(hn:T.Live n)(h1:n≠1#16):T.deep n=T.deep (T.node n).parent+1:=by
 have hp:=(h.above hn h1).1;unfold Tr.deep;rw[Tr.deepF_root (h.depth _ hp.1 hp.2) (g:=17) (by omega)]
 simp only[Tr.deepF,if_neg h1]
theorem Tr.WF.fits(h:T.WF):∀ (f:Nat) (n:BitVec 16),T.Live n->17<=f+T.deep n->T.fitsF f n
 | 0,n,hn,hf=>by have:=h.deep_le hn;omega
 | f+1,n,hn,hf=>by
  refine⟨hn.1,λe he =>?_⟩;obtain⟨e1,e2,e3,e4,e5,e6⟩:=h.ents n e.1 e.2 he;refine⟨e4,λhk =>?_⟩;have hl:=h.live_of he hk;refine Tr.WF.fits h f e.2 hl ?_;have:=h.deep_succ hl e5;rw[e6 hk]at this;omega
theorem Tr.WF.fits17(h:T.WF)(hn:T.Live n):T.fitsF 17 n:=h.fits 17 n hn (by omega)
theorem Tr.refs_le(h:∀ n,(T.node n).ents.length<=32)(hl:T.N.length<=257):T.refs k<=8224:=by
 have:∀ (N:List Nd),(∀ x∈N,x.ents.length<=32)->(N.map λx=>eP k x.ents).sum<=32*N.length:=by
  intro N
  induction N with
  | nil=>intro _;simp
  | cons y N ih =>
   intro hN;have:=ih λx hx=>hN x (by simp[hx])
   have h1:=hN y (by simp)
   have h2:eP k y.ents<=y.ents.length:=aAs;simp;omega
 have h2:=this T.N λx hx=>by
  obtain⟨i,hi,rfl⟩:=List.getElem_of_mem hx;have e:(BitVec.ofNat 16 i).toNat=i:=by rw[BitVec.toNat_ofNat,Nat.mod_eq_of_lt (by omega)]
  have h3:=Tr.node_get' (T:=T) (n:=BitVec.ofNat 16 i) (by rw[e];exact hi)
  rw[e,List.getElem?_eq_getElem hi]at h3;rw[Option.some.inj h3];exact h _
 unfold Tr.refs;omega
theorem Tr.WF.links_bd(h:T.WF)(n:BitVec 16):0<=(T.node n).links/\(T.node n).links<=8224:=by
 by_cases h1:n=1#16
 ·subst h1
  have:=h.root.2.2;omega
 by_cases h0:(T.node n).kind=0#8
 ·rw[h.zero n h0]
  exact⟨by decide,by decide⟩
 have:=h.links n h1 h0;have:=Tr.refs_le (k:=n) h.size h.len16;omega
theorem Tr.WF.pos(h:T.WF){s:aK}{v:BitVec 16}(hl:bX s (T.node n).ents=some v):(T.node n).kind=2#8/\(T.node n).links≠0/\cP s=true/\(T.node v).kind≠0#8/\v≠1#16/\((T.node v).kind=2#8->(T.node v).parent=n):=h.ents n s v (iP hl)
end
end
section
section
variable {T T':Tr}{n k:BitVec 16}
theorem Tr.WF.same(h:T.WF)(hN:T'.N.length=T.N.length)(hlim:T'.limit=T.limit)(hr:∀ k,T'.refs k=T.refs k)(hn:∀ k,(T'.node k).kind=(T.node k).kind/\(T'.node k).ents=(T.node k).ents/\(T'.node k).parent=(T.node k).parent/\(T'.node k).links=(T.node k).links/\(T'.node k).data.length<=1024/\0<=(T'.node k).held/\((T.node k).kind=0#8->T'.node k=T.node k)):T'.WF where
 lim:=by rw[hlim];exact h.lim
 len:=by rw[hN,hlim];exact h.len
 n0:=by rw[(hn _).1];exact h.n0
 zero:=λk hk=>by rw[(hn k).1]at hk;rw[(hn k).2.2.2.2.2.2 hk];exact h.zero k hk
 root:=by obtain⟨q1,q2,q3,q4,_⟩:=hn 1#16;rw[q1,q3,q4];exact h.root
 ents:=λm s k hk=>by
  rw[(hn m).2.1]at hk;rw[(hn m).1,(hn m).2.2.2.1,(hn k).1,(hn k).2.2.1];exact h.ents m s k hk
 rising:=λk=>by rw[(hn k).2.1];exact h.rising k
 size:=λk=>by rw[(hn k).2.1];exact h.size k
 links:=λk h1 h2=>by rw[(hn k).1]at h2;rw[(hn k).2.2.2.1,hr];exact h.links k h1 h2
 dirs:=λk h2=>by rw[(hn k).1]at h2;rw[hr];exact h.dirs k h2
 held:=λk=>(hn k).2.2.2.2.2.1
 depth:=λk h1 h2=>by
  rw[(hn k).1]at h1;rw[(hn k).2.2.2.1]at h2;exact Tr.rootIn_of T.Live (λm hm h1=>⟨by rw[(hn m).1];exact hm.1,(hn m).2.2.1,(h.above hm h1).1⟩) ⟨h1,h2⟩ (h.depth k h1 h2)
 data:=λk=>(hn k).2.2.2.2.1
theorem Tr.WF.plain(h:T.WF)(hk:(T.node n).kind≠0#8)(f:Nd->Nd)(h1:(f (T.node n)).kind=(T.node n).kind)(h2:(f (T.node n)).ents=(T.node n).ents)(h3:(f (T.node n)).parent=(T.node n).parent)(h4:(f (T.node n)).links=(T.node n).links)(h5:(f (T.node n)).data.length<=1024)(h6:0<=(f (T.node n)).held):(T.upd n f).WF:=by
 refine h.same (by simp[Tr.upd]) rfl (λk=>Tr.refs_upd_same (Tr.node_lt hk) k h2) λk =>?_
 rw[Tr.node_upd hk]
 split
 ·rename_i e
  subst e;exact⟨h1,h2,h3,h4,h5,h6,λe=>(hk e).elim⟩
 ·exact⟨rfl,rfl,rfl,rfl,h.data k,h.held k,λ_=>rfl⟩
theorem Tr.WF.bump(h:T.WF):T.bump.WF:=h.same rfl rfl (λ_=>rfl) λk=>⟨rfl,rfl,rfl,rfl,h.data k,h.held k,λ_=>rfl⟩
theorem yU(d:List (BitVec 8))(a:Nat)(b:List (BitVec 8))(h:d.length<=1024)(hb:a+b.length<=1024):(iG d a b).length<=1024:=by
 simp[iG];omega
theorem aBQ(d:List (BitVec 8))(n:Nat)(h:n<=1024):(qE d n).length<=1024:=by
 simp[qE];omega
theorem Tr.WF.write(h:T.WF)(n:BitVec 16)(at_:Int)(b:List (BitVec 8)):(T.write n at_ b).1.WF:=by
 unfold Tr.write
 repeat' split
 all_goals try exact h
 rename_i h0 _ _ h1;exact(h.plain h0 _ rfl rfl rfl rfl (yU _ _ _ (h.data n) (by omega)) (h.held n)).bump
theorem Tr.WF.cut(h:T.WF)(n:BitVec 16)(size:Int):(T.cut n size).1.WF:=by
 unfold Tr.cut
 repeat' split
 all_goals try exact h
 rename_i h0 _ _ h1;exact(h.plain h0 _ rfl rfl rfl rfl (aBQ _ _ (by omega)) (h.held n)).bump
theorem Tr.WF.no_self(h:T.WF){s:aK}:(s,n) ∉ (T.node n).ents:=by
 intro hs;obtain⟨e1,e2,e3,e4,e5,e6⟩:=h.ents n s n hs;have:=h.deep_succ ⟨e1,e2⟩ e5;rw[e6 e1]at this;omega
theorem Tr.WF.empty(h:T.WF)(hl:(T.node n).links=0):(T.node n).ents=[]:=by
 cases he:(T.node n).ents with
 | nil=>rfl
 | cons e l =>
  have:=(h.ents n e.1 e.2 (by rw[he];exact List.mem_cons_self)).2.1
  exact(this hl).elim
theorem Tr.WF.tidy(h:T.WF)(n:BitVec 16)(hk:(T.node n).kind≠0#8):(T.tidy n).WF:=by
 unfold Tr.tidy
 split
 rotate_left
 ·exact h
 rename_i hc
 have n1:n≠1#16:=by
  rintro rfl;have:=h.root.2.2;omega
 have hr0:T.refs n=0:=by have:=h.links n n1 hk;omega
 have hent:=h.empty hc.1;have hnode:=λk=>Tr.node_upd hk (λ_=>Nd.none) k;have hr:∀ k,(T.upd n λ_=>Nd.none).refs k=T.refs k:=λk=>Tr.refs_upd_same (Tr.node_lt hk) k hent.symm
 have ne:∀ m s k,(s,k)∈(T.node m).ents->k≠n/\m≠n:=by
  intro m s k hs;refine⟨λe =>?_,λe =>?_⟩
  ·have:=Tr.refs_one hs
   rw[e]at this;omega
  ·rw[e,hent]at hs;simp at hs
 refine⟨h.lim,by simpa[Tr.upd] using h.len,?_,λk hk' =>?_,?_,λm s k hs =>?_,λk =>?_,λk =>?_,λk h1 h2 =>?_,λk h2 =>?_,λk =>?_,λk h1 h2 =>?_,λk =>?_⟩
 ·rw[hnode];split
  ·rfl
  ·exact h.n0
 ·rw[hnode]at hk' ⊢
  split at hk'
  ·rename_i e
   rw[if_pos e]
  ·rename_i e
   rw[if_neg e];exact h.zero k hk'
 ·rw[hnode,if_neg (Ne.symm n1)];exact h.root
 ·rw[hnode]at hs
  split at hs
  ·simp[Nd.none]at hs
  ·obtain⟨g1,g2⟩:=ne m s k hs
   rw[hnode,if_neg g2,hnode,if_neg g1];exact h.ents m s k hs
 ·rw[hnode];split
  ·exact List.Pairwise.nil
  ·exact h.rising k
 ·rw[hnode];split
  ·exact Nat.zero_le _
  ·exact h.size k
 ·rw[hnode]at h2 ⊢
  split at h2
  ·simp[Nd.none]at h2
  ·rw[if_neg (by assumption),hr];exact h.links k h1 h2
 ·rw[hnode]at h2
  split at h2
  ·simp[Nd.none]at h2
  ·rw[hr];exact h.dirs k h2
 ·rw[hnode];split
  ·exact Int.le_refl _
  ·exact h.held k
 ·rw[hnode]at h1 h2
  split at h1
  ·simp[Nd.none]at h1
  ·rw[if_neg (by assumption)]at h2
   refine Tr.rootIn_of T.Live (λm hm hm1 =>?_) ⟨h1,h2⟩ (h.depth k h1 h2);have:m≠n:=by rintro rfl;exact hm.2 hc.1
   rw[hnode,if_neg this];exact⟨hm.1,rfl,(h.above hm hm1).1⟩
 ·rw[hnode];split
  ·exact Nat.zero_le _
  ·exact h.data k
theorem Tr.WF.hold(h:T.WF)(n:BitVec 16)(more:Bool):(T.hold n more).1.WF:=by
 unfold Tr.hold
 split
 ·exact h
 ·rename_i h0
  split
  ·exact h.plain h0 _ rfl rfl rfl rfl (h.data n) (by have:=h.held n;show 0<=(T.node n).held+1;omega)
  ·split
   ·exact h
   ·rename_i h1
    have hw:(T.upd n (Nd.addH (-1))).WF:=h.plain h0 _ rfl rfl rfl rfl (h.data n) (by have:=h.held n;show 0<=(T.node n).held + -1;omega)
    refine hw.tidy n ?_;rw[Tr.node_upd h0,if_pos rfl];exact h0
theorem Tr.WF.keep(h:T.WF)(hN:T'.N.length=T.N.length)(hlim:T'.limit=T.limit)(hk:∀ k,(T'.node k).kind=(T.node k).kind/\(T'.node k).parent=(T.node k).parent/\(T'.node k).data=(T.node k).data/\(T'.node k).held=(T.node k).held/\((T.node k).kind=0#8->T'.node k=T.node k))(hroot:(T'.node 1#16).links=1)(hents:∀ m s k,(s,k)∈(T'.node m).ents->(T.node m).kind=2#8/\(T'.node m).links≠0/\cP s=true/\(T.node k).kind≠0#8/\k≠1#16/\((T.node k).kind=2#8->(T.node k).parent=m))(hris:∀ k,lE (T'.node k).ents)(hsize:∀ k,(T'.node k).ents.length<=32)(hlinks:∀ k,k≠1#16->(T.node k).kind≠0#8->(T'.node k).links=T'.refs k)(hdirs:∀ k,(T.node k).kind=2#8->T'.refs k<=1)(hlive:∀ k,(T.node k).kind=2#8->(T'.node k).links≠0->(T.node k).links≠0):T'.WF where
 lim:=by rw[hlim];exact h.lim
 len:=by rw[hN,hlim];exact h.len
 n0:=by rw[(hk _).1];exact h.n0
 zero:=λk h0=>by rw[(hk k).1]at h0;rw[(hk k).2.2.2.2 h0];exact h.zero k h0
 root:=⟨by rw[(hk _).1];exact h.root.1,by rw[(hk _).2.1];exact h.root.2.1,hroot⟩
 ents:=λm s k hs=>by
  rw[(hk m).1,(hk k).1,(hk k).2.1];exact hents m s k hs
 rising:=hris
 size:=hsize
 links:=λk h1 h2=>by rw[(hk k).1]at h2;exact hlinks k h1 h2
 dirs:=λk h2=>by rw[(hk k).1]at h2;exact hdirs k h2
 held:=λk=>by rw[(hk k).2.2.2.1];exact h.held k
 depth:=λk h1 h2=>by
  rw[(hk k).1]at h1;have h2':=hlive k h1 h2;exact Tr.rootIn_of T.Live (λm hm hm1=>⟨by rw[(hk m).1];exact hm.1,(hk m).2.1,(h.above hm hm1).1⟩) ⟨h1,h2'⟩ (h.depth k h1 h2')
 data:=λk=>by rw[(hk k).2.2.1];exact h.data k
theorem mE(x:aK×BitVec 16)(l:List (aK×BitVec 16)):(fS x l).length=l.length+1:=by
 rw[(jT x l).length_eq];rfl
theorem Tr.WF.add(h:T.WF)(inn:BitVec 16)(s:aK)(v:BitVec 16):(T.add inn s v).1.WF:=by
 unfold Tr.add
 split
 ·exact h
 split
 ·exact h
 split
 ·exact h
 split
 ·exact h
 split
 ·exact h
 rename_i h0 h2 hr hl hb;have hr:T.room inn s=0:=by simpa using hr
 obtain⟨d1,d2,d3,d4,d5⟩:=Tr.room_ok hr;have hin:(T.node inn).kind≠0#8:=by rw[d1];decide
 have hvi:v≠inn:=by rintro rfl;exact h2 d1
 have hn1:=λk=>Tr.node_upd hin (Nd.addE s v) k;have hv1:((T.upd inn (Nd.addE s v)).node v)=T.node v:=by rw[hn1,if_neg hvi]
 have hnode:=λk=>Tr.node_upd (T:=T.upd inn (Nd.addE s v)) (n:=v) (by rw[hv1];exact h0) (Nd.addL 1) k
 rw[hv1]at hnode;simp only[hn1]at hnode
 have hrf:∀ k,((T.upd inn (Nd.addE s v)).upd v (Nd.addL 1)).refs k=T.refs k+if v=k then 1 else 0:=by
  intro k;rw[Tr.refs_upd_same (Tr.node_lt (by rw[hv1];exact h0)) k rfl]
  have:=Tr.refs_upd (Tr.node_lt hin) (Nd.addE s v) k;have e:eP k (Nd.addE s v (T.node inn)).ents=eP k (T.node inn).ents+if v=k then 1 else 0:=qF k (s,v) _;rw[e]at this;omega
 have v1:v≠1#16:=by rintro rfl;exact h2 h.root.1
 refine Tr.WF.bump (h.keep (by simp[Tr.upd]) rfl (λk =>?_) ?_ (λm s' k hs =>?_) (λk =>?_) (λk =>?_) (λk h1 h0' =>?_) (λk hk =>?_) (λk hk hl' =>?_))
 ·rw[hnode]
  split
  ·rename_i e;subst e
   exact⟨rfl,rfl,rfl,rfl,λe=>(h0 e).elim⟩
  ·split
   ·rename_i e;subst e
    exact⟨rfl,rfl,rfl,rfl,λe=>(hin e).elim⟩
   ·exact⟨rfl,rfl,rfl,rfl,λ_=>rfl⟩
 ·rw[hnode,if_neg (Ne.symm v1)]
  split
  ·rename_i e;show(T.node inn).links=1;rw[<- e];exact h.root.2.2
  ·exact h.root.2.2
 ·rw[hnode]at hs ⊢
  split at hs
  ·rename_i e;subst e
   exact(h2 (h.ents m s' k hs).1).elim
  ·rename_i e
   rw[if_neg e]
   split at hs
   ·rename_i e2;subst e2
    rw[if_pos rfl];rcases kS.1 hs with g | g
    ·simp only[Prod.mk.injEq]at g
     obtain⟨rfl,rfl⟩:=g;exact⟨d1,d3,d4,h0,v1,λe=>(h2 e).elim⟩
    ·exact h.ents m s' k g
   ·rename_i e2
    rw[if_neg e2];exact h.ents m s' k hs
 ·rw[hnode]
  split
  ·exact h.rising v
  ·split
   ·exact(h.rising inn).insert d2
   ·exact h.rising k
 ·rw[hnode]
  split
  ·exact h.size v
  ·split
   ·show(fS (s,v) (T.node inn).ents).length<=32
    rw[mE];omega
   ·exact h.size k
 ·rw[hnode,hrf]
  split
  ·rename_i e;subst e
   have:=h.links k h1 h0'
   show(T.node k).links+1=_
   rw[this];simp
  ·rename_i e
   rw[if_neg (show ¬ v=k from λx=>e x.symm)]
   split
   ·rename_i e2;subst e2;exact h.links k h1 h0'
   ·exact h.links k h1 h0'
 ·rw[hrf,if_neg (by rintro rfl;exact h2 hk)]
  exact h.dirs k hk
 ·rw[hnode,if_neg (by rintro rfl;exact h2 hk)]at hl'
  split at hl'
  ·rename_i e;subst e;exact hl'
  ·exact hl'
theorem Tr.WF.less(h:T.WF)(inn:BitVec 16)(s:aK)(v:BitVec 16)(hl:bX s (T.node inn).ents=some v)(hemp:(T.node v).kind=2#8->(T.node v).ents=[]):((T.upd inn (Nd.delE s)).upd v (Nd.addL (-1))).WF:=by
 have hm:=iP hl;obtain⟨e1,e2,e3,h0,v1,e6⟩:=h.ents inn s v hm;have hin:(T.node inn).kind≠0#8:=by rw[e1];decide
 have hvi:v≠inn:=by rintro rfl;exact h.no_self hm
 have hn1:=λk=>Tr.node_upd hin (Nd.delE s) k;have hv1:((T.upd inn (Nd.delE s)).node v)=T.node v:=by rw[hn1,if_neg hvi]
 have hnode:=λk=>Tr.node_upd (T:=T.upd inn (Nd.delE s)) (n:=v) (by rw[hv1];exact h0) (Nd.addL (-1)) k
 rw[hv1]at hnode;simp only[hn1]at hnode
 have hrf:∀ k,((T.upd inn (Nd.delE s)).upd v (Nd.addL (-1))).refs k+(if v=k then 1 else 0)=T.refs k:=by
  intro k;rw[Tr.refs_upd_same (Tr.node_lt (by rw[hv1];exact h0)) k rfl]
  have:=Tr.refs_upd (Tr.node_lt hin) (Nd.delE s) k;have e:eP k (Nd.delE s (T.node inn)).ents+(if v=k then 1 else 0)=eP k (T.node inn).ents:=xP k hl;omega
 have hsub:∀ x,x∈(Nd.delE s (T.node inn)).ents->x∈(T.node inn).ents:=λx hx=>(gT s _).subset hx;refine h.keep (by simp[Tr.upd]) rfl (λk =>?_) ?_ (λm s' k hs =>?_) (λk =>?_) (λk =>?_) (λk h1 h0' =>?_) (λk hk =>?_) (λk hk hl' =>?_)
 ·rw[hnode]
  split
  ·rename_i e;subst e
   exact⟨rfl,rfl,rfl,rfl,λe=>(h0 e).elim⟩
  ·split
   ·rename_i e;subst e
    exact⟨rfl,rfl,rfl,rfl,λe=>(hin e).elim⟩
   ·exact⟨rfl,rfl,rfl,rfl,λ_=>rfl⟩
 ·rw[hnode,if_neg (Ne.symm v1)]
  split
  ·rename_i e;show(T.node inn).links=1;rw[<- e];exact h.root.2.2
  ·exact h.root.2.2
 ·rw[hnode]at hs ⊢
  split at hs
  ·rename_i e;subst e
   have hs':(s',k)∈(T.node m).ents:=hs;rw[hemp (h.ents m s' k hs').1]at hs';simp at hs'
  ·rename_i e
   rw[if_neg e]
   split at hs
   ·rename_i e2;subst e2
    rw[if_pos rfl];exact h.ents m s' k (hsub _ hs)
   ·rename_i e2
    rw[if_neg e2];exact h.ents m s' k hs
 ·rw[hnode]
  split
  ·exact h.rising v
  ·split
   ·exact(h.rising inn).del
   ·exact h.rising k
 ·rw[hnode]
  split
  ·exact h.size v
  ·split
   ·exact Nat.le_trans (gT s _).length_le (h.size inn)
   ·exact h.size k
 ·have:=hrf k
  have hk:=h.links k h1 h0';rw[hnode]
  split
  ·rename_i e;subst e
   show(T.node k).links + -1=_
   simp at this;omega
  ·rename_i e
   rw[if_neg (show ¬ v=k from λx=>e x.symm)]at this
   split
   ·rename_i e2;subst e2
    show(T.node k).links=_
    omega
   ·omega
 ·have:=hrf k
  have:=h.dirs k hk;omega
 ·rw[hnode]at hl'
  split at hl'
  ·rename_i e;subst e
   intro hz;have:=h.links k v1 h0;have:=Tr.refs_one hm;omega
  ·split at hl'
   ·rename_i e;subst e;exact hl'
   ·exact hl'
theorem Tr.WF.drop(h:T.WF)(inn:BitVec 16)(s:aK)(d:Bool):(T.drop inn s d).1.WF:=by
 unfold Tr.drop
 split
 ·exact h
 split
 ·exact h
 split
 ·exact h
 split
 ·exact h
 rename_i c1 c2 c3 c4;have c1:(T.look inn s).2=0:=by simpa using c1
 obtain⟨g1,g2⟩:=Tr.look_ok c1;generalize (T.look inn s).1=v at *;obtain⟨e1,e2,e3,h0,v1,e6⟩:=h.pos g2
 have hw:=(h.less inn s v g2 (λhk=>by
  cases d with
  | true =>
   have:¬ 0<(T.node v).ents.length:=λx=>c4 ⟨rfl,x⟩;exact List.eq_nil_of_length_eq_zero (by omega)
  | false=>exact(c3 ⟨rfl,hk⟩).elim)).bump
 refine hw.tidy v ?_;have hin:(T.node inn).kind≠0#8:=by rw[e1];decide
 have hvi:v≠inn:=by rintro rfl;exact h.no_self (iP g2)
 have hv1:((T.upd inn (Nd.delE s)).node v)=T.node v:=by rw[Tr.node_upd hin,if_neg hvi]
 rw[Tr.bump_node,Tr.node_upd (by rw[hv1];exact h0),if_pos rfl,hv1]
 exact h0
end
end
section
theorem xU:∀ (l:List Nd),nK l=l.length->l.countP (λx=>decide (x.kind≠0#8))=l.length
 | [],_=>rfl
 | x :: l,h=>by
  simp only[nK]at h
  split at h
  ·simp at h
  ·rename_i hx
   have:=xU l (by simp at h;omega)
   rw[List.countP_cons,this];simp[hx]
section
variable {T T':Tr}{n k:BitVec 16}
theorem Tr.new_wf(limit:Int):(Tr.new limit).WF:=by
 have hnode:∀ n:BitVec 16,(Tr.new limit).node n=if n=1#16 then { Nd.none with kind:=2#8,parent:=1#16,links:=1 } else Nd.none:=by
  intro n;unfold Tr.new Tr.node
  by_cases h:n=1#16
  ·subst h;rfl
  ·rw[if_neg h]
   by_cases h0:n=0#16
   ·subst h0;rfl
   ·have:2<=n.toNat:=by
     have h1:n.toNat≠0:=λe=>h0 (BitVec.eq_of_toNat_eq (by simpa using e))
     have h2:n.toNat≠1:=λe=>h (BitVec.eq_of_toNat_eq (by simpa using e))
     omega
    simp only[List.getD_eq_getElem?_getD];rw[List.getElem?_eq_none (by simpa using this)]
    rfl
 have hent:∀ n,((Tr.new limit).node n).ents=[]:=by
  intro n;rw[hnode];split<;>rfl
 have hr:∀ k,(Tr.new limit).refs k=0:=λk=>rfl;refine⟨⟨?_,?_⟩,⟨Nat.le_refl 2,?_⟩,by rw[hnode];rfl,λn h =>?_,by rw[hnode];exact⟨rfl,rfl,rfl⟩,λm s k h =>?_,λn =>?_,λn =>?_,λn h1 h2 =>?_,λn _ =>?_,λn =>?_,λn h1 h2 =>?_,λn =>?_⟩
 ·show 1<=min (max limit 1) 256;omega
 ·show min (max limit 1) 256<=256;omega
 ·show((2:Nat):Int)<=min (max limit 1) 256+1;omega
 ·rw[hnode]at h ⊢
  split at h
  ·simp at h
  ·rename_i e;rw[if_neg e]
 ·rw[hent]at h;simp at h
 ·rw[hent];exact List.Pairwise.nil
 ·rw[hent];exact Nat.zero_le _
 ·rw[hnode,if_neg h1]at h2
  exact(h2 rfl).elim
 ·rw[hr];exact Nat.zero_le _
 ·rw[hnode];split<;>exact Int.le_refl _
 ·rw[hnode]at h1
  split at h1
  ·rename_i e;exact .inl e
  ·simp[Nd.none]at h1
 ·rw[hnode];split<;>exact Nat.zero_le _
theorem Tr.WF.make(h:T.WF)(inn:BitVec 16)(s:aK)(kd:BitVec 8)(text:List UInt8):(T.make inn s kd text).1.WF:=by
 unfold Tr.make
 split
 ·exact h
 split
 ·exact h
 split
 ·exact h
 rename_i hr hkd hlim;have hr:T.room inn s=0:=by simpa using hr
 obtain⟨d1,d2,d3,d4,d5⟩:=Tr.room_ok hr;have hl16:=h.len16;have hfree:=Tr.free_ok (T:=T) (by have:=h.len.1;omega) (by omega)
 have hk0:kd≠0#8:=λe=>hkd (.inl e);have hlim1:¬ T.limit<=T.len:=λe=>hlim (.inl e)
 have hlim2:kd=2#8->T.deep inn<16:=λe=>by
  have:¬ 16<=T.deep inn:=λx=>hlim (.inr ⟨e,x⟩);omega
 obtain⟨A,hA⟩:∃ A,A=BitVec.ofNat 16 T.free:=⟨_,rfl⟩;rw[<- hA];have hA0:(T.node A).kind=0#8:=by rw[hA];exact hfree.zero
 have hAn:=h.zero A hA0;have hin:(T.node inn).kind≠0#8:=by rw[d1];decide
 have hAi:A≠inn:=by rintro rfl;exact hin hA0
 have hA1:A≠1#16:=by rintro rfl;rw[h.root.1]at hA0;simp at hA0
 have hAz:A≠0#16:=by
  intro e;have h1:A.toNat=T.free:=by rw[hA,BitVec.toNat_ofNat,Nat.mod_eq_of_lt (by have:=hfree.lt;omega)]
  have:=hfree.pos;rw[e]at h1;simp at h1;omega
 have hput:∀ m,(T.put T.free (Nd.made inn kd text)).node m=if m=A then Nd.made inn kd text else T.node m:=λm=>by rw[Tr.node_put hfree.le hfree.lt,hA]
 have hpi:(T.put T.free (Nd.made inn kd text)).node inn=T.node inn:=by rw[hput,if_neg (Ne.symm hAi)]
 have hnode:=λm=>Tr.node_upd (T:=T.put T.free (Nd.made inn kd text)) (n:=inn) (by rw[hpi];exact hin) (Nd.addE s A) m
 rw[hpi]at hnode;simp only[hput]at hnode
 have hrA:T.refs A=0:=by
  refine Classical.byContradiction λhc =>?_;obtain⟨p,s',hs⟩:=Tr.refs_pos (T:=T) (k:=A) (by omega) (by omega)
  exact(h.ents p s' A hs).2.2.2.1 hA0
 have hrf:∀ m,((T.put T.free (Nd.made inn kd text)).upd inn (Nd.addE s A)).refs m=T.refs m+if A=m then 1 else 0:=by
  intro m;have h1:=Tr.refs_upd (T:=T.put T.free (Nd.made inn kd text)) (n:=inn) (Tr.node_lt (by rw[hpi];exact hin)) (Nd.addE s A) m
  have h2:=Tr.refs_put (T:=T) (Nd.made inn kd text) hfree.le hfree.lt m (by rw[<- hA,hAn];rfl)
  rw[hpi,h2]at h1;have e:eP m (Nd.addE s A (T.node inn)).ents=eP m (T.node inn).ents+if A=m then 1 else 0:=qF m (s,A) _;have e2:eP m (Nd.made inn kd text).ents=0:=rfl;rw[e,e2]at h1;omega
 have hkp:∀ m,m≠A->∀ y,y=((T.put T.free (Nd.made inn kd text)).upd inn (Nd.addE s A)).node m->y.kind=(T.node m).kind/\y.parent=(T.node m).parent/\y.links=(T.node m).links/\y.held=(T.node m).held/\y.data=(T.node m).data:=by
  rintro m hm y rfl;rw[hnode,if_neg hm]
  split
  ·rename_i e;subst e;exact⟨rfl,rfl,rfl,rfl,rfl⟩
  ·exact⟨rfl,rfl,rfl,rfl,rfl⟩
 have hnA:((T.put T.free (Nd.made inn kd text)).upd inn (Nd.addE s A)).node A=Nd.made inn kd text:=by rw[hnode,if_neg hAi,if_pos rfl]
 have tr:∀ {f m},T.Live m->T.rootIn f m->((T.put T.free (Nd.made inn kd text)).upd inn (Nd.addE s A)).rootIn f m:=by
  intro f m;refine Tr.rootIn_of T.Live λm hm hm1 =>?_;have hmA:m≠A:=by rintro rfl;have:=hm.1;rw[hA0]at this;simp at this
  obtain⟨q1,q2,_⟩:=hkp m hmA _ rfl;exact⟨by rw[q1];exact hm.1,q2,(h.above hm hm1).1⟩
 refine Tr.WF.bump ⟨h.lim,⟨?_,?_⟩,?_,λm hk =>?_,?_,λm s' k hs =>?_,λk =>?_,λk =>?_,λk h1 h2 =>?_,λk h2 =>?_,λk =>?_,λk h1 h2 =>?_,λk =>?_⟩
 ·have:=h.len.1
  simp only[Tr.upd,Tr.put,List.length_modify]
  split<;>simp<;>omega
 ·have:=h.len.2
  show(((T.put T.free (Nd.made inn kd text)).upd inn (Nd.addE s A)).N.length:Int)<=T.limit+1
  simp only[Tr.upd,Tr.put,List.length_modify]
  split
  ·rw[List.length_set];exact this
  ·rename_i hge
   have hfull:nK (T.N.drop 1)=(T.N.drop 1).length:=by
    have h1:=xE (T.N.drop 1);have h2:T.free=nK (T.N.drop 1)+1:=rfl;rw[List.length_drop]at h1 ⊢;omega
   have hc:=xU _ hfull
   have hle:(T.N.drop 1).countP (λx=>decide (x.kind≠0#8))<=T.len:=by
    unfold Tr.len;exact(List.drop_sublist 1 T.N).countP_le
   rw[hc,List.length_drop]at hle;rw[List.length_append,List.length_singleton];omega
 ·rw[(hkp _ (Ne.symm hAz) _ rfl).1];exact h.n0
 ·rw[hnode]at hk ⊢
  split at hk
  ·exact(hin hk).elim
  ·rename_i e
   rw[if_neg e]
   split at hk
   ·exact(hk0 hk).elim
   ·rename_i e2
    rw[if_neg e2];exact h.zero m hk
 ·obtain⟨q1,q2,q3,_⟩:=hkp 1#16 (Ne.symm hA1) _ rfl
  rw[q1,q2,q3];exact h.root
 ·have old:∀ m,m≠A->(s',k)∈(T.node m).ents->(((T.put T.free (Nd.made inn kd text)).upd inn (Nd.addE s A)).node m).kind=2#8/\(((T.put T.free (Nd.made inn kd text)).upd inn (Nd.addE s A)).node m).links≠0/\cP s'=true/\(((T.put T.free (Nd.made inn kd text)).upd inn (Nd.addE s A)).node k).kind≠0#8/\k≠1#16/\((((T.put T.free (Nd.made inn kd text)).upd inn (Nd.addE s A)).node k).kind=2#8->(((T.put T.free (Nd.made inn kd text)).upd inn (Nd.addE s A)).node k).parent=m):=by
   intro m hm hs;have he:=h.ents m s' k hs;have hkA:k≠A:=by rintro rfl;exact he.2.2.2.1 hA0
   obtain⟨q1,q2,q3,_⟩:=hkp m hm _ rfl;obtain⟨p1,p2,p3,_⟩:=hkp k hkA _ rfl;rw[q1,q3,p1,p2];exact he
  by_cases hmA:m=A
  ·subst hmA
   rw[hnA]at hs;simp[Nd.made]at hs
  ·by_cases hmi:m=inn
   ·subst hmi
    rw[hnode,if_pos rfl]at hs;rcases kS.1 hs with g | g
    ·simp only[Prod.mk.injEq]at g
     obtain⟨rfl,rfl⟩:=g;obtain⟨q1,q2,q3,_⟩:=hkp m hmA _ rfl;rw[q1,q3,hnA];exact⟨d1,d3,d4,hk0,hA1,λe=>by have e:kd=2#8:=e;show(if kd=2#8 then m else 0#16)=m;rw[if_pos e]⟩
    ·exact old m hmA g
   ·rw[hnode,if_neg hmi,if_neg hmA]at hs
    exact old m hmA hs
 ·rw[hnode]
  split
  ·exact(h.rising inn).insert d2
  ·split
   ·exact List.Pairwise.nil
   ·exact h.rising k
 ·rw[hnode]
  split
  ·show(fS (s,A) (T.node inn).ents).length<=32
   rw[mE];omega
  ·split
   ·exact Nat.zero_le _
   ·exact h.size k
 ·rw[hrf]
  by_cases e:k=A
  ·subst e
   rw[hnA,hrA,if_pos rfl];rfl
  ·obtain⟨q1,q2,q3,_⟩:=hkp k e _ rfl
   rw[q1]at h2;rw[q3,if_neg (Ne.symm e)];exact h.links k h1 h2
 ·rw[hrf]
  by_cases e:k=A
  ·subst e
   rw[hrA,if_pos rfl];exact Nat.le_refl _
  ·rw[(hkp k e _ rfl).1]at h2
   rw[if_neg (Ne.symm e)];exact h.dirs k h2
 ·by_cases e:k=A
  ·subst e
   rw[hnA];exact Int.le_refl _
  ·rw[(hkp k e _ rfl).2.2.2.1];exact h.held k
 ·by_cases e:k=A
  ·subst e
   rw[hnA]at h1;have h1:kd=2#8:=h1;have hli:T.Live inn:=⟨d1,d3⟩;have hdp:=hlim2 h1;unfold Tr.deep at hdp;rw[Tr.deepF_root (h.depth inn d1 d3) (g:=17) (by omega)]at hdp
   have hri:=Tr.rootIn_mono (Tr.rootIn_deep (h.depth inn d1 d3)) (g:=15) (by omega)
   refine .inr ⟨by rw[hnA];exact h1,?_⟩
   rw[hnA]
   show Tr.rootIn _ 15 (if kd=2#8 then inn else 0#16)
   rw[if_pos h1];exact tr hli hri
  ·obtain⟨q1,q2,q3,_⟩:=hkp k e _ rfl
   rw[q1]at h1;rw[q3]at h2;exact tr ⟨h1,h2⟩ (h.depth k h1 h2)
 ·by_cases e:k=A
  ·subst e
   rw[hnA];exact Nat.zero_le _
  ·rw[(hkp k e _ rfl).2.2.2.2];exact h.data k
theorem Tr.WF.make_node(h:T.WF)(inn:BitVec 16)(s:aK)(kd:BitVec 8)(text:List UInt8):(T.make inn s kd text).1=T\/((T.make inn s kd text).1.change=T.change+1/\kd≠0#8/\∃ A,A=BitVec.ofNat 16 T.free/\(T.node A).kind=0#8/\inn≠A/\∀ m,(T.make inn s kd text).1.node m=if m=inn then Nd.addE s A (T.node inn) else if m=A then Nd.made inn kd text else T.node m):=by
 unfold Tr.make
 split
 ·exact .inl rfl
 split
 ·exact .inl rfl
 split
 ·exact .inl rfl
 rename_i hr hkd hlim;refine .inr ⟨rfl,λe=>hkd (.inl e),BitVec.ofNat 16 T.free,rfl,?_⟩;have hr:T.room inn s=0:=by simpa using hr
 obtain⟨d1,d2,d3,d4,d5⟩:=Tr.room_ok hr;have hl16:=h.len16;have hfree:=Tr.free_ok (T:=T) (by have:=h.len.1;omega) (by omega)
 have hA0:=hfree.zero;have hin:(T.node inn).kind≠0#8:=by rw[d1];decide
 have hAi:inn≠BitVec.ofNat 16 T.free:=by intro e;rw[e]at hin;exact hin hA0
 have hpi:(T.put T.free (Nd.made inn kd text)).node inn=T.node inn:=by rw[Tr.node_put hfree.le hfree.lt,if_neg hAi]
 refine⟨hA0,hAi,λm =>?_⟩;rw[Tr.bump_node,Tr.node_upd (by rw[hpi];exact hin),hpi]
 split
 ·rfl
 ·rw[Tr.node_put hfree.le hfree.lt]
end
end
section
def Tr.Below(T:Tr)(n:BitVec 16):Nat->BitVec 16->Prop
 | 0,m=>m=n
 | j+1,m=>m≠1#16/\T.Below n j (T.node m).parent
section
variable {T T' T1:Tr}{n k:BitVec 16}
theorem Tr.WF.no_loop(h:T.WF){m:BitVec 16}(hm:T.Live m)(h1:m≠1#16):m≠(T.node m).parent:=by
 intro e;have:=h.deep_succ hm h1;rw[<- e]at this;omega
theorem Tr.WF.not_below(h:T.WF):∀ (f:Nat) (m:BitVec 16),T.Live m->T.rootIn f m->T.withinF n (f+1) m=false->∀ j,¬ T.Below n j m
 | f,m,hm,hr,hw,0,hb=>by
  have hb:m=n:=hb;subst hb;simp[Tr.withinF,hm.1]at hw
 | 0,m,hm,hr,hw,j+1,hb=>hb.1 hr
 | f+1,m,hm,hr,hw,j+1,hb=>by
  have hp:=h.above hm hb.1;have hl:=h.no_loop hm hb.1;have hr':=hr.resolve_left hb.1
  by_cases e:m=n
  ·subst e
   simp[Tr.withinF,hm.1]at hw
  ·rw[Tr.withinF]at hw
   simp only[hm.1,ne_eq,not_true,if_false,if_neg e,if_neg hl]at hw;exact Tr.WF.not_below h f _ hp.1 hr'.2 hw j hb.2
theorem aAe(g:aK×BitVec 16->Nat)(p:aK×BitVec 16->Prop)[DecidablePred p]:∀ (l:List (aK×BitVec 16)) (b:Nat),b<=l.foldl (λb e=>if p e then max b (g e) else b) b/\∀ e∈l,p e->g e<=l.foldl (λb e=>if p e then max b (g e) else b) b
 | [],b=>⟨Nat.le_refl _,by simp⟩
 | x :: l,b=>by
  simp only[List.foldl_cons];obtain⟨h1,h2⟩:=aAe g p l (if p x then max b (g x) else b);refine⟨Nat.le_trans ?_ h1,λe he hp =>?_⟩
  ·split<;>omega
  ·rcases List.mem_cons.1 he with rfl | he
   ·refine Nat.le_trans ?_ h1
    rw[if_pos hp];omega
   ·exact h2 e he hp
theorem Tr.WF.tall_succ(h:T.WF){m:BitVec 16}(hm:T.Live m)(h1:m≠1#16):T.tall m+1<=T.tall (T.node m).parent:=by
 obtain⟨hp,s,hs⟩:=h.above hm h1;unfold Tr.tall;have e1:=Tr.tallF_eq T 17 m (h.fits17 hm) 20 (by omega)
 have e2:=Tr.tallF_eq T 17 m (h.fits17 hm) 19 (by omega)
 rw[e1,<- e2];have:=(aAe (λe=>T.tallF 19 e.2) (λe=>(T.node e.2).kind=2#8) (T.node (T.node m).parent).ents 0).2 (s,m) hs hm.1;have e3:T.tallF 20 (T.node m).parent=((T.node (T.node m).parent).ents.foldl (λb e=>if(T.node e.2).kind=2#8 then max b (T.tallF 19 e.2) else b) 0)+1:=rfl;rw[e3];exact Nat.succ_le_succ this
theorem Tr.tall_pos(T:Tr)(m:BitVec 16):1<=T.tall m:=by
 have:T.tall m=((T.node m).ents.foldl (λb e=>if(T.node e.2).kind=2#8 then max b (T.tallF 19 e.2) else b) 0)+1:=rfl;omega
theorem Tr.WF.below_tall(h:T.WF):∀ (j:Nat) (m:BitVec 16),T.Live m->T.Below n j m->j+T.tall m<=T.tall n
 | 0,m,_,hb=>by
  have hb:m=n:=hb;subst hb;omega
 | j+1,m,hm,hb=>by
  have h1:=h.tall_succ hm hb.1;have h2:=Tr.WF.below_tall h j _ (h.above hm hb.1).1 hb.2;omega
theorem Tr.WF.moved(h:T1.WF)(fr to n:BitVec 16)(s other:aK)(hs:bX s (T1.node fr).ents=some n)(hto:T1.Live to)(ho:bX other ((T1.upd fr (Nd.delE s)).node to).ents=none)(hlen:((T1.upd fr (Nd.delE s)).node to).ents.length<32)(hok:cP other=true)(hdir:(T1.node n).kind=2#8->(∀ j,¬ T1.Below n j to)/\∀ j m,T1.Live m->T1.Below n j m->T1.deep to+j+1<=16):(Tr.moved T1 fr s to other n).WF:=by
 have hsm:=iP hs;obtain⟨f1,f2,f3,f4,f5,f6⟩:=h.ents fr s n hsm;have hf0:(T1.node fr).kind≠0#8:=by rw[f1];decide
 have ht0:(T1.node to).kind≠0#8:=by rw[hto.1];decide
 have hnt:n≠to:=by
  rintro rfl;exact(hdir hto.1).1 0 rfl
 have hV:=λk=>Tr.node_upd hf0 (Nd.delE s) k;obtain⟨V,hVd⟩:∃ V,V=T1.upd fr (Nd.delE s):=⟨_,rfl⟩;unfold Tr.moved;rw[<- hVd]at hV ho hlen ⊢
 have hVsub:∀ m x,x∈(V.node m).ents->x∈(T1.node m).ents:=by
  intro m x hx;rw[hV]at hx
  split at hx
  ·rename_i e;subst e;exact(gT s _).subset hx
  ·exact hx
 have hVk:∀ m,(V.node m).kind=(T1.node m).kind/\(V.node m).parent=(T1.node m).parent/\(V.node m).links=(T1.node m).links/\(V.node m).held=(T1.node m).held/\(V.node m).data=(T1.node m).data/\((T1.node m).kind=0#8->V.node m=T1.node m):=by
  intro m;rw[hV]
  split
  ·rename_i e;subst e;exact⟨rfl,rfl,rfl,rfl,rfl,λe=>(hf0 e).elim⟩
  ·exact⟨rfl,rfl,rfl,rfl,rfl,λ_=>rfl⟩
 have hVr:∀ m,V.refs m+(if n=m then 1 else 0)=T1.refs m:=by
  intro m;have:=Tr.refs_upd (Tr.node_lt hf0) (Nd.delE s) m;have e:eP m (Nd.delE s (T1.node fr)).ents+(if n=m then 1 else 0)=eP m (T1.node fr).ents:=xP m hs;rw[hVd];omega
 have hVt0:(V.node to).kind≠0#8:=by rw[(hVk to).1];exact ht0
 have hU:=λk=>Tr.node_upd hVt0 (Nd.addE other n) k;obtain⟨U,hUd⟩:∃ U,U=V.upd to (Nd.addE other n):=⟨_,rfl⟩;rw[<- hUd]at hU ⊢
 have hUk:∀ m,(U.node m).kind=(T1.node m).kind/\(U.node m).parent=(T1.node m).parent/\(U.node m).links=(T1.node m).links/\(U.node m).held=(T1.node m).held/\(U.node m).data=(T1.node m).data/\((T1.node m).kind=0#8->U.node m=T1.node m):=by
  intro m;rw[hU]
  split
  ·rename_i e;subst e
   obtain⟨q1,q2,q3,q4,q5,q6⟩:=hVk m;exact⟨q1,q2,q3,q4,q5,λe=>(ht0 e).elim⟩
  ·exact hVk m
 have hUr:∀ m,U.refs m=T1.refs m:=by
  intro m;have:=Tr.refs_upd (Tr.node_lt hVt0) (Nd.addE other n) m;have e:eP m (Nd.addE other n (V.node to)).ents=eP m (V.node to).ents+if n=m then 1 else 0:=qF m (other,n) _;have:=hVr m;rw[hUd];omega
 have hUN:U.N.length=T1.N.length/\U.limit=T1.limit:=by rw[hUd,hVd];simp[Tr.upd]
 obtain⟨W,hWd⟩:∃ W,W=(if(T1.node n).kind=2#8 then U.upd n (λx=>{ x with parent:=to }) else U):=⟨_,rfl⟩
 show Tr.WF (Tr.bump (if(T1.node n).kind=2#8 then U.upd n (λx=>{ x with parent:=to }) else U))
 rw[<- hWd];have hUn0:(U.node n).kind≠0#8:=by rw[(hUk n).1];exact f4
 have hW:∀ m,(W.node m).kind=(T1.node m).kind/\(W.node m).parent=(if m=n/\(T1.node n).kind=2#8 then to else(T1.node m).parent)/\(W.node m).links=(T1.node m).links/\(W.node m).held=(T1.node m).held/\(W.node m).data=(T1.node m).data/\((T1.node m).kind=0#8->W.node m=T1.node m)/\(W.node m).ents=(U.node m).ents:=by
  intro m;obtain⟨q1,q2,q3,q4,q5,q6⟩:=hUk m;rw[hWd]
  split
  ·rename_i hd
   rw[Tr.node_upd hUn0]
   split
   ·rename_i e;subst e
    exact⟨q1,by simp[hd],q3,q4,q5,λe=>(f4 e).elim,rfl⟩
   ·rename_i e
    exact⟨q1,by simp[e,q2],q3,q4,q5,q6,rfl⟩
  ·rename_i hd
   exact⟨q1,by simp[hd,q2],q3,q4,q5,q6,rfl⟩
 have hWr:∀ m,W.refs m=T1.refs m:=by
  intro m;rw[<- hUr m,hWd]
  split
  ·exact Tr.refs_upd_same (Tr.node_lt hUn0) m rfl
  ·rfl
 have hWN:W.N.length=T1.N.length/\W.limit=T1.limit:=by
  rw[hWd]
  split
  ·simpa[Tr.upd] using hUN
  ·exact hUN
 have stay:∀ {f m},T1.Live m->((T1.node n).kind=2#8->∀ j,¬ T1.Below n j m)->T1.rootIn f m->W.rootIn f m:=by
  intro f m hm hb;refine Tr.rootIn_of (λm=>T1.Live m/\((T1.node n).kind=2#8->∀ j,¬ T1.Below n j m)) (λm hm hm1 =>?_) ⟨hm,hb⟩;refine⟨by rw[(hW m).1];exact hm.1.1,?_,(h.above hm.1 hm1).1,λhd j hb=>hm.2 hd (j+1) ⟨hm1,hb⟩⟩
  rw[(hW m).2.1,if_neg];rintro⟨e,hd⟩;exact hm.2 hd 0 e
 have hdto:T1.rootIn (T1.deep to) to:=by
  have h1:=h.depth to hto.1 hto.2;unfold Tr.deep;rw[Tr.deepF_root h1 (g:=17) (by omega)]
  exact Tr.rootIn_deep h1
 have fall:(T1.node n).kind=2#8->∀ (j:Nat) (m:BitVec 16),T1.Live m->T1.Below n j m->W.rootIn (T1.deep to+j+1) m:=by
  intro hd j
  have at_n:W.rootIn (T1.deep to+1) n:=by
   refine .inr ⟨by rw[(hW n).1];exact hd,?_⟩
   rw[(hW n).2.1,if_pos ⟨rfl,hd⟩];exact stay hto (λ_=>(hdir hd).1) hdto
  induction j with
  | zero =>
   intro m hm hb;have hb:m=n:=hb;subst hb;exact at_n
  | succ j ih =>
   intro m hm hb
   by_cases e:m=n
   ·subst e
    exact Tr.rootIn_mono at_n (by omega)
   ·refine .inr ⟨by rw[(hW m).1];exact hm.1,?_⟩
    rw[(hW m).2.1,if_neg λx=>e x.1];exact ih _ (h.above hm hb.1).1 hb.2
 refine Tr.WF.bump ⟨by rw[hWN.2];exact h.lim,by rw[hWN.1,hWN.2];exact h.len,by rw[(hW _).1];exact h.n0,λm hm =>?_,?_,λm s' k hk =>?_,λm =>?_,λm =>?_,λm h1 h2 =>?_,λm h2 =>?_,λm =>?_,λm h1 h2 =>?_,λm =>?_⟩
 ·rw[(hW m).1]at hm
  rw[(hW m).2.2.2.2.2.1 hm];exact h.zero m hm
 ·obtain⟨q1,q2,q3,_⟩:=hW 1#16
  rw[q1,q2,q3,if_neg λx=>f5 x.1.symm];exact h.root
 ·rw[(hW m).2.2.2.2.2.2]at hk
  have old:(s',k)∈(V.node m).ents->(W.node m).kind=2#8/\(W.node m).links≠0/\cP s'=true/\(W.node k).kind≠0#8/\k≠1#16/\((W.node k).kind=2#8->(W.node k).parent=m):=by
   intro hv;have he:=h.ents m s' k (hVsub m _ hv);rw[(hW m).1,(hW m).2.2.1,(hW k).1,(hW k).2.1,if_neg]
   ·exact he
   ·rintro⟨e,hd⟩
    subst e;have h1:=Tr.refs_one hv;have h2:=hVr k;have h3:=h.dirs k hd;rw[if_pos rfl]at h2;omega
  rw[hU]at hk
  split at hk
  ·rename_i e;subst e
   rcases kS.1 hk with g | g
   ·simp only[Prod.mk.injEq]at g
    obtain⟨rfl,rfl⟩:=g;rw[(hW m).1,(hW m).2.2.1,(hW k).1,(hW k).2.1];exact⟨hto.1,hto.2,hok,f4,f5,λhd=>if_pos ⟨rfl,hd⟩⟩
   ·exact old g
  ·exact old hk
 ·rw[(hW m).2.2.2.2.2.2]
  have hv:∀ m,lE (V.node m).ents:=λm=>by
   rw[hV];split
   ·exact(h.rising fr).del
   ·exact h.rising m
  rw[hU];split
  ·exact(hv to).insert ho
  ·exact hv m
 ·rw[(hW m).2.2.2.2.2.2,hU];split
  ·show(fS (other,n) (V.node to).ents).length<=32
   rw[mE];omega
  ·rw[hV];split
   ·exact Nat.le_trans (gT s _).length_le (h.size fr)
   ·exact h.size m
 ·rw[(hW m).1]at h2
  rw[(hW m).2.2.1,hWr];exact h.links m h1 h2
 ·rw[(hW m).1]at h2
  rw[hWr];exact h.dirs m h2
 ·rw[(hW m).2.2.2.1];exact h.held m
 ·rw[(hW m).1]at h1
  rw[(hW m).2.2.1]at h2
  by_cases hb:(T1.node n).kind=2#8/\∃ j,T1.Below n j m
  ·obtain⟨hd,j,hb⟩:=hb
   exact Tr.rootIn_mono (fall hd j m ⟨h1,h2⟩ hb) ((hdir hd).2 j m ⟨h1,h2⟩ hb)
  ·exact stay ⟨h1,h2⟩ (λhd j hj=>hb ⟨hd,j,hj⟩) (h.depth m h1 h2)
 ·rw[(hW m).2.2.2.2.1];exact h.data m
theorem pG{s:aK}{v:BitVec 16}:∀ {l:List (aK×BitVec 16)},bX s l=some v->(fD s l).length+1=l.length
 | [],h=>by simp[bX]at h
 | e :: l,h=>by
  rw[lZ]at h
  by_cases he:s=e.1
  ·subst he
   simp[fD]
  ·rw[if_neg he]at h
   have:=pG h;have he':¬ e.1=s:=λx=>he x.symm;simp only[fD,if_neg he',List.length_cons];omega
theorem Tr.deepF_of(P:BitVec 16->Prop)(hP:∀ m,P m->m≠1#16->(T'.node m).parent=(T.node m).parent/\P (T.node m).parent):∀ (f:Nat) (m:BitVec 16),P m->T'.deepF f m=T.deepF f m
 | 0,_,_=>rfl
 | f+1,m,hm=>by
  simp only[Tr.deepF]
  split
  ·rfl
  ·rename_i h1
   obtain⟨q1,q2⟩:=hP m hm h1;rw[q1,Tr.deepF_of P hP f _ q2]
theorem Tr.tidy_self{y:BitVec 16}(hk:(T.node y).kind≠0#8)(h:((T.tidy y).node y).kind=2#8):(T.node y).kind=2#8/\((T.tidy y).node y).links=(T.node y).links:=by
 unfold Tr.tidy at h ⊢
 split
 ·rename_i hc
  rw[if_pos hc,Tr.node_upd hk,if_pos rfl]at h;simp[Nd.none]at h
 ·rename_i hc
  rw[if_neg hc]at h;exact⟨h,rfl⟩
theorem Tr.WF.drop_gone(h:T.WF){to o:BitVec 16}{other:aK}{d:Bool}(hl:T.look to other=(o,0))(h0:(T.drop to other d).2=0):¬ (T.drop to other d).1.Live o:=by
 have hw:=h.drop to other d;intro hlv;have hlk:(T.look to other).2=0:=by rw[hl]
 obtain⟨g1,g2⟩:=Tr.look_ok hlk;rw[hl]at g2;have g2:bX other (T.node to).ents=some o:=g2;have hm:(other,o)∈(T.node to).ents:=iP g2;obtain⟨e1,e2,e3,o0,o1,e6⟩:=h.ents to other o hm;have hoi:o≠to:=by rintro rfl;exact h.no_self hm
 have hin:(T.node to).kind≠0#8:=by rw[e1];decide
 have hv1:((T.upd to (Nd.delE other)).node o)=T.node o:=by rw[Tr.node_upd hin,if_neg hoi]
 have hv2:(((T.upd to (Nd.delE other)).upd o (Nd.addL (-1))).bump).node o=Nd.addL (-1) (T.node o):=by
  rw[Tr.bump_node,Tr.node_upd (by rw[hv1];exact o0),if_pos rfl,hv1]
 have hd:(T.drop to other d).1=(((T.upd to (Nd.delE other)).upd o (Nd.addL (-1))).bump).tidy o:=by
  unfold Tr.drop at h0 ⊢;rw[hl]at h0 ⊢;simp only[ne_eq,not_true,if_false]at h0 ⊢
  split
  ·rename_i c;rw[if_pos c]at h0;simp at h0
  ·split
   ·rename_i c c'; rw[if_neg c,if_pos c']at h0;simp at h0
   ·split
    ·rename_i c c' c''; rw[if_neg c,if_neg c',if_pos c'']at h0;simp at h0
    ·rfl
 rw[hd]at hlv;obtain⟨q1,q2⟩:=Tr.tidy_self (by rw[hv2];exact o0) hlv.1
 rw[hv2]at q1 q2;have hk:(T.node o).kind=2#8:=q1;have h1:=h.dirs o hk;have h2:=h.links o o1 o0;have h3:=Tr.refs_one hm;apply hlv.2;rw[q2]
 show(T.node o).links + -1=0
 omega
theorem Tr.WF.look_live(h:T.WF){fr n:BitVec 16}{s:aK}(hl:bX s (T.node fr).ents=some n)(hk:(T.node n).kind=2#8):T.Live n:=h.live_of (iP hl) hk
theorem Tr.WF.move(h:T.WF)(fr:BitVec 16)(s:aK)(to:BitVec 16)(other:aK):(T.move fr s to other).1.WF:=by
 unfold Tr.move
 split
 ·exact h
 split
 ·exact h
 split
 ·exact h
 split
 ·exact h
 split
 ·exact h
 rename_i c1 c2 c3 c4 c5;have c1:(T.look fr s).2=0:=by simpa using c1
 have c2:T.dir to=0:=by simpa using c2
 obtain⟨k1,k2⟩:=Tr.look_ok c1;have k3:=Tr.dir_zero.1 c2;generalize (T.look fr s).1=n at *;have c5:T.may n to other (bX other (T.node to).ents)=0:=by simpa using c5
 have hmo:=Tr.mayOld_of c5;unfold Tr.may at c5
 have p1:cP other=true:=by
  cases ho:cP other with
  | true=>rfl
  | false=>simp[ho]at c5
 have p2:(T.node to).links≠0:=by
  intro hz;simp[p1,hz]at c5
 have p3:(T.node n).kind=2#8->T.within n to=false:=by
  intro hd;cases hw:T.within n to with
  | false=>rfl
  | true=>simp[p1,p2,hd,hw]at c5
 have p4:(T.node n).kind=2#8->T.deep to+T.tall n<=16:=by
  intro hd;refine Classical.byContradiction λhc =>?_;have hc:16<T.deep to+T.tall n:=by omega
  simp[p1,p2,hd,p3 hd,hc]at c5
 have hto:T.Live to:=⟨k3,p2⟩;have fr0:(T.node fr).kind≠0#8:=by rw[k1];decide
 have hnb:(T.node n).kind=2#8->∀ j,¬ T.Below n j to:=by
  intro hd;refine h.not_below 16 to hto (h.depth to k3 p2) ?_;have:=p3 hd;unfold Tr.within at this
  rwa [Tr.withinF_root h.root.1 h.root.2.1 n (h.depth to k3 p2) (g:=18) (by omega)]at this
 have hbt:(T.node n).kind=2#8->∀ j m,T.Live m->T.Below n j m->T.deep to+j+1<=16:=by
  intro hd j m hm hb;have h1:=h.below_tall j m hm hb;have h2:=Tr.tall_pos T m;have h3:=p4 hd;omega
 cases ho:bX other (T.node to).ents with
 | none =>
  simp only[Option.isSome_none,Bool.false_eq_true,if_false];have hV:=Tr.node_upd fr0 (Nd.delE s) to;refine h.moved fr to n s other k2 hto ?_ ?_ p1 λhd=>⟨hnb hd,hbt hd⟩
  ·rw[hV];split
   ·rename_i e
    show bX other (fD s (T.node fr).ents)=none
    rw[fP _ _ (h.rising fr).nodup,<- e,ho]
    split<;>rfl
   ·exact ho
  ·rw[hV];split
   ·have:=pG k2
    have:=h.size fr
    show(fD s (T.node fr).ents).length<32
    omega
   ·rename_i e
    refine Classical.byContradiction λhc=>c4 ⟨ho,λx=>e x.symm,by omega⟩
 | some o =>
  simp only[Option.isSome_some,if_true];rw[ho]at hmo c3;have hon:o≠n:=λe=>c3 (by rw[e])
  obtain⟨e1,e2,e3,o0,o1,e6⟩:=h.pos ho;obtain⟨g1,g2⟩:=Tr.drop_ok k3 ho hmo o0
  have hlk:T.look to other=(o,0):=by
   unfold Tr.look;simp[c2,ho]
  have hgone:=h.drop_gone (d:=decide ((T.node n).kind=2#8)) hlk g1;have h1:=h.drop to other (decide ((T.node n).kind=2#8));generalize (T.drop to other (decide ((T.node n).kind=2#8))).1=T1 at *;have hm:=hmo;unfold Tr.mayOld at hm
  have of:fr≠o:=by
   rintro rfl
   have hpos:0<(T.node fr).ents.length:=by
    cases he:(T.node fr).ents with
    | nil=>rw[he]at k2;simp[bX]at k2
    | cons a b=>simp
   simp only[k1]at hm
   by_cases d1:(T.node n).kind=2#8
   ·simp[d1,hpos]at hm
   ·simp[d1]at hm
  have ot:to≠o:=λe=>h.no_self (n:=to) (s:=other) (by have:=iP ho;rwa [<- e]at this)
  have hsame:∀ m,m≠o->(T1.node m).kind=(T.node m).kind/\(T1.node m).parent=(T.node m).parent/\(T1.node m).links=(T.node m).links:=by
   intro m hmo;rw[g2 m hmo]
   split
   ·rename_i e;subst e;exact⟨rfl,rfl,rfl⟩
   ·exact⟨rfl,rfl,rfl⟩
  have hlive:∀ m,T1.Live m->m≠o/\T.Live m:=by
   intro m hlv;have hmo:m≠o:=λe=>hgone (by rw[<- e];exact hlv)
   obtain⟨q1,q2,q3⟩:=hsame m hmo;exact⟨hmo,by rw[<- q1];exact hlv.1,by rw[<- q3];exact hlv.2⟩
  have hbel:∀ j m,T1.Live m->T1.Below n j m->T.Below n j m:=by
   intro j
   induction j with
   | zero=>intro m _ hb;exact hb
   | succ j ih =>
    intro m hm hb;refine⟨hb.1,?_⟩;rw[<- (hsame m (hlive m hm).1).2.1];exact ih _ (h1.above hm hb.1).1 hb.2
  have hto1:T1.Live to:=by
   obtain⟨q1,q2,q3⟩:=hsame to ot;exact⟨by rw[q1];exact k3,by rw[q3];exact p2⟩
  have hdp:T1.deep to=T.deep to:=by
   unfold Tr.deep;refine(Tr.deepF_of T1.Live (λm hm hm1 =>?_) 17 to hto1).symm;exact⟨((hsame m (hlive m hm).1).2.1).symm,(h1.above hm hm1).1⟩
  have hso:fr=to->s≠other:=by
   rintro e rfl;rw[e,ho]at k2;exact hon (Option.some.inj k2)
  have hfr1:bX s (T1.node fr).ents=some n:=by
   rw[g2 fr of]
   split
   ·rename_i e
    show bX s (fD other (T.node to).ents)=some n
    rw[fP _ _ (h.rising to).nodup,if_neg (hso e),<- e,k2]
   ·exact k2
  have fr10:(T1.node fr).kind≠0#8:=by rw[(hsame fr of).1];exact fr0
  have hV:=Tr.node_upd fr10 (Nd.delE s) to;have hent:(T1.node to).ents=fD other (T.node to).ents:=by rw[g2 to ot,if_pos rfl];rfl
  have hdl:=pG ho;have hsz:=h.size to;refine h1.moved fr to n s other hfr1 hto1 ?_ ?_ p1 λhd =>?_
  ·rw[hV];split
   ·rename_i e
    show bX other (fD s (T1.node fr).ents)=none
    rw[fP _ _ (h1.rising fr).nodup,<- e,hent,fP _ _ (h.rising to).nodup];simp
   ·rw[hent,fP _ _ (h.rising to).nodup,if_pos rfl]
  ·rw[hV];split
   ·rename_i e
    have:=(gT s (T1.node fr).ents).length_le;rw[<- e,hent]at this
    show(fD s (T1.node fr).ents).length<32
    rw[<- e,hent];omega
   ·rw[hent];omega
  ·rw[(hsame n (Ne.symm hon)).1]at hd
   rw[hdp];exact⟨λj hb=>hnb hd j (hbel j to hto1 hb),λj m hm hb=>hbt hd j m (hlive m hm).2 (hbel j m hm hb)⟩
end
end
section
section
variable {T T':Tr}{n k:BitVec 16}{B:Int}
def Tr.HB(T:Tr)(B:Int):Prop:=∀ n,(T.node n).held<=B
theorem Tr.upd_or(T:Tr)(n k:BitVec 16)(f:Nd->Nd):(T.upd n f).node k=T.node k\/(T.upd n f).node k=f (T.node k):=by
 unfold Tr.upd Tr.node;simp only[List.getD_eq_getElem?_getD,List.getElem?_modify];cases h:T.N[k.toNat]? with
 | none=>exact .inl rfl
 | some x =>
  by_cases e:n.toNat=k.toNat
  ·right;simp[e]
  ·left;simp[e]
theorem Tr.HB.upd(h:T.HB B)(f:Nd->Nd)(hf:∀ x:Nd,x.held<=B->(f x).held<=B):(T.upd n f).HB B:=by
 intro k;rcases T.upd_or n k f with e | e
 ·rw[e];exact h k
 ·rw[e];exact hf _ (h k)
theorem Tr.HB.bump(h:T.HB B):T.bump.HB B:=h
theorem Tr.HB.tidy(h:T.HB B)(hB:0<=B):(T.tidy n).HB B:=by
 unfold Tr.tidy
 split
 ·exact h.upd _ λ_ _=>hB
 ·exact h
theorem Tr.HB.put(h:T.HB B)(hB:0<=B)(a:Nat)(x:Nd)(hx:x.held<=B):(T.put a x).HB B:=by
 intro k;unfold Tr.put Tr.node;simp only[List.getD_eq_getElem?_getD];have hk:=h k;unfold Tr.node at hk;simp only[List.getD_eq_getElem?_getD]at hk
 split
 ·rw[List.getElem?_set]
  split
  ·exact hx
  ·exact hk
 ·rw[List.getElem?_append]
  split
  ·exact hk
  ·cases hz:([x][k.toNat - T.N.length]? : Option Nd) with
   | none=>exact hB
   | some z =>
    have:=List.mem_of_getElem? hz;simp at this;subst this;exact hx
theorem Tr.HB.make(h:T.HB B)(hB:0<=B)(inn:BitVec 16)(s:aK)(kd:BitVec 8)(text:List UInt8):(T.make inn s kd text).1.HB B:=by
 unfold Tr.make
 repeat' split
 all_goals try exact h
 exact((h.put hB T.free (Nd.made inn kd text) (show(0:Int)<=B from hB)).upd (Nd.addE s (BitVec.ofNat 16 T.free)) λx hx=>hx).bump
theorem Tr.HB.add(h:T.HB B)(inn:BitVec 16)(s:aK)(v:BitVec 16):(T.add inn s v).1.HB B:=by
 unfold Tr.add
 repeat' split
 all_goals try exact h
 exact((h.upd (Nd.addE s v) λx hx=>hx).upd (Nd.addL 1) λx hx=>hx).bump
theorem Tr.HB.drop(h:T.HB B)(hB:0<=B)(inn:BitVec 16)(s:aK)(d:Bool):(T.drop inn s d).1.HB B:=by
 unfold Tr.drop
 repeat' split
 all_goals try exact h
 exact Tr.HB.tidy (((h.upd (Nd.delE s) λx hx=>hx).upd (Nd.addL (-1)) λx hx=>hx).bump) hB
theorem Tr.HB.mono{B':Int}(h:T.HB B)(hb:B<=B'):T.HB B':=λn=>Int.le_trans (h n) hb
theorem Tr.HB.hold(h:T.HB B)(hB:0<=B)(n:BitVec 16)(more:Bool):(T.hold n more).1.HB (B+1):=by
 have h1:T.HB (B+1):=h.mono (by omega)
 unfold Tr.hold
 split
 ·exact h1
 ·split
  ·intro k
   rcases T.upd_or n k (Nd.addH 1) with e | e
   ·rw[e];exact h1 k
   ·rw[e];have:=h k;show(T.node k).held+1<=B+1;omega
  ·split
   ·exact h1
   ·exact Tr.HB.tidy (h1.upd (Nd.addH (-1)) λx hx=>by show x.held + -1<=B+1;omega) (by omega)
theorem Tr.HB.move(h:T.HB B)(hB:0<=B)(fr:BitVec 16)(s:aK)(to:BitVec 16)(other:aK):(T.move fr s to other).1.HB B:=by
 have key:∀ (U:Tr) (n:BitVec 16),U.HB B->(Tr.moved U fr s to other n).HB B:=by
  intro U n hU;have h2:((U.upd fr (Nd.delE s)).upd to (Nd.addE other n)).HB B:=(hU.upd (Nd.delE s) λx hx=>hx).upd (Nd.addE other n) λx hx=>hx;unfold Tr.moved;simp only
  split
  ·exact(h2.upd (λx=>{ x with parent:=to }) λx hx=>hx).bump
  ·exact h2.bump
 unfold Tr.move
 split
 ·exact h
 split
 ·exact h
 split
 ·exact h
 split
 ·exact h
 split
 ·exact h
 refine key _ _ ?_
 split
 ·exact h.drop hB _ _ _
 ·exact h
theorem Tr.HB.write(h:T.HB B)(n:BitVec 16)(at_:Int)(b:List (BitVec 8)):(T.write n at_ b).1.HB B:=by
 unfold Tr.write
 repeat' split
 all_goals try exact h
 exact(h.upd (λx=>{ x with data:=iG x.data at_.toNat b }) λx hx=>hx).bump
theorem Tr.HB.cut(h:T.HB B)(n:BitVec 16)(size:Int):(T.cut n size).1.HB B:=by
 unfold Tr.cut
 repeat' split
 all_goals try exact h
 exact(h.upd (λx=>{ x with data:=qE x.data size.toNat }) λx hx=>hx).bump
theorem Tr.HB.new(limit:Int):(Tr.new limit).HB 0:=by
 intro n;unfold Tr.new Tr.node;simp only[List.getD_eq_getElem?_getD]
 by_cases h0:n.toNat=0
 ·rw[h0];decide
 ·by_cases h1:n.toNat=1
  ·rw[h1];decide
  ·rw[List.getElem?_eq_none (by simp;omega)];decide
def Tr.CB(T T':Tr):Prop:=T.change<=T'.change/\T'.change<=T.change+2
theorem Tr.CB.refl:T.CB T:=⟨Int.le_refl _,by omega⟩
theorem Tr.CB.make(inn:BitVec 16)(s:aK)(kd:BitVec 8)(text:List UInt8):T.CB (T.make inn s kd text).1:=by
 unfold Tr.make
 repeat' split
 all_goals try exact .refl
 exact⟨by show T.change<=T.change+1;omega,by show T.change+1<=T.change+2;omega⟩
theorem Tr.CB.add(inn:BitVec 16)(s:aK)(v:BitVec 16):T.CB (T.add inn s v).1:=by
 unfold Tr.add
 repeat' split
 all_goals try exact .refl
 exact⟨by show T.change<=T.change+1;omega,by show T.change+1<=T.change+2;omega⟩
theorem Tr.CB.drop(inn:BitVec 16)(s:aK)(d:Bool):T.CB (T.drop inn s d).1:=by
 have:=Tr.drop_change (T:=T) inn s d;exact⟨this.1,by omega⟩
theorem Tr.CB.hold(n:BitVec 16)(more:Bool):T.CB (T.hold n more).1:=by
 unfold Tr.hold
 repeat' split
 all_goals try exact .refl
 ·have e:((T.upd n (Nd.addH (-1))).tidy n).change=T.change:=Tr.tidy_change
  exact⟨by rw[e];exact Int.le_refl _,by rw[e];omega⟩
theorem Tr.CB.write(n:BitVec 16)(at_:Int)(b:List (BitVec 8)):T.CB (T.write n at_ b).1:=by
 unfold Tr.write
 repeat' split
 all_goals try exact .refl
 exact⟨by show T.change<=T.change+1;omega,by show T.change+1<=T.change+2;omega⟩
theorem Tr.CB.cut(n:BitVec 16)(size:Int):T.CB (T.cut n size).1:=by
 unfold Tr.cut
 repeat' split
 all_goals try exact .refl
 exact⟨by show T.change<=T.change+1;omega,by show T.change+1<=T.change+2;omega⟩
theorem Tr.move_change{s:aK}{fr to:BitVec 16}{other:aK}:T.change<=(T.move fr s to other).1.change/\(T.move fr s to other).1.change<=T.change+2:=by
 have key:∀ (U:Tr) (n:BitVec 16),(Tr.moved U fr s to other n).change=U.change+1:=by
  intro U n;unfold Tr.moved;simp only
  split<;>rfl
 have hd:=Tr.drop_change (T:=T) to other (decide ((T.node (T.look fr s).1).kind=2#8));unfold Tr.move
 split
 ·exact⟨Int.le_refl _,by show T.change<=_;omega⟩
 split
 ·exact⟨Int.le_refl _,by show T.change<=_;omega⟩
 split
 ·exact⟨Int.le_refl _,by show T.change<=_;omega⟩
 split
 ·exact⟨Int.le_refl _,by show T.change<=_;omega⟩
 split
 ·exact⟨Int.le_refl _,by show T.change<=_;omega⟩
 simp only[key]
 split
 ·omega
 ·omega
theorem Tr.CB.move(fr:BitVec 16)(s:aK)(to:BitVec 16)(other:aK):T.CB (T.move fr s to other).1:=Tr.move_change
end
end
end Go.AM
