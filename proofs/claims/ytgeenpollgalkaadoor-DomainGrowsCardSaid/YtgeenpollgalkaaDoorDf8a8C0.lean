/- CONTRACTS ON THE PRINTED FUNCTIONS. -/
import Derived.Test.YtgeenpollgalkaaDoorDf8a8F
set_option linter.all false
section
namespace Go.AM
def Only (F:List Nat) (H H':AH):Prop:=H.next<=H'.next/\∀ b,b<H.next->b ∉ F->H'.get b=H.get b
theorem Only.refl (F:List Nat) (H:AH):Only F H H:=⟨Nat.le_refl _,fun _ _ _=>rfl⟩
theorem Only.trans {F F':List Nat} {H H' H'':AH} (h:Only F H H') (h':Only F' H' H'') (hs:∀ b∈F',b∈F\/H.next<=b):Only F H H'' :=
 ⟨Nat.le_trans h.1 h'.1,fun b hb hf=>by
  rw [h'.2 b (Nat.lt_of_lt_of_le hb h.1) (fun k=>(hs b k).elim hf (fun k=>by omega)),h.2 b hb hf]⟩
theorem Only.trans' {F:List Nat} {H H' H'':AH} (h:Only F H H') (h':Only F H' H''):Only F H H'':=h.trans h' fun _ k => .inl k
theorem Only.new {F:List Nat} {H H':AH} (h:Only F H H') (o:AObj):Only F H (H'.new o) :=
 ⟨Nat.le_succ_of_le h.1,fun b hb hf=>by rw [AH.get_new_lt _ _ (Nat.lt_of_lt_of_le hb h.1)]; exact h.2 b hb hf⟩
theorem Only.put {F:List Nat} {H H':AH} (h:Only F H H') {b:Nat} (hb:b∈F\/H.next<=b) (o:AObj):Only F H (H'.put b o) :=
 ⟨h.1,fun x hx hf=>by rw [AH.get_put_ne _ _ (by rintro rfl; exact hb.elim hf (fun k=>by omega))]; exact h.2 x hx hf⟩
theorem Ext.only {F:List Nat} {H H':AH} (h:Ext H H'):Only F H H':=⟨h.1,fun b hb _=>h.2 b hb⟩
theorem Only.get {F:List Nat} {H H':AH} (h:Only F H H') {b:Nat} (hb:b<H.next) (hf:b ∉ F):H'.get b=H.get b:=h.2 b hb hf
theorem Only.mono {F F':List Nat} {H H':AH} (h:Only F H H') (hs:∀ b∈F,b∈F'\/H.next<=b):Only F' H H' :=
 ⟨h.1,fun b hb hf=>h.2 b hb fun k=>(hs b k).elim hf (fun k=>by omega)⟩
theorem Only.ext {F:List Nat} {H0 H H':AH} (h:Only F H H') (e:Ext H0 H) (hs:∀ b∈F,H0.next<=b):Ext H0 H' :=
 ⟨Nat.le_trans e.1 h.1,fun b hb=>by rw [h.2 b (Nat.lt_of_lt_of_le hb e.1) (fun k=>by have:=hs b k; omega)]; exact e.2 b hb⟩
def Sub (Z H:AH):Prop:=Z.next<=H.next/\∀ b,Z.get b ≠ .dead->H.get b=Z.get b
theorem Sub.refl (H:AH):Sub H H:=⟨Nat.le_refl _,fun _ _=>rfl⟩
theorem Ext.sub {H H':AH} (e:Ext H H'):Sub H H':=⟨e.1,fun _ hb=>e.get (AH.lt_of_get hb)⟩
theorem Sub.trans {A B C:AH} (h:Sub A B) (h':Sub B C):Sub A C:=⟨Nat.le_trans h.1 h'.1,fun b hb=>by rw [h'.2 b (by rw [h.2 b hb]; exact hb),h.2 b hb]⟩
theorem Sub.ext {Z H H':AH} (h:Sub Z H) (e:Ext H H'):Sub Z H':=h.trans e.sub
theorem Sub.new {Z H:AH} (h:Sub Z H) (o:AObj):Sub Z (H.new o):=h.ext ((Ext.refl H).new o)
theorem Sub.only {Z H H':AH} {F:List Nat} (h:Sub Z H) (o:Only F H H') (hF:∀ b∈F,Z.get b = .dead):Sub Z H' :=
 ⟨Nat.le_trans h.1 o.1,fun b hb=>by
  have h1:=h.2 b hb
  rw [o.2 b (AH.lt_of_get (by rw [h1]; exact hb)) (fun k=>hb (hF b k)),h1]⟩
theorem Sub.cells {Z H:AH} (h:Sub Z H) {b:Nat} {c:List Value} {f:Option Nat} (hb:Z.get b = .cells c f):H.get b = .cells c f:=by
 rw [h.2 b (by rw [hb]; simp),hb]
theorem AH.get_ge (H:AH) {b:Nat} (h:H.next<=b):H.get b = .dead:=by simp [AH.get,Nat.not_lt.2 h]
theorem Rows.sub {Z H:AH} {sz:Nat} {v:Value} {rows:List (List Value)} (h:Rows Z sz v rows) (e:Sub Z H):Rows H sz v rows:=by
 refine ⟨h.len,?_⟩
 rcases h.at_ with h | ⟨b,o,c,h1,h2,h3,h4⟩
 ·exact .inl h
 ·have:=e.2 b (row_notdead h4)
  exact .inr ⟨b,o,c,h1,h2,by rw [this]; exact h3,by rw [this]; exact h4⟩
def AH.freeze (Z:AH) (n b:Nat) (o:AObj):AH:={ next:=n,raw:=fun x=>if x=b then o else Z.get x }
theorem AH.get_freeze (Z:AH) (n b:Nat) (o:AObj) (x:Nat) (hn:Z.next<=n) (hb:b<n):(Z.freeze n b o).get x=if x=b then o else Z.get x:=by
 by_cases h:x=b
 ·subst h; simp [AH.get,AH.freeze,hb]
 ·by_cases k:x<n
  ·simp [AH.get,AH.freeze,h,k]
  ·have:¬ x<Z.next:=by omega
   simp [AH.get,AH.freeze,h,k,this]
theorem Sub.freeze {Z H:AH} (h:Sub Z H) {b:Nat} (hb:b<H.next):Sub (Z.freeze H.next b (H.get b)) H :=
 ⟨Nat.le_refl _,fun x hx=>by
  rw [AH.get_freeze _ _ _ _ _ h.1 hb] at hx ⊢
  split
  ·rename_i e; rw [e]
  ·rename_i e; rw [if_neg e] at hx; exact h.2 x hx⟩
theorem Sub.to_freeze {Z H:AH} (h:Sub Z H) {b:Nat} (hb:b<H.next):Sub Z (Z.freeze H.next b (H.get b)) :=
 ⟨h.1,fun x hx=>by
  rw [AH.get_freeze _ _ _ _ _ h.1 hb]
  split
  ·rename_i e; rw [<- h.2 x hx,e]
  ·rfl⟩
def Grow (Z H:AH) (sz:Nat) (v:Value) (rows:List (List Value)):Prop :=
 (∀ r∈rows,r.length=sz/\r.all plain1=true)/\((rows=[]/\v=nilS)\/∃ b f c cs,Z.get b = .dead/\v=slc b 0 rows.length c/\H.get b = .cells cs f/\rows.length<=c/\cs.length=c*sz/\cs.take (rows.length*sz)=rows.flatten /\
  (f=none\/f=some sz))
section
variable {Z H H':AH} {sz:Nat} {v:Value} {rows:List (List Value)}
theorem Grow.nil (Z H:AH) (sz:Nat):Grow Z H sz nilS []:=⟨by simp,.inl ⟨rfl,rfl⟩⟩
theorem Grow.made {b n:Nat} {f:Option Nat} (hb:Z.get b = .dead) (hg:H.get b = .cells rows.flatten f) (hf:f=none\/f=some sz) (hn:rows.length=n) (hr:∀ r∈rows,r.length=sz/\r.all plain1=true):Grow Z H sz (slc b 0 n n) rows:=by
 subst hn
 have hfl:=flatten_length rows fun r h=>(hr r h).1
 exact ⟨hr,.inr ⟨b,f,rows.length,rows.flatten,hb,rfl,hg,Nat.le_refl _,hfl,by rw [<- hfl,List.take_length],hf⟩⟩
theorem Grow.room {b c:Nat} {cs:List Value} (hb:Z.get b = .dead) (hg:H.get b = .cells cs none) (hc:cs.length=c*sz):Grow Z H sz (slc b 0 0 c) [] :=
 ⟨by simp,.inr ⟨b,none,c,cs,hb,rfl,hg,Nat.zero_le _,hc,by simp,.inl rfl⟩⟩
theorem Grow.toRows (h:Grow Z H sz v rows):Rows H sz v rows:=by
 rcases h.2 with ⟨rfl,rfl⟩ | ⟨b,f,c,cs,h1,rfl,h3,h4,h5,h6,h7⟩
 ·exact Rows.nil _ _ none
 ·refine ⟨fun r hr=>(h.1 r hr).1,.inr ⟨b,0,c,rfl,h4,?_,?_⟩⟩
  ·rw [h3]; rcases h7 with rfl | rfl <;> simp [fits]
  ·have:rows.length*sz<=c*sz:=Nat.mul_le_mul_right _ h4
   rw [h3,row_cells,if_pos (by omega),List.drop_zero,h6]
theorem Grow.plain (h:Grow Z H sz v rows):plain1 v=true:=by
 rcases h.2 with ⟨_,rfl⟩ | ⟨b,f,c,cs,h1,rfl,_⟩ <;> rfl
theorem Grow.keep (h:Grow Z H sz v rows) (e:∀ b,blk v=some b->b<H.next->H'.get b=H.get b):Grow Z H' sz v rows:=by
 refine ⟨h.1,?_⟩
 rcases h.2 with h | ⟨b,f,c,cs,h1,rfl,h3,h4⟩
 ·exact .inl h
 ·exact .inr ⟨b,f,c,cs,h1,rfl,by rw [e b rfl (AH.lt_cells h3)]; exact h3,h4⟩
theorem Grow.ext (h:Grow Z H sz v rows) (e:Ext H H'):Grow Z H' sz v rows:=h.keep fun b _ hb=>e.get hb
theorem Grow.blk_lt (h:Grow Z H sz v rows) {b:Nat} (hb:blk v=some b):b<H.next:=by
 rcases h.2 with ⟨_,rfl⟩ | ⟨b',f,c,cs,h1,rfl,h3,_⟩
 ·simp [blk] at hb
 ·simp [blk] at hb; subst hb; exact AH.lt_cells h3
def blkL (v:Value):List Nat:=match blk v with | some b=>[b] | none=>[]
theorem mem_blkL {v:Value} {b:Nat}:b∈blkL v↔blk v=some b:=by
 unfold blkL
 cases blk v <;> simp [eq_comm]
def Grew' (H H':AH) (v v':Value):Prop:=Only (blkL v) H H'/\∀ b,blk v'=some b->blk v=some b\/H.next<=b
theorem Grow.app (h:Grow Z H sz v rows) (hZ:Z.next<=H.next) {bytes:Nat} {x:Value} {new:List (List Value)} (hx:Rows H sz x new) (hp:∀ r∈new,r.all plain1=true)
  (hs:sz≠0) (hb:bytes≠0) (h1:(rows.length+new.length)*bytes<=2 ^ 46) (h2:rows.length+new.length<2 ^ 62) :
  ∃ v' H',AM.app sz bytes v x H=some (v',H')/\Grow Z H' sz v' (rows++new)/\Grew' H H' v v':=by
 have hrows:=h.toRows
 have hall:∀ r∈rows++new,r.length=sz/\r.all plain1=true:=by
  intro r hr
  rcases List.mem_append.1 hr with hr | hr
  ·exact h.1 r hr
  ·exact ⟨hx.len r hr,hp r hr⟩
 have hpn:new.flatten.all plain1=true:=all_flatten hp
 have hpo:rows.flatten.all plain1=true:=all_flatten fun r hr=>(h.1 r hr).2
 have hfn:=flatten_length new hx.len
 have hfo:=flatten_length rows fun r hr=>(h.1 r hr).1
 have hnew:srcRow sz new.length x H=some new.flatten:=firstRow_rows hx
 rcases h.2 with ⟨rfl,rfl⟩ | ⟨b,f,c,cs,g1,rfl,g3,g4,g5,g6,g7⟩
 ·by_cases hn:new=[]
  ·subst hn
   refine ⟨nilS,H,?_,⟨by simp,.inl ⟨rfl,rfl⟩⟩,Only.refl _ _,fun b hb => .inl hb⟩
   have e:=lenO_rows hx
   simp at e hnew
   simp [AM.app,e,hnew]
  ·have hpos:0<new.length:=List.length_pos_iff.2 hn
   refine ⟨slc H.next 0 new.length new.length,H.new (.cells new.flatten (some sz)),?_,Grow.made (AH.get_ge _ hZ) (AH.get_new_self _ _) (.inr rfl) (by simp) (by simpa using hall),(Only.refl _ _).new _,fun b hb => .inr (by simp [blk] at hb; omega)⟩
   simp only [AM.app,lenO_rows hx,hnew,Option.bind_some,hpn,Bool.not_true,Bool.false_eq_true,if_false]
   simp at h1 h2
   rw [if_neg (by omega),if_neg (by simp; omega)]
   simp [firstRow]
 ·have hlt:=AH.lt_cells g3
  have hbl:blkL (slc b 0 rows.length c)=[b]:=rfl
  have hmul:(rows.length+new.length)*sz=rows.length*sz+new.length*sz:=Nat.add_mul _ _ _
  by_cases hcap:rows.length+new.length<=c
  ·have hle:(rows.length+new.length)*sz<=c*sz:=Nat.mul_le_mul_right _ hcap
   refine ⟨slc b 0 (rows.length+new.length) c,H.put b (.cells (splice cs (rows.length*sz) new.flatten) f),?_,⟨hall,.inr ⟨b,f,c,_,g1,by simp,AH.get_put_self _ _ hlt,by simpa using hcap,?_,?_,?_⟩⟩,(Only.refl _ _).put (.inl (by simp [hbl])) _,fun b' hb' => .inl (by simpa [blk] using hb')⟩
   ·simp only [AM.app,lenO_rows hx,hnew,Option.bind_some,hpn,Bool.not_true,Bool.false_eq_true,if_false]
    rw [if_pos hcap]
    simp only [Option.isSome_none,Bool.false_eq_true,if_false,g3]
    rw [if_pos (by omega),Nat.zero_add]
   ·rw [splice_length (by omega)]; exact g5
   ·simp only [List.length_append,List.flatten_append,hmul,splice]
    rw [List.take_append_of_le_length (by rw [List.length_append,List.length_take,hfn]; omega),List.take_of_length_le (by rw [List.length_append,List.length_take,hfn]; omega),g6]
   ·exact g7
  ·have hold:firstRow sz rows.length (slc b 0 rows.length c) H=some rows.flatten:=by
    have:rows.length*sz<=c*sz:=Nat.mul_le_mul_right _ g4
    simp only [firstRow,Option.isSome_none,Bool.false_eq_true,if_false,g3,row_cells]
    rw [if_pos (by omega),List.drop_zero,g6]
   have hfin:∀ H1:AH,H1.next=H.next->AM.app sz bytes (slc b 0 rows.length c) x H=some (mkSlc (rows.length+new.length) (rows.length+new.length) H.next,H1.new (.cells (rows.flatten++new.flatten) (some sz))) ->
     Only [b] H H1 ->
     ∃ v' H',AM.app sz bytes (slc b 0 rows.length c) x H=some (v',H')/\Grow Z H' sz v' (rows++new)/\Grew' H H' (slc b 0 rows.length c) v':=by
    intro H1 e1 e2 e3
    exact ⟨_,_,e2,Grow.made (AH.get_ge _ hZ) (by rw [<- e1,AH.get_new_self,List.flatten_append]) (.inr rfl) (by simp) hall,by rw [hbl]; exact e3.new _,fun b' hb' => .inr (by simp [blk] at hb'; omega)⟩
   have pre:AM.app sz bytes (slc b 0 rows.length c) x H=(match f with
     | none=>some (mkSlc (rows.length+new.length) (rows.length+new.length) H.next,H.new (.cells (rows.flatten++new.flatten) (some sz)))
     | some e=>if e=sz then some (mkSlc (rows.length+new.length) (rows.length+new.length) H.next,(H.put b .dead).new (.cells (rows.flatten++new.flatten) (some sz))) else none):=by
    simp only [AM.app,lenO_rows hx,hnew,Option.bind_some,hpn,Bool.not_true,Bool.false_eq_true,if_false]
    rw [if_neg hcap,if_neg (by omega),hold]
    simp only [Option.bind_some,hpo,Bool.not_true,Bool.false_eq_true,if_false,g3]
    cases f <;> rfl
   rcases g7 with rfl | rfl
   ·exact hfin H rfl pre (Only.refl _ _)
   ·exact hfin (H.put b .dead) rfl (by rw [pre]; simp) ((Only.refl _ _).put (.inl (by simp)) _)
theorem Grow.app1 (h:Grow Z H sz v rows) (hZ:Z.next<=H.next) {bytes:Nat} (new:List Value) (hl:new.length=sz) (hp:new.all plain1=true) (hs:sz≠0) (hb:bytes≠0) (h1:(rows.length+1)*bytes<=2 ^ 46) :
  ∃ v' H',AM.app sz bytes v (slc H.next 0 1 1) (H.new (.cells new none))=some (v',H')/\Grow Z H' sz v' (rows++[new])/\Grew' H H' v v':=by
 have hb1:1<=bytes:=by omega
 have h2:(rows.length+1)*1<=(rows.length+1)*bytes:=Nat.mul_le_mul_left _ hb1
 obtain ⟨v',H',a1,a2,a3,a4⟩:=(h.ext ((Ext.refl H).new (.cells new none))).app (Nat.le_succ_of_le hZ) (bytes:=bytes) (x:=slc H.next 0 1 1) (new:=[new]) (Rows.made (f:=none) (by rw [AH.get_new_self]; simp) (.inl rfl) rfl (by simpa using hl)) (by simpa using hp) hs hb h1 (by simp at *; omega)
 refine ⟨v',H',a1,a2,⟨by have:=a3.1; simp at this; omega,fun b hb hf =>?_⟩,fun b hb=>(a4 b hb).imp id fun k=>by simp at k; omega⟩
 rw [a3.2 b (by simp; omega) hf,AH.get_new_lt _ _ hb]
end
theorem row_all (c:List Value) (f:Option Nat) (n:Nat) (h:c.length=n):(AObj.cells c f).row 0 n=some c:=by
 rw [row_cells,if_pos (by omega),List.drop_zero,List.take_of_length_le (by omega)]
theorem splice_mid (a b c v:List Value) (h:b.length=v.length):splice (a++b++c) a.length v=a++v++c:=by
 have h1:(a++b++c).take a.length=a:=by rw [List.append_assoc,List.take_left' rfl]
 have h2:(a++b++c).drop (a.length+v.length)=c:=by rw [<- h,<- List.length_append,List.drop_left' rfl]
 simp only [splice,h1,h2]
theorem fillL_full (size:Nat):∀ (vs:List Value) (k:Nat) (pre post:List Value),pre.length=k*size->post.length=vs.length*size->(∀ v∈vs,(vcells v).length=size) ->
  fillL (fun i=>some (i*size,size)) (pre++post) ((List.range' k vs.length).zip vs)=some (pre++vs.flatMap vcells)
 | [],k,pre,post,_,h2,_=>by
  simp at h2
  simp [h2]
 | v :: vs,k,pre,post,h1,h2,h3=>by
  have hv:=h3 v (by simp)
  have e:post=post.take size++post.drop size:=(List.take_append_drop _ _).symm
  have hl:(post.take size).length=size:=by rw [List.length_take,h2,List.length_cons,Nat.succ_mul]; omega
  have hs:splice (pre++post) (k*size) (vcells v)=(pre++vcells v)++post.drop size:=by
   conv=>lhs; rw [e]
   rw [<- h1,<- List.append_assoc,splice_mid _ _ _ _ (by omega)]
  simp only [List.length_cons,List.range'_succ,List.zip_cons_cons,fillL_cons]
  rw [hv,hs]
  have ih:=fillL_full size vs (k+1) (pre++vcells v) (post.drop size) (by rw [List.length_append,h1,hv,Nat.succ_mul]) (by rw [List.length_drop,h2,List.length_cons,Nat.succ_mul]; omega) (fun x hx=>h3 x (by simp [hx]))
  rw [ih]
  have hle:k*size+size<=pre.length+post.length:=by rw [h1,h2,List.length_cons,Nat.succ_mul]; omega
  simp [hle]
theorem buildS_full (len size:Nat) (zero:List Value) (parts:List (Nat×Value)) (vs:List Value) (hz:zero.length=size) (hp:parts=(List.range' 0 vs.length).zip vs) (hn:vs.length=len) (hd:vs.all defd=true) (hl:∀ v∈vs,(vcells v).length=size) :
  buildS len size zero.toArray parts=some (.cells (vs.flatMap vcells) none,mkSlc len len):=by
 subst hp hn
 rw [buildS_eq _ _ _ _ hz]
 have h1:((List.range' 0 vs.length).zip vs).all (fun p=>defd p.2)=true:=by
  rw [List.all_eq_true] at hd ⊢
  intro p hp
  exact hd _ (List.of_mem_zip hp).2
 have:=fillL_full size vs 0 [] (List.replicate vs.length zero).flatten (by simp) (by simp [hz]) hl
 simp only [List.nil_append] at this
 simp [h1,this]
 rfl
theorem buildS_one (size:Nat) (zero cs:List Value) (hz:zero.length=size) (h:cs.length=size):buildS 1 size zero.toArray [(0,.agg cs.toArray)]=some (.cells cs none,mkSlc 1 1):=by
 have:=buildS_full 1 size zero [(0,.agg cs.toArray)] [.agg cs.toArray] hz rfl rfl rfl (by simpa using h)
 simpa using this
theorem buildS_val (zero x:Value) (h:vcells x=[x]) (hd:defd x=true):buildS 1 1 #[zero] [(0,x)]=some (.cells [x] none,mkSlc 1 1):=by
 have:=buildS_full 1 1 [zero] [(0,x)] [x] rfl rfl rfl (by simp [hd]) (by simp [h])
 simpa [h] using this
@[simp] theorem callV_func (c:CallT) (g:FuncId) (a b:Array Value) (args:List Value) (H:AH) (K:Value->AH->Prop):callV c (.func (.func g) a b) args H K=c g (a.toList++args++b.toList) H K:=nrfl rfl
theorem nodup_le {α:Type} [DecidableEq α]:∀ (l m:List α),l.Nodup->(∀ x∈l,x∈m)->l.length<=m.length
 | [],m,_,_=>Nat.zero_le _
 | x :: l,m,hn,hs=>by
  have hx:=hs x (by simp)
  rw [List.nodup_cons] at hn
  have:=nodup_le l (m.erase x) hn.2 fun y hy=>(List.mem_erase_of_ne (by rintro rfl; exact hn.1 hy)).2 (hs y (by simp [hy]))
  rw [List.length_erase_of_mem hx] at this
  have:=List.length_pos_of_mem hx
  simp only [List.length_cons]
  omega
theorem lookup_set {K:Type} [DecidableEq K] {V:Type} (k:K):∀ l:List (K×V),(l.map fun p=>(p.1,true)).lookup k=if k∈l.map Prod.fst then some true else none
 | []=>rfl
 | p :: l=>by
  have ih:=lookup_set k l
  by_cases e:k=p.1
  ·simp [e,List.lookup]
  ·have e':(k == p.1)=false:=by simpa using e
   simp only [List.map_cons,List.lookup,e',ih,List.mem_cons,e,false_or]
theorem i64_rem_nat (a b:Nat) (hb:b≠0):binInt .rem (vi a) (vi b)=some (vi ((a % b:Nat):Int)):=by
 rw [binInt_rem _ _ _ (by omega)]
 simp [Int.tmod]
theorem i64_add_nat (a b:Nat) (h:a+b<2 ^ 63):binInt .add (vi a) (vi b)=some (vi ((a+b:Nat):Int)):=by
 rw [i64_add (by omega) (by omega)]; simp
def MapAt {K V:Type} (fk:K->Value) (fv:V->Value) (H:AH) (r:Nat) (l:List (K×V)):Prop :=
 ∃ es clock,H.get r = .map es clock true/\es.map (fun e=>(e.key,e.val))=(l.map fun p=>(fk p.1,fv p.2))/\(es.map (·.born)).Nodup/\(∀ e∈es,e.born<clock)/\(l.map Prod.fst).Nodup
def aset {K V:Type} [DecidableEq K] (k:K) (v:V):List (K×V)->List (K×V)
 | []=>[(k,v)]
 | p :: l=>if p.1=k then (k,v) :: l else p :: aset k v l
section
variable {K V:Type} [DecidableEq K] {fk:K->Value} {fv:V->Value} {H:AH} {r kd:Nat}
theorem MapAt.lt {l:List (K×V)} (h:MapAt fk fv H r l):r<H.next:=by
 obtain ⟨es,clock,h1,_⟩:=h
 exact AH.lt_of_get (by rw [h1]; simp)
theorem MapAt.keep {H':AH} {l:List (K×V)} (h:MapAt fk fv H r l) (e:H'.get r=H.get r):MapAt fk fv H' r l:=by
 obtain ⟨es,clock,h1,h2⟩:=h
 exact ⟨es,clock,by rw [e]; exact h1,h2⟩
theorem MapAt.new (H:AH):MapAt fk fv (H.new (.map [] 0 true)) H.next ([]:List (K×V)):=⟨[],0,AH.get_new_self _ _,rfl,by simp,by simp,by simp⟩
theorem MapAt.nodup {l:List (K×V)} (h:MapAt fk fv H r l):(l.map Prod.fst).Nodup:=by
 obtain ⟨_,_,_,_,_,_,h⟩:=h
 exact h
theorem findE_told (hk:∀ a b,sameCell kd (fk a) (fk b)=some (decide (a=b))) (k:K):∀ (es:List MapEntry) (l:List (K×V)),es.map (fun e=>(e.key,e.val))=l.map (fun p=>(fk p.1,fv p.2)) ->
  findE kd (fk k) es=some ((l.findIdx? fun p=>decide (k=p.1)).bind fun i=>(l[i]?).map fun p=>(i,fv p.2))
 | [],[],_=>rfl
 | [],_ :: _,h=>by simp at h
 | _ :: _,[],h=>by simp at h
 | e :: es,p :: l,h=>by
  simp only [List.map_cons,List.cons.injEq,Prod.mk.injEq] at h
  obtain ⟨⟨h1,h2⟩,h3⟩:=h
  have ih:=findE_told hk k es l h3
  simp only [findE,h1,hk,Option.bind_some]
  by_cases e:k=p.1
  ·simp [e,h2,List.findIdx?_cons]
  ·simp only [e,decide_false,ih,Option.map_some,List.findIdx?_cons,if_false,Bool.false_eq_true]
   congr 1
   cases l.findIdx? fun p=>decide (k=p.1) <;> simp
   rename_i i
   cases l[i]? <;> rfl
theorem lookup_findIdx (k:K):∀ l:List (K×V),(l.findIdx? fun p=>decide (k=p.1)).bind (fun i=>(l[i]?).map fun p=>(i,fv p.2))=(l.findIdx? fun p=>decide (k=p.1)).bind (fun i=>(l.lookup k).map fun v=>(i,fv v))
 | []=>rfl
 | p :: l=>by
  have ih:=lookup_findIdx k l
  by_cases e:k=p.1
  ·subst e
   simp [List.findIdx?_cons,List.lookup]
  ·have e':(k == p.1)=false:=by simpa using e
   simp only [List.findIdx?_cons,e,decide_false,Bool.false_eq_true,if_false,List.lookup,e']
   cases hf:l.findIdx? fun p=>decide (k=p.1) with
   | none=>simp
   | some i =>
    rw [hf] at ih
    simp at ih ⊢
    cases h1:l[i]? <;> cases h2:l.lookup k <;> simp [h1,h2] at ih ⊢
    exact ih
theorem findIdx_lookup (k:K):∀ l:List (K×V),(l.findIdx? fun p=>decide (k=p.1))=none↔l.lookup k=none
 | []=>by simp
 | p :: l=>by
  have ih:=findIdx_lookup k l
  by_cases e:k=p.1
  ·subst e; simp [List.findIdx?_cons,List.lookup]
  ·have e':(k == p.1)=false:=by simpa using e
   simp only [List.findIdx?_cons,e,decide_false,Bool.false_eq_true,if_false,List.lookup,e']
   rw [Option.map_eq_none_iff]
   exact ih
theorem MapAt.look {l:List (K×V)} (h:MapAt fk fv H r l) (hk:∀ a b,sameCell kd (fk a) (fk b)=some (decide (a=b))) (k:K) (zero:Value) (ok:Bool) :
  AM.look kd zero ok (.map (some r)) (fk k) H=some (match l.lookup k with | some v=>(if ok then .tuple #[fv v,.bool true] else fv v) | none=>(if ok then .tuple #[zero,.bool false] else zero)):=by
 obtain ⟨es,clock,h1,h2,_⟩:=h
 simp only [AM.look,entriesOf,h1,Option.bind_some]
 rw [findE_told hk k es l h2,lookup_findIdx]
 have:=findIdx_lookup k l
 cases hf:l.findIdx? fun p=>decide (k=p.1) with
 | none =>
  have this:=this.1 hf
  simp only [this,Option.bind_none,Option.map_some]
 | some i =>
  rw [hf] at this
  cases hl:l.lookup k with
  | none=>rw [hl] at this; simp at this
  | some v=>simp
theorem aset_found (k:K) (v:V):∀ (l:List (K×V)) (i:Nat),(l.findIdx? fun p=>decide (k=p.1))=some i->aset k v l=l.set i (k,v)
 | [],i,h=>by simp at h
 | p :: l,i,h=>by
  by_cases e:k=p.1
  ·subst e
   simp [List.findIdx?_cons] at h
   subst h
   simp [aset]
  ·have e':¬ p.1=k:=fun x=>e x.symm
   simp only [List.findIdx?_cons,e,decide_false,Bool.false_eq_true,if_false,Option.map_eq_some_iff] at h
   obtain ⟨j,h1,rfl⟩:=h
   simp [aset,e',aset_found k v l j h1]
theorem aset_none (k:K) (v:V):∀ (l:List (K×V)),(l.findIdx? fun p=>decide (k=p.1))=none->aset k v l=l++[(k,v)]
 | [],_=>rfl
 | p :: l,h=>by
  by_cases e:k=p.1
  ·subst e; simp [List.findIdx?_cons] at h
  ·have e':¬ p.1=k:=fun x=>e x.symm
   simp only [List.findIdx?_cons,e,decide_false,Bool.false_eq_true,if_false,Option.map_eq_none_iff] at h
   simp [aset,e',aset_none k v l h]
theorem aset_keys (k:K) (v:V):∀ (l:List (K×V)),(aset k v l).map Prod.fst=if k∈l.map Prod.fst then l.map Prod.fst else l.map Prod.fst++[k]
 | []=>by simp [aset]
 | p :: l=>by
  by_cases e:p.1=k
  ·subst e; simp [aset]
  ·have e':¬ k=p.1:=fun x=>e x.symm
   simp only [aset,e,if_false,List.map_cons,aset_keys k v l,List.mem_cons,e',false_or]
   split <;> simp
theorem aset_nodup (k:K) (v:V) (l:List (K×V)) (h:(l.map Prod.fst).Nodup):((aset k v l).map Prod.fst).Nodup:=by
 rw [aset_keys]
 split
 ·exact h
 ·rename_i hk
  rw [List.nodup_append]
  exact ⟨h,by simp,fun a ha b hb=>by simp at hb; subst hb; rintro rfl; exact hk ha⟩
theorem MapAt.set {l:List (K×V)} (h:MapAt fk fv H r l) (hk:∀ a b,sameCell kd (fk a) (fk b)=some (decide (a=b))) (k:K) (v:V) :
  ∃ o,o ≠ .dead/\setMap kd (.map (some r)) (fk k) (fv v) H=some (H.put r o)/\MapAt fk fv (H.put r o) r (aset k v l):=by
 have hlt:=h.lt
 obtain ⟨es,clock,h1,h2,h3,h4,h5⟩:=h
 have hlen:es.length=l.length:=by simpa using congrArg List.length h2
 simp only [setMap,h1]
 rw [findE_told hk k es l h2]
 cases hf:l.findIdx? fun p=>decide (k=p.1) with
 | none =>
  refine ⟨.map (es++[{ key:=fk k,val:=fv v,born:=clock }]) (clock+1) true,by simp,by simp,_,_,AH.get_put_self _ _ hlt,?_,?_,?_,aset_nodup k v l h5⟩
  ·rw [aset_none k v l hf,List.map_append,List.map_append,h2]
   rfl
  ·rw [List.map_append,List.nodup_append]
   refine ⟨h3,by simp,fun a ha b hb =>?_⟩
   obtain ⟨e,he,rfl⟩:=List.mem_map.1 ha
   have:=h4 e he
   simp at hb
   omega
  ·intro e he
   rcases List.mem_append.1 he with he | he
   ·exact Nat.lt_succ_of_lt (h4 e he)
   ·simp at he; subst he; exact Nat.lt_succ_self _
 | some i =>
  have hi:i<l.length:=by
   have:=List.findIdx?_eq_some_iff_getElem.1 hf
   exact this.1
  refine ⟨.map (es.modify i fun e=>{ e with key:=fk k,val:=fv v }) clock true,by simp,by simp [hi],_,_,AH.get_put_self _ _ hlt,?_,?_,?_,aset_nodup k v l h5⟩
  rotate_left
  ·have:(es.modify i fun e=>{ e with key:=fk k,val:=fv v }).map (·.born)=es.map (·.born):=by
    apply List.ext_getElem?
    intro j
    simp only [List.getElem?_map,List.getElem?_modify]
    cases es[j]? <;> simp
    split <;> rfl
   rw [this]; exact h3
  ·intro e he
   obtain ⟨j,hj⟩:=List.mem_iff_getElem?.1 he
   rw [List.getElem?_modify] at hj
   cases hx:es[j]? with
   | none=>rw [hx] at hj; simp at hj
   | some x =>
    have hm:=h4 x (List.mem_of_getElem? hx)
    rw [hx] at hj
    simp at hj
    subst hj
    split <;> exact hm
  rw [aset_found k v l i hf]
  apply List.ext_getElem?
  intro j
  have:=congrArg (fun x=>x[j]?) h2
  simp only [List.getElem?_map] at this
  simp only [List.getElem?_map,List.getElem?_modify,List.getElem?_set]
  by_cases e:i=j
  ·subst e
   simp [hi]
   have:i<es.length:=by omega
   simp [this]
  ·simp [e,this]
end
def adel {K V:Type} [DecidableEq K] (k:K):List (K×V)->List (K×V)
 | []=>[]
 | p :: l=>if p.1=k then l else p :: adel k l
section
variable {K V:Type} [DecidableEq K] {fk:K->Value} {fv:V->Value} {H:AH} {r kd:Nat}
theorem MapAt.len {l:List (K×V)} (h:MapAt fk fv H r l):lenMap (.map (some r)) H=some (vi l.length):=by
 obtain ⟨es,clock,h1,h2,_⟩:=h
 have hlen:es.length=l.length:=by simpa using congrArg List.length h2
 simp [lenMap,h1,hlen]
end
theorem aset_new {K:Type} [DecidableEq K] {V W:Type} (k:K) (w:W) (f:V->W):∀ (l:List (K×V)),k ∉ l.map Prod.fst->aset k w (l.map fun p=>(p.1,f p.2))=(l.map fun p=>(p.1,f p.2))++[(k,w)]
 | [],_=>rfl
 | p :: l,h=>by
  simp only [List.map_cons,List.mem_cons,not_or] at h
  have e:¬ p.1=k:=fun x=>h.1 x.symm
  simp only [List.map_cons,aset,e,if_false,aset_new k w f l h.2,List.cons_append]
end Go.AM
end
section
namespace Go.AM
structure Res where
 fp:List Nat
 P:AH->Prop
 keep:∀ {H H':AH},P H->(∀ b∈fp,H'.get b=H.get b)->P H'
structure Has (H0 Z H:AH) (L:List Res):Prop where
 ext:Ext H0 H
 sub:Sub Z H
 all:∀ r∈L,r.P H/\∀ b∈r.fp,H0.next<=b/\b<H.next/\Z.get b = .dead
 nd:(L.flatMap Res.fp).Nodup
structure Upd (r r':Res) (H H':AH):Prop where
 only:Only r.fp H H'
 holds:r'.P H'
 fp:∀ b∈r'.fp,(b∈r.fp\/H.next<=b)/\b<H'.next
 nd:r'.fp.Nodup
theorem Upd.trans {r r' r'':Res} {H H' H'':AH} (h:Upd r r' H H') (h':Upd r' r'' H' H''):Upd r r'' H H'' :=
 ⟨h.only.trans h'.only fun b hb=>(h.fp b hb).1,h'.holds,fun b hb=>⟨by
  rcases (h'.fp b hb).1 with k | k
  ·exact (h.fp b k).1
  ·exact .inr (Nat.le_trans h.only.1 k),(h'.fp b hb).2⟩,h'.nd⟩
theorem Upd.ext {r r':Res} {H H' H'':AH} (h:Upd r r' H H') (e:Ext H' H''):Upd r r' H H'' :=
 ⟨h.only.trans (e.only (F:=[])) (by simp),r'.keep h.holds fun b hb=>e.get (h.fp b hb).2,fun b hb=>⟨(h.fp b hb).1,Nat.lt_of_lt_of_le (h.fp b hb).2 e.1⟩,h.nd⟩
theorem Upd.after {r r':Res} {H H' H'':AH} (e:Ext H H') (h:Upd r r' H' H''):Upd r r' H H'' :=
 ⟨(e.only (F:=r.fp)).trans' h.only,h.holds,fun b hb=>⟨(h.fp b hb).1.imp id fun k=>Nat.le_trans e.1 k,(h.fp b hb).2⟩,h.nd⟩
theorem Upd.refl {r:Res} {H:AH} (h:r.P H) (hf:∀ b∈r.fp,b<H.next) (hn:r.fp.Nodup):Upd r r H H:=⟨Only.refl _ _,h,fun b hb=>⟨.inl hb,hf b hb⟩,hn⟩
def Fz (n:Nat) (Z Z':AH):Prop:=Sub Z Z'/\∀ b,b<n->Z'.get b=Z.get b
theorem Fz.refl (n:Nat) (Z:AH):Fz n Z Z:=⟨Sub.refl _,fun _ _=>rfl⟩
theorem Fz.trans {n:Nat} {A B C:AH} (h:Fz n A B) (h':Fz n B C):Fz n A C:=⟨h.1.trans h'.1,fun b hb=>(h'.2 b hb).trans (h.2 b hb)⟩
theorem Sub.newfrozen {Z H:AH} (h:Sub Z H) (o:AObj):∃ Z',Fz H.next Z Z'/\Sub Z' (H.new o)/\Z'.get H.next=o:=by
 have hs:Sub Z (H.new o):=h.new o
 have hlt:H.next<(H.new o).next:=by simp
 refine ⟨Z.freeze (H.new o).next H.next ((H.new o).get H.next),⟨hs.to_freeze hlt,fun b hb =>?_⟩,hs.freeze hlt,?_⟩
 ·rw [AH.get_freeze _ _ _ _ _ hs.1 hlt,if_neg (by omega)]
 ·rw [AH.get_freeze _ _ _ _ _ hs.1 hlt,if_pos rfl,AH.get_new_self]
theorem Fz.dead {n:Nat} {Z Z':AH} (h:Fz n Z Z') {b:Nat} (hb:b<n) (hd:Z.get b = .dead):Z'.get b = .dead:=by rw [h.2 b hb,hd]
section
variable {H0 Z H H':AH} {L:List Res}
theorem Has.begin (e:Ext H0 H) (s:Sub Z H):Has H0 Z H []:=⟨e,s,by simp,by simp⟩
theorem Has.refreeze (h:Has H0 Z H L) {Z':AH} (e:Ext H H') (f:Fz H.next Z Z') (s:Sub Z' H'):Has H0 Z' H' L :=
 ⟨h.ext.trans e,s,fun r hr=>by
  obtain ⟨h1,h2⟩:=h.all r hr
  exact ⟨r.keep h1 fun b hb=>e.get (h2 b hb).2.1,fun b hb=>⟨(h2 b hb).1,Nat.lt_of_lt_of_le (h2 b hb).2.1 e.1,f.dead (h2 b hb).2.1 (h2 b hb).2.2⟩⟩,h.nd⟩
theorem Has.start (e:Ext H0 H):Has H0 H H []:=⟨e,Sub.refl _,by simp,by simp⟩
theorem Has.get (h:Has H0 Z H L) {k:Nat} {r:Res} (hk:L[k]? = some r):r.P H:=(h.all r (List.mem_of_getElem? hk)).1
theorem Has.grow (h:Has H0 Z H L) (e:Ext H H'):Has H0 Z H' L :=
 ⟨h.ext.trans e,h.sub.ext e,fun r hr=>by
  obtain ⟨h1,h2⟩:=h.all r hr
  exact ⟨r.keep h1 fun b hb=>e.get (h2 b hb).2.1,fun b hb=>⟨(h2 b hb).1,Nat.lt_of_lt_of_le (h2 b hb).2.1 e.1,(h2 b hb).2.2⟩⟩,h.nd⟩
theorem Has.new (h:Has H0 Z H L) (o:AObj):Has H0 Z (H.new o) L:=h.grow ((Ext.refl H).new o)
theorem Has.add (h:Has H0 Z H L) (r:Res) (e:Ext H H') (hp:r.P H') (hf:∀ b∈r.fp,H.next<=b/\b<H'.next) (hn:r.fp.Nodup):Has H0 Z H' (L++[r]):=by
 have g:=h.grow e
 refine ⟨g.ext,g.sub,fun x hx =>?_,?_⟩
 ·rcases List.mem_append.1 hx with hx | hx
  ·exact g.all x hx
  ·simp only [List.mem_singleton] at hx; subst hx
   exact ⟨hp,fun b hb=>⟨Nat.le_trans h.ext.1 (hf b hb).1,(hf b hb).2,AH.get_ge _ (Nat.le_trans h.sub.1 (hf b hb).1)⟩⟩
 ·rw [List.flatMap_append,List.nodup_append]
  refine ⟨h.nd,by simpa using hn,fun a ha b hb =>?_⟩
  simp only [List.mem_flatMap] at ha
  obtain ⟨y,hy,ha⟩:=ha
  have:=((h.all y hy).2 a ha).2.1
  have:=(hf b (by simpa using hb)).1
  omega
theorem nodup_disj:∀ {L:List Res} (_:(L.flatMap Res.fp).Nodup) {i j:Nat} {r s:Res} (_:L[i]? = some r) (_:L[j]? = some s) (_:i≠j) {b:Nat} (_:b∈r.fp),b ∉ s.fp
 | [],_,i,j,r,s,hi,_,_,b,_=>by simp at hi
 | x :: L,hn,i,j,r,s,hi,hj,hij,b,hb=>by
  rw [List.flatMap_cons,List.nodup_append] at hn
  obtain ⟨_,h2,h3⟩:=hn
  intro hs
  cases i with
  | zero =>
   cases j with
   | zero=>exact hij rfl
   | succ j =>
    simp at hi; subst hi
    exact h3 b hb b (List.mem_flatMap.2 ⟨s,List.mem_of_getElem? (by simpa using hj),hs⟩) rfl
  | succ i =>
   cases j with
   | zero =>
    simp at hj; subst hj
    exact h3 b hs b (List.mem_flatMap.2 ⟨r,List.mem_of_getElem? (by simpa using hi),hb⟩) rfl
   | succ j=>exact nodup_disj h2 (by simpa using hi) (by simpa using hj) (by omega) hb hs
theorem nodup_set:∀ {L:List Res} (_:(L.flatMap Res.fp).Nodup) {n:Nat} (_:∀ r∈L,∀ b∈r.fp,b<n) {k:Nat} {r r':Res} (_:L[k]? = some r) (_:∀ b∈r'.fp,b∈r.fp\/n<=b) (_:r'.fp.Nodup),((L.set k r').flatMap Res.fp).Nodup
 | [],_,n,_,k,r,r',hk,_,_=>by simp at hk
 | x :: L,hn,n,hlt,k,r,r',hk,hf,hr=>by
  rw [List.flatMap_cons,List.nodup_append] at hn
  obtain ⟨h1,h2,h3⟩:=hn
  cases k with
  | zero =>
   simp at hk; subst hk
   rw [List.set_cons_zero,List.flatMap_cons,List.nodup_append]
   refine ⟨hr,h2,fun a ha b hb =>?_⟩
   rcases hf a ha with h | h
   ·exact h3 a h b hb
   ·obtain ⟨y,hy,hb⟩:=List.mem_flatMap.1 hb
    have:=hlt y (by simp [hy]) b hb
    omega
  | succ k =>
   rw [List.set_cons_succ,List.flatMap_cons,List.nodup_append]
   refine ⟨h1,nodup_set h2 (fun r hr=>hlt r (by simp [hr])) (by simpa using hk) hf hr,fun a ha b hb =>?_⟩
   obtain ⟨y,hy,hb⟩:=List.mem_flatMap.1 hb
   rcases List.mem_or_eq_of_mem_set hy with hy | e
   ·exact h3 a ha b (List.mem_flatMap.2 ⟨y,hy,hb⟩)
   ·subst e
    rcases hf b ‹b∈y.fp› with h | h
    ·exact h3 a ha b (List.mem_flatMap.2 ⟨r,List.mem_of_getElem? (by simpa using hk),h⟩)
    ·have:=hlt x (by simp) a ha
     omega
theorem Has.step (h:Has H0 Z H L) {k:Nat} {r r':Res} (hk:L[k]? = some r) (u:Upd r r' H H'):Has H0 Z H' (L.set k r'):=by
 have hr:=h.all r (List.mem_of_getElem? hk)
 refine ⟨u.only.ext h.ext fun b hb=>(hr.2 b hb).1,h.sub.only u.only fun b hb=>(hr.2 b hb).2.2,fun x hx =>?_,nodup_set h.nd (fun r hr b hb=>((h.all r hr).2 b hb).2.1) hk (fun b hb=>(u.fp b hb).1) u.nd⟩
 obtain ⟨j,hj,hjx⟩:=List.getElem_of_mem hx
 by_cases e:k=j
 ·subst e
  rw [List.getElem_set_self] at hjx
  subst hjx
  refine ⟨u.holds,fun b hb=>⟨?_,(u.fp b hb).2,?_⟩⟩
  ·rcases (u.fp b hb).1 with g | g
   ·exact (hr.2 b g).1
   ·exact Nat.le_trans h.ext.1 g
  ·rcases (u.fp b hb).1 with g | g
   ·exact (hr.2 b g).2.2
   ·exact AH.get_ge _ (Nat.le_trans h.sub.1 g)
 ·rw [List.getElem_set_ne e] at hjx
  have hj':j<L.length:=by simpa using hj
  have hjx':L[j]? = some x:=by rw [List.getElem?_eq_getElem hj',hjx]
  obtain ⟨h1,h2⟩:=h.all x (List.mem_of_getElem? hjx')
  refine ⟨x.keep h1 fun b hb=>u.only.get (h2 b hb).2.1 (nodup_disj h.nd hjx' hk (Ne.symm e) hb),fun b hb=>⟨(h2 b hb).1,Nat.lt_of_lt_of_le (h2 b hb).2.1 u.only.1,(h2 b hb).2.2⟩⟩
theorem nodup_erase:∀ {L:List Res} (_:(L.flatMap Res.fp).Nodup) (k:Nat),((L.eraseIdx k).flatMap Res.fp).Nodup
 | [],_,_=>by simp
 | x :: L,hn,0=>by
  rw [List.flatMap_cons,List.nodup_append] at hn
  exact hn.2.1
 | x :: L,hn,k+1=>by
  rw [List.flatMap_cons,List.nodup_append] at hn
  rw [List.eraseIdx_cons_succ,List.flatMap_cons,List.nodup_append]
  refine ⟨hn.1,nodup_erase hn.2.1 k,fun a ha b hb =>?_⟩
  obtain ⟨y,hy,hb⟩:=List.mem_flatMap.1 hb
  exact hn.2.2 a ha b (List.mem_flatMap.2 ⟨y,List.mem_of_mem_eraseIdx hy,hb⟩)
theorem Has.drop (h:Has H0 Z H L) (k:Nat):Has H0 Z H (L.eraseIdx k) :=
 ⟨h.ext,h.sub,fun r hr=>h.all r (List.mem_of_mem_eraseIdx hr),nodup_erase h.nd k⟩
theorem freeze_all (h:Sub Z H):∀ (l:List Nat),(∀ b∈l,b<H.next)->∃ Z',Sub Z Z'/\Sub Z' H/\(∀ b∈l,Z'.get b=H.get b)/\∀ b,b ∉ l->Z'.get b=Z.get b
 | [],_=>⟨Z,Sub.refl _,h,by simp,fun _ _=>rfl⟩
 | b :: l,hl=>by
  obtain ⟨Z',h1,h2,h3,h4⟩:=freeze_all h l fun x hx=>hl x (by simp [hx])
  have hb:=hl b (by simp)
  have hg:∀ x,(Z'.freeze H.next b (H.get b)).get x=if x=b then H.get b else Z'.get x:=fun x=>AH.get_freeze _ _ _ _ _ h2.1 hb
  refine ⟨_,h1.trans (h2.to_freeze hb),h2.freeze hb,fun x hx =>?_,fun x hx =>?_⟩
  ·rw [hg]
   split
   ·rename_i e; rw [e]
   ·rename_i e; exact h3 x (by simpa [e] using hx)
  ·simp only [List.mem_cons,not_or] at hx
   rw [hg,if_neg hx.1,h4 x hx.2]
theorem Has.freeze (h:Has H0 Z H L) {k:Nat} {r:Res} (hk:L[k]? = some r):∃ Z',Fz H0.next Z Z'/\r.P Z'/\Has H0 Z' H (L.eraseIdx k):=by
 have hr:=h.all r (List.mem_of_getElem? hk)
 obtain ⟨Z',h1,h2,h3,h4⟩:=freeze_all h.sub r.fp fun b hb=>(hr.2 b hb).2.1
 refine ⟨Z',⟨h1,fun b hb=>h4 b fun hm =>?_⟩,r.keep hr.1 h3,h.ext,h2,fun x hx =>?_,nodup_erase h.nd k⟩
 ·have:=(hr.2 b hm).1
  omega
 obtain ⟨j,hjk,hj⟩:=List.mem_eraseIdx_iff_getElem?.1 hx
 obtain ⟨g1,g2⟩:=h.all x (List.mem_of_getElem? hj)
 exact ⟨g1,fun b hb=>⟨(g2 b hb).1,(g2 b hb).2.1,by rw [h4 b (nodup_disj h.nd hj hk hjk hb)]; exact (g2 b hb).2.2⟩⟩
end
def boxR (b:Nat) (c:List Value):Res:=⟨[b],fun H=>H.get b = .cells c none,fun h e=>by rw [e _ (by simp)]; exact h⟩
def zH:AH:=⟨0,fun _ => .dead⟩
theorem zH_get (b:Nat):zH.get b = .dead:=by simp [AH.get,zH]
def growR (sz:Nat) (v:Value) (rows:List (List Value)):Res:=⟨blkL v,fun H=>Grow zH H sz v rows,fun h e=>h.keep fun b hb _=>e b (mem_blkL.2 hb)⟩
def mapR {K V:Type} [DecidableEq K] (fk:K->Value) (fv:V->Value) (r:Nat) (l:List (K×V)):Res:=⟨[r],fun H=>MapAt fk fv H r l,fun h e=>h.keep (e _ (by simp))⟩
section
variable {H0 Z H H':AH} {L:List Res}
theorem blkL_nodup (v:Value):(blkL v).Nodup:=by unfold blkL; split <;> simp
theorem Has.box (h:Has H0 Z H L) {k b:Nat} {c:List Value} (hk:L[k]? = some (boxR b c)):H.get b = .cells c none:=h.get hk
theorem Has.box_lt (h:Has H0 Z H L) {k b:Nat} {c:List Value} (hk:L[k]? = some (boxR b c)):b<H.next:=AH.lt_cells (h.box hk)
theorem Has.newbox (h:Has H0 Z H L) (c:List Value):Has H0 Z (H.new (.cells c none)) (L++[boxR H.next c]) :=
 h.add _ ((Ext.refl H).new _) (AH.get_new_self _ _) (by simp [boxR]) (by simp [boxR])
theorem Has.put (h:Has H0 Z H L) {k b:Nat} {c:List Value} (hk:L[k]? = some (boxR b c)) (c':List Value):Has H0 Z (H.put b (.cells c' none)) (L.set k (boxR b c')) :=
 h.step hk ⟨(Only.refl _ _).put (.inl (by simp [boxR])) _,AH.get_put_self _ _ (h.box_lt hk),fun x hx=>⟨.inl hx,by simp [boxR] at hx; subst hx; exact h.box_lt hk⟩,by simp [boxR]⟩
theorem Has.nils (h:Has H0 Z H L) (sz:Nat):Has H0 Z H (L++[growR sz nilS []]) :=
 h.add _ (Ext.refl H) (Grow.nil _ _ _) (by simp [growR,blkL,blk]) (by simp [growR,blkL,blk])
theorem Has.slice (h:Has H0 Z H L) {k sz:Nat} {v:Value} {rows:List (List Value)} (hk:L[k]? = some (growR sz v rows)):Grow zH H sz v rows:=h.get hk
theorem Has.rows (h:Has H0 Z H L) {k sz:Nat} {v:Value} {rows:List (List Value)} (hk:L[k]? = some (growR sz v rows)):Rows H sz v rows:=(h.slice hk).toRows
theorem Grow.upd {sz:Nat} {v v':Value} {rows rows':List (List Value)} (g:Grew' H H' v v') (h':Grow zH H' sz v' rows'):Upd (growR sz v rows) (growR sz v' rows') H H' :=
 ⟨g.1,h',fun b hb=>⟨(g.2 b (mem_blkL.1 hb)).imp mem_blkL.2 id,h'.blk_lt (mem_blkL.1 hb)⟩,blkL_nodup v'⟩
theorem Has.app1 (h:Has H0 Z H L) {k sz:Nat} {v:Value} {rows:List (List Value)} (hk:L[k]? = some (growR sz v rows)) {bytes:Nat} (new:List Value) (hl:new.length=sz) (hp:new.all plain1=true) (hs:sz≠0) (hb:bytes≠0) (h1:(rows.length+1)*bytes<=2 ^ 46) :
  ∃ v' H',AM.app sz bytes v (slc H.next 0 1 1) (H.new (.cells new none))=some (v',H')/\plain1 v'=true/\Has H0 Z H' (L.set k (growR sz v' (rows++[new]))):=by
 obtain ⟨v',H',a1,a2,a3⟩:=(h.slice hk).app1 (Nat.zero_le _) new hl hp hs hb h1
 exact ⟨v',H',a1,a2.plain,h.step hk (Grow.upd a3 a2)⟩
theorem Has.app (h:Has H0 Z H L) {k sz:Nat} {v x:Value} {rows new:List (List Value)} (hk:L[k]? = some (growR sz v rows)) {bytes:Nat} (hx:Rows H sz x new) (hp:∀ r∈new,r.all plain1=true) (hs:sz≠0) (hb:bytes≠0) (h1:(rows.length+new.length)*bytes<=2 ^ 46) (h2:rows.length+new.length<2 ^ 62) :
  ∃ v' H',AM.app sz bytes v x H=some (v',H')/\plain1 v'=true/\Has H0 Z H' (L.set k (growR sz v' (rows++new))):=by
 obtain ⟨v',H',a1,a2,a3⟩:=(h.slice hk).app (Nat.zero_le _) hx hp hs hb h1 h2
 exact ⟨v',H',a1,a2.plain,h.step hk (Grow.upd a3 a2)⟩
theorem Has.mapAt {K V:Type} [DecidableEq K] {fk:K->Value} {fv:V->Value} (h:Has H0 Z H L) {k r:Nat} {l:List (K×V)} (hk:L[k]? = some (mapR fk fv r l)):MapAt fk fv H r l:=h.get hk
theorem Has.newmap {K V:Type} [DecidableEq K] (fk:K->Value) (fv:V->Value) (h:Has H0 Z H L):Has H0 Z (H.new (.map [] 0 true)) (L++[mapR fk fv H.next ([]:List (K×V))]) :=
 h.add _ ((Ext.refl H).new _) (MapAt.new H) (by simp [mapR]) (by simp [mapR])
theorem Has.mapset {K V:Type} [DecidableEq K] {fk:K->Value} {fv:V->Value} (h:Has H0 Z H L) {n r kd:Nat} {l:List (K×V)} (hn:L[n]? = some (mapR fk fv r l)) (hk:∀ a b,sameCell kd (fk a) (fk b)=some (decide (a=b))) (k:K) (v:V) :
  ∃ H',setMap kd (.map (some r)) (fk k) (fv v) H=some H'/\Has H0 Z H' (L.set n (mapR fk fv r (aset k v l))):=by
 have hm:=h.mapAt hn
 obtain ⟨o,h1,h2,h3⟩:=hm.set hk k v
 exact ⟨_,h2,h.step hn ⟨(Only.refl _ _).put (.inl (by simp [mapR])) _,h3,fun x hx=>⟨.inl hx,by simp [mapR] at hx; subst hx; exact hm.lt⟩,by simp [mapR]⟩⟩
end
end Go.AM
end
section
namespace Go.AM
def joinR (rs:List Res):Res:=⟨rs.flatMap Res.fp,fun H=>∀ r∈rs,r.P H,fun {H H'} h e r hr=>r.keep (h r hr) fun b hb=>e b (List.mem_flatMap.2 ⟨r,hr,hb⟩)⟩
section
variable {H H':AH} {rs:List Res} {r r':Res}
theorem part_nodup:∀ {rs:List Res} {k:Nat},(rs.flatMap Res.fp).Nodup->rs[k]? = some r->r.fp.Nodup
 | [],k,_,hk=>by simp at hk
 | x :: rs,0,h,hk=>by
  simp at hk; subst hk
  rw [List.flatMap_cons,List.nodup_append] at h
  exact h.1
 | x :: rs,k+1,h,hk=>by
  rw [List.flatMap_cons,List.nodup_append] at h
  exact part_nodup h.2.1 (by simpa using hk)
structure Ow (r:Res) (H:AH):Prop where
 holds:r.P H
 lt:∀ b∈r.fp,b<H.next
 nd:r.fp.Nodup
theorem Ow.upd (h:Ow r H) (u:Upd r r' H H'):Ow r' H':=⟨u.holds,fun b hb=>(u.fp b hb).2,u.nd⟩
theorem Ow.refl (h:Ow r H):Upd r r H H:=Upd.refl h.holds h.lt h.nd
theorem Ow.ext (h:Ow r H) (e:Ext H H'):Upd r r H H':=h.refl.ext e
theorem Ow.mono (h:Ow r H) (e:Ext H H'):Ow r H':=h.upd (h.ext e)
theorem Ow.part (h:Ow (joinR rs) H) {k:Nat} (hk:rs[k]? = some r):Ow r H :=
 ⟨h.holds r (List.mem_of_getElem? hk),fun b hb=>h.lt b (List.mem_flatMap.2 ⟨r,List.mem_of_getElem? hk,hb⟩),part_nodup h.nd hk⟩
theorem Ow.set (h:Ow (joinR rs) H) {k:Nat} (hk:rs[k]? = some r) (u:Upd r r' H H'):Upd (joinR rs) (joinR (rs.set k r')) H H':=by
 have hlt:∀ r∈rs,∀ b∈r.fp,b<H.next:=fun r hr b hb=>h.lt b (List.mem_flatMap.2 ⟨r,hr,hb⟩)
 refine ⟨u.only.mono fun b hb => .inl (List.mem_flatMap.2 ⟨r,List.mem_of_getElem? hk,hb⟩),fun x hx =>?_,fun b hb =>?_,nodup_set h.nd hlt hk (fun b hb=>(u.fp b hb).1) u.nd⟩
 ·obtain ⟨j,hj,hjx⟩:=List.getElem_of_mem hx
  by_cases e:k=j
  ·subst e
   rw [List.getElem_set_self] at hjx
   subst hjx
   exact u.holds
  ·rw [List.getElem_set_ne e] at hjx
   have hj':j<rs.length:=by simpa using hj
   have hjx':rs[j]? = some x:=by rw [List.getElem?_eq_getElem hj',hjx]
   exact x.keep (h.holds x (List.mem_of_getElem? hjx')) fun b hb=>u.only.get (hlt x (List.mem_of_getElem? hjx') b hb) (nodup_disj h.nd hjx' hk (Ne.symm e) hb)
 ·obtain ⟨x,hx,hb'⟩:=List.mem_flatMap.1 hb
  clear hb
  have hb:=hb'
  rcases List.mem_or_eq_of_mem_set hx with hx | e
  ·exact ⟨.inl (List.mem_flatMap.2 ⟨x,hx,hb⟩),Nat.lt_of_lt_of_le (hlt x hx b hb) u.only.1⟩
  ·subst e
   exact ⟨(u.fp b hb).1.imp (fun k=>List.mem_flatMap.2 ⟨r,List.mem_of_getElem? hk,k⟩) id,(u.fp b hb).2⟩
theorem Ow.add (h:Ow (joinR rs) H) (r:Res) (e:Ext H H') (hp:r.P H') (hf:∀ b∈r.fp,H.next<=b/\b<H'.next) (hn:r.fp.Nodup):Upd (joinR rs) (joinR (rs++[r])) H H':=by
 refine ⟨e.only,fun x hx =>?_,fun b hb =>?_,?_⟩
 ·rcases List.mem_append.1 hx with hx | hx
  ·exact x.keep (h.holds x hx) fun b hb=>e.get (h.lt b (List.mem_flatMap.2 ⟨x,hx,hb⟩))
  ·simp only [List.mem_singleton] at hx; subst hx; exact hp
 ·simp only [joinR,List.flatMap_append,List.mem_append] at hb
  rcases hb with hb | hb
  ·exact ⟨.inl hb,Nat.lt_of_lt_of_le (h.lt b hb) e.1⟩
  ·have:=hf b (by simpa using hb)
   exact ⟨.inr this.1,this.2⟩
 ·simp only [joinR,List.flatMap_append]
  rw [List.nodup_append]
  refine ⟨h.nd,by simpa using hn,fun a ha b hb =>?_⟩
  have:=h.lt a ha
  have:=(hf b (by simpa using hb)).1
  omega
theorem boxR.put {b:Nat} {c:List Value} (h:H.get b = .cells c none) (c':List Value):Upd (boxR b c) (boxR b c') H (H.put b (.cells c' none)) :=
 ⟨(Only.refl _ _).put (.inl (by simp [boxR])) _,AH.get_put_self _ _ (AH.lt_cells h),fun x hx=>⟨.inl hx,by simp [boxR] at hx; subst hx; simpa using AH.lt_cells h⟩,by simp [boxR]⟩
section
variable {K V:Type} [DecidableEq K] {fk:K->Value} {fv:V->Value} {m:Nat} {l:List (K×V)} {kd:Nat}
theorem mapR.set (h:MapAt fk fv H m l) (hk:∀ a b,sameCell kd (fk a) (fk b)=some (decide (a=b))) (k:K) (v:V) :
  ∃ H',setMap kd (.map (some m)) (fk k) (fv v) H=some H'/\Upd (mapR fk fv m l) (mapR fk fv m (aset k v l)) H H':=by
 obtain ⟨o,_,h2,h3⟩:=h.set hk k v
 exact ⟨_,h2,(Only.refl _ _).put (.inl (by simp [mapR])) _,h3,fun x hx=>⟨.inl hx,by simp [mapR] at hx; subst hx; exact h.lt⟩,by simp [mapR]⟩
end
end
end Go.AM
end
section
namespace Go.AM
abbrev NameL:=List UInt8
abbrev alook {K V:Type} [DecidableEq K] (k:K) (l:List (K×V)):Option V:=@List.lookup K V instBEqOfDecidableEq k l
theorem alook_cons {K V:Type} [DecidableEq K] (k:K) (e:K×V) (l:List (K×V)):alook k (e :: l)=if k=e.1 then some e.2 else alook k l:=by
 by_cases h:k=e.1
 ·subst h; simp [alook,List.lookup]
 ·have:(k == e.1)=false:=by simpa using h
  simp [alook,List.lookup,this,h]
structure Nd where
 kind:BitVec 8
 data:List (BitVec 8)
 ents:List (NameL×BitVec 16)
 parent:BitVec 16
 text:List UInt8
 links:Int
 held:Int
 deriving DecidableEq
def Nd.none:Nd:=⟨0#8,[],[],0#16,[],0,0⟩
instance:Inhabited Nd:=⟨Nd.none⟩
structure Tr where
 N:List Nd
 limit:Int
 change:Int
 deriving DecidableEq
def Tr.node (T:Tr) (n:BitVec 16):Nd:=T.N.getD n.toNat Nd.none
def Tr.new (limit:Int):Tr:=⟨[Nd.none,{ Nd.none with kind:=2#8,parent:=1#16,links:=1 }],min (max limit 1) 256,0⟩
def Tr.len (T:Tr):Nat:=T.N.countP fun x=>decide (x.kind≠0#8)
def badByte (c:UInt8):Bool:=decide (c<33)||decide (126<c)||decide (c=47)||decide (c=35)
def okName (s:NameL):Bool:=s.all (fun c => !badByte c)&&decide (1<=s.length)&&decide (s.length<=14)&&decide (s≠[46])&&decide (s≠[46,46])
def Tr.dir (T:Tr) (n:BitVec 16):Int:=if (T.node n).kind=0#8 then 2 else if (T.node n).kind=2#8 then 0 else 20
def Tr.look (T:Tr) (n:BitVec 16) (s:NameL):BitVec 16×Int :=
 if T.dir n≠0 then (0#16,T.dir n) else match alook s (T.node n).ents with
  | some k=>(k,0)
  | none=>(0#16,2)
def Tr.room (T:Tr) (n:BitVec 16) (s:NameL):Int :=
 if T.dir n≠0 then T.dir n else if okName s=false then 22 else if (alook s (T.node n).ents).isSome then 17 else if (T.node n).links=0 then 2 else if 32<=(T.node n).ents.length then 28 else 0
def insertE (x:NameL×BitVec 16):List (NameL×BitVec 16)->List (NameL×BitVec 16)
 | []=>[x]
 | y :: l=>if Op.bytesLess y.1 x.1 then y :: insertE x l else x :: y :: l
def Tr.deepF (T:Tr):Nat->BitVec 16->Nat
 | 0,_=>0
 | f+1,n=>if n=1#16 then 0 else T.deepF f (T.node n).parent+1
def Tr.deep (T:Tr) (n:BitVec 16):Nat:=T.deepF 17 n
def freeL:List Nd->Nat
 | []=>0
 | x :: l=>if x.kind=0#8 then 0 else freeL l+1
def Tr.free (T:Tr):Nat:=freeL (T.N.drop 1)+1
def Tr.upd (T:Tr) (n:BitVec 16) (f:Nd->Nd):Tr:={ T with N:=T.N.modify n.toNat f }
def Tr.put (T:Tr) (n:Nat) (x:Nd):Tr:={ T with N:=if n<T.N.length then T.N.set n x else T.N++[x] }
def Tr.bump (T:Tr):Tr:={ T with change:=T.change+1 }
def Nd.addE (s:NameL) (k:BitVec 16) (x:Nd):Nd:={ x with ents:=insertE (s,k) x.ents }
def Nd.delE (s:NameL) (x:Nd):Nd:={ x with ents:=adel s x.ents }
def Nd.addL (k:Int) (x:Nd):Nd:={ x with links:=x.links+k }
def Nd.addH (k:Int) (x:Nd):Nd:={ x with held:=x.held+k }
def Nd.made (inn:BitVec 16) (k:BitVec 8) (text:List UInt8):Nd:=⟨k,[],[],if k=2#8 then inn else 0#16,if k=3#8 then text else [],1,0⟩
def Tr.make (T:Tr) (inn:BitVec 16) (s:NameL) (k:BitVec 8) (text:List UInt8):Tr×(BitVec 16×Int) :=
 if T.room inn s≠0 then (T,(0#16,T.room inn s))
 else if k=0#8\/3#8<k\/(k=3#8/\(text.length<1\/120<text.length)) then (T,(0#16,22))
 else if T.limit<=T.len\/(k=2#8/\16<=T.deep inn) then (T,(0#16,28))
 else (((T.put T.free (Nd.made inn k text)).upd inn (Nd.addE s (BitVec.ofNat 16 T.free))).bump,(BitVec.ofNat 16 T.free,0))
end Go.AM
end
section
namespace Go.AM
def ixOf {α:Type} (P:α->Bool) (l:List α):Int:=match l.findIdx? P with | some i=>(i:Int) | none => -1
theorem flatten_set {α:Type} {sz:Nat}:∀ (rows:List (List α)),(∀ r∈rows,r.length=sz)->∀ (i k:Nat) (x:α) (h:i<rows.length),k<sz->(rows.set i (rows[i].set k x)).flatten=rows.flatten.set (i*sz+k) x
 | [],_,i,k,x,h,_=>by simp at h
 | r :: rows,hl,0,k,x,h,hk=>by
  have h1:=hl r (by simp)
  simp only [List.set_cons_zero,List.getElem_cons_zero,List.flatten_cons,Nat.zero_mul,Nat.zero_add]
  rw [List.set_append_left _ _ (by omega)]
 | r :: rows,hl,i+1,k,x,h,hk=>by
  have h1:=hl r (by simp)
  have ih:=flatten_set rows (fun y hy=>hl y (by simp [hy])) i k x (by simpa using h) hk
  simp only [List.set_cons_succ,List.getElem_cons_succ,List.flatten_cons,ih,Nat.succ_mul]
  rw [List.set_append_right _ _ (by omega)]
  congr 2
  omega
theorem Grow.store {Z H:AH} {sz:Nat} {v:Value} {rows:List (List Value)} (h:Grow Z H sz v rows) {i k:Nat} (hi:i<rows.length) (hk:k<sz) (x:Value) (hx:plain1 x=true) :
  ∃ b o H',ixSlc sz v (vi i)=some (ptr b o)/\(H.get b).row o sz=some rows[i]/\store1 (ptr b (o+k)) x H=some H'/\Grow Z H' sz v (rows.set i (rows[i].set k x))/\Only (blkL v) H H':=by
 have hr:=h.toRows
 rcases h.2 with ⟨rfl,_⟩ | ⟨b,f,c,cs,g1,rfl,g3,g4,g5,g6,g7⟩
 ·simp at hi
 ·have hlt:=AH.lt_cells g3
  have hle:(i+1)*sz<=rows.length*sz:=Nat.mul_le_mul_right _ hi
  have hle2:rows.length*sz<=c*sz:=Nat.mul_le_mul_right _ g4
  rw [Nat.succ_mul] at hle
  obtain ⟨b',o',e1,e2⟩:=hr.ix hi
  have e3:=ixSlc_slc sz b 0 rows.length c i hi
  rw [e3] at e1
  simp only [Option.some.injEq,Value.pointer.injEq,Addr.mk.injEq,and_true] at e1
  obtain ⟨rfl,rfl⟩:=e1
  refine ⟨b,0+i*sz,H.put b (.cells (cs.set (i*sz+k) x) f),e3,e2,?_,⟨?_,.inr ⟨b,f,c,_,g1,by simp,AH.get_put_self _ _ hlt,by simpa using g4,by simpa using g5,?_,g7⟩⟩,(Only.refl _ _).put (.inl (by simp [blkL,blk])) _⟩
  ·rw [store1_ptr,if_pos hx,g3]
   simp only
   rw [if_pos (by omega),Nat.zero_add]
  ·intro r hr'
   rcases List.mem_or_eq_of_mem_set hr' with hr' | rfl
   ·exact h.1 r hr'
   ·obtain ⟨q1,q2⟩:=h.1 _ (List.getElem_mem hi)
    refine ⟨by simpa using q1,?_⟩
    rw [List.all_eq_true] at q2 ⊢
    intro y hy
    rcases List.mem_or_eq_of_mem_set hy with hy | rfl
    ·exact q2 y hy
    ·exact hx
  ·rw [List.length_set,List.take_set,g6,flatten_set rows (fun r hr=>(h.1 r hr).1) i k x hi hk]
def FreshV (n:Nat) (v:Value):Prop:=∀ b,blk v=some b->n<=b
theorem grew_ext {H0 H H':AH} {v v':Value} (g:Grew' H H' v v') (e:Ext H0 H) (hf:FreshV H0.next v):Ext H0 H'/\FreshV H0.next v' :=
 ⟨g.1.ext e fun b hb=>hf b (mem_blkL.1 hb),fun b hb=>(g.2 b hb).elim (hf b) fun k=>Nat.le_trans e.1 k⟩
end Go.AM
end
section
namespace Go.AM
variable {E:Sy} {H:AH} {Q:Value->AH->Prop}
structure PlaceD where
 m:Int
 i:BitVec 16
 deriving DecidableEq
def PlaceD.cells (p:PlaceD):List Value:=[vi p.m,u16 p.i]
abbrev PlaceD.v (p:PlaceD):Value := .agg p.cells.toArray
structure MntD where
 id:Int
 at_:PlaceD
 root:BitVec 16
 held:Int
 deriving DecidableEq
def MntD.cells (m:MntD):List Value:=[vi m.id,vi m.at_.m,u16 m.at_.i,u16 m.root,vi m.held]
abbrev MntD.v (m:MntD):Value := .agg m.cells.toArray
@[simp] theorem nilp_some (a:Addr):binNil eqPtr .eql (.pointer (some a)) (.pointer none)=some (.bool false):=rfl
@[simp] theorem nilp_none:binNil eqPtr .eql (.pointer none) (.pointer none)=some (.bool true):=rfl
@[simp] theorem nilp_some' (a:Addr):binNil eqPtr .neq (.pointer (some a)) (.pointer none)=some (.bool true):=rfl
@[simp] theorem nilp_none':binNil eqPtr .neq (.pointer none) (.pointer none)=some (.bool false):=rfl
@[simp] theorem nilCk_ptr (a:Addr):nilCk (.pointer (some a))=some (.pointer (some a)):=rfl
theorem S.f47 (hE:Fold E) (T:List MntD) (hT:T.length<2 ^ 63) (v f:Value) (hv:Rows H 5 v (T.map MntD.cells)) (P:MntD->Bool)
  (hf:∀ H' m (K:Value->AH->Prop),Ext H H'->m∈T->(∀ H'',Ext H' H''->K (vb (P m)) H'')->callV E.call f [MntD.v m] H' K)
  (hQ:∀ H',Ext H H'->Q (vi (ixOf P T)) H'):E.call (E.fid i.f47) [v,f] H Q:=by
 apply hE.f47
 have hl:=hv.lenSlc
 rw [List.length_map] at hl
 simp [F.f47,hl]
 refine LoopL.count T.length (fun j s H'=>s=[v,f,vi T.length,vi j]/\Ext H H'/\∀ i (hi:i<T.length),i<j->P T[i]=false) ?_ ⟨rfl,Ext.refl _,fun i _ h=>by omega⟩
 rintro j _ H' X hj hX ⟨rfl,e1,hn⟩
 simp only [F.f47_l1,nth_0,nth_1,nth_2,nth_3,i64_lss,opt_some]
 refine ifB_split (fun h =>?_) (fun h =>?_)
 ·have hjl:j<T.length:=by omega
  obtain ⟨b,o,f1,f2⟩:=(hv.mono e1).ix (i:=j) (by simpa using hjl)
  simp only [List.getElem_map] at f2
  simp only [f1,opt_some,loadN_ptr,f2,Option.map_some]
  refine hf H' T[j] _ e1 (List.getElem_mem hjl) fun H2 e2 =>?_
  cases hp:P T[j] with
  | true =>
   have:ixOf P T=(j:Int):=by
    have:T.findIdx? P=some j:=List.findIdx?_eq_some_iff_getElem.2 ⟨hjl,hp,fun i hi=>by simpa using hn i (by omega) hi⟩
    simp [ixOf,this]
   simp only [ifB_true]
   rw [<- this]
   exact hQ _ (e1.trans e2)
  | false =>
   simp only [ifB_false]
   rw [i64_inc (by omega),opt_some]
   refine hX hjl _ _ ⟨rfl,e1.trans e2,fun i hi hij =>?_⟩
   by_cases e:i=j
   ·subst e; exact hp
   ·exact hn i hi (by omega)
 ·have:j=T.length:=by omega
  subst this
  have:ixOf P T = -1:=by
   have:T.findIdx? P=none:=by
    rw [List.findIdx?_eq_none_iff]
    intro x hx
    obtain ⟨i,hi,rfl⟩:=List.getElem_of_mem hx
    exact hn i hi hi
   simp [ixOf,this]
  rw [<- this]
  exact hQ _ e1
def TabAt (H:AH) (p:Nat) (T:List MntD) (nx:Int):Prop:=T.length<2 ^ 62/\∃ v,H.get p = .cells [v,vi nx] none/\Rows H 5 v (T.map MntD.cells)
theorem TabAt.mono {H H':AH} {p:Nat} {T:List MntD} {nx:Int} (h:TabAt H p T nx) (e:Ext H H'):TabAt H' p T nx:=by
 obtain ⟨h0,v,h1,h2⟩:=h
 exact ⟨h0,v,e.cells h1,h2.mono e⟩
theorem S.f28 (hE:Fold E) (m:MntD) (b:Nat) (id:Int) (hb:H.get b = .cells [vi id] none) (hQ:∀ H',Ext H H'->Q (vb (decide (m.id=id))) H'):E.call (E.fid i.f28) [m.v,ptr b 0] H Q:=by
 apply hE.f28
 have hlt:=AH.lt_cells hb
 simp [F.f28,MntD.cells,AH.get_new,Nat.ne_of_lt hlt,hb]
 exact hQ _ ((Ext.refl _).new _)
def findT (T:List MntD) (id:Int):Int:=ixOf (fun m=>decide (m.id=id)) T
theorem S.f27 (hE:Fold E) (p:Nat) (T:List MntD) (nx id:Int) (hT:TabAt H p T nx) (hQ:∀ H',Ext H H'->Q (vi (findT T id)) H'):E.call (E.fid i.f27) [ptr p 0,vi id] H Q:=by
 apply hE.f27
 obtain ⟨h0,v,h1,h2⟩:=hT
 have hlt:=AH.lt_cells h1
 have hb:boxO (vi id)=some (.cells [vi id] none,mkPtr):=rfl
 have x1:Ext H (H.new (.cells [vi id] none)):=(Ext.refl H).new _
 simp [F.f27,hb,AH.get_new,Nat.ne_of_lt hlt,h1]
 refine S.f47 hE T (by omega) v _ (h2.mono x1) (fun m=>decide (m.id=id)) (fun H' m K e _ hK =>?_) fun H' e=>hQ _ (x1.trans e)
 simp
 exact S.f28 hE m H.next id (e.cells (AH.get_new_self _ _)) hK
end Go.AM
end
section
namespace Go.AM
variable {E:Sy} {H:AH} {Q:Value->AH->Prop}
theorem ixOf_cases {α:Type} (P:α->Bool) (l:List α):(l.find? P=none/\ixOf P l = -1)\/∃ (i:Nat) (hi:i<l.length),ixOf P l=i/\l.find? P=some l[i]/\P l[i]=true/\l.findIdx? P=some i:=by
 unfold ixOf
 cases h:l.findIdx? P with
 | none =>
  rw [List.findIdx?_eq_none_iff] at h
  exact .inl ⟨List.find?_eq_none.2 fun x hx=>by simp [h x hx],rfl⟩
 | some i =>
  obtain ⟨hi,h2,h3⟩:=List.findIdx?_eq_some_iff_getElem.1 h
  refine .inr ⟨i,hi,rfl,?_,h2,rfl⟩
  rw [List.find?_eq_some_iff_getElem]
  exact ⟨h2,i,hi,rfl,fun j hj=>by simpa using h3 j hj⟩
def getT (T:List MntD) (id:Int):Option MntD:=T.find? fun m=>decide (m.id=id)
def zeroM:MntD:=⟨0,⟨0,0#16⟩,0#16,0⟩
def optM (o:Option MntD):MntD:=o.getD zeroM
theorem S.f24 (hE:Fold E) (p:Nat) (T:List MntD) (nx id:Int) (hT:TabAt H p T nx) (hQ:∀ H',Ext H H'->Q (.tuple #[(optM (getT T id)).v,vb (getT T id).isSome]) H'):E.call (E.fid i.f24) [ptr p 0,vi id] H Q:=by
 apply hE.f24
 simp only [F.f24,allocW_eq]
 have x1:Ext H (H.new (.cells [vi 0,vi 0,.int .u16 0,.int .u16 0,vi 0] none)):=(Ext.refl H).new _
 refine S.f27 hE p T nx id (hT.mono x1) fun H2 e2 =>?_
 have x2:=x1.trans e2
 have kz:=e2.cells (AH.get_new_self H (.cells [vi 0,vi 0,.int .u16 0,.int .u16 0,vi 0] none))
 have lz:=AH.lt_cells kz
 rcases ixOf_cases (fun m:MntD=>decide (m.id=id)) T with ⟨h1,h2⟩ | ⟨j,hj,h1,h2,_,_⟩
 ·have h1:getT T id=none:=h1
  have h2:findT T id = -1:=h2
  simp [h2,kz,lz,splice]
  rw [h1] at hQ
  exact hQ _ (x2.put (b:=H.next) (by omega) _)
 ·have h1:findT T id=j:=h1
  have h2:getT T id=some T[j]:=h2
  have hT2:=hT.mono x2
  obtain ⟨h0,v,k1,k2⟩:=hT2
  obtain ⟨b,o,f1,f2⟩:=k2.ix (i:=j) (by simpa using hj)
  simp only [List.getElem_map] at f2
  have hneg:¬ ((j:Int)<0):=by omega
  rw [h2] at hQ
  simp only [optM,Option.getD_some,Option.isSome_some] at hQ
  generalize T[j]=m at *
  simp [h1,hneg,k1,f1,f2,kz,lz,splice,MntD.cells]
  exact hQ _ (x2.put (b:=H.next) (by omega) _)
def standsAt (p:PlaceD) (m:MntD):Bool:=decide (m.id≠0)&&decide (m.at_=p)
theorem place_eq (p q:PlaceD):(p=q)↔p.m=q.m/\p.i=q.i:=by
 cases p; cases q; simp
theorem S.f26 (hE:Fold E) (m:MntD) (b:Nat) (p:PlaceD) (hb:H.get b = .cells p.cells none) (hQ:∀ H',Ext H H'->Q (vb (standsAt p m)) H'):E.call (E.fid i.f26) [m.v,ptr b 0] H Q:=by
 apply hE.f26
 have hlt:=AH.lt_cells hb
 unfold standsAt at hQ
 by_cases h0:m.id=0
 ·simp [F.f26,MntD.cells,AH.get_new,Nat.ne_of_lt hlt,hb,h0]
  simpa [h0] using hQ _ ((Ext.refl _).new _)
 ·simp [F.f26,MntD.cells,PlaceD.cells,AH.get_new,Nat.ne_of_lt hlt,hb,h0]
  simpa [h0,place_eq,Bool.decide_and] using hQ _ ((Ext.refl _).new _)
def seenN (T:List MntD):Nat->PlaceD->PlaceD
 | 0,p=>p
 | n+1,p=>match T.find? (standsAt p) with
  | none=>p
  | some m=>seenN T n ⟨m.id,m.root⟩
def above (T:List MntD) (p:PlaceD):Nat:=(T.filter fun m=>decide (p.m<m.id)).length
def seen (T:List MntD) (p:PlaceD):PlaceD:=seenN T T.length p
def Older (T:List MntD):Prop:=∀ m∈T,m.id≠0->m.at_.m<m.id
theorem above_le (T:List MntD) (p:PlaceD):above T p<=T.length:=List.length_filter_le _ _
theorem filter_lt {α:Type} (P R:α->Bool):∀ (l:List α),(∀ x∈l,P x=true->R x=true)->∀ y∈l,P y=false->R y=true->(l.filter P).length<(l.filter R).length
 | [],_,y,hy,_,_=>by simp at hy
 | x :: l,h,y,hy,h1,h2=>by
  have hle:(l.filter P).length<=(l.filter R).length:=by
   have:∀ l':List α,(∀ x∈l',P x=true->R x=true)->(l'.filter P).length<=(l'.filter R).length:=by
    intro l'
    induction l' with
    | nil=>intro _; simp
    | cons z l' ih =>
     intro hh
     have:=ih fun x hx=>hh x (by simp [hx])
     have hz:=hh z (by simp)
     simp only [List.filter_cons]
     cases hp:P z with
     | true=>simp [hz hp]; omega
     | false=>cases hr:R z <;> simp <;> omega
   exact this l fun x hx=>h x (by simp [hx])
  rcases List.mem_cons.1 hy with rfl | hy
  ·simp [List.filter_cons,h1,h2]; omega
  ·have ih:=filter_lt P R l (fun x hx=>h x (by simp [hx])) y hy h1 h2
   have hx:=h x (by simp)
   simp only [List.filter_cons]
   cases hp:P x with
   | true=>simp [hx hp]; omega
   | false=>cases hr:R x <;> simp <;> omega
theorem above_step {T:List MntD} (hT:Older T) {p:PlaceD} {m:MntD} (h:T.find? (standsAt p)=some m):above T ⟨m.id,m.root⟩<above T p:=by
 have hm:=List.find?_some h
 have hmem:=List.mem_of_find?_eq_some h
 simp only [standsAt,Bool.and_eq_true,decide_eq_true_eq] at hm
 obtain ⟨h1,rfl⟩:=hm
 have:=hT m hmem h1
 refine filter_lt _ _ T (fun x _ hx =>?_) m hmem (by simp) (by simpa using this)
 simp only [decide_eq_true_eq] at hx ⊢
 omega
theorem seenN_stable {T:List MntD} (hT:Older T):∀ (n:Nat) (p:PlaceD),above T p<=n->seenN T n p=seenN T (n+1) p
 | 0,p,h=>by
  cases hf:T.find? (standsAt p) with
  | none=>simp [seenN,hf]
  | some m=>have:=above_step hT hf; omega
 | n+1,p,h=>by
  cases hf:T.find? (standsAt p) with
  | none=>simp [seenN,hf]
  | some m =>
   have:=above_step hT hf
   have ih:=seenN_stable hT n ⟨m.id,m.root⟩ (by omega)
   rw [seenN,seenN,hf]
   exact ih
theorem seen_none {T:List MntD} {p:PlaceD} (h:T.find? (standsAt p)=none):seen T p=p:=by
 unfold seen
 cases T.length <;> simp [seenN,h]
theorem seen_some {T:List MntD} (hT:Older T) {p:PlaceD} {m:MntD} (h:T.find? (standsAt p)=some m):seen T p=seen T ⟨m.id,m.root⟩:=by
 have h1:=above_step hT h
 have h2:=above_le T p
 unfold seen
 obtain ⟨n,hn⟩:∃ n,T.length=n+1:=⟨T.length - 1,by omega⟩
 rw [hn,seenN,h]
 exact seenN_stable hT n _ (by omega)
theorem S.f25 (hE:Fold E) (p:Nat) (T:List MntD) (nx:Int) (q:PlaceD) (hT:TabAt H p T nx) (ho:Older T) (hQ:∀ H',Ext H H'->Q (seen T q).v H'):E.call (E.fid i.f25) [ptr p 0,q.v] H Q:=by
 apply hE.f25
 have hp1:p<H.next:=by obtain ⟨_,v,h1,_⟩:=hT; exact AH.lt_cells h1
 simp [F.f25]
 generalize hH2:(H.new _).new _=H2
 have x2:Ext H H2:=by subst hH2; exact ((Ext.refl H).new _).new _
 have k1:H2.get H.next = .cells q.cells none:=by subst hH2; simp [AH.get_new]
 have k2:H2.get (H.next+1) = .cells [vi 0,u16 0#16] none:=by subst hH2; simp [AH.get_new]
 clear hH2
 refine LoopL.ind (fun n s H'=>∃ r,n=above T r/\s=[ptr p 0,ptr H.next 0,ptr (H.next+1) 0]/\Ext H H'/\seen T r=seen T q/\H'.get H.next = .cells r.cells none/\H'.get (H.next+1) = .cells [vi 0,u16 0#16] none) ?_ (above T q) ⟨q,rfl,rfl,x2,rfl,k1,k2⟩
 rintro n _ H' X hX ⟨r,rfl,rfl,e1,hs,m1,m2⟩
 have hT1:=hT.mono e1
 obtain ⟨h0,v,t1,t2⟩:=hT1
 have l1:=AH.lt_cells m1
 have l2:=AH.lt_cells m2
 simp [F.f25_l1,t1]
 refine S.f47 hE T (by omega) v _ t2 (standsAt r) (fun H3 m K e _ hK =>?_) fun H3 e3 =>?_
 ·simp
  exact S.f26 hE m H.next r (e.cells m1) hK
 rcases ixOf_cases (standsAt r) T with ⟨h1,h2⟩ | ⟨j,hj,h1,h2,_,_⟩
 ·rw [h2]
  have n1:=e3.cells m1
  have n2:=e3.cells m2
  have ln2:=AH.lt_cells n2
  simp [n1,PlaceD.cells,n2,splice,ln2]
  have:=hQ _ ((e1.trans e3).put (b:=H.next+1) (by omega) (.cells r.cells none))
  rw [<- hs,seen_none h1] at this
  exact this
 ·have hneg:¬ ((j:Int)<0):=by omega
  have t1':=e3.cells t1
  have n1:=e3.cells m1
  have ln1:=AH.lt_cells n1
  obtain ⟨b,o,f1,f2⟩:=(t2.mono e3).ix (i:=j) (by simpa using hj)
  simp only [List.getElem_map] at f2
  have hst:=above_step ho h2
  have hss:=seen_some ho h2
  generalize T[j]=m at *
  have c0:(H3.get b).cell o=some (vi m.id):=by
   have:=row_at f2 (j:=0) (by omega)
   rw [Nat.add_zero] at this
   rw [this]; rfl
  have c3:(H3.get b).cell (o+3)=some (u16 m.root):=by
   have:=row_at f2 (j:=3) (by omega)
   rw [this]; rfl
  simp [h1,hneg,t1',f1,c0,c3,splice,n1,PlaceD.cells]
  refine hX (above T ⟨m.id,m.root⟩) hst _ _ ⟨⟨m.id,m.root⟩,rfl,rfl,(e1.trans e3).put (b:=H.next) (by omega) _,by rw [<- hss]; exact hs,?_,?_⟩
  ·rw [AH.get_put_self _ _ ln1]; rfl
  ·rw [AH.get_put_ne _ _ (by omega)]; exact e3.cells m2
end Go.AM
end
section
namespace Go.AM
variable {E:Sy} {H:AH} {Q:Value->AH->Prop}
def downT (T:List MntD) (p:PlaceD):Option PlaceD:=match getT T p.m with
 | none=>none
 | some m=>if m.id=0\/m.root≠p.i then none else some m.at_
def optP (o:Option PlaceD):PlaceD:=o.getD ⟨0,0#16⟩
theorem S.f23 (hE:Fold E) (p:Nat) (T:List MntD) (nx:Int) (q:PlaceD) (hT:TabAt H p T nx) (hQ:∀ H',Ext H H'->Q (.tuple #[(optP (downT T q)).v,vb (downT T q).isSome]) H'):E.call (E.fid i.f23) [ptr p 0,q.v] H Q:=by
 apply hE.f23
 simp [F.f23,AH.get_new,PlaceD.cells]
 generalize hH2:(H.new _).new _=H2
 have x2:Ext H H2:=by subst hH2; exact ((Ext.refl H).new _).new _
 have k1:H2.get H.next = .cells [vi q.m,u16 q.i] none:=by subst hH2; simp [AH.get_new]
 have k2:H2.get (H.next+1) = .cells [vi 0,u16 0#16] none:=by subst hH2; simp [AH.get_new]
 clear hH2
 refine S.f24 hE p T nx q.m (hT.mono x2) fun H3 e3 =>?_
 have x3:=x2.trans e3
 have m1:=e3.cells k1
 have m2:=e3.cells k2
 have l1:=AH.lt_cells m1
 have l2:=AH.lt_cells m2
 unfold downT at hQ
 have hp:∀ (A B:AObj),Ext H (H3.put (H.next+1) B |>.new A):=fun A B=>(x3.put (b:=H.next+1) (by omega) B).new A
 cases hg:getT T q.m with
 | none =>
  rw [hg] at hQ
  simp [optM,zeroM,MntD.cells,splice,AH.get_new,Nat.ne_of_lt l1,Nat.ne_of_lt l2,l2,m1,m2]
  simpa [optP,PlaceD.v,PlaceD.cells] using hQ _ (hp _ _)
 | some m =>
  rw [hg] at hQ
  simp only at hQ
  by_cases h0:m.id=0
  ·simp [optM,h0,MntD.cells,splice,AH.get_new,Nat.ne_of_lt l1,Nat.ne_of_lt l2,l2,m1,m2]
   simpa [optP,PlaceD.v,PlaceD.cells,h0] using hQ _ (hp _ _)
  ·by_cases hr:m.root=q.i
   ·simp [optM,h0,hr,MntD.cells,splice,AH.get_new,Nat.ne_of_lt l1,Nat.ne_of_lt l2,l2,m1,m2]
    simpa [optP,PlaceD.v,PlaceD.cells,h0,hr] using hQ _ (hp _ _)
   ·simp [optM,h0,hr,MntD.cells,splice,AH.get_new,Nat.ne_of_lt l1,Nat.ne_of_lt l2,l2,m1,m2]
    simpa [optP,PlaceD.v,PlaceD.cells,h0,hr] using hQ _ (hp _ _)
theorem S.f29 (hE:Fold E) (hQ:∀ H',Ext H H'->Q (PlaceD.v ⟨0,1#16⟩) H'):E.call (E.fid i.f29) [] H Q:=by
 apply hE.f29
 simp [F.f29,splice]
 exact hQ _ ((Ext.refl _).new _)
def tabR (p:Nat) (v:Value) (T:List MntD) (nx:Int):Res:=⟨p :: blkL v,fun H=>H.get p = .cells [v,vi nx] none/\Grow zH H 5 v (T.map MntD.cells),
 fun h e=>⟨by rw [e _ (by simp)]; exact h.1,h.2.keep fun b hb _=>e b (by simp [mem_blkL.2 hb])⟩⟩
theorem tabR.at_ {p:Nat} {v:Value} {T:List MntD} {nx:Int} (h:(tabR p v T nx).P H) (hn:T.length<2 ^ 62):TabAt H p T nx:=⟨hn,v,h.1,h.2.toRows⟩
end Go.AM
end
section
namespace Go.AM
variable {E:Sy} {H:AH} {Q:Value->AH->Prop}
def tab0:List MntD:=[⟨0,⟨0,0#16⟩,1#16,0⟩]
def NewRes (r:Res) (H H':AH):Prop:=Ext H H'/\r.P H'/\(∀ b∈r.fp,H.next<=b/\b<H'.next)/\r.fp.Nodup
theorem S.f22 (hE:Fold E) (hQ:∀ p v H',NewRes (tabR p v tab0 1) H H'->Q (ptr p 0) H'):E.call (E.fid i.f22) [] H Q:=by
 apply hE.f22
 simp [-buildS_eq,F.f22,splice]
 rw [buildS_one 5 [_,_,_,_,_] [vi 0,vi 0,u16 0#16,u16 1#16,vi 0] rfl rfl,mk_some,mkSlc_eq]
 simp [splice]
 refine hQ (H.next+1) (slc H.next 0 1 1) _ ⟨((Ext.refl H).new _).new _,⟨by rw [<- AH.next_new,AH.get_new_self],Grow.made (zH_get _) (by simp [AH.get_new]; rfl) (.inl rfl) rfl (by simp [tab0,MntD.cells])⟩,?_,?_⟩
 ·simp [tabR,blkL,blk]; omega
 ·simp [tabR,blkL,blk]
structure TabOk (T:List MntD) (nx:Int):Prop where
 older:Older T
 len:T.length<=16
 nx0:0<=nx
 nx1:nx<2 ^ 61
 held:∀ m∈T,0<=m.held/\m.held<2 ^ 61
end Go.AM
end
section
namespace Go.AM
variable {E:Sy} {H0 Z H:AH} {L:List Res} {Q:Value->AH->Prop}
def PlaceD.zero:PlaceD:=⟨0,0#16⟩
@[simp] theorem PlaceD.cells_length (p:PlaceD):p.cells.length=2:=rfl
@[simp] theorem MntD.cells_length (m:MntD):m.cells.length=5:=rfl
@[simp] theorem place_plain (p:PlaceD):p.cells.all plain1=true:=rfl
@[simp] theorem place_splice (a b:Value) (p:PlaceD):splice [a,b] 0 p.cells=p.cells:=rfl
@[simp] theorem place_splice' (q p:PlaceD):splice q.cells 0 p.cells=p.cells:=rfl
@[simp] theorem place_take (p:PlaceD):p.cells.take 2=p.cells:=rfl
@[simp] theorem mnt_plain (p:MntD):p.cells.all plain1=true:=rfl
@[simp] theorem mnt_splice (a b c d e:Value) (p:MntD):splice [a,b,c,d,e] 0 p.cells=p.cells:=rfl
@[simp] theorem mnt_take (p:MntD):p.cells.take 5=p.cells:=rfl
theorem tabOk0:TabOk tab0 1:=⟨by unfold Older; simp [tab0],by simp [tab0],by omega,by omega,by simp [tab0]⟩
@[simp] theorem place_build (a:Int) (b:BitVec 16):buildV [(0,1),(1,1)] #[.int .i64 0,.int .u16 0] [(0,vi a),(1,u16 b)]=some (PlaceD.v ⟨a,b⟩):=rfl
end Go.AM
end
section
namespace Go.AM
variable {E:Sy} {H:AH} {Q:Value->AH->Prop}
def afail (e:Int):BitVec 32:=327680#32|||BitVec.ofInt 32 (if 4095<(if 0 > e then 0 else e) then 4095 else (if 0 > e then 0 else e))
theorem S.f40 (hE:Fold E) (e:Int) (hQ:Q (u32 (afail e)) H):E.call (E.fid i.f40) [vi e] H Q:=by
 apply hE.f40
 simp [F.f40]
 exact hQ
end Go.AM
end
section
namespace Go.AM
variable {E:Sy} {H:AH} {Q:Value->AH->Prop}
structure CondD where
 arg:Int
 op:BitVec 8
 mask:BitVec 64
 value:BitVec 64
def CondD.cells (c:CondD):List Value:=[vi c.arg,u8 c.op,u64 c.mask,u64 c.value]
abbrev CondD.v (c:CondD):Value := .agg c.cells.toArray
def holdsOf (op:Nat) (mask value a:BitVec 64):Bool :=
 if op=1 then decide (a=value) else if op=2 then decide (a≠value) else if op=3 then decide (a.toNat<value.toNat) else if op=4 then decide (a.toNat<=value.toNat)
 else if op=5 then decide (value.toNat<a.toNat) else if op=6 then decide (value.toNat<=a.toNat) else if op=7 then decide (a&&&mask=value) else false
def argAt (l:List (BitVec 64)) (n:Nat):BitVec 64:=l.getD n 0
def holds (c:CondD) (args:List (BitVec 64)):Bool:=if c.arg<0\/5<c.arg then false else holdsOf c.op.toNat c.mask c.value (argAt args c.arg.toNat)
end Go.AM
end
section
namespace Go.AM
variable {E:Sy} {H:AH} {Q:Value->AH->Prop}
structure RuleD where
 number:BitVec 32
 action:BitVec 32
 conds:List CondD
def RuleAt (H:AH) (r:RuleD) (cs:List Value):Prop:=r.conds.length<2 ^ 63/\∃ v,cs=[u32 r.number,u32 r.action,v]/\Rows H 4 v (r.conds.map CondD.cells)
end Go.AM
end
section
namespace Go.AM
variable {E:Sy} {H:AH} {Q:Value->AH->Prop}
def SliceOf {α:Type} (R:AH->α->List Value->Prop) (H:AH) (sz:Nat) (v:Value) (l:List α):Prop :=
 ∃ rows,Rows H sz v rows/\rows.length=l.length/\∀ i (h1:i<l.length) (h2:i<rows.length),R H l[i] rows[i]
theorem Rows.plain {H:AH} {sz:Nat} {v:Value} {rows:List (List Value)} (h:Rows H sz v rows):plain1 v=true:=by
 rcases h.at_ with ⟨_,c,rfl⟩ | ⟨b,o,c,rfl,_⟩ <;> rfl
section
variable {α:Type} {R:AH->α->List Value->Prop} {sz:Nat} {v:Value} {l:List α}
theorem SliceOf.lenSlc (h:SliceOf R H sz v l):AM.lenSlc v=some (vi l.length):=by
 obtain ⟨rows,h1,h2,h3⟩:=h
 rw [h1.lenSlc,h2]
theorem SliceOf.ix (h:SliceOf R H sz v l) {i:Nat} (hi:i<l.length):∃ b o cs,ixSlc sz v (vi i)=some (ptr b o)/\(H.get b).row o sz=some cs/\R H l[i] cs:=by
 obtain ⟨rows,h1,h2,h3⟩:=h
 obtain ⟨b,o,f1,f2⟩:=h1.ix (i:=i) (by omega)
 exact ⟨b,o,_,f1,f2,h3 i hi (by omega)⟩
end
structure PolD where
 default:BitVec 32
 rules:List RuleD
end Go.AM
end
section
namespace Go.AM
variable {E:Sy} {H:AH} {Q:Value->AH->Prop}
structure PolX where
 name:List UInt8
 pol:PolD
 handled:BitVec 16
 paths:List (List UInt8×BitVec 16)
 ports:List (BitVec 16×BitVec 16)
def PolXAt (H:AH) (x:PolX) (cs:List Value):Prop:=∃ v pv qv,cs=[str x.name,u32 x.pol.default,v,u16 x.handled,pv,qv]/\SliceOf RuleAt H 3 v x.pol.rules /\
 Rows H 2 pv (x.paths.map fun p=>[str p.1,u16 p.2])/\Rows H 2 qv (x.ports.map fun p=>[u16 p.1,u16 p.2])
theorem SliceOf.sub {α:Type} {R:AH->α->List Value->Prop} {sz:Nat} {v:Value} {l:List α} (h:SliceOf R H sz v l) (hm:∀ (H H':AH) (a:α) (c:List Value),R H a c->Sub H H'->R H' a c) {H':AH} (e:Sub H H'):SliceOf R H' sz v l:=by
 obtain ⟨rows,h1,h2,h3⟩:=h
 exact ⟨rows,h1.sub e,h2,fun i a b=>hm _ _ _ _ (h3 i a b) e⟩
theorem RuleAt.sub {H H':AH} {r:RuleD} {cs:List Value} (h:RuleAt H r cs) (e:Sub H H'):RuleAt H' r cs:=⟨h.1,h.2.choose,h.2.choose_spec.1,h.2.choose_spec.2.sub e⟩
theorem PolXAt.sub {H H':AH} {x:PolX} {cs:List Value} (h:PolXAt H x cs) (e:Sub H H'):PolXAt H' x cs:=by
 obtain ⟨v,pv,qv,h1,h2,h3,h4⟩:=h
 exact ⟨v,pv,qv,h1,h2.sub (fun _ _ _ _ h e=>RuleAt.sub h e) e,h3.sub e,h4.sub e⟩
theorem PolXAt.mono {H H':AH} {x:PolX} {cs:List Value} (h:PolXAt H x cs) (e:Ext H H'):PolXAt H' x cs:=h.sub e.sub
end Go.AM
end
section
namespace Go.AM
variable {E:Sy} {H:AH} {Q:Value->AH->Prop}
def smallValues:List (BitVec 64):=[0#64,1#64,2#64,3#64,5#64,255#64,4294967295#64,4294967296#64,4294967297#64,8589934597#64,9223372036854775810#64,18446744073709551615#64]
theorem S.f35 (hE:Fold E) (hQ:∀ v H',Ext H H'->Vals H' v (smallValues.map u64)->Q v H'):E.call (E.fid i.f35) [] H Q:=by
 apply hE.f35
 simp [F.f35]
 refine hQ _ _ ((Ext.refl _).new _) (Vals.made (AH.get_new_self _ _) (.inl rfl) rfl)
structure SCond where
 arg:BitVec 8
 op:BitVec 8
 mask:BitVec 8
 value:BitVec 8
def SCond.cells (c:SCond):List Value:=[u8 c.arg,u8 c.op,u8 c.mask,u8 c.value]
abbrev SCond.v (c:SCond):Value := .agg c.cells.toArray
def sval (n:Nat):BitVec 64:=smallValues.getD n 0#64
def SCond.cond (s:SCond):CondD :=
 if 1#8+s.op % 7#8=7#8 then ⟨(s.arg % 6#8).toNat,7#8,sval (1+s.mask.toNat % 11),sval (s.value.toNat % 12)&&&sval (1+s.mask.toNat % 11)⟩
 else ⟨(s.arg % 6#8).toNat,1#8+s.op % 7#8,0#64,sval (s.value.toNat % 12)⟩
theorem Vals.get? {H:AH} {v:Value} {l:List Value} (h:Vals H v l) {i:Nat} {x:Value} (hi:l[i]? = some x):∃ b o,ixSlc 1 v (vi i)=some (ptr b o)/\(H.get b).cell o=some x:=by
 obtain ⟨hlt,rfl⟩:=List.getElem?_eq_some_iff.1 hi
 exact h.elem hlt
theorem S.f31 (hE:Fold E) (c:SCond) (hQ:∀ H',Ext H H'->Q c.cond.v H'):E.call (E.fid i.f31) [c.v] H Q:=by
 apply hE.f31
 simp [F.f31]
 refine S.f35 hE fun v H3 h3 hv =>?_
 have e3:Ext H H3:=(((Ext.refl H).new _).new _).trans h3
 have k1:H3.get H.next = .cells c.cells none:=h3.cells (by simp [AH.get_new])
 have k2:H3.get (H.next+1) = .cells [.int .i64 0,u8 0#8,u64 0#64,u64 0#64] none:=h3.cells (by simp [AH.get_new])
 have hl:=hv.lenSlc
 have h12:((smallValues.map u64).length:Int)=((12:Nat):Int):=rfl
 have hlt:=AH.lt_cells k2
 have m12:smallValues.length=12:=rfl
 have hat:∀ n,n<12->(smallValues.map u64)[n]? = some (u64 (sval n)):=fun n hn=>by
  have:n<smallValues.length:=hn
  simp [sval,List.getD_eq_getElem?_getD,this]
 have r1:binInt .rem (vi c.value.toNat) (vi 12)=some (vi ((c.value.toNat % 12:Nat):Int)):=i64_rem_nat c.value.toNat 12 (by decide)
 have r2:binInt .rem (vi c.mask.toNat) (vi 11)=some (vi ((c.mask.toNat % 11:Nat):Int)):=i64_rem_nat c.mask.toNat 11 (by decide)
 have ea:((c.arg % 6#8).toNat:Int)=(c.arg.toNat:Int) % 6:=by simp
 unfold SCond.cond at hQ
 have hn1:c.value.toNat % 12<12:=Nat.mod_lt _ (by decide)
 have hn2:c.mask.toNat % 11<11:=Nat.mod_lt _ (by decide)
 generalize c.value.toNat % 12=n1 at *
 generalize c.mask.toNat % 11=n2 at *
 have r3:binInt .add (vi 1) (vi (n2:Int))=some (vi ((1+n2:Nat):Int)):=i64_add_nat 1 _ (by omega)
 have r4:binInt .sub (vi 12) (vi 1)=some (vi 11):=rfl
 obtain ⟨b1,o1,f1,f2⟩:=hv.get? (hat n1 hn1)
 obtain ⟨b2,o2,f3,f4⟩:=hv.get? (hat (1+n2) (by omega))
 have hb1:b1<H3.next:=AH.lt_of_get (fun h=>by rw [h] at f2; cases f2)
 have hb2:b2<H3.next:=AH.lt_of_get (fun h=>by rw [h] at f4; cases f4)
 generalize 1+n2=n3 at *
 have hne:H.next+1≠H3.next:=Nat.ne_of_lt hlt
 simp [k1,SCond.cells,hl,m12,r1,f1,f2,splice,AH.get_new,Nat.ne_of_lt (Nat.lt_of_succ_lt hlt)]
 by_cases hop:1#8+c.op % 7#8=7#8
 ·rw [if_pos hop] at hQ
  simp [hop,r2,r3,r4,f3,f4,AH.get_new,AH.get_put,splice,k1,k2,hlt,hne,Nat.ne_of_lt hb2]
  simpa [CondD.v,CondD.cells,ea] using hQ _ ((e3.put (b:=H.next+1) (by omega) _).new _)
 ·rw [if_neg hop] at hQ
  simp [hop,AH.get_new,AH.get_put,hlt,hne,k2,splice]
  simpa [CondD.v,CondD.cells,ea] using hQ _ ((e3.put (b:=H.next+1) (by omega) _).new _)
end Go.AM
end
section
namespace Go.AM
variable {E:Sy} {H:AH} {Q:Value->AH->Prop}
def callTable:List (Nat×List UInt8×Nat):=[(0,[114,101,97,100],2),(1,[119,114,105,116,101],2),(2,[111,112,101,110],2),(3,[99,108,111,115,101],1),(4,[115,116,97,116],1),(8,[115,101,101,107],2),(32,[100,117,112],1),(39,[112,105,100],0),(41,[115,111,99,107,101,116],0),(42,[99,111,110,110,101,99,116],2),(49,[98,105,110,100],2),(50,[108,105,115,116,101,110],1),(57,[102,111,114,107],0),(60,[101,120,105,116],1),(77,[116,114,117,110,99,97,116,101],2),(78,[114,101,97,100,100,105,114],1),(79,[99,119,100],0),(80,[99,104,100,105,114],1),(82,[114,101,110,97,109,101],2),(83,[109,107,100,105,114],1),(84,[114,109,100,105,114],1),(86,[108,105,110,107],2),(87,[117,110,108,105,110,107],1),(88,[115,121,109,108,105,110,107],2),(89,[114,101,97,100,108,105,110,107],1),(157,[112,114,99,116,108],1),(165,[109,111,117,110,116],2),(166,[117,109,111,117,110,116],1),(317,[115,101,99,99,111,109,112],1),(446,[114,101,115,116,114,105,99,116],1)]
def callCells (c:Nat×List UInt8×Nat):List Value:=[vi c.1,str c.2.1,vi c.2.2]
theorem bv3 (z0 z1 z2 a b c:Value) (ha:vcells a=[a]) (hb:vcells b=[b]) (hc:vcells c=[c]) (da:defd a=true) (db:defd b=true) (dc:defd c=true):buildV [(0,1),(1,1),(2,1)] #[z0,z1,z2] [(0,a),(1,b),(2,c)]=some (.agg #[a,b,c]):=by
 simp [ha,hb,hc,da,db,dc,splice]
theorem S.f39' (hE:Fold E) (hQ:Q (slc H.next 0 30 30) (H.new (.cells (callTable.map callCells).flatten none))):E.call (E.fid i.f39) [] H Q:=by
 apply hE.f39
 unfold F.f39
 repeat rw [bv3 _ _ _ _ _ _ rfl rfl rfl rfl rfl rfl,opt_some]
 rw [buildS_full 30 3 _ _ (callTable.map fun c => .agg (callCells c).toArray) rfl ?_ rfl rfl ?_,mk_some]
 ·exact hQ
 ·rfl
 ·intro r hr
  obtain ⟨c,_,rfl⟩:=List.mem_map.1 hr
  rfl
def sdirs:List (List UInt8):=[[47],[47,97],[47,97,47,98],[47,102],[47,97,47,103],[47,99]]
theorem S.f32 (hE:Fold E) (hQ:∀ v H',Ext H H'->Vals H' v (sdirs.map str)->Q v H'):E.call (E.fid i.f32) [] H Q:=by
 apply hE.f32
 simp [F.f32,splice]
 exact hQ _ _ ((Ext.refl _).new _) (Vals.made (AH.get_new_self _ _) (.inl rfl) rfl)
def saction (k n:BitVec 8):BitVec 32:=if k % 4#8=0#8 then 2147483648#32 else if k % 4#8=1#8 then afail (1+(n.toNat:Int)) else if k % 4#8=2#8 then 2147221504#32 else 2147418112#32
theorem S.f30 (hE:Fold E) (k n:BitVec 8) (hQ:Q (u32 (saction k n)) H):E.call (E.fid i.f30) [u8 k,u8 n] H Q:=by
 apply hE.f30
 unfold saction at hQ
 have hn:=n.isLt
 simp [F.f30,ifB_dec]
 by_cases h0:k % 4#8=0#8
 ·simp [h0] at hQ ⊢; exact hQ
 by_cases h1:k % 4#8=1#8
 ·simp [h1] at hQ ⊢
  rw [i64_add (by omega) (by omega),opt_some]
  exact S.f40 hE _ hQ
 by_cases h2:k % 4#8=2#8
 ·simp [h2] at hQ ⊢; exact hQ
 ·simp [h0,h1,h2] at hQ ⊢; exact hQ
end Go.AM
end
section
namespace Go.AM
variable {E:Sy} {H:AH} {Q:Value->AH->Prop}
abbrev refL (b2 b3:Nat) (c2:List Value) (nm:Value) (d:BitVec 32) (rv hd pv qv:Value) (rows prows qrows:List (List Value)):List Res :=
 [boxR b2 c2,boxR b3 [nm,u32 d,rv,hd,pv,qv],growR 3 rv rows,growR 2 pv prows,growR 2 qv qrows]
end Go.AM
end
section
namespace Go.AM
variable {E:Sy} {H:AH} {Q:Value->AH->Prop}
structure SRule where
 call:BitVec 8
 action:BitVec 8
 errno:BitVec 8
 conds:List SCond
structure Small where
 name:BitVec 8
 dflt:BitVec 8
 errno:BitVec 8
 rules:List SRule
 handled:BitVec 16
 paths:List (BitVec 8)
 rights:List (BitVec 16)
 ports:List (BitVec 8)
def SRuleAt (H:AH) (r:SRule) (cs:List Value):Prop:=r.conds.length<2 ^ 63/\∃ w,cs=[u8 r.call,u8 r.action,u8 r.errno,w]/\Rows H 4 w (r.conds.map SCond.cells)
theorem SRuleAt.sub {H H':AH} {r:SRule} {cs:List Value} (h:SRuleAt H r cs) (e:Sub H H'):SRuleAt H' r cs:=⟨h.1,h.2.choose,h.2.choose_spec.1,h.2.choose_spec.2.sub e⟩
def SmallAt (H:AH) (s:Small) (cs:List Value):Prop:=∃ v pv rv qv,cs=[u8 s.name,u8 s.dflt,u8 s.errno,v,u16 s.handled,pv,rv,qv]/\SliceOf SRuleAt H 4 v s.rules/\Vals H pv (s.paths.map u8)/\Vals H rv (s.rights.map u16)/\Vals H qv (s.ports.map u8) /\
 s.rules.length<2 ^ 63/\s.paths.length<2 ^ 63/\s.rights.length<2 ^ 63/\s.ports.length<2 ^ 63
theorem SmallAt.sub {H H':AH} {s:Small} {cs:List Value} (h:SmallAt H s cs) (e:Sub H H'):SmallAt H' s cs:=by
 obtain ⟨v,pv,rv,qv,h1,h2,h3,h4,h5,h6⟩:=h
 exact ⟨v,pv,rv,qv,h1,h2.sub (fun _ _ _ _ h e=>SRuleAt.sub h e) e,Rows.sub h3 e,Rows.sub h4 e,Rows.sub h5 e,h6⟩
def callNumber (n:Nat):BitVec 32:=BitVec.ofNat 32 (callTable.getD n (0,[],0)).1
def SRule.rule (r:SRule):RuleD:=⟨callNumber (r.call.toNat % 30),saction r.action r.errno,(r.conds.take 4).map SCond.cond⟩
def Small.hd (s:Small):BitVec 16:=s.handled&&&51199#16
def Small.right (s:Small) (i:Nat) (kind:BitVec 16):BitVec 16:=match s.rights[i]? with | none=>s.hd&&&kind | some r=>r&&&s.hd&&&kind
def stepPath (s:Small) (l:List (List UInt8×BitVec 16)) (i:Nat):List (List UInt8×BitVec 16) :=
 let p:=sdirs.getD ((s.paths.getD i 0#8).toNat % 6) []
 if p ∉ l.map Prod.fst/\s.right i 2047#16≠0#16 then l++[(p,s.right i 2047#16)] else l
def stepPort (s:Small) (l:List (BitVec 16×BitVec 16)) (i:Nat):List (BitVec 16×BitVec 16) :=
 let n:BitVec 16:=(80#8+s.ports.getD i 0#8 % 4#8).setWidth 16
 if n ∉ l.map Prod.fst/\s.right i 49152#16≠0#16 then l++[(n,s.right i 49152#16)] else l
def Small.pathsTo (s:Small) (n:Nat):List (List UInt8×BitVec 16):=(List.range n).foldl (stepPath s) []
def Small.portsTo (s:Small) (n:Nat):List (BitVec 16×BitVec 16):=(List.range n).foldl (stepPort s) []
def snames:List (List UInt8):=[[112],[112,111,108,45,49],[120,95,121]]
def Small.pol (s:Small):PolX:=⟨snames.getD (s.name % 3#8).toNat [],⟨saction s.dflt s.errno,(s.rules.take 12).map SRule.rule⟩,s.hd,s.pathsTo s.paths.length,s.portsTo s.ports.length⟩
theorem pathsTo_succ (s:Small) (n:Nat):s.pathsTo (n+1)=stepPath s (s.pathsTo n) n:=by simp [Small.pathsTo,List.range_succ]
theorem portsTo_succ (s:Small) (n:Nat):s.portsTo (n+1)=stepPort s (s.portsTo n) n:=by simp [Small.portsTo,List.range_succ]
theorem step_nodup {α β:Type} [DecidableEq α] (l:List (α×β)) (a:α) (b:β) (h:a ∉ l.map Prod.fst) (hn:(l.map Prod.fst).Nodup):((l++[(a,b)]).map Prod.fst).Nodup:=by
 rw [List.map_append,List.nodup_append]
 refine ⟨hn,by simp,fun x hx y hy =>?_⟩
 simp at hy
 subst hy
 rintro rfl
 exact h hx
theorem pathsTo_ok (s:Small):∀ n,((s.pathsTo n).map Prod.fst).Nodup/\∀ x∈(s.pathsTo n).map Prod.fst,x∈sdirs
 | 0=>by simp [Small.pathsTo]
 | n+1=>by
  obtain ⟨h1,h2⟩:=pathsTo_ok s n
  rw [pathsTo_succ]
  unfold stepPath
  simp only
  split
  ·rename_i h
   refine ⟨step_nodup _ _ _ h.1 h1,fun x hx =>?_⟩
   rw [List.map_append,List.mem_append] at hx
   rcases hx with hx | hx
   ·exact h2 x hx
   ·simp only [List.map_cons,List.map_nil,List.mem_singleton] at hx
    subst hx
    have:(s.paths.getD n 0#8).toNat % 6<sdirs.length:=Nat.mod_lt _ (by decide)
    rw [List.getD_eq_getElem?_getD,List.getElem?_eq_getElem this]
    exact List.getElem_mem this
  ·exact ⟨h1,h2⟩
theorem pathsTo_len (s:Small) (n:Nat):(s.pathsTo n).length<=6:=by
 have:=nodup_le _ sdirs (pathsTo_ok s n).1 (pathsTo_ok s n).2
 simpa [sdirs] using this
def portNs:List (BitVec 16):=[80#16,81#16,82#16,83#16]
theorem portN (x:BitVec 8):((80#8+x % 4#8).setWidth 16:BitVec 16)∈portNs:=by
 have h:∀ y:BitVec 8,y.toNat<4->((80#8+y).setWidth 16:BitVec 16)∈portNs:=by
  intro y hy
  have:y=BitVec.ofNat 8 y.toNat:=by simp
  rw [this]
  generalize y.toNat=k at *
  match k,hy with
  | 0,_=>decide
  | 1,_=>decide
  | 2,_=>decide
  | 3,_=>decide
 exact h _ (by simp; omega)
theorem portsTo_ok (s:Small):∀ n,((s.portsTo n).map Prod.fst).Nodup/\∀ x∈(s.portsTo n).map Prod.fst,x∈portNs
 | 0=>by simp [Small.portsTo]
 | n+1=>by
  obtain ⟨h1,h2⟩:=portsTo_ok s n
  rw [portsTo_succ]
  unfold stepPort
  simp only
  split
  ·rename_i h
   refine ⟨step_nodup _ _ _ h.1 h1,fun x hx =>?_⟩
   rw [List.map_append,List.mem_append] at hx
   rcases hx with hx | hx
   ·exact h2 x hx
   ·simp only [List.map_cons,List.map_nil,List.mem_singleton] at hx
    subst hx
    exact portN _
  ·exact ⟨h1,h2⟩
theorem portsTo_len (s:Small) (n:Nat):(s.portsTo n).length<=4:=by
 have:=nodup_le _ portNs (portsTo_ok s n).1 (portsTo_ok s n).2
 simpa [portNs] using this
theorem S.f34 (hE:Fold E) (s:Small) (cs:List Value) (hs:SmallAt H s cs) (b1 b4:Nat) (h1:H.get b1 = .cells cs none) (c4:List Value) (h4:H.get b4 = .cells c4 none) (hc4:c4[3]? = some (u16 s.hd)) (n:Nat) (k:BitVec 16) (hQ:Q (u16 (s.right n k)) H) :
  E.call (E.fid i.f34) [vi n,u16 k,ptr b1 0,ptr b4 0] H Q:=by
 apply hE.f34
 obtain ⟨v,pv,rv,qv,rfl,_,_,hr,_⟩:=hs
 have hl:=hr.lenSlc
 rw [List.length_map] at hl
 unfold Small.right at hQ
 simp [F.f34,h1,hl]
 refine ifB_split (fun h =>?_) (fun h =>?_)
 ·rw [List.getElem?_eq_none (by omega)] at hQ
  simp [h4,hc4]
  exact hQ
 ·have hi:n<s.rights.length:=by omega
  rw [List.getElem?_eq_getElem hi] at hQ
  obtain ⟨b,o,f1,f2⟩:=hr.elem (i:=n) (by simpa using hi)
  simp [h1,h4,hc4,f1,f2]
  exact hQ
def pathV (p:List UInt8×BitVec 16):List Value:=[str p.1,u16 p.2]
def portV (p:BitVec 16×BitVec 16):List Value:=[u16 p.1,u16 p.2]
theorem sdirs_get (n:Nat) (h:n<6):(sdirs.map str)[n]? = some (str (sdirs.getD n [])):=by
 have:n<sdirs.length:=h
 simp [List.getD_eq_getElem?_getD,this]
theorem Policy_l2 (hE:Fold E) (s:Small) (cs:List Value) (H0 Z:AH) (hs:SmallAt Z s cs) (b1 b2 b4 r:Nat) (h1:Z.get b1 = .cells cs none) (c2:List Value) (hc2:c2.length=6) (nm:Value) (hnm:plain1 nm=true) (d:BitVec 32) (rv pv:Value) (rows prows:List (List Value)) (sv:Value) (hsv:Vals Z sv (s.ports.map u8)) (hn:s.ports.length<2 ^ 63)
  (hS:Has H0 Z H (refL b2 b4 c2 nm d rv (u16 s.hd) pv nilS rows prows []++[mapR u16 vb r []]))
  (hQ:∀ H' qv c2,Has H0 Z H' (refL b2 b4 c2 nm d rv (u16 s.hd) pv qv rows prows ((s.portsTo s.ports.length).map portV))->Q (.agg #[nm,u32 d,rv,u16 s.hd,pv,qv]) H') :
  LoopL (fun l H X0=>F.f33_l2 E Q (nth l 0) (nth l 1) (nth l 2) (nth l 3) (nth l 4) (nth l 5) (nth l 6) H X0) [ptr b2 0,ptr b4 0,.func (.func (E.fid i.f34)) #[] #[ptr b1 0,ptr b4 0],.map (some r),sv,vi s.ports.length,vi 0] H:=by
 refine LoopL.count s.ports.length (fun j l H'=>∃ qv,l=[ptr b2 0,ptr b4 0,.func (.func (E.fid i.f34)) #[] #[ptr b1 0,ptr b4 0],.map (some r),sv,vi s.ports.length,vi j]/\plain1 qv=true /\
   Has H0 Z H' (refL b2 b4 c2 nm d rv (u16 s.hd) pv qv rows prows ((s.portsTo j).map portV)++[mapR u16 vb r ((s.portsTo j).map fun p=>(p.1,true))])) ?_ ⟨nilS,rfl,rfl,hS⟩
 rintro j _ H' X hj hX ⟨qv,rfl,hqv,g1⟩
 have k4:=g1.box (k:=1) rfl
 have k2:=g1.box (k:=0) rfl
 simp only [F.f33_l2,nth_0,nth_1,nth_2,nth_3,nth_4,nth_5,nth_6,i64_lss,opt_some]
 refine ifB_split (fun h =>?_) (fun h =>?_)
 ·have hjl:j<s.ports.length:=by omega
  obtain ⟨b,o,f1,f2⟩:=(Rows.sub hsv g1.sub).ix (i:=j) (by simpa using hjl)
  simp only [List.getElem_map] at f2
  have f2:=row_at f2 (by omega:0<1)
  simp at f2
  have hst:=portsTo_succ s j
  have hlen:=portsTo_len s j
  unfold stepPort at hst
  simp only [List.getD_eq_getElem?_getD,List.getElem?_eq_getElem hjl,Option.getD_some] at hst
  generalize s.ports[j]=c at *
  simp [-buildS_eq,-buildV_eq,f1,f2]
  generalize hnn:(BitVec.setWidth 16 (80#8+c % 4#8):BitVec 16)=n at *
  refine S.f34 hE s cs (hs.sub g1.sub) b1 b4 (g1.sub.cells h1) _ k4 rfl j 49152#16 ?_
  have hm:=(g1.mapAt (k:=5) rfl).look (kd:=0) same_u16 n (.bool false) false
  rw [lookup_set] at hm
  by_cases hin:n∈(s.portsTo j).map Prod.fst
  ·rw [if_pos hin] at hm
   have hm:look 0 (.bool false) false (.map (some r)) (u16 n) H'=some (.bool true):=hm
   simp only [hm,opt_some,un_not,Bool.not_true,gd_ft,gd_skip,pick_false,ifB_false]
   rw [i64_add (by omega) (by omega),opt_some]
   refine hX hjl _ _ ⟨qv,by simp,hqv,?_⟩
   rw [hst,if_neg (fun h=>h.1 hin)]
   exact g1
  ·rw [if_neg hin] at hm
   have hm:look 0 (.bool false) false (.map (some r)) (u16 n) H'=some (.bool false):=hm
   by_cases hr:s.right j 49152#16=0#16
   ·simp [-buildS_eq,-buildV_eq,hm,hr]
    rw [i64_add (by omega) (by omega),opt_some]
    refine hX hjl _ _ ⟨qv,by simp,hqv,?_⟩
    rw [hst,if_neg (fun h=>h.2 hr)]
    exact g1
   ·rw [if_pos ⟨hin,hr⟩] at hst
    simp [-buildS_eq,-buildV_eq,hm,hr]
    obtain ⟨H4,m1,m2⟩:=g1.mapset (n:=5) rfl (kd:=0) same_u16 n true
    rw [aset_new n true (fun _=>true) _ hin] at m2
    rw [m1,opt_some,m2.box (k:=1) rfl]
    obtain ⟨v',H5,a1,a2,a3⟩:=m2.app1 (k:=4) rfl (bytes:=4) (portV (n,s.right j 49152#16)) rfl rfl (by omega) (by omega) (by simp; omega)
    have e:=buildS_one 2 [u16 0#16,u16 0#16] (portV (n,s.right j 49152#16)) rfl rfl
    simp only [portV] at e a1 
    simp [-buildS_eq,splice]
    rw [e,mk_some,mkSlc_eq,a1]
    simp [a2,a3.box (k:=1) rfl]
    rw [i64_add (by omega) (by omega),opt_some]
    refine hX hjl _ _ ⟨v',by simp,a2,?_⟩
    rw [hst,List.map_append,List.map_append]
    exact a3.put (k:=1) rfl [nm,u32 d,rv,u16 s.hd,pv,v']
 ·have:j=s.ports.length:=by omega
  subst this
  have hrv:=(g1.slice (k:=2) rfl).plain
  have hpv:=(g1.slice (k:=3) rfl).plain
  have e9:=row_all [nm,u32 d,rv,u16 s.hd,pv,qv] none 6 rfl
  have l2:=g1.box_lt (k:=0) rfl
  have h4:=(g1.put (k:=0) rfl [nm,u32 d,rv,u16 s.hd,pv,qv]).drop 5
  simp [k4,e9,k2,hc2,hnm,hrv,hpv,hqv,l2,splice]
  have e0:List.drop 6 c2=[]:=List.drop_eq_nil_of_le (by omega)
  rw [e0]
  exact hQ _ qv _ h4
end Go.AM
end
section
namespace Go.AM
variable {E:Sy} {H:AH} {Q:Value->AH->Prop}
theorem Policy_l1 (hE:Fold E) (s:Small) (cs:List Value) (H0 Z:AH) (hs:SmallAt Z s cs) (b1 b2 b4 r:Nat) (h1:Z.get b1 = .cells cs none) (c2:List Value) (hc2:c2.length=6) (nm:Value) (hnm:plain1 nm=true) (d:BitVec 32) (rv:Value) (rows:List (List Value)) (sv:Value) (hsv:Vals Z sv (s.paths.map u8)) (hn:s.paths.length<2 ^ 63)
  (hS:Has H0 Z H (refL b2 b4 c2 nm d rv (u16 s.hd) nilS nilS rows [] []++[mapR str vb r []]))
  (hQ:∀ H' pv qv c2,Has H0 Z H' (refL b2 b4 c2 nm d rv (u16 s.hd) pv qv rows ((s.pathsTo s.paths.length).map pathV) ((s.portsTo s.ports.length).map portV))->Q (.agg #[nm,u32 d,rv,u16 s.hd,pv,qv]) H') :
  LoopL (fun l H X0=>F.f33_l1 E Q (nth l 0) (nth l 1) (nth l 2) (nth l 3) (nth l 4) (nth l 5) (nth l 6) (nth l 7) H X0) [ptr b1 0,ptr b2 0,ptr b4 0,.map (some r),.func (.func (E.fid i.f34)) #[] #[ptr b1 0,ptr b4 0],sv,vi s.paths.length,vi 0] H:=by
 refine LoopL.count s.paths.length (fun j l H'=>∃ pv,l=[ptr b1 0,ptr b2 0,ptr b4 0,.map (some r),.func (.func (E.fid i.f34)) #[] #[ptr b1 0,ptr b4 0],sv,vi s.paths.length,vi j] /\
   Has H0 Z H' (refL b2 b4 c2 nm d rv (u16 s.hd) pv nilS rows ((s.pathsTo j).map pathV) []++[mapR str vb r ((s.pathsTo j).map fun p=>(p.1,true))])) ?_ ⟨nilS,rfl,hS⟩
 rintro j _ H' X hj hX ⟨pv,rfl,g1⟩
 have k4:=g1.box (k:=1) rfl
 simp only [F.f33_l1,nth_0,nth_1,nth_2,nth_3,nth_4,nth_5,nth_6,nth_7,i64_lss,opt_some]
 refine ifB_split (fun h =>?_) (fun h =>?_)
 ·have hjl:j<s.paths.length:=by omega
  obtain ⟨b,o,f1,f2⟩:=(Rows.sub hsv g1.sub).ix (i:=j) (by simpa using hjl)
  simp only [List.getElem_map] at f2
  have f2:=row_at f2 (by omega:0<1)
  simp at f2
  have hst:=pathsTo_succ s j
  have hlen:=pathsTo_len s j
  unfold stepPath at hst
  simp only [List.getD_eq_getElem?_getD (l:=s.paths),List.getElem?_eq_getElem hjl,Option.getD_some] at hst
  generalize s.paths[j]=c at *
  simp [-buildS_eq,-buildV_eq,f1,f2]
  refine S.f32 hE fun w1 H1 e1 hw1 =>?_
  refine S.f32 hE fun w2 H2 e2 hw2 =>?_
  have hl2:=hw2.lenSlc
  have hl2:lenSlc w2=some (vi 6):=hl2
  have hrm:binInt .rem (vi c.toNat) (vi 6)=some (vi ((c.toNat % 6:Nat):Int)):=i64_rem_nat c.toNat 6 (by decide)
  have hm6:c.toNat % 6<6:=Nat.mod_lt _ (by decide)
  generalize c.toNat % 6=m at *
  obtain ⟨b3,o3,f3,f4⟩:=(hw1.mono e2).get? (sdirs_get m hm6)
  generalize sdirs.getD m []=n at *
  have g1:=(g1.grow e1).grow e2
  have k4:=g1.box (k:=1) rfl
  simp [-buildS_eq,-buildV_eq,hl2,hrm,f3,f4]
  refine S.f34 hE s cs (hs.sub g1.sub) b1 b4 (g1.sub.cells h1) _ k4 rfl j 2047#16 ?_
  have hm:=(g1.mapAt (k:=5) rfl).look (kd:=1) same_str n (.bool false) false
  rw [lookup_set] at hm
  by_cases hin:n∈(s.pathsTo j).map Prod.fst
  ·rw [if_pos hin] at hm
   have hm:look 1 (.bool false) false (.map (some r)) (str n) H2=some (.bool true):=hm
   simp only [hm,opt_some,un_not,Bool.not_true,gd_ft,gd_skip,pick_false,ifB_false]
   rw [i64_add (by omega) (by omega),opt_some]
   refine hX hjl _ _ ⟨pv,by simp,?_⟩
   rw [hst,if_neg (fun h=>h.1 hin)]
   exact g1
  ·rw [if_neg hin] at hm
   have hm:look 1 (.bool false) false (.map (some r)) (str n) H2=some (.bool false):=hm
   by_cases hr:s.right j 2047#16=0#16
   ·simp [-buildS_eq,-buildV_eq,hm,hr]
    rw [i64_add (by omega) (by omega),opt_some]
    refine hX hjl _ _ ⟨pv,by simp,?_⟩
    rw [hst,if_neg (fun h=>h.2 hr)]
    exact g1
   ·rw [if_pos ⟨hin,hr⟩] at hst
    simp [-buildS_eq,-buildV_eq,hm,hr]
    obtain ⟨H4,m1,m2⟩:=g1.mapset (n:=5) rfl (kd:=1) same_str n true
    rw [aset_new n true (fun _=>true) _ hin] at m2
    rw [m1,opt_some,m2.box (k:=1) rfl]
    obtain ⟨v',H5,a1,a2,a3⟩:=m2.app1 (k:=3) rfl (bytes:=24) (pathV (n,s.right j 2047#16)) rfl rfl (by omega) (by omega) (by simp; omega)
    have e:=buildS_one 2 [str [],u16 0#16] (pathV (n,s.right j 2047#16)) rfl rfl
    simp only [pathV] at e a1
    simp [-buildS_eq,splice]
    rw [e,mk_some,mkSlc_eq,a1]
    simp [a2,a3.box (k:=1) rfl]
    rw [i64_add (by omega) (by omega),opt_some]
    refine hX hjl _ _ ⟨v',by simp,?_⟩
    rw [hst,List.map_append,List.map_append]
    exact a3.put (k:=1) rfl [nm,u32 d,rv,u16 s.hd,v',nilS]
 ·have:j=s.paths.length:=by omega
  subst this
  have hs':=hs
  obtain ⟨v,pv',rv',qv,rfl,_,_,_,h5,_,_,_,h9⟩:=hs'
  have hl2:=(Rows.sub h5 g1.sub).lenSlc
  simp only [List.length_map] at hl2
  have g2:=(g1.drop 5).newmap u16 vb
  have k1:=g2.sub.cells h1
  simp [k1,hl2]
  exact Policy_l2 hE s _ H0 Z hs b1 b2 b4 H'.next h1 c2 hc2 nm hnm d rv pv rows _ qv h5 h9 g2 fun H'' qv c2 g=>hQ _ _ _ _ g
theorem Policy_j1 (hE:Fold E) (s:Small) (cs:List Value) (H0 Z:AH) (hs:SmallAt Z s cs) (b1 b2 b4:Nat) (h1:Z.get b1 = .cells cs none) (c2:List Value) (hc2:c2.length=6) (nm:Value) (hnm:plain1 nm=true) (d:BitVec 32) (rv:Value) (rows:List (List Value))
  (hS:Has H0 Z H (refL b2 b4 c2 nm d rv (u16 s.hd) nilS nilS rows [] []))
  (hQ:∀ H' pv qv c2,Has H0 Z H' (refL b2 b4 c2 nm d rv (u16 s.hd) pv qv rows ((s.pathsTo s.paths.length).map pathV) ((s.portsTo s.ports.length).map portV))->Q (.agg #[nm,u32 d,rv,u16 s.hd,pv,qv]) H') :
  F.f33_j1 E Q (ptr b1 0) (ptr b2 0) (ptr b4 0) H:=by
 have hs':=hs
 obtain ⟨v,pv',rv',qv,rfl,_,h4,_,_,_,h7,_,_⟩:=hs'
 have g2:=hS.newmap str vb
 have hl2:=(Rows.sub h4 g2.sub).lenSlc
 simp only [List.length_map] at hl2
 have k1:=g2.sub.cells h1
 simp [F.f33_j1,k1,hl2]
 exact Policy_l1 hE s _ H0 Z hs b1 b2 b4 H.next h1 c2 hc2 nm hnm d rv rows pv' h4 h7 g2 hQ
theorem Policy_l4 (hE:Fold E) (X0:List Value->AH->Prop) (b1 b2 b4 b7:Nat) (t3 t38 t39:Value) (i:Nat) (hi:i<12) (x:SRule) (hx:x.conds.length<2 ^ 63) (w:Value) (H0 Z:AH) (hw:Rows Z 4 w (x.conds.map SCond.cells)) (c2:List Value) (nm:Value) (d nu ac:BitVec 32) (rv hd pv qv:Value) (rows prows qrows:List (List Value))
  (hr:rows.length=i) (hS:Has H0 Z H (refL b2 b4 c2 nm d rv hd pv qv rows prows qrows++[boxR b7 [u32 nu,u32 ac,nilS]]))
  (hX0:∀ Z' H' rv' row,Fz H0.next Z Z'->RuleAt Z' ⟨nu,ac,(x.conds.take 4).map SCond.cond⟩ row->Has H0 Z' H' (refL b2 b4 c2 nm d rv' hd pv qv (rows++[row]) prows qrows)->X0 [ptr b1 0,ptr b2 0,t3,ptr b4 0,t38,t39,vi ((i+1:Nat):Int)] H') :
  LoopL (fun l H X1=>F.f33_l4 E Q X0 (nth l 0) (nth l 1) (nth l 2) (nth l 3) (nth l 4) (nth l 5) (nth l 6) (nth l 7) (nth l 8) (nth l 9) (nth l 10) H X1) [ptr b1 0,ptr b2 0,t3,ptr b4 0,ptr b7 0,t38,t39,vi i,w,vi x.conds.length,vi 0] H:=by
 refine LoopL.count x.conds.length (fun j s H'=>∃ cv,s=[ptr b1 0,ptr b2 0,t3,ptr b4 0,ptr b7 0,t38,t39,vi i,w,vi x.conds.length,vi j]/\plain1 cv=true/\Has H0 Z H' (refL b2 b4 c2 nm d rv hd pv qv rows prows qrows++[boxR b7 [u32 nu,u32 ac,cv],growR 4 cv ((((x.conds.take 4).map SCond.cond).take j).map CondD.cells)])) ?_ ⟨nilS,rfl,rfl,hS.nils 4⟩
 rintro j _ H' X hj hX ⟨cv,rfl,hcv,h1⟩
 have k6:=h1.box (k:=5) rfl
 have h6:=h1.box_lt (k:=5) rfl
 simp only [F.f33_l4,nth_0,nth_1,nth_2,nth_3,nth_4,nth_5,nth_6,nth_7,nth_8,nth_9,nth_10,i64_lss,opt_some]
 refine ifB_split (fun h =>?_) (fun h =>?_)
 ·have hjl:j<x.conds.length:=by omega
  obtain ⟨b,o,f1,f2⟩:=(hw.sub h1.sub).ix (i:=j) (by simpa using hjl)
  simp only [List.getElem_map] at f2
  have h2:=h1.new (.cells x.conds[j].cells none)
  by_cases hj4:j<4
  ·have htk:(((x.conds.take 4).map SCond.cond).take (j+1)).map CondD.cells=(((x.conds.take 4).map SCond.cond).take j).map CondD.cells++[x.conds[j].cond.cells]:=by
    rw [List.take_succ_eq_append_getElem (by simp; omega),List.map_append]; simp
   generalize x.conds[j]=c at *
   have hj4':(j:Int)<4:=by omega
   simp [-buildS_eq,f1,f2,SCond.cells,splice,AH.get_new,Nat.ne_of_lt h6,k6,hj4']
   refine S.f31 hE c fun H3 e3 =>?_
   have h3:=h2.grow e3
   have k63:=h3.box (k:=5) rfl
   obtain ⟨v',H5,a1,a2,a3⟩:=h3.app1 (k:=6) rfl (bytes:=32) c.cond.cells rfl rfl (by omega) (by omega) (by simp; omega)
   have k65:=a3.box (k:=5) rfl
   rw [k63]
   refine ⟨rfl,?_⟩
   rw [buildS_one 4 [_,_,_,_] c.cond.cells rfl rfl,mk_some,mkSlc_eq,a1]
   simp [a2,k65]
   rw [i64_add (by omega) (by omega),opt_some]
   refine hX hjl _ _ ⟨v',by simp,a2,?_⟩
   rw [htk]
   exact a3.put (k:=5) rfl [u32 nu,u32 ac,v']
  ·have htk:((x.conds.take 4).map SCond.cond).take (j+1)=((x.conds.take 4).map SCond.cond).take j:=by
    rw [List.take_of_length_le (i:=j+1) (by simp; omega),List.take_of_length_le (i:=j) (by simp; omega)]
   generalize x.conds[j]=c at *
   have hj4':¬ (j:Int)<4:=by omega
   simp [-buildS_eq,f1,f2,SCond.cells,splice,AH.get_new,Nat.ne_of_lt h6,k6,hj4']
   rw [i64_add (by omega) (by omega),opt_some]
   refine hX hjl _ _ ⟨cv,by simp,hcv,?_⟩
   rw [htk]
   exact h2
 ·have:j=x.conds.length:=by omega
  subst this
  rw [List.take_of_length_le (by simp; omega)] at h1
  have k3:=h1.box (k:=1) rfl
  obtain ⟨v',H8,a1,a2,a3⟩:=h1.app1 (k:=2) rfl (bytes:=32) [u32 nu,u32 ac,cv] rfl (by simp [hcv]) (by omega) (by omega) (by omega)
  have k38:=a3.box (k:=1) rfl
  simp only [addOff_ptr,opt_some,load1_ptr,loadN_ptr,k3,k6,row_all [u32 nu,u32 ac,cv] none 3 rfl,cell_cells,Option.map_some]
  simp only [Nat.zero_add,List.getElem?_cons_succ,List.getElem?_cons_zero,opt_some]
  rw [buildS_one 3 [_,_,_] [u32 nu,u32 ac,cv] rfl rfl,mk_some,mkSlc_eq,a1]
  simp [a2,k38]
  rw [i64_inc (by omega),opt_some]
  have h4:=a3.put (k:=1) rfl [nm,u32 d,v',hd,pv,qv]
  obtain ⟨Z',z1,z2,z3⟩:=h4.freeze (k:=6) rfl
  exact hX0 Z' _ v' [u32 nu,u32 ac,cv] z1 ⟨by simp; omega,cv,rfl,z2.toRows⟩ (z3.drop 5)
theorem callTable_get (n:Nat) (h:n<30):∃ c,(callTable.map callCells)[n]? = some (callCells c)/\BitVec.ofNat 32 c.1=callNumber n:=by
 have hn:n<callTable.length:=h
 refine ⟨callTable[n],by simp [hn],?_⟩
 simp [callNumber,List.getD_eq_getElem?_getD,hn]
theorem S.pinfoldlaw09_Small_PolicyZ (hE:Fold E) (s:Small) (cs:List Value) (Z0:AH) (hz:Sub Z0 H) (hs:SmallAt Z0 s cs) (hQ:∀ Z' H' cs',Ext H H'->Fz H.next Z0 Z'->Sub Z' H'->PolXAt Z' s.pol cs'->Q (.agg cs'.toArray) H'):E.call (E.fid i.f33) [.agg cs.toArray] H Q:=by
 apply hE.f33
 simp [-buildS_eq,F.f33]
 obtain ⟨Z,zf,zs,k1⟩:=hz.newfrozen (.cells cs none)
 have hS:=(Has.begin ((Ext.refl H).new (.cells cs none)) zs).newbox [str [],u32 0#32,nilS,u16 0#16,nilS,nilS]
 simp only [AH.next_new] at hS
 generalize hH2:(H.new _).new _=H2 at *
 have hn2:H2.next=H.next+2:=by subst hH2; rfl
 refine S.f39' hE ?_
 have hG:Grow zH (H2.new (.cells (callTable.map callCells).flatten none)) 3 (slc H2.next 0 30 30) (callTable.map callCells):=Grow.made (zH_get _) (AH.get_new_self _ _) (.inl rfl) rfl (by
  intro r hr
  obtain ⟨c,_,rfl⟩:=List.mem_map.1 hr
  exact ⟨rfl,rfl⟩)
 have hS:=hS.add (growR 3 (slc H2.next 0 30 30) (callTable.map callCells)) ((Ext.refl H2).new _) hG (by simp [growR,blkL,blk]) (by simp [growR,blkL,blk])
 obtain ⟨Z1,z1,z2,hS⟩:=hS.freeze (k:=1) rfl
 have hs':=hs
 obtain ⟨v,pv,rv,qv,rfl,hv,hpv,hrv,hqv,n1,n2,n3,n4⟩:=hs'
 generalize hHT:H2.new _=HT at *
 have hnT:HT.next=H2.next+1:=by subst hHT; rfl
 have kT:=hS.sub.cells (z1.1.cells k1)
 have ltT:=AH.lt_cells kT
 have b2T:=hS.box (k:=0) rfl
 have l2T:=hS.box_lt (k:=0) rfl
 have hq3:(s.name % 3#8).toNat<3:=by simp; omega
 have hnm:(snames.map str)[(s.name % 3#8).toNat]? = some (str (snames.getD (s.name % 3#8).toNat [])):=by
  have:(s.name % 3#8).toNat<snames.length:=hq3
  simp only [List.getElem?_map,List.getElem?_eq_getElem this,List.getD_eq_getElem?_getD,Option.map_some,Option.getD_some]
 unfold Small.pol at hQ
 generalize hq:s.name % 3#8=q at *
 generalize snames.getD q.toNat []=nm at *
 have hnm:[str [112],str [112,111,108,45,49],str [120,95,121]][q.toNat]? = some (str nm):=hnm
 have hss:s.handled&&&51199#16=s.hd:=rfl
 have hnm':[str [112],str [112,111,108,45,49],str [120,95,121]][q.toNat]'hq3=str nm:=by
  rw [List.getElem?_eq_getElem hq3] at hnm
  exact Option.some.inj hnm
 have hne2:¬ H.next=HT.next+1:=by omega
 simp [-buildV_eq,splice,AH.get_new,Nat.ne_of_lt ltT,kT,hq,hq3,hnm',hss]
 refine S.f30 hE _ _ ?_
 have hl:=(hv.sub (fun _ _ _ _ h e=>SRuleAt.sub h e) (zf.1.trans (z1.1.trans hS.sub))).lenSlc
 simp [splice,AH.get_new,Nat.ne_of_lt ltT,hne2,kT,hnm',hl]
 refine ⟨hnm,?_⟩
 have hS:=((((hS.new (.cells [str [112],str [112,111,108,45,49],str [120,95,121]] none)).newbox [str nm,u32 (saction s.dflt s.errno),nilS,u16 s.hd,nilS,nilS]).nils 3).nils 2).nils 2
 generalize (HT.new _).new _=H5 at *
 simp only [AH.next_new] at hS
 have hsZ:=hs.sub (zf.1.trans z1.1)
 have k1Z:=z1.1.cells k1
 clear hHT hH2 kT ltT b2T l2T hl
 refine LoopL.count s.rules.length (fun j l H'=>∃ Z' rv rows,l=[ptr H.next 0,ptr (H.next+1) 0,slc H2.next 0 30 30,ptr (HT.next+1) 0,v,vi s.rules.length,vi j]/\j<=12/\Fz H.next Z1 Z'/\Has H Z' H' (refL (H.next+1) (HT.next+1) [str [],u32 0#32,nilS,u16 0#16,nilS,nilS] (str nm) (saction s.dflt s.errno) rv (u16 s.hd) nilS nilS rows [] []) /\
   rows.length=j/\∀ i (h1:i<s.rules.length) (h2:i<rows.length),RuleAt Z' s.rules[i].rule rows[i]) ?_ ⟨Z1,nilS,[],rfl,by omega,Fz.refl _ _,hS,rfl,fun i _ h=>by simp at h⟩
 rintro j _ H' X hj hX ⟨Z',rv',rows,rfl,hj12,y1,g1,g2,g3⟩
 have hend:∀ H'',(j=12\/j=s.rules.length)->Ext H' H''->F.f33_j1 E Q (ptr H.next 0) (ptr (H.next+1) 0) (ptr (HT.next+1) 0) H'':=by
  intro H'' hjj ex
  refine Policy_j1 hE s _ H Z' (hsZ.sub y1.1) H.next (H.next+1) (HT.next+1) (y1.1.cells k1Z) _ rfl (str nm) rfl (saction s.dflt s.errno) rv' rows (g1.grow ex) fun H3 pv3 qv3 c2 q =>?_
  obtain ⟨Z2,w1,w2,w3⟩:=q.freeze (k:=2) rfl
  obtain ⟨Z3,w4,w5,w6⟩:=w3.freeze (k:=2) rfl
  obtain ⟨Z4,w7,w8,w9⟩:=w6.freeze (k:=2) rfl
  have r1:Rows Z4 3 rv' rows:=(Grow.toRows (show Grow zH Z2 3 rv' rows from w2)).sub (w4.1.trans w7.1)
  have r2:=(Grow.toRows (show Grow zH Z3 2 pv3 _ from w5)).sub w7.1
  have r3:=Grow.toRows (show Grow zH Z4 2 qv3 _ from w8)
  refine hQ Z4 H3 [str nm,u32 (saction s.dflt s.errno),rv',u16 s.hd,pv3,qv3] q.ext ((((zf.trans z1).trans y1).trans w1).trans (w4.trans w7)) w9.sub ⟨rv',pv3,qv3,rfl,⟨rows,r1,?_,?_⟩,r2,r3⟩
  ·simp [g2]; omega
  ·intro i a b
   have hi:i<s.rules.length:=by simp at a; omega
   simpa using (g3 i hi b).sub (w1.1.trans (w4.1.trans w7.1))
 simp only [F.f33_l3,nth_0,nth_1,nth_2,nth_3,nth_4,nth_5,nth_6,i64_lss,opt_some]
 refine ifB_split (fun h =>?_) (fun h =>?_)
 ·have hjl:j<s.rules.length:=by omega
  obtain ⟨b,o,ccs,m1,m2,m3⟩:=(hv.sub (fun _ _ _ _ h e=>SRuleAt.sub h e) (zf.1.trans (z1.1.trans y1.1))).ix (i:=j) hjl
  have m2:(H'.get b).row o 4=some ccs:=by rw [g1.sub.2 b (row_notdead m2)]; exact m2
  obtain ⟨hxl,w,rfl,hw⟩:=m3
  have hlw:=(hw.sub g1.sub).lenSlc
  rw [List.length_map] at hlw
  by_cases h12:j=12
  ·have h12':(12:Int)<=j:=by omega
   simp [m1,m2,splice,AH.get_new,hw.plain,h12']
   exact hend _ (.inl h12) ((Ext.refl _).new _)
  ·have hne:¬ (12:Int)<=j:=by omega
   have hrm:binInt .rem (vi s.rules[j].call.toNat) (vi 30)=some (vi ((s.rules[j].call.toNat % 30:Nat):Int)):=i64_rem_nat _ 30 (by decide)
   have hrule:s.rules[j].rule=⟨callNumber (s.rules[j].call.toNat % 30),saction s.rules[j].action s.rules[j].errno,(s.rules[j].conds.take 4).map SCond.cond⟩:=rfl
   have hm30:s.rules[j].call.toNat % 30<30:=Nat.mod_lt _ (by decide)
   generalize s.rules[j].call.toNat % 30=m at *
   obtain ⟨c,c1,c2⟩:=callTable_get m hm30
   obtain ⟨hlt,c1⟩:=List.getElem?_eq_some_iff.1 c1
   obtain ⟨b5,o5,f3,f4⟩:=(((z2:Grow zH Z1 3 _ _).toRows).sub (y1.1.trans g1.sub)).ix (i:=m) hlt
   rw [c1] at f4
   have f5:=row_at f4 (by omega:0<3)
   simp [callCells] at f5
   have hlt5:b5<H'.next:=AH.lt_of_get (row_notdead f4)
   simp [m1,m2,splice,AH.get_new,hw.plain,hne,hrm,f3,f5,Nat.ne_of_lt hlt5]
   refine S.f30 hE _ _ ?_
   have hne5:¬ b5=H'.next+1:=by omega
   simp [splice,AH.get_new,hw.plain,hlw,f5,Nat.ne_of_lt hlt5,hne5,c2]
   have g4:=(g1.new (.cells [u8 s.rules[j].call,u8 s.rules[j].action,u8 s.rules[j].errno,w] none)).newbox [u32 (callNumber m),u32 (saction s.rules[j].action s.rules[j].errno),nilS]
   refine Policy_l4 hE X H.next (H.next+1) (HT.next+1) (H'.next+1) _ v _ j (by omega) s.rules[j] hxl w H Z' hw _ _ _ _ _ rv' _ nilS nilS rows [] [] g2 g4 fun Z2 H2' rv'' row q1 q2 q3 =>?_
   refine hX hjl _ _ ⟨Z2,rv'',rows++[row],rfl,by omega,y1.trans q1,q3,by simp [g2],fun i h1 h2 =>?_⟩
   by_cases e:i<rows.length
   ·rw [List.getElem_append_left e]
    exact (g3 i h1 e).sub q1.1
   ·have:i=j:=by simp at h2; omega
    subst this
    rw [List.getElem_append_right (by omega),hrule]
    simpa [g2] using q2
 ·exact hend H' (.inr (by omega)) (Ext.refl _)
theorem S.f33 (hE:Fold E) (s:Small) (cs:List Value) (hs:SmallAt H s cs) (hQ:∀ H' cs',Ext H H'->PolXAt H' s.pol cs'->Q (.agg cs'.toArray) H'):E.call (E.fid i.f33) [.agg cs.toArray] H Q :=
 S.pinfoldlaw09_Small_PolicyZ hE s cs H (Sub.refl _) hs fun _ H' cs' e _ s h=>hQ H' cs' e (h.sub s)
end Go.AM
end
section
namespace Go.AM
theorem nrf {α:Type} {a b:α} (h:a=b):a=b:=Eq.trans h rfl
def tk {α:Type} (x:α):α:=x
@[simp] theorem tk_eq {α:Type} (x:α):tk x=x:=Eq.trans (Eq.refl x) (Eq.refl x)
@[congr] theorem ifB_lazy {v v':Value} {A B:Prop} (h:tk v=v'):ifB v A B=ifB v' A B:=by rw [<- h,tk_eq]
@[congr] theorem opt_lazy {α:Type} {o o':Option α} {K:α->Prop} (h:tk o=o'):opt o K=opt o' K:=by rw [<- h,tk_eq]
@[congr] theorem opt2_lazy {α β:Type} {o o':Option (α×β)} {K:α->β->Prop} (h:tk o=o'):opt2 o K=opt2 o' K:=by rw [<- h,tk_eq]
@[congr] theorem mk_lazy {o o':Option (AObj×(Nat->Value))} {H:AH} {K:Value->AH->Prop} (h:tk o=o'):AM.mk o H K=AM.mk o' H K:=by rw [<- h,tk_eq]
@[congr] theorem call_lazy {E:Sy} {f f':FuncId} {a a':List Value} {H H':AH} {K:Value->AH->Prop} (h1:tk f=f') (h2:tk a=a') (h3:tk H=H'):E.call f a H K=E.call f' a' H' K:=by rw [<- h1,<- h2,<- h3]; rfl
@[congr] theorem callV_lazy {c:CallT} {f f':Value} {a a':List Value} {H H':AH} {K:Value->AH->Prop} (h1:tk f=f') (h2:tk a=a') (h3:tk H=H'):callV c f a H K=callV c f' a' H' K:=by rw [<- h1,<- h2,<- h3]; rfl
@[congr] theorem gd_lazy {v v':Value} {b:Bool} {m:(Value->AH->Prop)->Prop} {H:AH} {K:Value->AH->Prop} (h:tk v=v'):gd v b m H K=gd v' b m H K:=by rw [<- h,tk_eq]
@[congr] theorem LoopL_lazy {B:List Value->AH->(List Value->AH->Prop)->Prop} {l l':List Value} {H H':AH} (h1:tk l=l') (h2:tk H=H'):LoopL B l H=LoopL B l' H':=by rw [<- h1,<- h2]; rfl
@[simp high] theorem mkPtr_eq_z (b:Nat):mkPtr b=ptr b 0:=nrf rfl
@[simp high] theorem mkSlc_eq_z (n c b:Nat):mkSlc n c b=slc b 0 n c:=nrf rfl
@[simp high] theorem cell_cells_z (c:List Value) (f:Option Nat) (i:Nat):(AObj.cells c f).cell i=c[i]? :=nrf rfl
@[simp high] theorem row_cells_z (c:List Value) (f:Option Nat) (i n:Nat):(AObj.cells c f).row i n=if i+n<=c.length then some ((c.drop i).take n) else none:=nrf rfl
@[simp high] theorem boxO_agg_z (a:Array Value):boxO (.agg a)=some (.cells a.toList none,mkPtr):=nrf rfl
@[simp high] theorem un_not_z (b:Bool):un .not (.bool b)=some (.bool !b):=nrf rfl
@[simp high] theorem pick_true_z (x y:Value):pick (.bool true) x y=some x:=nrf rfl
@[simp high] theorem pick_false_z (x y:Value):pick (.bool false) x y=some y:=nrf rfl
@[simp high] theorem i64_max_z (a b:Int):fold2 max2 [vi a,vi b]=some (vi (if b > a then b else a)):=nrf rfl
@[simp high] theorem i64_min_z (a b:Int):fold2 min2 [vi a,vi b]=some (vi (if b<a then b else a)):=nrf rfl
@[simp high] theorem u8_lit0_z:(.int .u8 0:Value)=u8 0#8:=nrf rfl
@[simp high] theorem u8_lit1_z:(.int .u8 1:Value)=u8 1#8:=nrf rfl
@[simp high] theorem defd_u8_z (x:BitVec 8):defd (u8 x)=true:=nrf rfl
@[simp high] theorem u16_lit0_z:(.int .u16 0:Value)=u16 0#16:=nrf rfl
@[simp high] theorem u16_lit1_z:(.int .u16 1:Value)=u16 1#16:=nrf rfl
@[simp high] theorem defd_u16_z (x:BitVec 16):defd (u16 x)=true:=nrf rfl
@[simp high] theorem plain1_u16_z (x:BitVec 16):plain1 (u16 x)=true:=nrf rfl
@[simp high] theorem vcells_int_z (k:IntKind) (n:Int):vcells (.int k n)=[.int k n]:=nrf rfl
@[simp high] theorem vcells_map_z (o:Option Nat):vcells (.map o)=[.map o]:=nrf rfl
@[simp high] theorem vcells_u8_z (x:BitVec 8):vcells (u8 x)=[u8 x]:=nrf rfl
@[simp high] theorem vcells_u16_z (x:BitVec 16):vcells (u16 x)=[u16 x]:=nrf rfl
@[simp high] theorem defd_int_z (k:IntKind) (n:Int):defd (.int k n)=true:=nrf rfl
@[simp high] theorem defd_map_z (o:Option Nat):defd (.map o)=true:=nrf rfl
@[simp high] theorem plain1_map_z (o:Option Nat):plain1 (.map o)=true:=nrf rfl
@[simp high] theorem fillL_nil_z (place:Nat->Option (Nat×Nat)) (cells:List Value):fillL place cells []=some cells:=nrf rfl
@[simp high] theorem str_lit_z (l:List UInt8):(.string ⟨l.toArray⟩:Value)=str l:=nrf rfl
@[simp high] theorem plain1_str_z (l:List UInt8):plain1 (str l)=true:=nrf rfl
@[simp high] theorem sameCells_nil_z:sameCells [] [] []=some true:=nrf rfl
@[simp high] theorem sameCells_cons_z (k:Nat) (ks:List Nat) (x y:Value) (xs ys:List Value):sameCells (k :: ks) (x :: xs) (y :: ys)=(sameCell k x y).bind fun b=>(sameCells ks xs ys).map (b && ·):=nrf rfl
@[simp high] theorem nilp_some_z (a:Addr):binNil eqPtr .eql (.pointer (some a)) (.pointer none)=some (.bool false):=nrf rfl
@[simp high] theorem nilp_none_z:binNil eqPtr .eql (.pointer none) (.pointer none)=some (.bool true):=nrf rfl
@[simp high] theorem nilp_some'_z (a:Addr):binNil eqPtr .neq (.pointer (some a)) (.pointer none)=some (.bool true):=nrf rfl
@[simp high] theorem nilp_none'_z:binNil eqPtr .neq (.pointer none) (.pointer none)=some (.bool false):=nrf rfl
@[simp high] theorem nilCk_ptr_z (a:Addr):nilCk (.pointer (some a))=some (.pointer (some a)):=nrf rfl
@[simp high] theorem AH.next_new_z (H:AH) (o:AObj):(H.new o).next=H.next+1:=nrf rfl
@[simp] theorem AH.get_new1 (H:AH) (a b:AObj):((H.new a).new b).get (H.next+1)=b:=AH.get_new_self (H.new a) b
@[simp] theorem nilCk_p (a:Addr):nilCk (.pointer (some a))=some (.pointer (some a)):=nrf rfl
def stdZ:=And.intro @nth_0<|And.intro @nth_1<|And.intro @nth_2<|And.intro @nth_3<|And.intro @nth_4<|And.intro @nth_5<|And.intro @nth_6<|And.intro @nth_7<|And.intro @nth_8<|And.intro @nth_9<|And.intro @nth_10<|And.intro @nth_11<|And.intro @nth_12<|And.intro @nth_13<|And.intro @nth_14<|And.intro @nth_15<|And.intro @nilCk_p<|And.intro @addOff_ptr<|And.intro @load1_ptr<|And.intro @cell_cells_z<|And.intro @gd_tt<|And.intro @gd_tf<|And.intro @gd_ft<|And.intro @gd_ff<|And.intro @gd_skip<|And.intro @pick_true_z<|And.intro @pick_false_z<|And.intro @un_not_z<|And.intro @ext_tuple<|And.intro @boxO_agg_z<|And.intro @mkPtr_eq_z<|And.intro @AM.mk_some<|And.intro @mkSlc_eq<|And.intro @opt2_some<|And.intro @AH.next_new_z<|And.intro @tk_eq<|And.intro @opt_some<|And.intro @Nat.zero_add<|And.intro @Nat.add_zero<|And.intro @List.getElem?_cons_zero.{0}<|And.intro @List.getElem?_cons_succ.{0}<|And.intro Bool.not_true<|And.intro Bool.not_false<|And.intro @List.toList_toArray.{0}<|And.intro @ifB_true @ifB_false
end Go.AM
end
section
namespace Go.AM
structure Ly where
 blk:Nat
 data:Value
 nm:Option Nat
 ord:List (NameL×BitVec 16)
abbrev LyL:=List (BitVec 16×Ly)
def inC (n:BitVec 16) (x:Nd) (y:Ly):List Value:=[u16 n,u8 x.kind,y.data,.map y.nm,u16 x.parent,str x.text,vi x.links,vi x.held]
def byteR (l:List (BitVec 8)):List (List Value):=l.map fun b=>[u8 b]
def nodeRs (n:BitVec 16) (x:Nd) (y:Ly):List Res:=[boxR y.blk (inC n x y),growR 1 y.data (byteR x.data)]++y.nm.toList.map (fun r=>mapR str u16 r y.ord)
def nodeR (n:BitVec 16) (x:Nd) (y:Ly):Res:=joinR (nodeRs n x y)
def inoRs (p m:Nat) (L:LyL) (T:Tr):List Res :=
 boxR p [.map (some m),vi T.limit,vi T.change] :: mapR u16 (fun b=>ptr b 0) m (L.map fun e=>(e.1,e.2.blk)) :: L.map fun e=>nodeR e.1 (T.node e.1) e.2
def inoR (p m:Nat) (L:LyL) (T:Tr):Res:=joinR (inoRs p m L T)
structure LyOk (x:Nd) (y:Ly):Prop where
 dir:x.kind=2#8->∃ r,y.nm=some r
 nodir:x.kind≠2#8->y.nm=none
 perm:y.ord.Perm x.ents
structure Cov (L:LyL) (T:Tr):Prop where
 nd:(L.map Prod.fst).Nodup
 mem:∀ n,n∈L.map Prod.fst↔(T.node n).kind≠0#8
 ok:∀ e∈L,LyOk (T.node e.1) e.2
structure Ino (H:AH) (p m:Nat) (L:LyL) (T:Tr):Prop where
 ow:Ow (inoR p m L T) H
 cov:Cov L T
structure UpdI (p m:Nat) (L:LyL) (T:Tr) (L':LyL) (T':Tr) (H H':AH):Prop where
 upd:Upd (inoR p m L T) (inoR p m L' T') H H'
 cov:Cov L' T'
section
variable {E:Sy} {H H' H'':AH} {Q:Value->AH->Prop} {p m:Nat} {L L' L'':LyL} {T T' T'':Tr}
theorem UpdI.ino (u:UpdI p m L T L' T' H H') (h:Ino H p m L T):Ino H' p m L' T':=⟨h.ow.upd u.upd,u.cov⟩
theorem UpdI.trans (u:UpdI p m L T L' T' H H') (u':UpdI p m L' T' L'' T'' H' H''):UpdI p m L T L'' T'' H H'':=⟨u.upd.trans u'.upd,u'.cov⟩
theorem UpdI.after (e:Ext H H') (u:UpdI p m L T L' T' H' H''):UpdI p m L T L' T' H H'':=⟨u.upd.after e,u.cov⟩
theorem Ino.same (h:Ino H p m L T) (e:Ext H H'):UpdI p m L T L T H H':=⟨h.ow.ext e,h.cov⟩
theorem Ino.mono (h:Ino H p m L T) (e:Ext H H'):Ino H' p m L T:=(h.same e).ino h
theorem Ino.head (h:Ino H p m L T):H.get p = .cells [.map (some m),vi T.limit,vi T.change] none:=h.ow.holds (boxR p [.map (some m),vi T.limit,vi T.change]) (by simp [inoRs])
theorem Ino.map (h:Ino H p m L T):MapAt u16 (fun b=>ptr b 0) H m (L.map fun e=>(e.1,e.2.blk)):=h.ow.holds (mapR u16 (fun b=>ptr b 0) m (L.map fun e:BitVec 16×Ly=>(e.1,e.2.blk))) (by simp [inoRs])
theorem lookup_map {A B C:Type} [DecidableEq A] (f:B->C) (a:A):∀ l:List (A×B),(l.map fun e=>(e.1,f e.2)).lookup a=(l.lookup a).map f
 | []=>rfl
 | e :: l=>by
  simp only [List.map_cons,List.lookup]
  cases a == e.1
  ·exact lookup_map f a l
  ·rfl
theorem lookup_mem {A B:Type} [DecidableEq A] {a:A} {b:B}:∀ {l:List (A×B)},l.lookup a=some b->(a,b)∈l
 | [],h=>by simp at h
 | e :: l,h=>by
  simp only [List.lookup] at h
  by_cases k:a=e.1
  ·subst k; simp at h; subst h; simp
  ·have:(a == e.1)=false:=by simpa using k
   rw [this] at h
   exact List.mem_cons_of_mem _ (lookup_mem h)
theorem lookup_none {A B:Type} [DecidableEq A] {a:A}:∀ {l:List (A×B)},l.lookup a=none↔a ∉ l.map Prod.fst
 | []=>by simp
 | e :: l=>by
  by_cases k:a=e.1
  ·subst k; simp [List.lookup]
  ·have:(a == e.1)=false:=by simpa using k
   simp only [List.lookup,this,List.map_cons,List.mem_cons,k,false_or]
   exact lookup_none
theorem lookup_of_mem {A B:Type} [DecidableEq A] {a:A} {b:B}:∀ {l:List (A×B)},(l.map Prod.fst).Nodup->(a,b)∈l->l.lookup a=some b
 | [],_,h=>by simp at h
 | e :: l,hn,h=>by
  rw [List.map_cons,List.nodup_cons] at hn
  rcases List.mem_cons.1 h with rfl | h
  ·simp [List.lookup]
  ·have k:a≠e.1:=by rintro rfl; exact hn.1 (List.mem_map.2 ⟨_,h,rfl⟩)
   have:(a == e.1)=false:=by simpa using k
   simp only [List.lookup,this]
   exact lookup_of_mem hn.2 h
theorem lookup_perm {A B:Type} [DecidableEq A] {a:A} {l l':List (A×B)} (hp:l.Perm l') (hn:(l.map Prod.fst).Nodup):l.lookup a=l'.lookup a:=by
 cases h:l.lookup a with
 | none =>
  symm
  rw [lookup_none] at h ⊢
  exact fun k=>h ((hp.map _).mem_iff.2 k)
 | some b=>exact (lookup_of_mem ((hp.map _).nodup_iff.1 hn) (hp.mem_iff.1 (lookup_mem h))).symm
theorem Ino.node (h:Ino H p m L T) {k:Nat} {n:BitVec 16} {y:Ly} (hk:L[k]? = some (n,y)):Ow (nodeR n (T.node n) y) H :=
 h.ow.part (rs:=inoRs p m L T) (k:=k+2) (by simp [inoRs,hk])
theorem nodeR.box {n:BitVec 16} {x:Nd} {y:Ly} (h:Ow (nodeR n x y) H):H.get y.blk = .cells (inC n x y) none:=h.holds (boxR y.blk (inC n x y)) (by simp [nodeRs])
theorem nodeR.names {n:BitVec 16} {x:Nd} {y:Ly} (h:Ow (nodeR n x y) H) {r:Nat} (hr:y.nm=some r):MapAt str u16 H r y.ord:=h.holds (mapR str u16 r y.ord) (by simp [nodeRs,hr])
theorem Ino.get (h:Ino H p m L T) (n:BitVec 16):((T.node n).kind=0#8/\look 0 (.pointer none) false (.map (some m)) (u16 n) H=some (.pointer none)) \/
  ∃ (k:Nat) (y:Ly),(T.node n).kind≠0#8/\L[k]? = some (n,y)/\look 0 (.pointer none) false (.map (some m)) (u16 n) H=some (ptr y.blk 0)/\H.get y.blk = .cells (inC n (T.node n) y) none/\LyOk (T.node n) y:=by
 have hl:=h.map.look (kd:=0) (fun a b=>same_u16 a b) n (.pointer none) false
 rw [lookup_map] at hl
 cases hy:L.lookup n with
 | none =>
  rw [hy] at hl
  refine .inl ⟨Classical.byContradiction fun k=>lookup_none.1 hy ((h.cov.mem n).2 k),?_⟩
  simpa using hl
 | some y =>
  rw [hy] at hl
  have hm:=lookup_mem hy
  obtain ⟨k,hk⟩:=List.mem_iff_getElem?.1 hm
  exact .inr ⟨k,y,(h.cov.mem n).1 (List.mem_map.2 ⟨_,hm,rfl⟩),hk,by simpa using hl,nodeR.box (h.node hk),h.cov.ok _ hm⟩
def nodeP (L:LyL) (n:BitVec 16):Value:=match L.lookup n with | some y=>ptr y.blk 0 | none => .pointer none
theorem nodeP_some {k:Nat} {n:BitVec 16} {y:Ly} (hn:(L.map Prod.fst).Nodup) (hk:L[k]? = some (n,y)):nodeP L n=ptr y.blk 0:=by
 simp [nodeP,lookup_of_mem hn (List.mem_of_getElem? hk)]
theorem nodeP_none {n:BitVec 16} (h:Cov L T) (hk:(T.node n).kind=0#8):nodeP L n = .pointer none:=by
 have:L.lookup n=none:=lookup_none.2 fun hm=>(h.mem n).1 hm hk
 simp [nodeP,this]
theorem S.f8 (hE:Fold E) (h:Ino H p m L T) (n:BitVec 16) (hQ:Q (nodeP L n) H):E.call (E.fid i.f8) [ptr p 0,u16 n] H Q:=by
 apply hE.f8
 have hh:=h.head
 rcases h.get n with ⟨h1,h2⟩ | ⟨k,y,h1,h2,h3,h4,h5⟩
 ·rw [nodeP_none h.cov h1] at hQ
  simpa [F.f8,hh,h2] using hQ
 ·rw [nodeP_some h.cov.nd h2] at hQ
  simpa [F.f8,hh,h3] using hQ
theorem S.f12 (hE:Fold E) (h:Ino H p m L T) (n:BitVec 16) (hQ:Q (.tuple #[if T.dir n=0 then nodeP L n else .pointer none,vi (T.dir n)]) H):E.call (E.fid i.f12) [ptr p 0,u16 n] H Q:=by
 apply hE.f12
 simp only [F.f12]
 refine S.f8 hE h n ?_
 unfold Tr.dir at hQ
 rcases h.get n with ⟨h1,h2⟩ | ⟨k,y,h1,h2,h3,h4,h5⟩
 ·rw [nodeP_none h.cov h1] at hQ ⊢
  simpa [h1] using hQ
 ·rw [nodeP_some h.cov.nd h2] at hQ ⊢
  by_cases h6:(T.node n).kind=2#8
  ·simpa [h4,inC,h6] using hQ
  ·simpa [h4,inC,h6,h1] using hQ
theorem Ino.name (h:Ino H p m L T) {k:Nat} {n:BitVec 16} {y:Ly} (hk:L[k]? = some (n,y)) (hd:(T.node n).kind=2#8) (s:NameL) (zero:Value) (ok:Bool) :
  ∃ r,y.nm=some r/\MapAt str u16 H r y.ord/\look 1 zero ok (.map (some r)) (str s) H=some (match alook s (T.node n).ents with | some v=>(if ok then .tuple #[u16 v,.bool true] else u16 v) | none=>(if ok then .tuple #[zero,.bool false] else zero))/\lenMap (.map (some r)) H=some (vi (T.node n).ents.length):=by
 have hok:LyOk (T.node n) y:=h.cov.ok _ (List.mem_of_getElem? hk)
 obtain ⟨r,hr⟩:=hok.dir hd
 have hm:=nodeR.names (h.node hk) hr
 have hl:=hm.look (kd:=1) (fun a b=>same_str a b) s zero ok
 have hn:=hm.len
 rw [lookup_perm hok.perm hm.nodup] at hl
 rw [hok.perm.length_eq] at hn
 refine ⟨r,hr,hm,?_,hn⟩
 cases ho:alook s (T.node n).ents <;> (simp only [alook] at ho; rw [hl,ho])
theorem S.f9 (hE:Fold E) (h:Ino H p m L T) (n:BitVec 16) (s:NameL) (hQ:Q (.tuple #[u16 (T.look n s).1,vi (T.look n s).2]) H):E.call (E.fid i.f9) [ptr p 0,u16 n,str s] H Q:=by
 apply hE.f9
 simp only [F.f9]
 refine S.f12 hE h n ?_
 unfold Tr.look at hQ
 by_cases hd:T.dir n=0
 ·have hk:(T.node n).kind=2#8:=by
   unfold Tr.dir at hd
   split at hd
   ·simp at hd
   ·split at hd
    ·assumption
    ·simp at hd
  rcases h.get n with ⟨h1,h2⟩ | ⟨k,y,h1,h2,h3,h4,h5⟩
  ·rw [h1] at hk; simp at hk
  ·obtain ⟨r,g1,g2,g3,g4⟩:=h.name h2 hk s (.int .u16 0) true
   rw [nodeP_some h.cov.nd h2]
   have hQ':=hQ
   cases hl:alook s (T.node n).ents with
   | none =>
    rw [hl] at g3
    simp [hd,hl] at hQ
    simp at g3
    simpa [hd,h4,inC,g1,g3] using hQ
   | some v =>
    rw [hl] at g3
    simp [hd,hl] at hQ
    simp at g3
    simpa [hd,h4,inC,g1,g3] using hQ
 ·simp [hd] at hQ
  simpa [hd] using hQ
end
end Go.AM
end
section
namespace Go.AM
section
variable {E:Sy} {H H' H'':AH} {Q:Value->AH->Prop} {p m:Nat} {L L' L'':LyL} {T T' T'':Tr}
@[simp] theorem i32_lss (a b:Int):binInt .lss (.int .i32 a) (.int .i32 b)=some (vb (decide (a<b))):=binInt_lss _ _ _
@[simp] theorem i32_gtr (a b:Int):binInt .gtr (.int .i32 a) (.int .i32 b)=some (vb (decide (b<a))):=binInt_gtr _ _ _
@[simp] theorem i32_eql (a b:Int):binInt .eql (.int .i32 a) (.int .i32 b)=some (vb (decide (a=b))):=binInt_eql _ _ _
theorem decode_low (s:List UInt8) (j:Nat) (hj:j<s.length) (h:s[j].toNat<128):Utf8.decode ⟨s.toArray⟩ j=(s[j].toNat,1) :=
 Go.decode_ascii ⟨s.toArray⟩ j (by simpa using hj) (show s[j].toNat<128 from h)
theorem decode_hi (s:List UInt8) (j:Nat) (hj:j<s.length) (h:¬ s[j].toNat<128):128<=(Utf8.decode ⟨s.toArray⟩ j).1 :=
 (Go.decode_high ⟨s.toArray⟩ j (by simpa using hj) (show 128<=s[j].toNat by omega)).1
theorem S.f55 (hE:Fold E) (s:List UInt8) (hs:s.length<2 ^ 63) (f:Value) (P:Nat->Bool) (hP:∀ c,128<=c->P c=true)
  (hf:∀ H' (c:Nat) (K:Value->AH->Prop),Ext H H'->(∀ H'',Ext H' H''->K (vb (P c)) H'')->callV E.call f [.int .i32 (c:Int)] H' K)
  (hQ:∀ H' k,Ext H H'->(decide (k<0)=s.all fun b => !P b.toNat)->Q (vi k) H'):E.call (E.fid i.f55) [str s,f,vb true] H Q:=by
 apply hE.f55
 simp only [F.f55,str_def,rangeS,tk_eq,mk_some,mkPtr_eq]
 refine LoopL.count s.length (fun j l H'=>l=[f,vb true,ptr H.next 0]/\Ext H H'/\H'.get H.next = .siter ⟨s.toArray⟩ j/\∀ i (hi:i<s.length),i<j->P s[i].toNat=false) ?_ ⟨rfl,(Ext.refl H).new _,AH.get_new_self _ _,fun i _ h=>by omega⟩
 rintro j _ H' X hj hX ⟨rfl,e1,hi,hn⟩
 have hlt:H.next<H'.next:=AH.lt_of_get (by rw [hi]; simp)
 simp only [F.f55_l1,nth_0,nth_1,nth_2,nextS,ptr,hi,size_mk,tk_eq]
 by_cases hjl:j<s.length
 ·simp only [if_pos hjl,tk_eq,opt2_some]
  have hput:∀ o,Ext H (H'.put H.next o):=fun o=>e1.put (Nat.le_refl _) o
  simp only [ext_tuple,List.getElem?_cons_zero,opt_some,tk_eq,ifB_true,List.getElem?_cons_succ]
  refine hf _ _ _ (hput _) fun H2 e2 =>?_
  simp only [binBool_eql,tk_eq,opt_some]
  by_cases hp:P (Utf8.decode ⟨s.toArray⟩ j).1=true
  ·simp only [hp,beq_self_eq_true,tk_eq,ifB_true]
   refine hQ _ _ ((hput _).trans e2) ?_
   have:(s.all fun b => !P b.toNat)=false:=by
    rw [List.all_eq_false]
    refine ⟨s[j],List.getElem_mem hjl,?_⟩
    by_cases h:s[j].toNat<128
    ·rw [decode_low s j hjl h] at hp
     simpa using hp
    ·simpa using hP _ (by omega)
   rw [this]
   simp
  ·have hlow:s[j].toNat<128:=Classical.byContradiction fun h=>hp (hP _ (decode_hi s j hjl h))
   have hd:=decode_low s j hjl hlow
   have hpf:P (Utf8.decode ⟨s.toArray⟩ j).1=false:=by simpa using hp
   simp only [hpf,Bool.false_beq,tk_eq,ifB_false]
   refine hX hjl _ _ ⟨rfl,(hput _).trans e2,?_,fun i hi hij =>?_⟩
   ·rw [e2.obj (by simp) (AH.get_put_self _ _ hlt),hd]
   ·by_cases e:i=j
    ·subst e; rw [hd] at hpf; exact hpf
    ·exact hn i hi (by omega)
 ·simp only [if_neg hjl,tk_eq,opt2_some]
  simp only [ext_bool,List.getElem?_cons_zero,opt_some,tk_eq,ifB_false]
  refine hQ _ _ e1 ?_
  have:(s.all fun b => !P b.toNat)=true:=by
   rw [List.all_eq_true]
   intro b hb
   obtain ⟨i,hi,rfl⟩:=List.getElem_of_mem hb
   simpa using hn i hi (by omega)
  rw [this]; rfl
theorem S.f6 (hE:Fold E) (c:Nat) (hQ:Q (vb (decide (c<33)||decide (126<c)||decide (c=47)||decide (c=35))) H):E.call (E.fid i.f6) [.int .i32 (c:Int)] H Q:=by
 apply hE.f6
 simp only [F.f6,i32_lss,i32_gtr,i32_eql,tk_eq,opt_some]
 by_cases h1:c<33
 ·have:(c:Int)<33:=by omega
  simp [this]
  simpa [h1] using hQ
 ·have h1':¬ (c:Int)<33:=by omega
  by_cases h2:126<c
  ·have:(126:Int)<c:=by omega
   simp [h1',this]
   simpa [h1,h2] using hQ
  ·have h2':¬ (126:Int)<c:=by omega
   by_cases h3:c=47
   ·subst h3
    simpa using hQ
   ·have h3':¬ (c:Int)=47:=by omega
    have e:((c:Int)=35)=(c=35):=by rw [eq_iff_iff]; omega
    simp [h1',h2',h3',e]
    simpa [h1,h2,h3] using hQ
theorem S.f5 (hE:Fold E) (s:NameL) (hs:s.length<2 ^ 63) (hQ:∀ H',Ext H H'->Q (vb (okName s)) H'):E.call (E.fid i.f5) [str s] H Q:=by
  apply hE.f5
  have l1:(.string ⟨#[46]⟩:Value)=str [46]:=rfl
  have l2:(.string ⟨#[46,46]⟩:Value)=str [46,46]:=rfl
  have bad:∀ b:Bool,b=false->okName s=b->Q (vb false) H:=fun b h1 h2=>by rw [<- h1,<- h2]; exact hQ H (Ext.refl H)
  simp only [F.f5,lenStr_s,tk_eq,opt_some,i64_lss]
  by_cases h1:s.length<1
  · have:((s.length:Int)<1):=by omega
    simp [this]
    exact bad _ rfl (by have : ¬ 1 <= s.length := by omega
                        simp [okName,this])
  have h1':¬ ((s.length:Int)<1):=by omega
  by_cases h2:14<s.length
  · have:((14:Int)<s.length):=by omega
    simp [h1',this]
    exact bad _ rfl (by have : ¬ s.length <= 14 := by omega
                        simp [okName,this])
  have h2':¬ ((14:Int)<s.length):=by omega
  by_cases h3:s=[46]
  · simp [h1',h2',l1,h3]
    exact bad _ rfl (by simp [okName,h3])
  by_cases h4:s=[46,46]
  · simp [h1',h2',l1,l2,h3,h4]
    exact bad _ rfl (by simp [okName,h4])
  simp [h1',h2',l1,l2,h3,h4]
  apply hE.f51
  simp only [F.f51]
  have hP:∀ c:Nat,128<=c->(fun c:Nat=>decide (c<33)||decide (126<c)||decide (c=47)||decide (c=35)) c=true:=fun c hc=>by
    have:126<c:=by omega
    simp [this]
  refine S.f55 hE s hs _ _ hP (fun H' c K e hK =>?_) fun H' k e hk =>?_
  · simp
    exact S.f6 hE c (hK H' (Ext.refl _))
  · have hq:=hQ H' e
    have:okName s=decide (k<0):=by
      rw [hk]
      have a1:1<=s.length:=by omega
      have a2:s.length<=14:=by omega
      simp only [okName,a1,a2,h3,h4,decide_true,Bool.and_true,ne_eq,not_false_eq_true]
      congr 1
      funext c
      unfold badByte
      congr 1
      have g:∀ n:Nat,n<256->(decide (c<UInt8.ofNat n)=decide (c.toNat<n))/\(decide (UInt8.ofNat n<c)=decide (n<c.toNat))/\(decide (c=UInt8.ofNat n)=decide (c.toNat=n)):=by
        intro n hn
        refine ⟨?_,?_,?_⟩
        · congr 1; rw [eq_iff_iff,UInt8.lt_iff_toNat_lt,UInt8.toNat_ofNat_of_lt' hn]
        · congr 1; rw [eq_iff_iff,UInt8.lt_iff_toNat_lt,UInt8.toNat_ofNat_of_lt' hn]
        · congr 1; rw [eq_iff_iff,<- UInt8.toNat_inj,UInt8.toNat_ofNat_of_lt' hn]
      rw [show (33:UInt8)=UInt8.ofNat 33 from rfl,show (126:UInt8)=UInt8.ofNat 126 from rfl,show (47:UInt8)=UInt8.ofNat 47 from rfl,show (35:UInt8)=UInt8.ofNat 35 from rfl,(g 33 (by omega)).1,(g 126 (by omega)).2.1,(g 47 (by omega)).2.2,(g 35 (by omega)).2.2]
    rw [this] at hq
    simpa using hq
end
end Go.AM
end
section
namespace Go.AM
section
variable {T:Tr}
theorem Tr.node_lt {n:BitVec 16} (h:(T.node n).kind≠0#8):n.toNat<T.N.length:=by
 apply Classical.byContradiction
 intro k
 apply h
 unfold Tr.node
 rw [List.getD_eq_getElem?_getD,List.getElem?_eq_none (by omega)]
 rfl
theorem Tr.node_upd {n:BitVec 16} (h:(T.node n).kind≠0#8) (f:Nd->Nd) (k:BitVec 16):(T.upd n f).node k=if k=n then f (T.node n) else T.node k:=by
 have hl:=Tr.node_lt h
 unfold Tr.upd Tr.node
 simp only [List.getD_eq_getElem?_getD,List.getElem?_modify]
 by_cases e:k=n
 ·subst e
  simp [hl]
 ·have:n.toNat≠k.toNat:=fun x=>e (BitVec.toNat_inj.1 x.symm)
  simp [e,this]
@[simp] theorem Tr.upd_limit (n:BitVec 16) (f:Nd->Nd):(T.upd n f).limit=T.limit:=rfl
@[simp] theorem Tr.upd_change (n:BitVec 16) (f:Nd->Nd):(T.upd n f).change=T.change:=rfl
@[simp] theorem Tr.bump_limit:T.bump.limit=T.limit:=rfl
@[simp] theorem Tr.bump_change:T.bump.change=T.change+1:=rfl
@[simp] theorem Tr.bump_node (n:BitVec 16):T.bump.node n=T.node n:=rfl
end
section
variable {E:Sy} {H H' H'':AH} {Q:Value->AH->Prop} {p m:Nat} {L L' L'':LyL} {T T' T'':Tr}
theorem key_ne {A B:Type} {L:List (A×B)} (hn:(L.map Prod.fst).Nodup) {k i:Nat} {n:A} {y:B} {e:A×B} (hk:L[k]? = some (n,y)) (hi:L[i]? = some e) (h:i≠k):e.1≠n:=by
 intro he
 have hkl:=(List.getElem?_eq_some_iff.1 hk).1
 have hil:=(List.getElem?_eq_some_iff.1 hi).1
 have:=(List.getElem?_inj (show i<(L.map Prod.fst).length by simpa using hil) hn).1 (show (L.map Prod.fst)[i]? = (L.map Prod.fst)[k]? by simp [hi,hk,he])
 exact h this
theorem map_set_same {A B:Type} (f:A->B) {l:List A} {k:Nat} {a b:A} (hk:l[k]? = some a) (h:f b=f a):(l.set k b).map f=l.map f:=by
 rw [List.map_set,h]
 apply List.ext_getElem?
 intro i
 simp only [List.getElem?_set,List.getElem?_map]
 split
 ·rename_i e; subst e
  split
  ·simp [hk]
  ·rename_i h2; simp at h2; simp [List.getElem?_eq_none h2]
 ·rfl
theorem nodes_set (hn:(L.map Prod.fst).Nodup) {k:Nat} {n:BitVec 16} {y y':Ly} (hk:L[k]? = some (n,y)) (g:BitVec 16×Ly->Res) (g':BitVec 16×Ly->Res) (hg:∀ e∈L,e.1≠n->g' e=g e) :
  (L.set k (n,y')).map g'=(L.map g).set k (g' (n,y')):=by
 apply List.ext_getElem?
 intro i
 simp only [List.getElem?_map,List.getElem?_set,List.length_map]
 by_cases e:k=i
 ·subst e
  have:=(List.getElem?_eq_some_iff.1 hk).1
  simp [this]
 ·simp only [e,if_false]
  cases hi:L[i]? with
  | none=>rfl
  | some x=>simp [hg x (List.mem_of_getElem? hi) (key_ne hn hk hi (Ne.symm e))]
theorem keys_set {k:Nat} {n:BitVec 16} {y y':Ly} (hk:L[k]? = some (n,y)):(L.set k (n,y')).map Prod.fst=L.map Prod.fst:=map_set_same _ hk rfl
theorem Ino.set (h:Ino H p m L T) {k:Nat} {n:BitVec 16} {y y':Ly} (hk:L[k]? = some (n,y)) {f:Nd->Nd} (hb:y'.blk=y.blk) (hkind:(f (T.node n)).kind≠0#8) (ok:LyOk (f (T.node n)) y')
  (u:Upd (nodeR n (T.node n) y) (nodeR n (f (T.node n)) y') H H'):UpdI p m L T (L.set k (n,y')) (T.upd n f) H H':=by
 have h0:(T.node n).kind≠0#8:=(h.cov.mem n).1 (List.mem_map.2 ⟨_,List.mem_of_getElem? hk,rfl⟩)
 have hnode:=fun j=>Tr.node_upd h0 f j
 have hs:=h.ow.set (rs:=inoRs p m L T) (k:=k+2) (r:=nodeR n (T.node n) y) (by simp [inoRs,hk]) u
 have hl:(inoRs p m L T).set (k+2) (nodeR n (f (T.node n)) y')=inoRs p m (L.set k (n,y')) (T.upd n f):=by
  simp only [inoRs,List.set_cons_succ,Tr.upd_limit,Tr.upd_change]
  congr 2
  ·rw [map_set_same _ hk]; simp [hb]
  ·rw [nodes_set h.cov.nd hk (fun e=>nodeR e.1 (T.node e.1) e.2) (fun e=>nodeR e.1 ((T.upd n f).node e.1) e.2) (fun e _ he=>by simp only [hnode,if_neg he])]
   simp only [hnode,if_true]
 refine ⟨by unfold inoR; rw [<- hl]; exact hs,by rw [keys_set hk]; exact h.cov.nd,fun j =>?_,fun e he =>?_⟩
 ·rw [keys_set hk,h.cov.mem j,hnode]
  split
  ·rename_i e; subst e; simp [h0,hkind]
  ·rfl
 ·obtain ⟨i,hi⟩:=List.mem_iff_getElem?.1 he
  rw [List.getElem?_set] at hi
  have hkl:=(List.getElem?_eq_some_iff.1 hk).1
  by_cases e':k=i
  ·subst e'
   simp [hkl] at hi
   subst hi
   rw [hnode,if_pos rfl]
   exact ok
  ·simp only [e',if_false] at hi
   rw [hnode,if_neg (key_ne h.cov.nd hk hi (Ne.symm e'))]
   exact h.cov.ok e (List.mem_of_getElem? hi)
theorem nodeR.setMap {n:BitVec 16} {x x':Nd} {y:Ly} {r:Nat} {o:List (NameL×BitVec 16)} (h:Ow (nodeR n x y) H) (hr:y.nm=some r) (hd:x'.data=x.data) (hc:inC n x' { y with ord:=o }=inC n x y)
  (u:Upd (mapR str u16 r y.ord) (mapR str u16 r o) H H'):Upd (nodeR n x y) (nodeR n x' { y with ord:=o }) H H':=by
 have:=h.set (k:=2) (r:=mapR str u16 r y.ord) (by simp [nodeRs,hr]) u
 have e:(nodeRs n x y).set 2 (mapR str u16 r o)=nodeRs n x' { y with ord:=o }:=by
  have hc':=hc
  rw [hr] at hc'
  simp [nodeRs,hd,hr,hc']
 rw [e] at this
 exact this
theorem Ino.bump (h:Ino H p m L T):UpdI p m L T L T.bump H (H.put p (.cells [.map (some m),vi T.limit,vi (T.change+1)] none)):=by
 have:=h.ow.set (rs:=inoRs p m L T) (k:=0) (r:=boxR p [.map (some m),vi T.limit,vi T.change]) (by simp [inoRs]) (boxR.put h.head [.map (some m),vi T.limit,vi (T.change+1)])
 exact ⟨this,h.cov.nd,h.cov.mem,h.cov.ok⟩
theorem S.f57 (hE:Fold E) (h:Ino H p m L T) (hc : -9223372036854775808<=T.change/\T.change<9223372036854775807) (hQ:∀ v H',UpdI p m L T L T.bump H H'->Q v H'):E.call (E.fid i.f57) [ptr p 2,vi 1] H Q:=by
 apply hE.f57
 simp only [F.f57,nilCk_p,tk_eq,opt_some]
 rw [addOff_ptr,opt_some]
 apply hE.f56
 have hw:IntKind.i64.wrap (T.change+1)=T.change+1:=wrap_i64 (by omega) (by omega)
 simp only [atomicAdd,ptr,vi,h.head,hw,List.getElem?_cons_succ,List.getElem?_cons_zero,List.set_cons_succ,List.set_cons_zero,Nat.add_zero]
 exact hQ _ _ h.bump
end
end Go.AM
end
section
namespace Go.AM
section
variable {E:Sy} {H H' H'':AH} {Q:Value->AH->Prop} {p m:Nat} {L L' L'':LyL} {T T' T'':Tr}
theorem Tr.dir_zero {n:BitVec 16}:T.dir n=0↔(T.node n).kind=2#8:=by
 unfold Tr.dir
 constructor
 ·intro h
  split at h
  ·simp at h
  ·split at h
   ·assumption
   ·simp at h
 ·intro h
  rw [if_neg (by rw [h]; decide),if_pos h]
theorem S.f13 (hE:Fold E) (h:Ino H p m L T) (n:BitVec 16) (s:NameL) (hs:s.length<2 ^ 63)
  (hQ:∀ H',Ext H H'->Q (.tuple #[if T.room n s=0 then nodeP L n else .pointer none,vi (T.room n s)]) H'):E.call (E.fid i.f13) [ptr p 0,u16 n,str s] H Q:=by
 apply hE.f13
 simp only [F.f13]
 refine S.f12 hE h n ?_
 unfold Tr.room at hQ
 by_cases hd:T.dir n=0
 ·have hk:=Tr.dir_zero.1 hd
  rcases h.get n with ⟨h1,h2⟩ | ⟨k,y,h1,h2,h3,h4,h5⟩
  ·rw [h1] at hk; simp at hk
  have hp:=nodeP_some h.cov.nd h2
  simp only [hd,if_true,tk_eq]
  rw [hp]
  simp [hd]
  refine S.f5 hE s hs fun H1 e1 =>?_
  have hh:=h.mono e1
  have k4:=e1.cells h4
  obtain ⟨r,g1,g2,g3,g4⟩:=hh.name h2 hk s (.int .u16 0) true
  by_cases c1:okName s=true
  ·simp only [hd,c1] at hQ
   cases c2:alook s (T.node n).ents with
   | some v =>
    rw [c2] at g3
    simp at g3
    simp [c2] at hQ
    simp [c1,k4,inC,g1,g3]
    exact hQ _ e1
   | none =>
    rw [c2] at g3
    simp at g3
    simp [c2] at hQ
    simp [c1,k4,inC,g1,g3]
    by_cases c3:(T.node n).links=0
    ·simp [c3] at hQ
     simp [c3]
     exact hQ _ e1
    ·simp [c3] at hQ
     simp [c3,k4,inC,g1,g4]
     by_cases c4:32<=(T.node n).ents.length
     ·have c4':(32:Int)<=(T.node n).ents.length:=by omega
      have c4'':¬ (T.node n).ents.length<32:=by omega
      simp [c4,c4''] at hQ
      simp [c4']
      exact hQ _ e1
     ·have c4':¬ (32:Int)<=(T.node n).ents.length:=by omega
      have c4'':(T.node n).ents.length<32:=by omega
      simp [c4,c4'',hp] at hQ
      simp [c4']
      exact hQ _ e1
  ·have c1:okName s=false:=by simpa using c1
   simp [hd,c1] at hQ
   simp [c1]
   exact hQ _ e1
 ·simp [hd] at hQ
  simp [hd]
  exact hQ _ (Ext.refl H)
theorem Tr.look_ok {n:BitVec 16} {s:NameL} (h:(T.look n s).2=0):(T.node n).kind=2#8/\alook s (T.node n).ents=some (T.look n s).1:=by
 unfold Tr.look at h ⊢
 by_cases hd:T.dir n=0
 ·simp only [hd,ne_eq,not_true,if_false] at h ⊢
  refine ⟨Tr.dir_zero.1 hd,?_⟩
  cases hl:alook s (T.node n).ents with
  | none=>simp [hl] at h
  | some v=>rfl
 ·simp [hd] at h
end
end Go.AM
end
section
namespace Go.AM
def Tr.chainOk (T:Tr):Nat->BitVec 16->Prop
 | 0,_=>True
 | f+1,n=>n=1#16\/((T.node n).kind≠0#8/\T.chainOk f (T.node n).parent)
section
variable {E:Sy} {H H' H'':AH} {Q:Value->AH->Prop} {p m:Nat} {L L' L'':LyL} {T T' T'':Tr}
theorem S.f11 (hE:Fold E) (h:Ino H p m L T) (n:BitVec 16) (hc:T.chainOk 17 n) (hQ:Q (vi (T.deep n)) H):E.call (E.fid i.f11) [ptr p 0,u16 n] H Q:=by
 apply hE.f11
 simp only [F.f11]
 have hh:=h.head
 obtain ⟨D,hD⟩:∃ D,D=T.deepF 17 n:=⟨_,rfl⟩
 unfold Tr.deep at hQ
 rw [<- hD] at hQ
 refine LoopL.count 17 (fun j l H'=>H'=H/\∃ k,l=[ptr p 0,u16 k,vi j]/\D=j+T.deepF (17 - j) k/\T.chainOk (17 - j) k) ?_ ⟨rfl,n,rfl,by rw [hD]; exact (Nat.zero_add _).symm,hc⟩
 clear hD hc
 rintro j _ _ X hj hX ⟨rfl,k,rfl,h1,h2⟩
 by_cases hj':j=17
 ·subst hj'
  have:D=17:=by rw [h1]; rfl
  rw [this] at hQ
  by_cases hk:k=1#16
  ·simp [F.f11_l1,hk]
   exact hQ
  ·simp [F.f11_l1,hk]
   exact hQ
 ·obtain ⟨f,hf⟩:∃ f,17 - j=f+1:=⟨16 - j,by omega⟩
  have hf':17 - (j+1)=f:=by omega
  rw [hf] at h1 h2
  simp only [Tr.deepF,Tr.chainOk] at h1 h2
  have hji:(j:Int)<=16:=by omega
  by_cases hk:k=1#16
  ·simp [hk] at h1
   simp [F.f11_l1,hk]
   rw [h1] at hQ
   exact hQ
  ·rcases h2 with h2 | ⟨h2,h3⟩
   ·exact (hk h2).elim
   rcases h.get k with ⟨q1,_⟩ | ⟨i,y,q1,q2,q3,q4,q5⟩
   ·exact (h2 q1).elim
   simp [hk] at h1
   simp [F.f11_l1,hk,hji,hh,q3,q4,inC]
   rw [i64_inc (by omega),opt_some]
   exact hX (by omega) _ _ ⟨rfl,_,rfl,by rw [hf']; omega,by rw [hf']; exact h3⟩
end
end Go.AM
end
section
namespace Go.AM
theorem insertE_perm (x:NameL×BitVec 16):∀ l,(insertE x l).Perm (x :: l)
 | []=>List.Perm.refl _
 | y :: l=>by
  simp only [insertE]
  split
  ·exact ((insertE_perm x l).cons y).trans (List.Perm.swap _ _ _)
  ·exact List.Perm.refl _
theorem aset_fresh {K V:Type} [DecidableEq K] (k:K) (v:V):∀ (l:List (K×V)),k ∉ l.map Prod.fst->aset k v l=l++[(k,v)]
 | [],_=>rfl
 | p :: l,h=>by
  simp only [List.map_cons,List.mem_cons,not_or] at h
  have e:¬ p.1=k:=fun x=>h.1 x.symm
  simp [aset,e,aset_fresh k v l h.2]
theorem freeL_le:∀ l:List Nd,freeL l<=l.length
 | []=>Nat.le_refl _
 | x :: l=>by
  simp only [freeL]
  split
  ·exact Nat.zero_le _
  ·have:=freeL_le l
   simp; omega
theorem freeL_lt:∀ (l:List Nd) (i:Nat),i<freeL l->(l.getD i Nd.none).kind≠0#8
 | [],i,h=>by simp [freeL] at h
 | x :: l,i,h=>by
  simp only [freeL] at h
  split at h
  ·omega
  ·rename_i hk
   cases i with
   | zero=>simpa using hk
   | succ i=>simpa using freeL_lt l i (by omega)
theorem freeL_at:∀ (l:List Nd),(l.getD (freeL l) Nd.none).kind=0#8
 | []=>rfl
 | x :: l=>by
  simp only [freeL]
  split
  ·simpa using ‹x.kind=0#8›
  ·simpa using freeL_at l
structure Tr.Free (T:Tr) (n:Nat):Prop where
 pos:1<=n
 le:n<=T.N.length
 lt:n<65536
 zero:(T.node (BitVec.ofNat 16 n)).kind=0#8
 used:∀ k:Nat,1<=k->k<n->(T.node (BitVec.ofNat 16 k)).kind≠0#8
theorem Tr.free_ok {T:Tr} (h1:1<=T.N.length) (h2:T.N.length<=60000):T.Free T.free:=by
 have hl:=freeL_le (T.N.drop 1)
 rw [List.length_drop] at hl
 have hlt:T.free<65536:=by unfold Tr.free; omega
 have hn:∀ k:Nat,1<=k->k<65536->T.node (BitVec.ofNat 16 k)=(T.N.drop 1).getD (k - 1) Nd.none:=by
  intro k k1 k2
  unfold Tr.node
  rw [BitVec.toNat_ofNat,Nat.mod_eq_of_lt (by omega)]
  simp only [List.getD_eq_getElem?_getD,List.getElem?_drop]
  rw [show 1+(k - 1)=k by omega]
 refine ⟨by unfold Tr.free; omega,by unfold Tr.free; omega,hlt,?_,fun k k1 k2 =>?_⟩
 ·rw [hn _ (by unfold Tr.free; omega) hlt]
  exact freeL_at _
 ·rw [hn k k1 (by omega)]
  exact freeL_lt _ _ (by unfold Tr.free at k2; omega)
theorem Tr.node_put {T:Tr} {n:Nat} (h1:n<=T.N.length) (h2:n<65536) (x:Nd) (k:BitVec 16):(T.put n x).node k=if k=BitVec.ofNat 16 n then x else T.node k:=by
 have hk:(BitVec.ofNat 16 n).toNat=n:=by rw [BitVec.toNat_ofNat,Nat.mod_eq_of_lt (by omega)]
 unfold Tr.put Tr.node
 simp only [List.getD_eq_getElem?_getD]
 by_cases e:k=BitVec.ofNat 16 n
 ·subst e
  rw [hk]
  split
  ·rename_i hlt; simp [hlt]
  ·have:n=T.N.length:=by omega
   subst this
   simp
 ·have hne:n≠k.toNat:=fun x=>e (by rw [x]; simp)
  rw [if_neg e]
  split
  ·simp [hne]
  ·have:n=T.N.length:=by omega
   subst this
   rw [List.getElem?_append]
   split
   ·rfl
   ·rename_i hlt
    rw [List.getElem?_eq_none (by simp; omega),List.getElem?_eq_none (by omega)]
@[simp] theorem Tr.put_limit {T:Tr} (n:Nat) (x:Nd):(T.put n x).limit=T.limit:=rfl
@[simp] theorem Tr.put_change {T:Tr} (n:Nat) (x:Nd):(T.put n x).change=T.change:=rfl
section
variable {E:Sy} {H H' H'':AH} {Q:Value->AH->Prop} {p m:Nat} {L L' L'':LyL} {T T' T'':Tr}
theorem Ino.addName (h:Ino H p m L T) {k:Nat} {n:BitVec 16} {y:Ly} (hk:L[k]? = some (n,y)) (hd:(T.node n).kind=2#8) (s:NameL) (v:BitVec 16) (hno:alook s (T.node n).ents=none) :
  ∃ r H',y.nm=some r/\setMap 1 (.map (some r)) (str s) (u16 v) H=some H'/\UpdI p m L T (L.set k (n,{ y with ord:=aset s v y.ord })) (T.upd n (Nd.addE s v)) H H':=by
 have hok:LyOk (T.node n) y:=h.cov.ok _ (List.mem_of_getElem? hk)
 obtain ⟨r,hr⟩:=hok.dir hd
 have hm:=nodeR.names (h.node hk) hr
 obtain ⟨H',g1,g2⟩:=mapR.set hm (kd:=1) (fun a b=>same_str a b) s v
 refine ⟨r,H',hr,g1,h.set hk rfl ?_ ⟨fun _=>hok.dir hd,fun k=>(k hd).elim,?_⟩ (nodeR.setMap (h.node hk) hr rfl rfl g2)⟩
 ·show (T.node n).kind≠0#8
  rw [hd]; decide
 ·have hnk:s ∉ y.ord.map Prod.fst:=fun hm=>lookup_none.1 hno ((hok.perm.map _).mem_iff.1 hm)
  show (aset s v y.ord).Perm (insertE (s,v) (T.node n).ents)
  rw [aset_fresh s v y.ord hnk]
  exact (List.perm_append_singleton _ _).trans ((hok.perm.cons _).trans (insertE_perm _ _).symm)
theorem Ino.born (h:Ino H p m L T) {n:Nat} (hn:T.Free n) {x:Nd} {y:Ly} (hx:x.kind≠0#8) (ok:LyOk x y) (e:Ext H H') (hr:Ow (nodeR (BitVec.ofNat 16 n) x y) H') (hf:∀ b∈(nodeR (BitVec.ofNat 16 n) x y).fp,H.next<=b) :
  ∃ H'',setMap 0 (.map (some m)) (u16 (BitVec.ofNat 16 n)) (ptr y.blk 0) H'=some H''/\UpdI p m L T (L++[(BitVec.ofNat 16 n,y)]) (T.put n x) H H'':=by
 have h1:=h.mono e
 have hnode:=fun k=>Tr.node_put hn.le hn.lt x k
 have hnk:BitVec.ofNat 16 n ∉ L.map Prod.fst:=fun hm=>(h.cov.mem _).1 hm hn.zero
 obtain ⟨H'',g1,g2⟩:=mapR.set h1.map (kd:=0) (fun a b=>same_u16 a b) (BitVec.ofNat 16 n) y.blk
 have ha:=h.ow.add (nodeR (BitVec.ofNat 16 n) x y) e hr.holds (fun b hb=>⟨hf b hb,hr.lt b hb⟩) hr.nd
 have ho:=h.ow.upd ha
 have hs:=ho.set (k:=1) (by simp [inoRs]) g2
 have hl:(inoRs p m L T++[nodeR (BitVec.ofNat 16 n) x y]).set 1 (mapR u16 (fun b=>ptr b 0) m (aset (BitVec.ofNat 16 n) y.blk (L.map fun e=>(e.1,e.2.blk))))=inoRs p m (L++[(BitVec.ofNat 16 n,y)]) (T.put n x):=by
  simp only [inoRs,List.cons_append,List.set_cons_succ,List.set_cons_zero,Tr.put_limit,Tr.put_change]
  congr 2
  ·rw [aset_fresh _ _ _ (by simpa using hnk)]; simp
  ·rw [List.map_append]
   congr 1
   ·apply List.map_congr_left
    intro a ha
    rw [hnode,if_neg]
    intro e'
    exact hnk (e'▸List.mem_map.2 ⟨a,ha,rfl⟩)
   ·simp [hnode]
 refine ⟨H'',g1,⟨?_,?_,fun k =>?_,fun a ha =>?_⟩⟩
 ·have:=ha.trans hs
  rw [hl] at this
  exact this
 ·rw [List.map_append,List.nodup_append]
  exact ⟨h.cov.nd,by simp,fun a ha b hb=>by simp at hb; subst hb; rintro rfl; exact hnk ha⟩
 ·rw [hnode,List.map_append,List.mem_append,h.cov.mem k]
  by_cases e:k=BitVec.ofNat 16 n
  ·subst e; simp [hx]
  ·simp [e]
 ·rcases List.mem_append.1 ha with ha | ha
  ·have:a.1≠BitVec.ofNat 16 n:=by rintro e; exact hnk (e▸List.mem_map.2 ⟨a,ha,rfl⟩)
   rw [hnode,if_neg this]
   exact h.cov.ok a ha
  ·simp only [List.mem_singleton] at ha
   subst ha
   rw [hnode,if_pos rfl]
   exact ok
theorem Ino.len (h:Ino H p m L T):lenMap (.map (some m)) H=some (vi L.length):=by
 have:=h.map.len
 simpa using this
theorem countP_length:∀ (l:List Nd) (K:List Nat) (_:K.Nodup) (_:∀ k,k∈K↔(l.getD k Nd.none).kind≠0#8),l.countP (fun x=>decide (x.kind≠0#8))=K.length:=by
 intro l
 induction l with
 | nil =>
  intro K hn hk
  have:K=[]:=by
   apply List.eq_nil_iff_forall_not_mem.2
   intro k hm
   exact (hk k).1 hm rfl
  subst this; rfl
 | cons x l ih =>
  intro K hn hk
  have hK':((K.erase 0).map (· - 1)).Nodup:=by
   have h0:∀ a∈K.erase 0,a≠0:=fun a ha=>by rintro rfl; exact (hn.mem_erase_iff.1 ha).1 rfl
   have he:(K.erase 0).Nodup:=hn.erase 0
   revert h0 he
   generalize K.erase 0=K'
   intro h0 he
   induction K' with
   | nil=>simp
   | cons a K' ih2 =>
    rw [List.nodup_cons] at he
    rw [List.map_cons,List.nodup_cons]
    refine ⟨fun hm =>?_,ih2 (fun b hb=>h0 b (by simp [hb])) he.2⟩
    obtain ⟨b,hb,e⟩:=List.mem_map.1 hm
    have:=h0 a (by simp); have:=h0 b (by simp [hb])
    have:a=b:=by omega
    subst this
    exact he.1 hb
  have:=ih ((K.erase 0).map (· - 1)) hK' (fun k=>by
   rw [List.mem_map]
   constructor
   ·rintro ⟨a,ha,rfl⟩
    obtain ⟨h1,h2⟩:=hn.mem_erase_iff.1 ha
    have:=(hk a).1 h2
    cases a with
    | zero=>exact (h1 rfl).elim
    | succ a=>simpa using this
   ·intro hm
    exact ⟨k+1,hn.mem_erase_iff.2 ⟨by omega,(hk (k+1)).2 (by simpa using hm)⟩,by omega⟩)
  rw [List.countP_cons,this,List.length_map]
  have h0:=hk 0
  by_cases hx:x.kind=0#8
  ·have:0 ∉ K:=fun hm=>by simpa [hx] using h0.1 hm
   simp [hx,List.erase_of_not_mem this]
  ·have hm:0∈K:=h0.2 (by simpa using hx)
   have:=List.length_erase_of_mem hm
   have:=List.length_pos_of_mem hm
   simp [hx]; omega
theorem Cov.len (h:Cov L T) (hN:T.N.length<=65536):L.length=T.len:=by
 have:(L.map fun e=>e.1.toNat).Nodup:=by
  have:=h.nd
  revert this
  generalize L=L'
  intro hn
  induction L' with
  | nil=>simp
  | cons e l ih =>
   rw [List.map_cons,List.nodup_cons] at hn ⊢
   refine ⟨fun hm=>hn.1 ?_,ih hn.2⟩
   obtain ⟨a,ha,e'⟩:=List.mem_map.1 hm
   exact List.mem_map.2 ⟨a,ha,BitVec.toNat_inj.1 e'⟩
 have:=countP_length T.N (L.map fun e=>e.1.toNat) this fun k=>by
  constructor
  ·intro hm
   obtain ⟨e,he,rfl⟩:=List.mem_map.1 hm
   exact (h.mem e.1).1 (List.mem_map.2 ⟨e,he,rfl⟩)
  ·intro hk
   have hlt:k<65536:=by
    apply Classical.byContradiction
    intro hc
    rw [List.getD_eq_getElem?_getD,List.getElem?_eq_none (by omega)] at hk
    exact hk rfl
   have hkk:(BitVec.ofNat 16 k).toNat=k:=by rw [BitVec.toNat_ofNat,Nat.mod_eq_of_lt (by omega)]
   have:(T.node (BitVec.ofNat 16 k)).kind≠0#8:=by unfold Tr.node; rw [hkk]; exact hk
   obtain ⟨e,he,e'⟩:=List.mem_map.1 ((h.mem _).2 this)
   exact List.mem_map.2 ⟨e,he,by rw [e',hkk]⟩
 unfold Tr.len
 rw [this,List.length_map]
end
end Go.AM
end
section
namespace Go.AM
section
variable {E:Sy} {H H' H'':AH} {Q:Value->AH->Prop} {p m:Nat} {L L' L'':LyL} {T T' T'':Tr}
theorem Tr.room_ok {n:BitVec 16} {s:NameL} (h:T.room n s=0):(T.node n).kind=2#8/\alook s (T.node n).ents=none/\(T.node n).links≠0/\okName s=true/\(T.node n).ents.length<32:=by
 unfold Tr.room at h
 by_cases d1:T.dir n=0
 ·simp only [d1,ne_eq,not_true,if_false] at h
  refine ⟨Tr.dir_zero.1 d1,?_⟩
  by_cases d2:okName s=false
  ·simp [d2] at h
  simp only [d2,if_false] at h
  cases hl:alook s (T.node n).ents with
  | some x=>rw [hl] at h; simp at h
  | none =>
   rw [hl] at h
   by_cases d3:(T.node n).links=0
   ·simp [d3] at h
   by_cases d4:32<=(T.node n).ents.length
   ·simp [d3,d4] at h
   exact ⟨rfl,d3,by simpa using d2,by omega⟩
 ·simp [d1] at h
theorem nodeR.fresh {n:BitVec 16} {x:Nd} {b:Nat} {r:Option Nat} (hb:H.get b = .cells (inC n x ⟨b,nilS,r,[]⟩) none) (hd:x.data=[]) (hr:∀ k,r=some k->H.get k = .map [] 0 true/\k≠b):Ow (nodeR n x ⟨b,nilS,r,[]⟩) H:=by
 refine ⟨fun y hy =>?_,fun y hy =>?_,?_⟩
 ·simp only [nodeRs,List.mem_append,List.mem_cons,List.not_mem_nil,or_false] at hy
  rcases hy with (rfl | rfl) | hy
  ·exact hb
  ·rw [hd]; exact Grow.nil _ _ _
  ·cases r with
   | none=>simp at hy
   | some k =>
    simp at hy
    subst hy
    exact ⟨[],0,(hr k rfl).1,rfl,by simp,by simp,by simp⟩
 ·cases r with
  | none =>
   simp [nodeR,nodeRs,joinR,boxR,growR,blkL,blk] at hy
   subst hy
   exact AH.lt_cells hb
  | some k =>
   simp [nodeR,nodeRs,joinR,boxR,growR,blkL,blk,mapR] at hy
   rcases hy with rfl | rfl
   ·exact AH.lt_cells hb
   ·exact AH.lt_of_get (by rw [(hr _ rfl).1]; simp)
 ·cases r with
  | none=>simp [nodeR,nodeRs,joinR,boxR,growR,blkL,blk]
  | some k=>simp [nodeR,nodeRs,joinR,boxR,growR,blkL,blk,mapR,Ne.symm (hr k rfl).2]
theorem S.f10 (hE:Fold E) (h:Ino H p m L T) (n:BitVec 16) (s:NameL) (hs:s.length<2 ^ 63) (k:BitVec 8) (text:List UInt8) (ht:text.length<2 ^ 63) (hc : -9223372036854775808<=T.change/\T.change<9223372036854775807)
    (hN:1<=T.N.length/\T.N.length<=60000) (hch:k=2#8->T.room n s=0->T.chainOk 17 n)
    (hQ:∀ L' H',((T.make n s k text).2.2≠0->L'=L/\Ext H H')->UpdI p m L T L' (T.make n s k text).1 H H'->Q (.tuple #[u16 (T.make n s k text).2.1,vi (T.make n s k text).2.2]) H'):E.call (E.fid i.f10) [ptr p 0,u16 n,str s,u8 k,str text] H Q:=by
  apply hE.f10
  simp only [F.f10]
  refine S.f13 hE h n s hs fun H1 e1 =>?_
  unfold Tr.make at hQ
  have h':=h.mono e1
  have hlen:=h'.len
  rw [h'.cov.len (by omega)] at hlen
  have hh:=h'.head
  have same:=fun H' (e:Ext H1 H')=>h.same (e1.trans e)
  by_cases c1:T.room n s=0
  rotate_left
  · simp [c1] at hQ
    simp [c1]
    exact hQ L _ rfl e1 (same _ (Ext.refl _))
  obtain ⟨d1,d2,d3,d4,d5⟩:=Tr.room_ok c1
  simp only [c1,if_true,tk_eq,ne_eq,not_true,if_false] at hQ ⊢
  rcases h'.get n with ⟨w1,w2⟩ | ⟨j,z,w1,w2,w3,w4,w5⟩
  · rw [w1] at d1; simp at d1
  have hpn:=nodeP_some h.cov.nd w2
  rw [hpn]
  have hfree:=Tr.free_ok hN.1 hN.2
  have e1':(k<1#8)=(k=0#8):=by rw [eq_iff_iff]; constructor <;> intro h <;> bv_omega
  have last:(¬ (k=0#8\/3#8<k\/(k=3#8/\(text.length<1\/120<text.length))))->¬ (T.limit<=T.len\/(k=2#8/\16<=T.deep n))->LoopL (fun l H X0=>F.f10_l1 E Q (nth l 0) (nth l 1) (nth l 2) (nth l 3) (nth l 4) (nth l 5) (nth l 6) H X0) [ptr p 0,u16 n,str s,u8 k,str text,ptr z.blk 0,u16 1#16] H1:=by
    intro g1 g2
    simp only [g1,g2,if_false] at hQ
    refine LoopL.ind (fun i l H'=>H1=H'/\∃ a:Nat,l=[ptr p 0,u16 n,str s,u8 k,str text,ptr z.blk 0,u16 (BitVec.ofNat 16 a)]/\1<=a/\i+a=T.free) ?_ (T.free - 1) ⟨rfl,1,rfl,by omega,by have:=hfree.pos; omega⟩
    rintro i _ _ X hX ⟨rfl,a,rfl,ha,hia⟩
    by_cases hlt:a<T.free
    · have hu:=hfree.used a ha hlt
      rcases h'.get (BitVec.ofNat 16 a) with ⟨v1,v2⟩ | ⟨j',y,v1,v2,v3,v4,v5⟩
      · exact (hu v1).elim
      simp [F.f10_l1,hh,v3]
      refine hX (i - 1) (by omega) _ _ ⟨rfl,a+1,?_,by omega,by omega⟩
      simp
      bv_omega
    · have:a=T.free:=by omega
      subst this
      have hz:=hfree.zero
      rcases h'.get (BitVec.ofNat 16 T.free) with ⟨v1,v2⟩ | ⟨j',y,v1,v2,v3,v4,v5⟩
      rotate_left
      · exact (v1 hz).elim
      have fin:∀ (y:Ly) (H2:AH),Ext H1 H2->y.blk=H1.next->LyOk (Nd.made n k text) y->Ow (nodeR (BitVec.ofNat 16 T.free) (Nd.made n k text) y) H2->(∀ b∈(nodeR (BitVec.ofNat 16 T.free) (Nd.made n k text) y).fp,H1.next<=b) ->
          F.f10_j1 E Q (ptr p 0) (str s) (ptr z.blk 0) (u16 (BitVec.ofNat 16 T.free)) (ptr H1.next 0) H2:=by
        intro y H2 e2 hyb hok hr hf
        obtain ⟨H3,s1,s2⟩:=h'.born hfree (by show k≠0#8; intro e; exact g1 (.inl e)) hok e2 hr hf
        have hI:=s2.ino h'
        have hnf:n≠BitVec.ofNat 16 T.free:=by rintro e; rw [e] at w1; exact w1 hz
        have hnode:(T.put T.free (Nd.made n k text)).node n=T.node n:=by rw [Tr.node_put hfree.le hfree.lt,if_neg hnf]
        have w2':(L++[(BitVec.ofNat 16 T.free,y)])[j]? = some (n,z):=by rw [List.getElem?_append_left (List.getElem?_eq_some_iff.1 w2).1]; exact w2
        obtain ⟨r,H4,r1,r2,r3⟩:=hI.addName w2' (by rw [hnode]; exact d1) s (BitVec.ofNat 16 T.free) (by rw [hnode]; exact d2)
        have zb:=nodeR.box (hI.node w2')
        have h2h:=(h'.mono e2).head
        have u4:=s2.trans r3
        rw [hyb] at s1
        simp [F.f10_j1,h2h,s1,zb,inC,r1,r2]
        refine S.f57 hE (u4.ino h') hc fun _ H5 u5=>hQ _ _ (by simp) (.after e1 (u4.trans u5))
      by_cases k2:k=2#8
      · subst k2
        simp [F.f10_l1,hh,v2,splice]
        refine fin ⟨H1.next,nilS,some (H1.next+1),[]⟩ _ (((Ext.refl H1).new _).new _) rfl ⟨fun _=>⟨_,rfl⟩,fun h=>(h rfl).elim,List.Perm.refl _⟩ (nodeR.fresh ?_ rfl fun a ha =>?_) fun b hb =>?_
        · rw [AH.get_new_ne _ _ (by simp),AH.get_new_self]
          simp [inC,Nd.made]
        · simp only [Option.some.injEq] at ha
          subst ha
          exact ⟨AH.get_new_self _ _,by omega⟩
        · simp [nodeR,nodeRs,joinR,boxR,growR,blkL,blk,mapR] at hb
          omega
      · have hfp:∀ b∈(nodeR (BitVec.ofNat 16 T.free) (Nd.made n k text) ⟨H1.next,nilS,none,[]⟩).fp,H1.next<=b:=by
          intro b hb
          simp [nodeR,nodeRs,joinR,boxR,growR,blkL,blk,mapR] at hb
          omega
        have hok:LyOk (Nd.made n k text) ⟨H1.next,nilS,none,[]⟩:=⟨fun h=>(k2 h).elim,fun _=>rfl,List.Perm.refl _⟩
        by_cases k3:k=3#8
        · subst k3
          simp [F.f10_l1,hh,v2,splice]
          refine fin ⟨H1.next,nilS,none,[]⟩ _ ((Ext.refl H1).new _) rfl hok (nodeR.fresh ?_ rfl (by simp)) hfp
          rw [AH.get_new_self]
          simp [inC,Nd.made]
        · simp [F.f10_l1,hh,v2,k2,k3,splice]
          refine fin ⟨H1.next,nilS,none,[]⟩ _ ((Ext.refl H1).new _) rfl hok (nodeR.fresh ?_ rfl (by simp)) hfp
          rw [AH.get_new_self]
          simp [inC,Nd.made,k2,k3]
  by_cases t1:k=0#8
  · simp [t1] at hQ
    simp [c1,t1]
    exact hQ L _ rfl e1 (same _ (Ext.refl _))
  have t1':¬ k<1#8:=by rw [e1']; exact t1
  have t1n:¬ k.toNat=0:=fun e=>t1 (BitVec.toNat_inj.1 (by simpa using e))
  by_cases t2:3#8<k
  · simp [t2] at hQ
    have t2n:3<k.toNat:=by simpa [BitVec.lt_def] using t2
    simp [c1,t1',t1n,t2,t2n]
    exact hQ L _ rfl e1 (same _ (Ext.refl _))
  have t2n:¬ 3<k.toNat:=by simpa [BitVec.lt_def] using t2
  have t2m:k.toNat<=3:=by omega
  have rest:(¬ (k=0#8\/3#8<k\/(k=3#8/\(text.length<1\/120<text.length)))) ->
      (opt (nilCk (ptr p 0)) fun v19=>opt (addOff v19 0) fun v20=>opt (load1 v20 H1) fun v21=>opt (lenMap v21 H1) fun v22=>opt (nilCk (ptr p 0)) fun v23=>opt (addOff v23 1) fun v24=>opt (load1 v24 H1) fun v25=>opt (binInt .geq v22 v25) fun v26 =>
       ifB v26 (Q (.tuple #[(.int .u16 0),(.int .i64 28)]) H1) (
       opt (binInt .eql (u8 k) (.int .u8 2)) fun v27 =>
       gd v27 true (fun k=>k (ptr p 0) H1) H1 fun v28 H12 =>
       gd v27 true (fun k=>k (u16 n) H12) H12 fun v29 H13 =>
       gd v27 true (fun k=>E.call (E.fid i.f11) [v28,v29] H13 fun v h=>k v h) H13 fun v30 H14 =>
       gd v27 true (fun k=>opt (binInt .geq v30 (.int .i64 16)) fun v=>k v H14) H14 fun v31 H15 =>
       opt (pick v27 v31 (.bool false)) fun v32 =>
       ifB v32 (Q (.tuple #[(.int .u16 0),(.int .i64 28)]) H15) (
       LoopL (fun l H X0=>F.f10_l1 E Q (nth l 0) (nth l 1) (nth l 2) (nth l 3) (nth l 4) (nth l 5) (nth l 6) H X0) [ptr p 0,u16 n,str s,u8 k,str text,ptr z.blk 0,(.int .u16 1)] H15))):=by
    intro g1
    have last:=last g1
    simp only [g1,if_false] at hQ
    by_cases t4:T.limit<=T.len
    · simp [t4] at hQ
      simp [hh,hlen,t4]
      exact hQ L _ rfl e1 (same _ (Ext.refl _))
    by_cases t5:k=2#8
    · subst t5
      simp [hh,hlen,t4]
      refine S.f11 hE h' n (hch rfl c1) ?_
      by_cases t6:16<=T.deep n
      · have t6':(16:Int)<=T.deep n:=by omega
        simp only [t6,and_self,or_true,if_true] at hQ
        simp [t6']
        exact hQ L _ (fun _=>⟨rfl,e1⟩) (same _ (Ext.refl _))
      · have t6':¬ (16:Int)<=T.deep n:=by omega
        have:=last (by simp only [t4,t6,and_false,or_self,not_false_eq_true])
        simp [t6']
        exact this
    · have:=last (by simp [t4,t5])
      simp [hh,hlen,t4,t5]
      exact this
  by_cases t3:k=3#8
  · by_cases t7:text.length<1
    · have:(text.length:Int)<1:=by omega
      simp [t3,t7] at hQ
      simp [c1,t3,t7,this]
      exact hQ L _ rfl e1 (same _ (Ext.refl _))
    have t7':¬ (text.length:Int)<1:=by omega
    by_cases t8:120<text.length
    · have:(120:Int)<text.length:=by omega
      simp [t3,t8] at hQ
      simp [c1,t3,t7',this]
      exact hQ L _ rfl e1 (same _ (Ext.refl _))
    have t8':¬ (120:Int)<text.length:=by omega
    have:=rest (by subst t3; simp [t7,t8])
    simp [c1,t1',t2,t3,t7',t8']
    subst t3
    exact this
  · have:=rest (by simp [t1,t2,t3])
    simp [c1,t1',t1n,t2,t2n,t2m,t3]
    exact this
theorem S.f7 (hE:Fold E) (limit:Int) (hQ:∀ p m L H',Ext H H'->Ino H' p m L (Tr.new limit)->(∀ b∈(inoR p m L (Tr.new limit)).fp,H.next<=b)->Q (ptr p 0) H'):E.call (E.fid i.f7) [vi limit] H Q:=by
 apply hE.f7
 have e1:(if (1:Int) > limit then 1 else limit)=max limit 1:=by omega
 have e2:∀ x:Int,(if (256:Int)<x then 256 else x)=min x 256:=fun x=>by omega
 simp [F.f7,e1,e2,splice]
 generalize hlim:min (max limit 1) 256=lim
 have h0:Ino ((H.new (.map [] 0 true)).new (.cells [.map (some H.next),.int .i64 lim,.int .i64 0] none)) (H.next+1) H.next [] ⟨[Nd.none],lim,0⟩:=by
  refine ⟨⟨fun r hr =>?_,fun b hb =>?_,?_⟩,?_⟩
  ·simp only [inoRs,List.map_nil,List.mem_cons,List.not_mem_nil,or_false] at hr
   rcases hr with rfl | rfl
   ·exact AH.get_new_self _ _
   ·refine ⟨[],0,?_,rfl,by simp,by simp,by simp⟩
    rw [AH.get_new_ne _ _ (by simp),AH.get_new_self]
  ·simp [inoR,inoRs,joinR,boxR,mapR] at hb
   simp; omega
  ·simp [inoR,inoRs,joinR,boxR,mapR]
  ·refine ⟨by simp,fun n =>?_,by simp⟩
   simp only [List.map_nil,List.not_mem_nil,false_iff,Classical.not_not]
   unfold Tr.node
   cases hn:n.toNat <;> simp [Nd.none]
 have hf:(⟨[Nd.none],lim,0⟩:Tr).Free 1:=by
  refine ⟨by omega,by simp,by omega,?_,fun k k1 k2=>by omega⟩
  simp [Tr.node,Nd.none]
 have e3:=((Ext.refl ((H.new (.map [] 0 true)).new (.cells [.map (some H.next),.int .i64 lim,.int .i64 0] none))).new (.map [] 0 true)).new (.cells [u16 1#16,u8 2#8,.slice none 0 0,.map (some (H.next+1+1)),u16 1#16,str [],.int .i64 1,.int .i64 0] none)
 obtain ⟨H5,s1,s2⟩:=h0.born hf (x:={ Nd.none with kind:=2#8,parent:=1#16,links:=1 }) (y:=⟨H.next+1+1+1,nilS,some (H.next+1+1),[]⟩) (by decide) ⟨fun _=>⟨_,rfl⟩,fun h=>(h rfl).elim,List.Perm.refl _⟩ e3
  (nodeR.fresh (by rw [show H.next+1+1+1=(((H.new (.map [] 0 true)).new (.cells [.map (some H.next),.int .i64 lim,.int .i64 0] none)).new (.map [] 0 true)).next from rfl,AH.get_new_self]; rfl) rfl (fun k hk=>by
   simp only [Option.some.injEq] at hk
   subst hk
   refine ⟨?_,by omega⟩
   rw [AH.get_new_ne _ _ (by simp)]
   exact AH.get_new_self _ _)) (fun b hb=>by simp [nodeR,nodeRs,joinR,boxR,growR,blkL,blk,mapR] at hb; simp; omega)
 have s1':setMap 0 (.map (some H.next)) (u16 1#16) (ptr (H.next+1+1+1) 0) _=some H5:=s1
 rw [s1',opt_some]
 have hx:(⟨[Nd.none],lim,0⟩:Tr).put 1 { Nd.none with kind:=2#8,parent:=1#16,links:=1 }=Tr.new limit:=by
  simp [Tr.put,Tr.new,hlim]
 rw [hx] at s2
 have s3:=s2.ino h0
 have x0:Ext H ((H.new (.map [] 0 true)).new (.cells [.map (some H.next),.int .i64 lim,.int .i64 0] none)):=((Ext.refl H).new _).new _
 refine hQ (H.next+1) H.next _ H5 (s2.upd.only.ext x0 fun b hb =>?_) s3 fun b hb =>?_
 ·simp [inoR,inoRs,joinR,boxR,mapR] at hb
  omega
 ·rcases (s2.upd.fp b hb).1 with k | k
  ·simp [inoR,inoRs,joinR,boxR,mapR] at k
   omega
  ·simp at k; omega
end
end Go.AM
end
section
namespace Go.AM
theorem makeS_all (size bytes n:Nat) (z:List Value) (hz:z.length=size) (h1:n*bytes<=2 ^ 47) (h2:n<2 ^ 62):makeS size bytes z.toArray (vi n) (vi n)=some (.cells (List.replicate n z).flatten none,fun b=>slc b 0 n n):=by
 simp only [makeS]
 rw [if_pos ⟨by omega,by omega,by exact_mod_cast h1,by exact_mod_cast h2⟩]
 simp only [Int.toNat_natCast]
 rw [repl_eq n size _ (by simpa using hz)]
 rfl
end Go.AM
end
section
namespace Go.AM
open Go.Sort (swp SWO PermIn SortedIn scanUp scanDown)
section
variable {α:Type} [Inhabited α] {enc:α->Value} {H H' H'':AH} {b c n:Nat} {d d':Array α} {tail:List Value} {f:Option Nat}
theorem arr_ix {i:Nat} (h:i<n):ixSlc 1 (slc b 0 n c) (vi (i:Int))=some (ptr b i):=by
 rw [ixSlc_slc _ _ _ _ _ _ h]; simp
end
theorem bytesLess_dec:∀ (x y:List UInt8),Op.bytesLess x y=decide (x<y)
 | [],[]=>by simp [Op.bytesLess]
 | [],_ :: _=>by simp [Op.bytesLess]
 | _ :: _,[]=>by simp [Op.bytesLess]
 | a :: x,b :: y=>by
  rw [Op.bytesLess,bytesLess_dec x y,Bool.eq_iff_iff]
  simp [List.cons_lt_cons_iff]
end Go.AM
end
section
namespace Go.AM
def Rising (l:List (NameL×BitVec 16)):Prop:=l.Pairwise fun a b=>a.1<b.1
theorem name_lt_trans {a b c:NameL} (h:a<b) (h':b<c):a<c:=List.lt_trans h h'
theorem name_tri {a b:NameL} (h:¬ a<b) (h':¬ b<a):a=b:=List.le_antisymm h' h
theorem mem_insertE {x y:NameL×BitVec 16}:∀ {l:List (NameL×BitVec 16)},y∈insertE x l↔y=x\/y∈l:=fun {l}=>by
 rw [(insertE_perm x l).mem_iff,List.mem_cons]
theorem Rising.insert {x:NameL×BitVec 16}:∀ {l:List (NameL×BitVec 16)},Rising l->alook x.1 l=none->Rising (insertE x l)
 | [],_,_=>List.pairwise_singleton _ _
 | y :: l,h,hn=>by
  have hy:=List.pairwise_cons.1 h
  rw [alook_cons] at hn
  have hne:¬ x.1=y.1:=by intro e; rw [if_pos e] at hn; simp at hn
  rw [if_neg hne] at hn
  simp only [insertE,bytesLess_dec]
  by_cases hlt:y.1<x.1
  ·rw [if_pos (by simpa using hlt)]
   refine List.pairwise_cons.2 ⟨fun z hz =>?_,Rising.insert hy.2 hn⟩
   rcases mem_insertE.1 hz with rfl | hz
   ·exact hlt
   ·exact hy.1 z hz
  ·rw [if_neg (by simpa using hlt)]
   have hxy:x.1<y.1:=by
    refine Classical.byContradiction fun hc=>hne (name_tri hc hlt)
   refine List.pairwise_cons.2 ⟨fun z hz =>?_,h⟩
   rcases List.mem_cons.1 hz with rfl | hz
   ·exact hxy
   ·exact name_lt_trans hxy (hy.1 z hz)
theorem alook_mem {s:NameL} {k:BitVec 16}:∀ {l:List (NameL×BitVec 16)},alook s l=some k->(s,k)∈l
 | [],h=>by simp [alook] at h
 | e :: l,h=>by
  rw [alook_cons] at h
  by_cases he:s=e.1
  ·rw [if_pos he] at h
   have:=Option.some.inj h
   subst he; subst this
   exact List.mem_cons_self
  ·rw [if_neg he] at h
   exact List.mem_cons_of_mem _ (alook_mem h)
def cntE (k:BitVec 16) (l:List (NameL×BitVec 16)):Nat:=l.countP fun e=>decide (e.2=k)
def Tr.refs (T:Tr) (k:BitVec 16):Nat:=(T.N.map fun x=>cntE k x.ents).sum
theorem cntE_insert (k:BitVec 16) (x:NameL×BitVec 16) (l:List (NameL×BitVec 16)):cntE k (insertE x l)=cntE k l+if x.2=k then 1 else 0:=by
 unfold cntE
 rw [(insertE_perm x l).countP_eq,List.countP_cons]
 simp
theorem cntE_pos {k:BitVec 16} {l:List (NameL×BitVec 16)} (h:0<cntE k l):∃ s,(s,k)∈l:=by
 obtain ⟨e,he,hk⟩:=List.countP_pos_iff.1 h
 refine ⟨e.1,?_⟩
 have:e.2=k:=by simpa using hk
 rw [<- this]; exact he
theorem sum_modify (g:Nd->Nat) (f:Nd->Nd):∀ (N:List Nd) (i:Nat) (x:Nd),N[i]? = some x->((N.modify i f).map g).sum+g x=(N.map g).sum+g (f x)
 | [],i,x,h=>by simp at h
 | y :: N,0,x,h=>by
  simp at h; subst h
  simp; omega
 | y :: N,i+1,x,h=>by
  have:=sum_modify g f N i x (by simpa using h)
  simp at this ⊢; omega
theorem sum_pos (g:Nd->Nat):∀ {N:List Nd},0<(N.map g).sum->∃ (i:Nat) (x:Nd),N[i]? = some x/\0<g x
 | [],h=>by simp at h
 | y :: N,h=>by
  by_cases hy:0<g y
  ·exact ⟨0,y,rfl,hy⟩
  ·obtain ⟨i,x,h1,h2⟩:=sum_pos g (N:=N) (by simp at h; omega)
   exact ⟨i+1,x,by simpa using h1,h2⟩
section
variable {T T':Tr}
theorem Tr.node_get' {n:BitVec 16} (h:n.toNat<T.N.length):T.N[n.toNat]? = some (T.node n):=by
 simp [Tr.node,List.getD_eq_getElem?_getD,h]
theorem Tr.refs_upd {n:BitVec 16} (hn:n.toNat<T.N.length) (f:Nd->Nd) (k:BitVec 16):(T.upd n f).refs k+cntE k (T.node n).ents=T.refs k+cntE k (f (T.node n)).ents :=
 sum_modify (fun x=>cntE k x.ents) f T.N n.toNat (T.node n) (Tr.node_get' hn)
theorem Tr.refs_pos {k:BitVec 16} (hl:T.N.length<=65536) (h:0<T.refs k):∃ n s,(s,k)∈(T.node n).ents:=by
 obtain ⟨i,x,h1,h2⟩:=sum_pos (fun x=>cntE k x.ents) h
 obtain ⟨s,hs⟩:=cntE_pos h2
 obtain ⟨hi,hx⟩:=List.getElem?_eq_some_iff.1 h1
 refine ⟨BitVec.ofNat 16 i,s,?_⟩
 have e:(BitVec.ofNat 16 i).toNat=i:=by rw [BitVec.toNat_ofNat,Nat.mod_eq_of_lt (by omega)]
 have:=Tr.node_get' (T:=T) (n:=BitVec.ofNat 16 i) (by rw [e]; exact hi)
 rw [e,h1] at this
 rw [<- Option.some.inj this]
 exact hs
theorem Tr.refs_put {a:Nat} (x:Nd) (ha:a<=T.N.length) (hlt:a<65536) (k:BitVec 16) (hz:(T.node (BitVec.ofNat 16 a)).ents=[]):(T.put a x).refs k=T.refs k+cntE k x.ents:=by
 have e:(BitVec.ofNat 16 a).toNat=a:=by rw [BitVec.toNat_ofNat,Nat.mod_eq_of_lt (by omega)]
 unfold Tr.put Tr.refs
 by_cases h:a<T.N.length
 ·rw [if_pos h]
  have h1:=Tr.node_get' (T:=T) (n:=BitVec.ofNat 16 a) (by rw [e]; exact h)
  rw [e] at h1
  have:=sum_modify (fun x=>cntE k x.ents) (fun _=>x) T.N a _ h1
  have hm:T.N.modify a (fun _=>x)=T.N.set a x:=by
   apply List.ext_getElem?
   intro i
   rw [List.getElem?_modify,List.getElem?_set]
   by_cases hi:a=i
   ·subst hi; simp [h]
   ·simp [hi]
  rw [hm,hz] at this
  simpa [cntE] using this
 ·rw [if_neg h]
  simp
end
end Go.AM
end
section
namespace Go.AM
def Tr.rootIn (T:Tr):Nat->BitVec 16->Prop
 | 0,n=>n=1#16
 | f+1,n=>n=1#16\/((T.node n).kind=2#8/\T.rootIn f (T.node n).parent)
structure Tr.WF (T:Tr):Prop where
 lim:1<=T.limit/\T.limit<=256
 len:2<=T.N.length/\(T.N.length:Int)<=T.limit+1
 n0:(T.node 0#16).kind=0#8
 zero:∀ n,(T.node n).kind=0#8->T.node n=Nd.none
 root:(T.node 1#16).kind=2#8/\(T.node 1#16).parent=1#16/\(T.node 1#16).links=1
 ents:∀ n s k,(s,k)∈(T.node n).ents->(T.node n).kind=2#8/\(T.node n).links≠0/\okName s=true/\(T.node k).kind≠0#8/\k≠1#16/\((T.node k).kind=2#8->(T.node k).parent=n)
 rising:∀ n,Rising (T.node n).ents
 size:∀ n,(T.node n).ents.length<=32
 links:∀ n,n≠1#16->(T.node n).kind≠0#8->(T.node n).links=T.refs n
 dirs:∀ n,(T.node n).kind=2#8->T.refs n<=1
 held:∀ n,0<=(T.node n).held
 depth:∀ n,(T.node n).kind=2#8->(T.node n).links≠0->T.rootIn 16 n
 data:∀ n,(T.node n).data.length<=1024
section
variable {T T':Tr} {n k:BitVec 16}
theorem Tr.rootIn_mono:∀ {f:Nat} {n:BitVec 16},T.rootIn f n->∀ {g},f<=g->T.rootIn g n
 | 0,n,h,0,_=>h
 | 0,n,h,g+1,_ => .inl h
 | f+1,n,h,0,hg=>by omega
 | f+1,n,h,g+1,hg=>h.imp id fun h=>⟨h.1,Tr.rootIn_mono h.2 (by omega)⟩
theorem Tr.deepF_root:∀ {f:Nat} {n:BitVec 16},T.rootIn f n->∀ {g},f<=g->T.deepF g n=T.deepF f n
 | 0,n,h,0,_=>rfl
 | 0,n,h,g+1,_=>by
  have:n=1#16:=h
  simp [Tr.deepF,this]
 | f+1,n,h,0,hg=>by omega
 | f+1,n,h,g+1,hg=>by
  simp only [Tr.deepF]
  split
  ·rfl
  ·rename_i hn
   rcases h with h | h
   ·exact (hn h).elim
   ·rw [Tr.deepF_root h.2 (g:=g) (by omega)]
theorem Tr.rootIn_deep:∀ {f:Nat} {n:BitVec 16},T.rootIn f n->T.rootIn (T.deepF f n) n
 | 0,n,h=>h
 | f+1,n,h=>by
  simp only [Tr.deepF]
  split
  ·assumption
  ·rename_i hn
   rcases h with h | h
   ·exact (hn h).elim
   ·exact .inr ⟨h.1,Tr.rootIn_deep h.2⟩
theorem Tr.rootIn_chain (hr:(T.node 1#16).kind≠0#8):∀ {f:Nat} {n:BitVec 16},T.rootIn f n->∀ g,T.chainOk g n
 | _,_,_,0=>trivial
 | 0,n,h,g+1 => .inl h
 | f+1,n,h,g+1=>h.imp id fun h=>⟨by rw [h.1]; decide,Tr.rootIn_chain hr h.2 g⟩
theorem Tr.rootIn_of (P:BitVec 16->Prop) (hP:∀ m,P m->m≠1#16->(T'.node m).kind=2#8/\(T'.node m).parent=(T.node m).parent/\P (T.node m).parent):∀ {f:Nat} {m:BitVec 16},P m->T.rootIn f m->T'.rootIn f m
 | 0,m,_,h=>h
 | f+1,m,hm,h=>by
  by_cases h1:m=1#16
  ·exact .inl h1
  ·rcases h with h | h
   ·exact .inl h
   ·obtain ⟨q1,q2,q3⟩:=hP m hm h1
    refine .inr ⟨q1,?_⟩
    rw [q2]
    exact Tr.rootIn_of P hP q3 h.2
theorem Tr.WF.len16 (h:T.WF):T.N.length<=257:=by have:=h.lim; have:=h.len; omega
def Tr.Live (T:Tr) (n:BitVec 16):Prop:=(T.node n).kind=2#8/\(T.node n).links≠0
theorem Tr.WF.above (h:T.WF) (hn:T.Live n) (h1:n≠1#16):T.Live (T.node n).parent/\∃ s,(s,n)∈(T.node (T.node n).parent).ents:=by
 have hl:=h.links n h1 (by rw [hn.1]; decide)
 obtain ⟨p,s,hs⟩:=Tr.refs_pos (T:=T) (k:=n) (by have:=h.len16; omega) (by have:=hn.2; omega)
 obtain ⟨e1,e2,e3,e4,e5,e6⟩:=h.ents p s n hs
 rw [e6 hn.1]
 exact ⟨⟨e1,e2⟩,s,hs⟩
theorem Tr.WF.chain (h:T.WF) (hn:T.Live n) (g:Nat):T.chainOk g n:=Tr.rootIn_chain (by rw [h.root.1]; decide) (h.depth n hn.1 hn.2) g
theorem Tr.WF.pos (h:T.WF) {s:NameL} {v:BitVec 16} (hl:alook s (T.node n).ents=some v):(T.node n).kind=2#8/\(T.node n).links≠0/\okName s=true/\(T.node v).kind≠0#8/\v≠1#16/\((T.node v).kind=2#8->(T.node v).parent=n):=h.ents n s v (alook_mem hl)
end
end Go.AM
end
section
namespace Go.AM
section
variable {T T':Tr} {n k:BitVec 16}
theorem Tr.WF.same (h:T.WF) (hN:T'.N.length=T.N.length) (hlim:T'.limit=T.limit) (hr:∀ k,T'.refs k=T.refs k)
  (hn:∀ k,(T'.node k).kind=(T.node k).kind/\(T'.node k).ents=(T.node k).ents/\(T'.node k).parent=(T.node k).parent/\(T'.node k).links=(T.node k).links/\(T'.node k).data.length<=1024/\0<=(T'.node k).held/\((T.node k).kind=0#8->T'.node k=T.node k)):T'.WF where
 lim:=by rw [hlim]; exact h.lim
 len:=by rw [hN,hlim]; exact h.len
 n0:=by rw [(hn _).1]; exact h.n0
 zero:=fun k hk=>by rw [(hn k).1] at hk; rw [(hn k).2.2.2.2.2.2 hk]; exact h.zero k hk
 root:=by obtain ⟨q1,q2,q3,q4,_⟩:=hn 1#16; rw [q1,q3,q4]; exact h.root
 ents:=fun m s k hk=>by
  rw [(hn m).2.1] at hk
  rw [(hn m).1,(hn m).2.2.2.1,(hn k).1,(hn k).2.2.1]
  exact h.ents m s k hk
 rising:=fun k=>by rw [(hn k).2.1]; exact h.rising k
 size:=fun k=>by rw [(hn k).2.1]; exact h.size k
 links:=fun k h1 h2=>by rw [(hn k).1] at h2; rw [(hn k).2.2.2.1,hr]; exact h.links k h1 h2
 dirs:=fun k h2=>by rw [(hn k).1] at h2; rw [hr]; exact h.dirs k h2
 held:=fun k=>(hn k).2.2.2.2.2.1
 depth:=fun k h1 h2=>by
  rw [(hn k).1] at h1
  rw [(hn k).2.2.2.1] at h2
  exact Tr.rootIn_of T.Live (fun m hm h1=>⟨by rw [(hn m).1]; exact hm.1,(hn m).2.2.1,(h.above hm h1).1⟩) ⟨h1,h2⟩ (h.depth k h1 h2)
 data:=fun k=>(hn k).2.2.2.2.1
theorem Tr.WF.bump (h:T.WF):T.bump.WF:=h.same rfl rfl (fun _=>rfl) fun k=>⟨rfl,rfl,rfl,rfl,h.data k,h.held k,fun _=>rfl⟩
theorem insertE_length (x:NameL×BitVec 16) (l:List (NameL×BitVec 16)):(insertE x l).length=l.length+1:=by
 rw [(insertE_perm x l).length_eq]; rfl
end
end Go.AM
end
section
namespace Go.AM
theorem freeL_full:∀ (l:List Nd),freeL l=l.length->l.countP (fun x=>decide (x.kind≠0#8))=l.length
 | [],_=>rfl
 | x :: l,h=>by
  simp only [freeL] at h
  split at h
  ·simp at h
  ·rename_i hx
   have:=freeL_full l (by simp at h; omega)
   rw [List.countP_cons,this]
   simp [hx]
section
variable {T T':Tr} {n k:BitVec 16}
theorem Tr.new_wf (limit:Int):(Tr.new limit).WF:=by
 have hnode:∀ n:BitVec 16,(Tr.new limit).node n=if n=1#16 then { Nd.none with kind:=2#8,parent:=1#16,links:=1 } else Nd.none:=by
  intro n
  unfold Tr.new Tr.node
  by_cases h:n=1#16
  ·subst h; rfl
  ·rw [if_neg h]
   by_cases h0:n=0#16
   ·subst h0; rfl
   ·have:2<=n.toNat:=by
     have h1:n.toNat≠0:=fun e=>h0 (BitVec.eq_of_toNat_eq (by simpa using e))
     have h2:n.toNat≠1:=fun e=>h (BitVec.eq_of_toNat_eq (by simpa using e))
     omega
    simp only [List.getD_eq_getElem?_getD]
    rw [List.getElem?_eq_none (by simpa using this)]
    rfl
 have hent:∀ n,((Tr.new limit).node n).ents=[]:=by
  intro n; rw [hnode]; split <;> rfl
 have hr:∀ k,(Tr.new limit).refs k=0:=fun k=>rfl
 refine ⟨⟨?_,?_⟩,⟨Nat.le_refl 2,?_⟩,by rw [hnode]; rfl,fun n h =>?_,by rw [hnode]; exact ⟨rfl,rfl,rfl⟩,fun m s k h =>?_,fun n =>?_,fun n =>?_,fun n h1 h2 =>?_,fun n _ =>?_,fun n =>?_,fun n h1 h2 =>?_,fun n =>?_⟩
 ·show 1<=min (max limit 1) 256; omega
 ·show min (max limit 1) 256<=256; omega
 ·show ((2:Nat):Int)<=min (max limit 1) 256+1; omega
 ·rw [hnode] at h ⊢
  split at h
  ·simp at h
  ·rename_i e; rw [if_neg e]
 ·rw [hent] at h; simp at h
 ·rw [hent]; exact List.Pairwise.nil
 ·rw [hent]; exact Nat.zero_le _
 ·rw [hnode,if_neg h1] at h2
  exact (h2 rfl).elim
 ·rw [hr]; exact Nat.zero_le _
 ·rw [hnode]; split <;> exact Int.le_refl _
 ·rw [hnode] at h1
  split at h1
  ·rename_i e; exact .inl e
  ·simp [Nd.none] at h1
 ·rw [hnode]; split <;> exact Nat.zero_le _
theorem Tr.WF.make (h:T.WF) (inn:BitVec 16) (s:NameL) (kd:BitVec 8) (text:List UInt8):(T.make inn s kd text).1.WF:=by
 unfold Tr.make
 split
 ·exact h
 split
 ·exact h
 split
 ·exact h
 rename_i hr hkd hlim
 have hr:T.room inn s=0:=by simpa using hr
 obtain ⟨d1,d2,d3,d4,d5⟩:=Tr.room_ok hr
 have hl16:=h.len16
 have hfree:=Tr.free_ok (T:=T) (by have:=h.len.1; omega) (by omega)
 have hk0:kd≠0#8:=fun e=>hkd (.inl e)
 have hlim1:¬ T.limit<=T.len:=fun e=>hlim (.inl e)
 have hlim2:kd=2#8->T.deep inn<16:=fun e=>by
  have:¬ 16<=T.deep inn:=fun x=>hlim (.inr ⟨e,x⟩)
  omega
 obtain ⟨A,hA⟩:∃ A,A=BitVec.ofNat 16 T.free:=⟨_,rfl⟩
 rw [<- hA]
 have hA0:(T.node A).kind=0#8:=by rw [hA]; exact hfree.zero
 have hAn:=h.zero A hA0
 have hin:(T.node inn).kind≠0#8:=by rw [d1]; decide
 have hAi:A≠inn:=by rintro rfl; exact hin hA0
 have hA1:A≠1#16:=by rintro rfl; rw [h.root.1] at hA0; simp at hA0
 have hAz:A≠0#16:=by
  intro e
  have h1:A.toNat=T.free:=by rw [hA,BitVec.toNat_ofNat,Nat.mod_eq_of_lt (by have:=hfree.lt; omega)]
  have:=hfree.pos
  rw [e] at h1
  simp at h1
  omega
 have hput:∀ m,(T.put T.free (Nd.made inn kd text)).node m=if m=A then Nd.made inn kd text else T.node m:=fun m=>by rw [Tr.node_put hfree.le hfree.lt,hA]
 have hpi:(T.put T.free (Nd.made inn kd text)).node inn=T.node inn:=by rw [hput,if_neg (Ne.symm hAi)]
 have hnode:=fun m=>Tr.node_upd (T:=T.put T.free (Nd.made inn kd text)) (n:=inn) (by rw [hpi]; exact hin) (Nd.addE s A) m
 rw [hpi] at hnode
 simp only [hput] at hnode
 have hrA:T.refs A=0:=by
  refine Classical.byContradiction fun hc =>?_
  obtain ⟨p,s',hs⟩:=Tr.refs_pos (T:=T) (k:=A) (by omega) (by omega)
  exact (h.ents p s' A hs).2.2.2.1 hA0
 have hrf:∀ m,((T.put T.free (Nd.made inn kd text)).upd inn (Nd.addE s A)).refs m=T.refs m+if A=m then 1 else 0:=by
  intro m
  have h1:=Tr.refs_upd (T:=T.put T.free (Nd.made inn kd text)) (n:=inn) (Tr.node_lt (by rw [hpi]; exact hin)) (Nd.addE s A) m
  have h2:=Tr.refs_put (T:=T) (Nd.made inn kd text) hfree.le hfree.lt m (by rw [<- hA,hAn]; rfl)
  rw [hpi,h2] at h1
  have e:cntE m (Nd.addE s A (T.node inn)).ents=cntE m (T.node inn).ents+if A=m then 1 else 0:=cntE_insert m (s,A) _
  have e2:cntE m (Nd.made inn kd text).ents=0:=rfl
  rw [e,e2] at h1
  omega
 have hkp:∀ m,m≠A->∀ y,y=((T.put T.free (Nd.made inn kd text)).upd inn (Nd.addE s A)).node m->y.kind=(T.node m).kind/\y.parent=(T.node m).parent/\y.links=(T.node m).links/\y.held=(T.node m).held/\y.data=(T.node m).data:=by
  rintro m hm y rfl
  rw [hnode,if_neg hm]
  split
  ·rename_i e; subst e; exact ⟨rfl,rfl,rfl,rfl,rfl⟩
  ·exact ⟨rfl,rfl,rfl,rfl,rfl⟩
 have hnA:((T.put T.free (Nd.made inn kd text)).upd inn (Nd.addE s A)).node A=Nd.made inn kd text:=by rw [hnode,if_neg hAi,if_pos rfl]
 have tr:∀ {f m},T.Live m->T.rootIn f m->((T.put T.free (Nd.made inn kd text)).upd inn (Nd.addE s A)).rootIn f m:=by
  intro f m
  refine Tr.rootIn_of T.Live fun m hm hm1 =>?_
  have hmA:m≠A:=by rintro rfl; have:=hm.1; rw [hA0] at this; simp at this
  obtain ⟨q1,q2,_⟩:=hkp m hmA _ rfl
  exact ⟨by rw [q1]; exact hm.1,q2,(h.above hm hm1).1⟩
 refine Tr.WF.bump ⟨h.lim,⟨?_,?_⟩,?_,fun m hk =>?_,?_,fun m s' k hs =>?_,fun k =>?_,fun k =>?_,fun k h1 h2 =>?_,fun k h2 =>?_,fun k =>?_,fun k h1 h2 =>?_,fun k =>?_⟩
 ·have:=h.len.1
  simp only [Tr.upd,Tr.put,List.length_modify]
  split <;> simp <;> omega
 ·have:=h.len.2
  show (((T.put T.free (Nd.made inn kd text)).upd inn (Nd.addE s A)).N.length:Int)<=T.limit+1
  simp only [Tr.upd,Tr.put,List.length_modify]
  split
  ·rw [List.length_set]; exact this
  ·rename_i hge
   have hfull:freeL (T.N.drop 1)=(T.N.drop 1).length:=by
    have h1:=freeL_le (T.N.drop 1)
    have h2:T.free=freeL (T.N.drop 1)+1:=rfl
    rw [List.length_drop] at h1 ⊢
    omega
   have hc:=freeL_full _ hfull
   have hle:(T.N.drop 1).countP (fun x=>decide (x.kind≠0#8))<=T.len:=by
    unfold Tr.len
    exact (List.drop_sublist 1 T.N).countP_le
   rw [hc,List.length_drop] at hle
   rw [List.length_append,List.length_singleton]
   omega
 ·rw [(hkp _ (Ne.symm hAz) _ rfl).1]; exact h.n0
 ·rw [hnode] at hk ⊢
  split at hk
  ·exact (hin hk).elim
  ·rename_i e
   rw [if_neg e]
   split at hk
   ·exact (hk0 hk).elim
   ·rename_i e2
    rw [if_neg e2]
    exact h.zero m hk
 ·obtain ⟨q1,q2,q3,_⟩:=hkp 1#16 (Ne.symm hA1) _ rfl
  rw [q1,q2,q3]; exact h.root
 ·have old:∀ m,m≠A->(s',k)∈(T.node m).ents->(((T.put T.free (Nd.made inn kd text)).upd inn (Nd.addE s A)).node m).kind=2#8/\(((T.put T.free (Nd.made inn kd text)).upd inn (Nd.addE s A)).node m).links≠0/\okName s'=true/\(((T.put T.free (Nd.made inn kd text)).upd inn (Nd.addE s A)).node k).kind≠0#8/\k≠1#16/\((((T.put T.free (Nd.made inn kd text)).upd inn (Nd.addE s A)).node k).kind=2#8->(((T.put T.free (Nd.made inn kd text)).upd inn (Nd.addE s A)).node k).parent=m):=by
   intro m hm hs
   have he:=h.ents m s' k hs
   have hkA:k≠A:=by rintro rfl; exact he.2.2.2.1 hA0
   obtain ⟨q1,q2,q3,_⟩:=hkp m hm _ rfl
   obtain ⟨p1,p2,p3,_⟩:=hkp k hkA _ rfl
   rw [q1,q3,p1,p2]
   exact he
  by_cases hmA:m=A
  ·subst hmA
   rw [hnA] at hs
   simp [Nd.made] at hs
  ·by_cases hmi:m=inn
   ·subst hmi
    rw [hnode,if_pos rfl] at hs
    rcases mem_insertE.1 hs with g | g
    ·simp only [Prod.mk.injEq] at g
     obtain ⟨rfl,rfl⟩:=g
     obtain ⟨q1,q2,q3,_⟩:=hkp m hmA _ rfl
     rw [q1,q3,hnA]
     exact ⟨d1,d3,d4,hk0,hA1,fun e=>by have e:kd=2#8:=e; show (if kd=2#8 then m else 0#16)=m; rw [if_pos e]⟩
    ·exact old m hmA g
   ·rw [hnode,if_neg hmi,if_neg hmA] at hs
    exact old m hmA hs
 ·rw [hnode]
  split
  ·exact (h.rising inn).insert d2
  ·split
   ·exact List.Pairwise.nil
   ·exact h.rising k
 ·rw [hnode]
  split
  ·show (insertE (s,A) (T.node inn).ents).length<=32
   rw [insertE_length]; omega
  ·split
   ·exact Nat.zero_le _
   ·exact h.size k
 ·rw [hrf]
  by_cases e:k=A
  ·subst e
   rw [hnA,hrA,if_pos rfl]; rfl
  ·obtain ⟨q1,q2,q3,_⟩:=hkp k e _ rfl
   rw [q1] at h2
   rw [q3,if_neg (Ne.symm e)]
   exact h.links k h1 h2
 ·rw [hrf]
  by_cases e:k=A
  ·subst e
   rw [hrA,if_pos rfl]; exact Nat.le_refl _
  ·rw [(hkp k e _ rfl).1] at h2
   rw [if_neg (Ne.symm e)]
   exact h.dirs k h2
 ·by_cases e:k=A
  ·subst e
   rw [hnA]; exact Int.le_refl _
  ·rw [(hkp k e _ rfl).2.2.2.1]; exact h.held k
 ·by_cases e:k=A
  ·subst e
   rw [hnA] at h1
   have h1:kd=2#8:=h1
   have hli:T.Live inn:=⟨d1,d3⟩
   have hdp:=hlim2 h1
   unfold Tr.deep at hdp
   rw [Tr.deepF_root (h.depth inn d1 d3) (g:=17) (by omega)] at hdp
   have hri:=Tr.rootIn_mono (Tr.rootIn_deep (h.depth inn d1 d3)) (g:=15) (by omega)
   refine .inr ⟨by rw [hnA]; exact h1,?_⟩
   rw [hnA]
   show Tr.rootIn _ 15 (if kd=2#8 then inn else 0#16)
   rw [if_pos h1]
   exact tr hli hri
  ·obtain ⟨q1,q2,q3,_⟩:=hkp k e _ rfl
   rw [q1] at h1
   rw [q3] at h2
   exact tr ⟨h1,h2⟩ (h.depth k h1 h2)
 ·by_cases e:k=A
  ·subst e
   rw [hnA]; exact Nat.zero_le _
  ·rw [(hkp k e _ rfl).2.2.2.2]; exact h.data k
end
end Go.AM
end
section
namespace Go.AM
section
variable {T T':Tr} {n k:BitVec 16} {B:Int}
theorem Tr.upd_or (T:Tr) (n k:BitVec 16) (f:Nd->Nd):(T.upd n f).node k=T.node k\/(T.upd n f).node k=f (T.node k):=by
 unfold Tr.upd Tr.node
 simp only [List.getD_eq_getElem?_getD,List.getElem?_modify]
 cases h:T.N[k.toNat]? with
 | none=>exact .inl rfl
 | some x =>
  by_cases e:n.toNat=k.toNat
  ·right; simp [e]
  ·left; simp [e]
end
end Go.AM
end
section
namespace Go.AM
def topP:PlaceD:=⟨0,1#16⟩
def dirP (T:Tr) (M:List MntD) (p:PlaceD):Bool:=(getT M p.m).isSome&&decide ((T.node p.i).kind=2#8)
def downsN (M:List MntD):Nat->PlaceD->PlaceD
 | 0,p=>p
 | n+1,p=>match downT M p with
  | none=>p
  | some q=>downsN M n q
def downs (M:List MntD) (p:PlaceD):PlaceD:=downsN M M.length p
def upP (T:Tr) (M:List MntD) (p:PlaceD):PlaceD :=
 if dirP T M p=true then if (T.node (downs M p).i).kind=0#8 then topP else seen M ⟨(downs M p).m,(T.node (downs M p).i).parent⟩ else topP
def splitF (cur:NameL):List UInt8->List NameL
 | []=>[cur]
 | c :: s=>if c=47 then cur :: splitF [] s else splitF (cur++[c]) s
def okPart (x:NameL):Bool:=decide (x≠[])&&decide (x≠[46])
def partsL (s:List UInt8):List NameL:=(splitF [] s).filter okPart
structure WayD where
 at_:PlaceD
 left:List NameL
 links:Nat
 deriving DecidableEq
def stepY (T:Tr) (M:List MntD) (w:WayD) (follow:Bool):WayD×Int :=
 match w.left with
 | []=>(w,0)
 | name :: left =>
  if dirP T M w.at_=false then (⟨w.at_,left,w.links⟩,20)
  else if name=[46,46] then
   if (T.node (upP T M w.at_).i).kind≠0#8/\dirP T M (upP T M w.at_)=false then (⟨upP T M w.at_,left,w.links⟩,2) else (⟨upP T M w.at_,left,w.links⟩,0)
  else if 14<name.length then (⟨w.at_,left,w.links⟩,36)
  else if (T.look w.at_.i name).2≠0 then (⟨w.at_,left,w.links⟩,(T.look w.at_.i name).2)
  else
   let n:=(T.look w.at_.i name).1
   if (T.node n).kind=3#8/\(follow=true\/left≠[]) then
    if 8<w.links+1 then (⟨w.at_,left,w.links+1⟩,40)
    else (⟨if (T.node n).text.head? = some 47 then seen M topP else w.at_,partsL (T.node n).text++left,w.links+1⟩,0)
   else if (T.node n).kind=2#8 then (⟨seen M ⟨w.at_.m,n⟩,left,w.links⟩,0)
   else (⟨⟨w.at_.m,n⟩,left,w.links⟩,0)
def walkN (T:Tr) (M:List MntD) (follow:Bool):Nat->WayD->WayD×Int
 | 0,w=>(w,0)
 | f+1,w=>if w.left=[] then (w,0) else if (stepY T M w follow).2≠0 then stepY T M w follow else walkN T M follow f (stepY T M w follow).1
def WayD.need (w:WayD):Nat:=w.left.length+(9 - w.links)*121
def walkW (T:Tr) (M:List MntD) (follow:Bool) (w:WayD):WayD×Int:=walkN T M follow w.need w
def beginW (M:List MntD) (cwd:PlaceD) (path:List UInt8):WayD×Int :=
 if path=[] then (⟨cwd,[],0⟩,2) else if 120<path.length then (⟨cwd,[],0⟩,36)
 else (⟨if path.head? = some 47 then seen M topP else cwd,partsL path,0⟩,0)
def endsSlash (path:List UInt8):Bool:=decide (path.getLast? = some 47)
def findW (T:Tr) (M:List MntD) (cwd:PlaceD) (path:List UInt8) (follow:Bool):PlaceD×Int :=
 if (beginW M cwd path).2≠0 then (PlaceD.zero,(beginW M cwd path).2)
 else
  let r:=walkW T M (follow||endsSlash path) (beginW M cwd path).1
  if r.2≠0 then (PlaceD.zero,r.2)
  else if (T.node r.1.at_.i).kind=0#8 then (PlaceD.zero,2)
  else if endsSlash path=true/\dirP T M r.1.at_=false then (PlaceD.zero,20)
  else (r.1.at_,0)
def nextA (T:Tr) (M:List MntD) (p:PlaceD):Option PlaceD :=
 match downT M p with
 | some q=>some q
 | none=>if (⟨p.m,(T.node p.i).parent⟩:PlaceD)=p\/(T.node (T.node p.i).parent).kind=0#8 then none else some ⟨p.m,(T.node p.i).parent⟩
def aboveN (T:Tr) (M:List MntD):Nat->PlaceD->List PlaceD
 | 0,_=>[]
 | f+1,p=>p :: match nextA T M p with
  | none=>[]
  | some q=>aboveN T M f q
def aboveW (T:Tr) (M:List MntD) (p:PlaceD):List PlaceD:=if dirP T M p=true then aboveN T M 289 p else []
end Go.AM
end
section
namespace Go.AM
open Go.Sort (SWO PermIn SortedIn)
def strR (l:List NameL):List (List Value):=l.map fun s=>[str s]
theorem strR_length (l:List NameL):(strR l).length=l.length:=by simp [strR]
end Go.AM
end
section
namespace Go.AM
section
variable {E:Sy} {H:AH} {Q:Value->AH->Prop}
def cutSl:List UInt8->Option (List UInt8×List UInt8)
 | []=>none
 | c :: s=>if c=47 then some ([],s) else (cutSl s).map fun p=>(c :: p.1,p.2)
theorem splitF_cut:∀ (s cur:List UInt8),splitF cur s=match cutSl s with
  | none=>[cur++s]
  | some p=>(cur++p.1) :: splitF [] p.2
 | [],cur=>by simp [splitF,cutSl]
 | c :: s,cur=>by
  by_cases h:c=47
  ·simp [splitF,cutSl,h]
  ·simp only [splitF,cutSl,h,if_false]
   rw [splitF_cut s (cur++[c])]
   cases cutSl s <;> simp
theorem cutSl_index:∀ s:List UInt8,Lib.indexByte s 47=match cutSl s with | none => -1 | some p=>(p.1.length:Int)
 | []=>rfl
 | c :: s=>by
  have ih:=cutSl_index s
  by_cases h:c=47
  ·subst h; simp [Lib.indexByte,cutSl]
  ·have h':(c == 47)=false:=by simpa using h
   simp only [Lib.indexByte,h',cutSl,h,if_false,ih]
   cases hc:cutSl s with
   | none=>simp
   | some p=>simp
theorem cutSl_eq:∀ {s:List UInt8} {p:List UInt8×List UInt8},cutSl s=some p->s=p.1++47 :: p.2
 | [],p,h=>by simp [cutSl] at h
 | c :: s,p,h=>by
  by_cases k:c=47
  ·subst k; simp [cutSl] at h; subst h; rfl
  ·simp only [cutSl,k,if_false,Option.map_eq_some_iff] at h
   obtain ⟨q,h1,rfl⟩:=h
   simp [cutSl_eq h1]
theorem splitF_count:∀ (s cur:List UInt8),(splitF cur s).length=s.count 47+1
 | [],_=>rfl
 | c :: s,cur=>by
  by_cases h:c=47
  ·subst h; simp [splitF,splitF_count s []]
  ·simp [splitF,h,splitF_count s (cur++[c])]
theorem count_le (s:List UInt8):s.count 47<=s.length:=List.count_le_length
theorem S.f48 (hE:Fold E) (s:List UInt8) (hQ:Q (vi (s.count 47:Nat)) H):E.call (E.fid i.f48) [str s,str [47]] H Q:=by
 apply hE.f48
 have h1:ixStr (str [47]) (.int .i64 0)=some (.int .u8 47):=rfl
 simp [F.f48,h1]
 apply hE.f14
 exact hQ
theorem S.f50 (hE:Fold E) (s:List UInt8) (hQ:Q (vi (Lib.indexByte s 47)) H):E.call (E.fid i.f50) [str s,str [47]] H Q:=by
 apply hE.f50
 simp only [F.f50]
 apply hE.f20
 have h1:ixStr (str [47]) (.int .i64 0)=some (.int .u8 47):=rfl
 by_cases hs:[47]=s
 ·subst hs
  simp [F.f20]
  exact hQ
 ·simp [F.f20,h1,hs]
  apply hE.f21
  simp only [F.f21]
  apply hE.f16
  exact hQ
theorem str_extract (l:List UInt8) (a b:Nat):(⟨l.toArray⟩:ByteArray).extract a b=⟨((l.take b).drop a).toArray⟩:=by
 apply ByteArray.ext
 rw [ByteArray.data_extract]
 simp [List.extract_eq_take_drop,List.drop_take]
theorem slStr_take (l:List UInt8) (n:Nat) (h:n<=l.length):slStr (str l) none (some (vi n))=some (str (l.take n)):=by
 have h':n<=(⟨l.toArray⟩:ByteArray).size:=h
 simp only [str,slStr,bnd]
 rw [if_pos ⟨by omega,by exact_mod_cast h'⟩]
 simp [str_extract]
theorem slStr_drop (l:List UInt8) (n:Nat) (h:n<=l.length):slStr (str l) (some (vi n)) none=some (str (l.drop n)):=by
 have h':n<=(⟨l.toArray⟩:ByteArray).size:=h
 have hz:(⟨l.toArray⟩:ByteArray).size=l.length:=rfl
 simp only [str,slStr,bnd,Option.bind_some]
 rw [if_pos ⟨by omega,by rw [hz]; exact_mod_cast h⟩]
 simp [str_extract,hz]
def fillS (done:List NameL) (n:Nat):List (List Value):=strR done++List.replicate n [str []]
theorem fillS_set (done:List NameL) (n:Nat) (s:NameL):(fillS done (n+1)).set done.length [str s]=fillS (done++[s]) n:=by
 have h:(strR done).length=done.length:=strR_length done
 unfold fillS
 rw [<- h,List.set_append_right _ _ (Nat.le_refl _),Nat.sub_self,List.replicate_succ,List.set_cons_zero]
 simp [strR]
theorem fillS_length (done:List NameL) (n:Nat):(fillS done n).length=done.length+n:=by simp [fillS,strR]
theorem S.f52 (hE:Fold E) (s:List UInt8) (hs:s.length<2 ^ 40) (hQ:∀ v H',Ext H H'->Rows H' 1 v (strR (splitF [] s))->Q v H'):E.call (E.fid i.f52) [str s,str [47]] H Q:=by
 apply hE.f52
 simp only [F.f52]
 apply hE.f54
 have hc:=count_le s
 have hn1:binInt .add (vi (s.count 47:Nat)) (.int .i64 1)=some (vi ((s.count 47+1:Nat):Int)):=i64_inc (by omega)
 have hl1:binInt .add (vi (s.length:Nat)) (.int .i64 1)=some (vi ((s.length+1:Nat):Int)):=i64_inc (by omega)
 simp [F.f54]
 refine S.f48 hE s ?_
 have hcnt:=splitF_count s []
 generalize hN:s.count 47=c at *
 have hmin:fold2 min2 [vi ((c+1:Nat):Int),vi ((s.length+1:Nat):Int)]=some (vi ((c+1:Nat):Int)):=by
  rw [i64_min]
  rw [if_neg (by omega)]
 have hsub:binInt .sub (vi ((c+1:Nat):Int)) (.int .i64 1)=some (vi (c:Nat)):=by
  rw [i64_sub (by omega) (by omega)]; simp
 have hmk:=makeS_all 1 16 (c+1) [str []] rfl (by omega) (by omega)
 simp only [F.f54_j1,hn1,lenStr_s,hl1,hmin,tk_eq,opt_some]
 rw [show (#[(.string ⟨#[]⟩)]:Array Value)=[str []].toArray from rfl,hmk]
 simp only [AM.mk_some,hsub,tk_eq,opt_some]
 have g0:Grow zH (H.new (.cells (List.replicate (c+1) [str []]).flatten none)) 1 (slc H.next 0 (c+1) (c+1)) (fillS [] (c+1)) :=
  Grow.made (f:=none) (zH_get _) (by rw [AH.get_new_self]; simp [fillS,strR]) (.inl rfl) (by simp [fillS,strR]) (by
   intro r hr
   simp [fillS,strR] at hr
   subst hr
   exact ⟨rfl,rfl⟩)
 refine LoopL.count c (fun j ls H'=>∃ done rest,ls=[str rest,str [47],vi 0,vi c,slc H.next 0 (c+1) (c+1),vi j]/\done.length=j/\splitF [] s=done++splitF [] rest/\rest.length<=s.length/\Ext H H'/\Grow zH H' 1 (slc H.next 0 (c+1) (c+1)) (fillS done (c+1 - j))) ?_ ⟨[],s,rfl,rfl,rfl,Nat.le_refl _,(Ext.refl H).new _,g0⟩
 rintro j _ H1 X hj hX ⟨done,rest,rfl,hd,hsp,hrl,e1,g1⟩
 have hrc:rest.count 47+j=c:=by
  have h1:=congrArg List.length hsp
  rw [hcnt,List.length_append,splitF_count,hd] at h1
  omega
 by_cases hjc:j<c
 ·have hX:=hX hjc
  have hjc':(j:Int)<c:=by omega
  have hjj:=i64_inc (i:=j) (by omega)
  have hix:=cutSl_index rest
  have hcut:=splitF_cut rest []
  cases hcs:cutSl rest with
  | none =>
   rw [hcs] at hcut
   have h1:=splitF_count rest []
   rw [hcut] at h1
   simp at h1
   omega
  | some p =>
   rw [hcs] at hix hcut
   have hre:=cutSl_eq hcs
   have hpl:p.1.length+p.2.length+1=rest.length:=by rw [hre]; simp; omega
   have hge:¬ ((p.1.length:Int)<0):=by omega
   have hadd0:binInt .add (vi (p.1.length:Nat)) (vi 0)=some (vi (p.1.length:Nat)):=by rw [i64_add (by omega) (by omega)]; simp
   have hadd1:binInt .add (vi (p.1.length:Nat)) (vi 1)=some (vi ((p.1.length+1:Nat):Int)):=i64_inc (by omega)
   have hsl1:slStr (str rest) none (some (vi (p.1.length:Nat)))=some (str p.1):=by
    rw [slStr_take _ _ (by omega),hre,List.take_left' rfl]
   have hsl2:slStr (str rest) (some (vi ((p.1.length+1:Nat):Int))) none=some (str p.2):=by
    rw [slStr_drop _ _ (by omega),hre]
    congr 2
    rw [show p.1++47 :: p.2=(p.1++[47])++p.2 by simp,show p.1.length+1=(p.1++[47]).length by simp,List.drop_left' rfl]
   obtain ⟨b,o,H2,q1,q2,q3,q4,q5⟩:=g1.store (i:=j) (k:=0) (by rw [fillS_length]; omega) (by omega) (str p.1) rfl
   have hlast:(fillS done (c+1 - j)).set j (((fillS done (c+1 - j))[j]'(by rw [fillS_length]; omega)).set 0 (str p.1))=fillS (done++[p.1]) (c+1 - (j+1)):=by
    have e:c+1 - j=(c+1 - (j+1))+1:=by omega
    have h2:(fillS done (c+1 - j))[j]'(by rw [fillS_length]; omega)=[str []]:=by
     subst hd
     simp [fillS,strR]
    rw [h2]
    subst hd
    rw [e]
    exact fillS_set done _ p.1
   rw [hlast] at q4
   simp [F.f54_l1,hjc']
   refine S.f50 hE rest ?_
   rw [hix]
   have q3':store1 (ptr b o) (str p.1) H1=some H2:=by simpa using q3
   simp [-Int.natCast_add,hge,hadd0,hadd1,hsl1,hsl2,q1,q3',hjj]
   refine hX _ _ ⟨done++[p.1],p.2,rfl,by simp [hd],by rw [hsp,hcut]; simp,by omega,?_,q4⟩
   exact q5.ext e1 fun b hb=>by rw [mem_blkL] at hb; simp [blk] at hb; omega
 ·have hjc':¬ (j:Int)<c:=by omega
  have hje:j=c:=by omega
  have hrest:splitF [] rest=[rest]:=by
   have hcut:=splitF_cut rest []
   cases hcs:cutSl rest with
   | none=>rw [hcs] at hcut; simpa using hcut
   | some p =>
    have:=cutSl_eq hcs
    rw [this] at hrc
    simp at hrc
    omega
  have hjj:binInt .add (vi (j:Nat)) (vi 1)=some (vi ((j+1:Nat):Int)):=i64_inc (by omega)
  obtain ⟨b,o,H2,q1,q2,q3,q4,q5⟩:=g1.store (i:=j) (k:=0) (by rw [fillS_length]; omega) (by omega) (str rest) rfl
  have hlast:(fillS done (c+1 - j)).set j (((fillS done (c+1 - j))[j]'(by rw [fillS_length]; omega)).set 0 (str rest))=fillS (done++[rest]) (c+1 - (j+1)):=by
   have e:c+1 - j=(c+1 - (j+1))+1:=by omega
   have h2:(fillS done (c+1 - j))[j]'(by rw [fillS_length]; omega)=[str []]:=by
    subst hd
    simp [fillS,strR]
   rw [h2]
   subst hd
   rw [e]
   exact fillS_set done _ rest
  rw [hlast] at q4
  have q3':store1 (ptr b o) (str rest) H1=some H2:=by simpa using q3
  have e2:Ext H H2:=q5.ext e1 fun b hb=>by rw [mem_blkL] at hb; simp [blk] at hb; omega
  have hrows:Rows H2 1 (slc H.next 0 (c+1) (c+1)) (strR (splitF [] s)):=by
   have:=q4.toRows
   have h0:c+1 - (j+1)=0:=by omega
   rw [h0] at this
   rw [hsp,hrest]
   simpa [fillS] using this
  have hlen:(strR (splitF [] s)).length=j+1:=by rw [strR_length,hcnt]; omega
  obtain ⟨hsl,hrows2⟩:=hrows.slice' (lo:=none) (hi:=some (vi ((j+1:Nat):Int))) (i:=0) (j:=j+1) (.inr ⟨rfl,rfl⟩) (.inl rfl) (by omega) (by omega)
  rw [List.take_of_length_le (by omega),List.drop_zero] at hrows2
  simp [-Int.natCast_add,F.f54_l1,hjc',F.f54_j2,q1,q3',hjj,hsl]
  exact hQ _ _ e2 hrows2
theorem ix_strR {v:Value} {l:List NameL} (h:Rows H 1 v (strR l)) {i:Nat} (hi:i<l.length):∃ b o,ixSlc 1 v (vi i)=some (ptr b o)/\(H.get b).cell o=some (str l[i])/\(H.get b).row o 1=some [str l[i]]:=by
 obtain ⟨b,o,h1,h2⟩:=h.ix (i:=i) (by rw [strR_length]; exact hi)
 have hrow:(strR l)[i]'(by rw [strR_length]; exact hi)=[str l[i]]:=by simp [strR]
 rw [hrow] at h2
 exact ⟨b,o,h1,by have:=row_at h2 (j:=0) (by omega); simpa using this,h2⟩
theorem strR_lenSlc {v:Value} {l:List NameL} (h:Rows H 1 v (strR l)):AM.lenSlc v=some (vi l.length):=by
 have:=h.lenSlc
 rwa [strR_length] at this
theorem filter_take_succ {α:Type} (P:α->Bool) (l:List α) {j:Nat} (hj:j<l.length):(l.take (j+1)).filter P=(l.take j).filter P++if P l[j] then [l[j]] else []:=by
 rw [List.take_succ_eq_append_getElem hj,List.filter_append]
 congr 1
 by_cases h:P l[j] <;> simp [h]
theorem splitF_len (s:List UInt8):(splitF [] s).length<=s.length+1:=by
 rw [splitF_count]
 have:=count_le s
 omega
theorem partsL_le (s:List UInt8):(partsL s).length<=s.length+1:=Nat.le_trans (List.length_filter_le _ _) (splitF_len s)
theorem S.f66 (hE:Fold E) (s:List UInt8) (hs:s.length<2 ^ 40) (hQ:∀ v H',Ext H H'->Grow zH H' 1 v (strR (partsL s))->(∀ b,blk v=some b->H.next<=b)->Q v H'):E.call (E.fid i.f66) [str s] H Q:=by
 apply hE.f66
 simp only [F.f66]
 refine S.f52 hE s hs fun v H1 e1 r1 =>?_
 have hl:=strR_lenSlc r1
 have hlen:=splitF_len s
 simp only [hl,opt_some]
 unfold partsL at hQ
 generalize splitF [] s=l at *
 refine LoopL.count l.length (fun j ls H'=>∃ w,ls=[w,v,vi l.length,vi j]/\Ext H1 H'/\Grow zH H' 1 w (strR ((l.take j).filter okPart))/\FreshV H1.next w) ?_ ⟨nilS,rfl,Ext.refl _,by simpa [strR] using Grow.nil zH H1 1,by simp [blk,FreshV]⟩
 rintro j _ H2 X hj hX ⟨w,rfl,e2,g2,f2⟩
 by_cases hjl:j<l.length
 ·have hX:=hX hjl
  have hjl':(j:Int)<l.length:=by omega
  have hjj:=i64_inc (i:=j) (by omega)
  obtain ⟨b,o,q1,q2,_⟩:=ix_strR (r1.mono e2) hjl
  have hst:=filter_take_succ okPart l hjl
  have hle:((l.take j).filter okPart).length<=j:=Nat.le_trans (List.length_filter_le _ _) (by rw [List.length_take]; omega)
  generalize hx:l[j]=x at *
  by_cases h1:x=[]
  ·have h2:okPart x=false:=by simp [okPart,h1]
   rw [h2] at hst
   simp [-Int.natCast_add,F.f66_l1,hjl',q1,q2,h1,hjj]
   exact hX _ _ ⟨w,rfl,e2,by rw [hst]; simpa using g2,f2⟩
  ·by_cases h3:x=[46]
   ·have h2:okPart x=false:=by simp [okPart,h3]
    rw [h2] at hst
    simp [-Int.natCast_add,F.f66_l1,hjl',q1,q2,h3,hjj]
    exact hX _ _ ⟨w,rfl,e2,by rw [hst]; simpa using g2,f2⟩
   ·have h2:okPart x=true:=by simp [okPart,h1,h3]
    rw [h2] at hst
    obtain ⟨w',H3,a1,a2,a3⟩:=g2.app1 (Nat.zero_le _) (bytes:=16) [str x] rfl rfl (by decide) (by decide) (by rw [strR_length]; omega)
    have hb:=buildS_val (str []) (str x) rfl rfl
    simp [-Int.natCast_add,-buildS_eq,F.f66_l1,hjl',q1,q2,h1,h3,hb,a1,hjj]
    obtain ⟨k1,k2⟩:=grew_ext a3 e2 (H0:=H1) f2
    refine hX _ _ ⟨w',rfl,k1,by rw [hst]; simpa [strR] using a2,k2⟩
 ·have hjl':¬ (j:Int)<l.length:=by omega
  simp [F.f66_l1,hjl']
  refine hQ w H2 (e1.trans e2) (by rw [List.take_of_length_le (by omega)] at g2; exact g2) fun b hb=>Nat.le_trans e1.1 (f2 b hb)
end
end Go.AM
end
section
namespace Go.AM
structure WkAt (H:AH) (t:Nat) (T:Tr) (M:List MntD):Prop where
 at_:∃ p m L q nx,H.get t = .cells [ptr p 0,ptr q 0] none/\Ino H p m L T/\TabAt H q M nx
 older:Older M
theorem WkAt.mono {H H':AH} {t:Nat} {T:Tr} {M:List MntD} (h:WkAt H t T M) (e:Ext H H'):WkAt H' t T M:=by
 obtain ⟨⟨p,m,L,q,nx,h1,h2,h3⟩,h4⟩:=h
 exact ⟨⟨p,m,L,q,nx,e.cells h1,h2.mono e,h3.mono e⟩,h4⟩
section
variable {E:Sy} {H:AH} {Q:Value->AH->Prop} {t:Nat} {T:Tr} {M:List MntD}
theorem nilp_p (b o:Nat):binNil eqPtr .neq (ptr b o) (.pointer none)=some (.bool true):=rfl
theorem nilq_p (b o:Nat):binNil eqPtr .eql (ptr b o) (.pointer none)=some (.bool false):=rfl
theorem S.f65 (hE:Fold E) (h:WkAt H t T M) (hQ:Q (vb true) H):E.call (E.fid i.f65) [ptr t 0] H Q:=by
 apply hE.f65
 obtain ⟨⟨p,m,L,q,nx,h1,h2,h3⟩,h4⟩:=h
 simp [F.f65,nilp_p,h1]
 exact hQ
theorem S.f61 (hE:Fold E) (h:WkAt H t T M) (c:PlaceD) (hQ:∀ H',Ext H H'->Q (vb (dirP T M c)) H'):E.call (E.fid i.f61) [ptr t 0,c.v] H Q:=by
 apply hE.f61
 have x1:Ext H (H.new (.cells c.cells none)):=(Ext.refl H).new _
 have hb:=AH.get_new_self H (.cells c.cells none)
 generalize hH1:H.new (.cells c.cells none)=H1 at *
 simp [F.f61,hH1]
 refine S.f65 hE (h.mono x1) ?_
 obtain ⟨⟨p,m,L,q,nx,h1,h2,h3⟩,h4⟩:=h.mono x1
 simp [h1,hb,PlaceD.cells]
 refine S.f8 hE h2 c.i ?_
 simp [h1,hb,PlaceD.cells]
 have x2:Ext H1 (H1.new (.cells [vi 0,vi 0,u16 0#16,u16 0#16,vi 0] none)):=(Ext.refl _).new _
 have hb2:=AH.get_new_self H1 (.cells [vi 0,vi 0,u16 0#16,u16 0#16,vi 0] none)
 refine S.f24 hE q M nx c.m (h3.mono x2) fun H5 e5 =>?_
 have hb5:=e5.cells hb2
 refine ⟨by rw [hb5,hb2],?_⟩
 have hst:storeN 5 (ptr H1.next 0) (optM (getT M c.m)).v H5=some (H5.put H1.next (.cells (optM (getT M c.m)).cells none)):=by
  rw [storeN_ptr,hb5]; rfl
 have x3:Ext H (H5.put H1.next (.cells (optM (getT M c.m)).cells none)):=(x1.trans (x2.trans e5)).put (b:=H1.next) x1.1 _
 have hQ:=hQ _ x3
 have hg:∀ b cs,H1.get b = .cells cs none->(H5.put H1.next (.cells (optM (getT M c.m)).cells none)).get b = .cells cs none:=fun b cs hh=>by
  rw [AH.get_put_ne _ _ (Nat.ne_of_lt (AH.lt_cells hh))]; exact (x2.trans e5).cells hh
 generalize H5.put H1.next (.cells (optM (getT M c.m)).cells none)=H6 at *
 unfold dirP at hQ
 cases hs:(getT M c.m).isSome with
 | false =>
  rw [hs] at hQ
  simp at hQ
  simp [hst]
  exact hQ
 | true =>
  rw [hs] at hQ
  rcases h2.get c.i with ⟨k0,_⟩ | ⟨kk,yy,k0,k1,k2,k3,k4⟩
  ·simp [k0] at hQ
   simp [hst,nodeP_none h2.cov k0]
   exact hQ
  ·have hk:=hg _ _ k3
   have he:binInt .eql (u8 (T.node c.i).kind) (.int .u8 2)=some (vb (decide ((T.node c.i).kind=2#8))):=by simp
   simp at hQ
   simp [hst,nodeP_some h2.cov.nd k1,nilp_p,hk,inC,he]
   exact hQ
def belowM (M:List MntD) (p:PlaceD):Nat:=(M.filter fun m=>decide (m.id<=p.m)).length
theorem getT_some {id:Int} {m:MntD} (h:getT M id=some m):m∈M/\m.id=id:=⟨List.mem_of_find?_eq_some h,by simpa using List.find?_some h⟩
theorem downT_some {p q:PlaceD} (h:downT M p=some q):∃ m,getT M p.m=some m/\m.id≠0/\m.root=p.i/\m.at_=q:=by
 unfold downT at h
 split at h
 ·simp at h
 ·rename_i m hm
  split at h
  ·simp at h
  ·rename_i hc
   simp only [not_or,Decidable.not_not] at hc
   exact ⟨m,hm,hc.1,hc.2,by simpa using h⟩
theorem below_step (ho:Older M) {p q:PlaceD} (h:downT M p=some q):belowM M q<belowM M p:=by
 obtain ⟨m,h1,h2,h3,rfl⟩:=downT_some h
 obtain ⟨hm,hi⟩:=getT_some h1
 have:=ho m hm h2
 refine filter_lt _ _ M (fun x _ hx =>?_) m hm (by simpa using this) (by simpa using Int.le_of_eq hi)
 simp only [decide_eq_true_eq] at hx ⊢
 omega
theorem downsN_stable (ho:Older M):∀ (n:Nat) (p:PlaceD),belowM M p<=n->downsN M n p=downsN M (n+1) p
 | 0,p,h=>by
  cases hf:downT M p with
  | none=>simp [downsN,hf]
  | some q=>have:=below_step ho hf; omega
 | n+1,p,h=>by
  cases hf:downT M p with
  | none=>simp [downsN,hf]
  | some q =>
   have:=below_step ho hf
   have ih:=downsN_stable ho n q (by omega)
   rw [downsN,downsN,hf]
   exact ih
theorem below_le (M:List MntD) (p:PlaceD):belowM M p<=M.length:=List.length_filter_le _ _
theorem downs_none {p:PlaceD} (h:downT M p=none):downs M p=p:=by
 unfold downs
 cases M.length <;> simp [downsN,h]
theorem downs_some (ho:Older M) {p q:PlaceD} (h:downT M p=some q):downs M p=downs M q:=by
 have h1:=below_step ho h
 have h2:=below_le M p
 unfold downs
 obtain ⟨n,hn⟩:∃ n,M.length=n+1:=⟨M.length - 1,by omega⟩
 rw [hn,downsN,h]
 exact downsN_stable ho n _ (by omega)
theorem mkPlace (a:Int) (b:BitVec 16):buildV [(0,1),(1,1)] #[(.int .i64 0),(.int .u16 0)] [(0,vi a),(1,u16 b)]=some (PlaceD.v ⟨a,b⟩):=rfl
theorem mkPlace0:buildV [(0,1),(1,1)] #[(.int .i64 0),(.int .u16 0)] []=some PlaceD.zero.v:=rfl
theorem S.f63 (hE:Fold E) (h:WkAt H t T M) (c:PlaceD) (hQ:∀ H',Ext H H'->Q (upP T M c).v H'):E.call (E.fid i.f63) [ptr t 0,c.v] H Q:=by
 apply hE.f63
 simp [F.f63]
 generalize hH2:(H.new _).new _=H2
 have x2:Ext H H2:=by subst hH2; exact ((Ext.refl H).new _).new _
 have k1:H2.get H.next = .cells c.cells none:=by subst hH2; simp [AH.get_new]
 have k2:H2.get (H.next+1) = .cells [vi 0,u16 0#16] none:=by subst hH2; simp [AH.get_new]
 clear hH2
 have hl:loadN 2 (ptr H.next 0) H2=some c.v:=by rw [loadN_ptr,k1]; rfl
 simp [hl]
 refine S.f61 hE (h.mono x2) c fun H3 e3 =>?_
 have st:∀ (z:PlaceD) (H':AH),H'.get (H.next+1) = .cells [vi 0,u16 0#16] none->storeN 2 (ptr (H.next+1) 0) z.v H'=some (H'.put (H.next+1) (.cells z.cells none))/\loadN 2 (ptr (H.next+1) 0) (H'.put (H.next+1) (.cells z.cells none))=some z.v:=by
  intro z H' hh
  constructor
  ·rw [storeN_ptr,hh]; rfl
  ·rw [loadN_ptr,AH.get_put_self _ _ (AH.lt_cells hh)]; rfl
 unfold upP at hQ
 cases hd:dirP T M c with
 | false =>
  rw [hd] at hQ
  simp at hQ
  simp
  refine S.f29 hE fun H4 e4 =>?_
  obtain ⟨s1,s2⟩:=st ⟨0,1#16⟩ H4 (e4.cells (e3.cells k2))
  simp [s1,s2]
  exact hQ _ ((x2.trans (e3.trans e4)).put (b:=H.next+1) (by omega) _)
 | true =>
  rw [hd] at hQ
  simp at hQ
  simp
  refine LoopL.ind (fun n s H'=>∃ r,n=belowM M r/\s=[ptr t 0,ptr H.next 0,ptr (H.next+1) 0]/\Ext H H'/\downs M r=downs M c/\H'.get H.next = .cells r.cells none/\H'.get (H.next+1) = .cells [vi 0,u16 0#16] none) ?_ (belowM M c) ⟨c,rfl,rfl,x2.trans e3,rfl,e3.cells k1,e3.cells k2⟩
  rintro n _ H4 X hX ⟨r,rfl,rfl,e4,hs,m1,m2⟩
  obtain ⟨⟨p,m,L,q,nx,h1,h2,h3⟩,ho⟩:=h.mono e4
  have l1:=AH.lt_cells m1
  have l2:=AH.lt_cells m2
  have hl:loadN 2 (ptr H.next 0) H4=some r.v:=by rw [loadN_ptr,m1]; rfl
  simp [F.f63_l1,h1,hl]
  have x5:Ext H4 (H4.new (.cells [vi 0,u16 0#16] none)):=(Ext.refl _).new _
  have hb5:=AH.get_new_self H4 (.cells [vi 0,u16 0#16] none)
  refine S.f23 hE q M nx r (h3.mono x5) fun H5 e5 =>?_
  have hb5':=e5.cells hb5
  refine ⟨by rw [hb5',hb5],?_⟩
  have hst:storeN 2 (ptr H4.next 0) (optP (downT M r)).v H5=some (H5.put H4.next (.cells (optP (downT M r)).cells none)):=by rw [storeN_ptr,hb5']; rfl
  have hg:∀ b cs,H4.get b = .cells cs none->(H5.put H4.next (.cells (optP (downT M r)).cells none)).get b = .cells cs none:=fun b cs hh=>by
   rw [AH.get_put_ne _ _ (Nat.ne_of_lt (AH.lt_cells hh))]; exact (x5.trans e5).cells hh
  have x6:Ext H4 (H5.put H4.next (.cells (optP (downT M r)).cells none)):=(x5.trans e5).put (b:=H4.next) (Nat.le_refl _) _
  have hb6:(H5.put H4.next (.cells (optP (downT M r)).cells none)).get H4.next = .cells (optP (downT M r)).cells none:=AH.get_put_self _ _ (AH.lt_cells hb5')
  simp [hst]
  generalize H5.put H4.next (.cells (optP (downT M r)).cells none)=H6 at *
  cases hdn:downT M r with
  | none =>
   have hdr:=downs_none hdn
   rw [<- hs,hdr] at hQ
   simp [hg _ _ h1,hg _ _ m1,PlaceD.cells]
   refine S.f8 hE (h2.mono x6) r.i ?_
   rcases (h2.mono x6).get r.i with ⟨k0,_⟩ | ⟨kk,yy,k0,k1,k2,k3,k4⟩
   ·simp [nodeP_none h2.cov k0]
    refine S.f29 hE fun H7 e7 =>?_
    obtain ⟨s1,s2⟩:=st ⟨0,1#16⟩ H7 (e7.cells (hg _ _ m2))
    simp [s1,s2]
    simp [k0] at hQ
    exact hQ _ ((e4.trans (x6.trans e7)).put (b:=H.next+1) (by omega) _)
   ·simp [nodeP_some h2.cov.nd k1,nilq_p,hg _ _ h1,hg _ _ m1,PlaceD.cells,k3,inC,mkPlace]
    refine S.f25 hE q M nx ⟨r.m,(T.node r.i).parent⟩ (h3.mono x6) ho fun H7 e7 =>?_
    obtain ⟨s1,s2⟩:=st (seen M ⟨r.m,(T.node r.i).parent⟩) H7 (e7.cells (hg _ _ m2))
    simp [s1,s2]
    simp [k0] at hQ
    exact hQ _ ((e4.trans (x6.trans e7)).put (b:=H.next+1) (by omega) _)
  | some q' =>
   have hdr:=downs_some ho hdn
   have hlt:=below_step ho hdn
   rw [hdn] at hb6
   have hl6:loadN 2 (ptr H4.next 0) H6=some q'.v:=by rw [loadN_ptr,hb6]; rfl
   have hs6:storeN 2 (ptr H.next 0) q'.v H6=some (H6.put H.next (.cells q'.cells none)):=by rw [storeN_ptr,hg _ _ m1]; rfl
   simp [hl6,hs6]
   refine hX (belowM M q') hlt _ _ ⟨q',rfl,rfl,(e4.trans x6).put (b:=H.next) (Nat.le_refl _) _,by rw [<- hdr]; exact hs,AH.get_put_self _ _ (AH.lt_cells (hg _ _ m1)),?_⟩
   rw [AH.get_put_ne _ _ (by omega)]
   exact hg _ _ m2
end
end Go.AM
end
section
namespace Go.AM
def wayC (t:Nat) (w:WayD) (lv:Value):List Value:=[ptr t 0,vi w.at_.m,u16 w.at_.i,lv,vi (w.links:Nat)]
abbrev wayV (t:Nat) (w:WayD) (lv:Value):Value := .agg (wayC t w lv).toArray
theorem Rows.plainV {H:AH} {v:Value} {rows:List (List Value)} {sz:Nat} (h:Rows H sz v rows):plain1 v=true:=by
 rcases h.at_ with ⟨_,c,rfl⟩ | ⟨b,o,c,rfl,_⟩
 ·cases c <;> rfl
 ·rfl
section
variable {E:Sy} {H H0 Z:AH} {Q:Value->AH->Prop} {t:Nat} {T:Tr} {M:List MntD} {L:List Res}
theorem wayC_plain (t:Nat) (w:WayD) {lv:Value} (h:plain1 lv=true):(wayC t w lv).all plain1=true:=by
 simp only [wayC,List.all_cons,List.all_nil,h]; rfl
theorem way_store (t:Nat) (w:WayD) {lv:Value} (h:plain1 lv=true) {b:Nat} {cs:List Value} (hl:cs.length=5) {H:AH} (hg:H.get b = .cells cs none):storeN 5 (ptr b 0) (wayV t w lv) H=some (H.put b (.cells (wayC t w lv) none)):=by
 rw [storeN_ptr,hg]
 have h5:(wayC t w lv).length=5:=rfl
 have:AM.splice cs 0 (wayC t w lv)=wayC t w lv:=by simp [splice,hl,h5]
 simp only [List.size_toArray,List.toList_toArray,wayC_plain t w h,h5,hl,Nat.zero_add,Nat.le_refl,and_self,if_true,this]
theorem way_load (t:Nat) (w:WayD) {lv:Value} {b:Nat} {H:AH} (hg:H.get b = .cells (wayC t w lv) none):loadN 5 (ptr b 0) H=some (wayV t w lv):=by
 rw [loadN_ptr,hg]; rfl
theorem S.f64 (hE:Fold E) (h:WkAt H t T M) (c:PlaceD) (path:List UInt8) (hp:path.length<2 ^ 63) (hQ:∀ lv H',Ext H H'->Rows H' 1 lv (strR (beginW M c path).1.left)->FreshV H.next lv->Q (.tuple #[wayV t (beginW M c path).1 lv,vi (beginW M c path).2]) H'):E.call (E.fid i.f64) [ptr t 0,c.v,str path] H Q:=by
 apply hE.f64
 have hz:([.pointer none,vi 0,u16 0#16,nilS,vi 0]:List Value).length=5:=rfl
 have hbv:buildV [(0,1),(1,2),(3,1),(4,1)] #[(.pointer none),(.int .i64 0),u16 0#16,(.slice none 0 0),(.int .i64 0)] [(0,ptr t 0),(1,c.v)]=some (wayV t ⟨c,[],0⟩ nilS):=rfl
 simp only [F.f64,boxO_agg_z,AM.mk_some,mkPtr_eq_z,allocW_eq,AH.next_new_z,u16_lit0_z,tk_eq]
 generalize hH2:(H.new _).new _=H2
 have x2:Ext H H2:=by subst hH2; exact ((Ext.refl H).new _).new _
 have k1:H2.get H.next = .cells c.cells none:=by subst hH2; simp [AH.get_new]
 have k2:H2.get (H.next+1) = .cells [.pointer none,vi 0,u16 0#16,nilS,vi 0] none:=by subst hH2; simp [AH.get_new]
 have n2:H2.next=H.next+2:=by subst hH2; simp
 clear hH2
 have hl:loadN 2 (ptr H.next 0) H2=some c.v:=by rw [loadN_ptr,k1]; rfl
 have x3:Ext H2 (H2.new (.cells [.pointer none,vi 0,u16 0#16,nilS,vi 0] none)):=(Ext.refl _).new _
 have k3:=AH.get_new_self H2 (.cells [.pointer none,vi 0,u16 0#16,nilS,vi 0] none)
 have s3:=way_store t ⟨c,[],0⟩ (lv:=nilS) rfl hz k3
 simp only [AH.next_new_z,hl,hbv,allocW_eq,u16_lit0_z,s3,tk_eq,opt_some]
 have x4:Ext H2 ((H2.new (.cells [.pointer none,vi 0,u16 0#16,nilS,vi 0] none)).put H2.next (.cells (wayC t ⟨c,[],0⟩ nilS) none)):=x3.put (b:=H2.next) (Nat.le_refl _) _
 have k4:((H2.new (.cells [.pointer none,vi 0,u16 0#16,nilS,vi 0] none)).put H2.next (.cells (wayC t ⟨c,[],0⟩ nilS) none)).get H2.next = .cells (wayC t ⟨c,[],0⟩ nilS) none:=AH.get_put_self _ _ (AH.lt_cells k3)
 generalize (H2.new (.cells [.pointer none,vi 0,u16 0#16,nilS,vi 0] none)).put H2.next (.cells (wayC t ⟨c,[],0⟩ nilS) none)=H4 at *
 refine S.f65 hE (h.mono (x2.trans x4)) ?_
 have fin:∀ (w:WayD) (lv:Value) (e:Int) (H':AH) (R:Value->AH->Prop),H'.get H2.next = .cells (wayC t w lv) none->H'.get (H.next+1) = .cells [.pointer none,vi 0,u16 0#16,nilS,vi 0] none->plain1 lv=true ->
   R (.tuple #[wayV t w lv,vi e]) (H'.put (H.next+1) (.cells (wayC t w lv) none)) ->
   opt (loadN 5 (ptr H2.next 0) H') fun v8=>opt (storeN 5 (ptr (H.next+1) 0) v8 H') fun H6=>opt (loadN 5 (ptr (H.next+1) 0) H6) fun v9=>R (.tuple #[v9,vi e]) H6:=by
  intro w lv e H' R g1 g2 hpl hR
  simp only [way_load t w g1,way_store t w hpl hz g2,way_load t w (AH.get_put_self _ _ (AH.lt_cells g2)),tk_eq,opt_some]
  exact hR
 simp only [un_not_z,Bool.not_true,tk_eq,opt_some,ifB_false]
 unfold beginW at hQ
 have k24:=x4.cells k2
 have x24:=x2.trans x4
 by_cases h0:path=[]
 ·subst h0
  simp only [show binStr .eql (str []) (.string ⟨#[]⟩)=some (vb true) from binStr_eql [] [],AH.next_new_z,tk_eq,opt_some,ifB_true]
  refine fin ⟨c,[],0⟩ nilS 2 H4 Q k4 k24 rfl (hQ nilS _ (x24.put (b:=H.next+1) (by omega) _) ?_ (by simp [FreshV,blk]))
  simpa [strR] using Rows.nil _ 1 none
 have h0':binStr .eql (str path) (.string ⟨#[]⟩)=some (vb false):=by
  show binStr .eql (str path) (str [])=_
  rw [binStr_eql]; simp [h0]
 by_cases h1:120<path.length
 ·have h1':(120:Int)<path.length:=by omega
  simp only [h0',lenStr_s,i64_gtr,gt_iff_lt,h1',decide_true,tk_eq,opt_some,ifB_true,ifB_false]
  simp only [h0,h1,if_false,if_true] at hQ
  refine fin ⟨c,[],0⟩ nilS 36 H4 Q k4 k24 rfl (hQ nilS _ (x24.put (b:=H.next+1) (by omega) _) ?_ (by simp [FreshV,blk]))
  simpa [strR] using Rows.nil _ 1 none
 have h1':¬ (120:Int)<path.length:=by omega
 simp only [h0,h1,if_false] at hQ
 have join:∀ (a:PlaceD) (H':AH),Ext H H'->H'.get H2.next = .cells (wayC t ⟨a,[],0⟩ nilS) none->H'.get (H.next+1) = .cells [.pointer none,vi 0,u16 0#16,nilS,vi 0] none ->
   (∀ lv H',Ext H H'->Rows H' 1 lv (strR (partsL path))->FreshV H.next lv->Q (.tuple #[wayV t ⟨a,partsL path,0⟩ lv,vi 0]) H')->F.f64_j1 E Q (str path) (ptr (H.next+1) 0) (ptr H2.next 0) H':=by
  intro a H' e g1 g2 hQ'
  simp only [F.f64_j1]
  refine S.f66 hE path (by omega) fun lv H5 e5 g5 f5 =>?_
  have m1:=e5.cells g1
  have m2:=e5.cells g2
  have hpl:=g5.plain
  have hst:store1 (ptr H2.next 3) lv H5=some (H5.put H2.next (.cells (wayC t ⟨a,partsL path,0⟩ lv) none)):=by
   rw [store1_ptr,if_pos hpl,m1]; rfl
  simp only [addOff_ptr,Nat.zero_add,hst,tk_eq,opt_some]
  have l1:=AH.lt_cells m1
  refine fin ⟨a,partsL path,0⟩ lv 0 _ Q (AH.get_put_self _ _ l1) (by rw [AH.get_put_ne _ _ (by omega)]; exact m2) hpl (hQ' lv _ (((e.trans e5).put (b:=H2.next) (by omega) _).put (b:=H.next+1) (by omega) _) ?_ (fun b hb=>Nat.le_trans e.1 (f5 b hb)))
  have hb:∀ b,blk lv=some b->b≠H2.next/\b≠H.next+1:=fun b hb=>by
   have:=f5 b hb
   have:=AH.lt_cells g1
   have:=AH.lt_cells g2
   omega
  exact (g5.keep fun b hb' _=>by rw [AH.get_put_ne _ _ (hb b hb').2,AH.get_put_ne _ _ (hb b hb').1]).toRows
 obtain ⟨ch,tl,rfl⟩:∃ ch tl,path=ch :: tl:=by
  cases path with
  | nil=>exact (h0 rfl).elim
  | cons ch tl=>exact ⟨ch,tl,rfl⟩
 have hix:ixStr (str (ch :: tl)) (.int .i64 0)=some (.int .u8 ch.toNat):=rfl
 by_cases hc:ch=47
 ·subst hc
  have hc':binInt .eql (.int .u8 (UInt8.toNat 47)) (.int .u8 47)=some (vb true):=rfl
  obtain ⟨⟨p,m,L,q,nx,h1,h2,h3⟩,ho⟩:=h.mono x24
  simp only [h0',lenStr_s,i64_gtr,gt_iff_lt,h1',decide_false,hix,hc',nilCk_p,addOff_ptr,load1_ptr,Nat.zero_add,h1,cell_cells_z,List.getElem?_cons_succ,List.getElem?_cons_zero,tk_eq,opt_some,ifB_true,ifB_false]
  refine S.f29 hE fun H5 e5 =>?_
  refine ⟨by rw [load1_ptr,load1_ptr,e5.cells h1,h1],?_⟩
  refine S.f25 hE q M nx ⟨0,1#16⟩ (h3.mono e5) ho fun H6 e6 =>?_
  have m1:=e6.cells (e5.cells k4)
  have hst:storeN 2 (ptr H2.next 1) (seen M ⟨0,1#16⟩).v H6=some (H6.put H2.next (.cells (wayC t ⟨seen M ⟨0,1#16⟩,[],0⟩ nilS) none)):=by
   rw [storeN_ptr,m1]; rfl
  simp only [addOff_ptr,Nat.zero_add,hst,AH.next_new_z,tk_eq,opt_some]
  refine join (seen M ⟨0,1#16⟩) _ ((x24.trans (e5.trans e6)).put (b:=H2.next) (by omega) _) (AH.get_put_self _ _ (AH.lt_cells m1)) (by rw [AH.get_put_ne _ _ (by omega)]; exact e6.cells (e5.cells k24)) ?_
  simpa [topP] using hQ
 ·have hc':binInt .eql (.int .u8 ch.toNat) (.int .u8 47)=some (vb false):=by
   have:¬ ch.toNat=47:=fun e=>hc (UInt8.toNat_inj.1 e)
   show some (vb (((ch.toNat:Int)) == 47))=_
   congr 2
   simp; omega
  simp only [h0',lenStr_s,i64_gtr,gt_iff_lt,h1',decide_false,hix,hc',tk_eq,opt_some,ifB_false]
  refine join c _ x24 k4 k24 ?_
  simpa [hc] using hQ
theorem set_last {α:Type} (L:List α) (r r':α):(L++[r]).set L.length r'=L++[r']:=by
 rw [List.set_append_right _ _ (Nat.le_refl _),Nat.sub_self]; rfl
theorem erase_last {α:Type} (L:List α) (r:α):(L++[r]).eraseIdx L.length=L:=by
 rw [List.eraseIdx_append_of_length_le (Nat.le_refl _),Nat.sub_self]; simp
theorem setL_snoc {α:Type} (L:List α) (r x:α) {k:Nat} (hk:k<L.length):(L++[r]).set k x=L.set k x++[r]:=List.set_append_left _ _ hk
theorem getE_lt {α:Type} {L:List α} {k:Nat} {r:α} (h:L[k]? = some r):k<L.length:=(List.getElem?_eq_some_iff.1 h).1
theorem getE_set {α:Type} {L:List α} {k:Nat} {r:α} (h:L[k]? = some r) (x:α):(L.set k x)[k]? = some x:=by
 have:=getE_lt h
 simp [this]
theorem getE_snoc {α:Type} {L:List α} {k:Nat} {r:α} (h:L[k]? = some r) (x:α):(L++[x])[k]? = some r:=by
 rw [List.getElem?_append_left (getE_lt h)]; exact h
def followY (M:List MntD) (w:WayD) (text:List UInt8):WayD×Int :=
 if 8<w.links+1 then (⟨w.at_,w.left,w.links+1⟩,40) else (⟨if text.head? = some 47 then seen M topP else w.at_,partsL text++w.left,w.links+1⟩,0)
theorem S.f67 (hE:Fold E) (h:WkAt H0 t T M) {w:WayD} {lv:Value} {k b:Nat} (hs:Has H0 Z H L) (hk:L[k]? = some (boxR b (wayC t w lv))) (hl:Rows Z 1 lv (strR w.left)) (hn:w.left.length<2 ^ 40) (hlk:w.links<=100) (text:List UInt8) (ht:text≠[]/\text.length<=120)
  (hQ:∀ lv' Z' H',Fz H0.next Z Z'->Has H0 Z' H' (L.set k (boxR b (wayC t (followY M w text).1 lv')))->Rows Z' 1 lv' (strR (followY M w text).1.left)->Q (vi (followY M w text).2) H'):E.call (E.fid i.f67) [ptr b 0,str text] H Q:=by
 apply hE.f67
 have hb:=hs.box hk
 have hadd:binInt .add (vi (w.links:Nat)) (.int .i64 1)=some (vi ((w.links+1:Nat):Int)):=i64_inc (by omega)
 have hst:store1 (ptr b 4) (vi ((w.links+1:Nat):Int)) H=some (H.put b (.cells (wayC t ⟨w.at_,w.left,w.links+1⟩ lv) none)):=by
  rw [store1_ptr,if_pos (show plain1 (vi ((w.links+1:Nat):Int))=true from rfl),hb]; rfl
 have h1:=hs.put hk (wayC t ⟨w.at_,w.left,w.links+1⟩ lv)
 have hk1:=getE_set hk (boxR b (wayC t ⟨w.at_,w.left,w.links+1⟩ lv))
 have c4:(wayC t w lv)[4]? = some (vi (w.links:Nat)):=rfl
 simp only [F.f67,nilCk_p,addOff_ptr,load1_ptr,Nat.zero_add,hb,cell_cells_z,c4,hadd,hst,tk_eq,opt_some]
 generalize H.put b (.cells (wayC t ⟨w.at_,w.left,w.links+1⟩ lv) none)=H1 at *
 have hb1:=h1.box hk1
 have c41:(wayC t ⟨w.at_,w.left,w.links+1⟩ lv)[4]? = some (vi ((w.links+1:Nat):Int)):=rfl
 unfold followY at hQ
 by_cases h8:8<w.links+1
 ·have h8':(8:Int)<((w.links+1:Nat):Int):=by omega
  simp only [hb1,cell_cells_z,c41,i64_gtr,gt_iff_lt,h8',decide_true,tk_eq,opt_some,ifB_true]
  rw [if_pos h8] at hQ
  exact hQ lv Z H1 (Fz.refl _ _) h1 hl
 rw [if_neg h8] at hQ
 have h8':¬ (8:Int)<((w.links+1:Nat):Int):=by omega
 obtain ⟨ch,tl,rfl⟩:∃ ch tl,text=ch :: tl:=by
  cases text with
  | nil=>exact (ht.1 rfl).elim
  | cons ch tl=>exact ⟨ch,tl,rfl⟩
 have hix:ixStr (str (ch :: tl)) (.int .i64 0)=some (.int .u8 ch.toNat):=rfl
 have join:∀ (a:PlaceD) (H':AH),Has H0 Z H' (L.set k (boxR b (wayC t ⟨a,w.left,w.links+1⟩ lv))) ->
   (∀ lv' Z' H',Fz H0.next Z Z'->Has H0 Z' H' (L.set k (boxR b (wayC t ⟨a,partsL (ch :: tl)++w.left,w.links+1⟩ lv')))->Rows Z' 1 lv' (strR (partsL (ch :: tl)++w.left))->Q (vi 0) H')->F.f67_j1 E Q (ptr b 0) (str (ch :: tl)) H':=by
  intro a H' g hQ'
  have hkk:=getE_set hk (boxR b (wayC t ⟨a,w.left,w.links+1⟩ lv))
  have gb:=g.box hkk
  have c3:(wayC t ⟨a,w.left,w.links+1⟩ lv)[3]? = some lv:=rfl
  simp only [F.f67_j1,nilCk_p,addOff_ptr,load1_ptr,Nat.zero_add,gb,cell_cells_z,c3,tk_eq,opt_some]
  refine S.f66 hE _ (by omega) fun v H5 e5 g5 f5 =>?_
  have hpl:=partsL_le (ch :: tl)
  have g1:Has H0 Z H5 (L.set k (boxR b (wayC t ⟨a,w.left,w.links+1⟩ lv))++[growR 1 v (strR (partsL (ch :: tl)))]) :=
   g.add _ e5 g5 (fun x hx=>⟨f5 x (mem_blkL.1 hx),g5.blk_lt (mem_blkL.1 hx)⟩) (blkL_nodup v)
  generalize hLL:L.set k (boxR b (wayC t ⟨a,w.left,w.links+1⟩ lv))=LL at *
  have gb5:=g1.box (getE_snoc hkk _)
  refine ⟨by rw [load1_ptr,load1_ptr,gb5,gb],?_⟩
  have hx:=hl.sub g1.sub
  have hkl:(LL++[growR 1 v (strR (partsL (ch :: tl)))])[LL.length]? = some (growR 1 v (strR (partsL (ch :: tl)))):=by simp
  simp only [List.length_cons] at ht hpl
  obtain ⟨v',H6,a1,a2,a3⟩:=g1.app hkl (bytes:=16) hx (by intro r hr; simp only [strR,List.mem_map] at hr; obtain ⟨_,_,rfl⟩:=hr; rfl) (by decide) (by decide) (by rw [strR_length,strR_length]; omega) (by rw [strR_length,strR_length]; omega)
  rw [set_last] at a3
  have gb6:=a3.box (getE_snoc hkk _)
  have hst2:store1 (ptr b 3) v' H6=some (H6.put b (.cells (wayC t ⟨a,partsL (ch :: tl)++w.left,w.links+1⟩ v') none)):=by
   rw [store1_ptr,if_pos a2,gb6]; rfl
  have a4:=a3.put (getE_snoc hkk _) (wayC t ⟨a,partsL (ch :: tl)++w.left,w.links+1⟩ v')
  rw [setL_snoc _ _ _ (getE_lt hkk)] at a4
  have hlen:(LL.set k (boxR b (wayC t ⟨a,partsL (ch :: tl)++w.left,w.links+1⟩ v'))).length=LL.length:=by simp
  obtain ⟨Z',z1,z2,z3⟩:=a4.freeze (k:=LL.length) (r:=growR 1 v' (strR (partsL (ch :: tl))++strR w.left)) (by rw [<- hlen]; simp)
  rw [<- hlen,erase_last] at z3
  subst hLL
  rw [List.set_set] at z3
  simp only [a1,nilCk_p,addOff_ptr,Nat.zero_add,hst2,tk_eq,opt2_some,opt_some]
  refine hQ' v' Z' _ z1 z3 ?_
  have:=Grow.toRows z2
  rw [<- show strR (partsL (ch :: tl))++strR w.left=strR (partsL (ch :: tl)++w.left) by simp [strR]]
  exact this
 by_cases hc:ch=47
 ·subst hc
  have hc':binInt .eql (.int .u8 (UInt8.toNat 47)) (.int .u8 47)=some (vb true):=rfl
  obtain ⟨⟨p,m,L',q,nx,q1,q2,q3⟩,ho⟩:=h.mono h1.ext
  have c0:(wayC t ⟨w.at_,w.left,w.links+1⟩ lv)[0]? = some (ptr t 0):=rfl
  simp only [hb1,cell_cells_z,c41,i64_gtr,gt_iff_lt,h8',decide_false,hix,hc',c0,nilCk_p,addOff_ptr,load1_ptr,Nat.zero_add,Nat.add_zero,q1,List.getElem?_cons_succ,List.getElem?_cons_zero,tk_eq,opt_some,ifB_true,ifB_false]
  refine S.f29 hE fun H5 e5 =>?_
  have h5:=h1.grow e5
  refine ⟨by rw [load1_ptr,load1_ptr,e5.cells q1,q1],by rw [load1_ptr,load1_ptr,h5.box hk1,hb1],?_⟩
  refine S.f25 hE q M nx ⟨0,1#16⟩ (q3.mono e5) ho fun H6 e6 =>?_
  have h6:=h5.grow e6
  have hb6:=h6.box hk1
  have hst3:storeN 2 (ptr b 1) (seen M ⟨0,1#16⟩).v H6=some (H6.put b (.cells (wayC t ⟨seen M ⟨0,1#16⟩,w.left,w.links+1⟩ lv) none)):=by
   rw [storeN_ptr,hb6]; rfl
  have h7:=h6.put hk1 (wayC t ⟨seen M ⟨0,1#16⟩,w.left,w.links+1⟩ lv)
  rw [List.set_set] at h7
  simp only [nilCk_p,addOff_ptr,Nat.zero_add,hst3,tk_eq,opt_some]
  refine join _ _ h7 ?_
  simpa [topP] using hQ
 ·have hc':binInt .eql (.int .u8 ch.toNat) (.int .u8 47)=some (vb false):=by
   have:¬ ch.toNat=47:=fun e=>hc (UInt8.toNat_inj.1 e)
   show some (vb (((ch.toNat:Int)) == 47))=_
   congr 2
   simp; omega
  simp only [hb1,cell_cells_z,c41,i64_gtr,gt_iff_lt,h8',decide_false,hix,hc',tk_eq,opt_some,ifB_false]
  refine join _ _ h1 ?_
  simpa [hc] using hQ
end
end Go.AM
end
section
namespace Go.AM
def Tr.LT (T:Tr):Prop:=∀ n,(T.node n).kind=3#8->(T.node n).text≠[]/\(T.node n).text.length<=120
section
variable {E:Sy} {H H0 Z:AH} {Q:Value->AH->Prop} {t:Nat} {T:Tr} {M:List MntD} {L:List Res}
theorem S.f68 (hE:Fold E) (h:WkAt H0 t T M) (wf:T.WF) (lt:T.LT) {w:WayD} {lv:Value} {k b:Nat} (hs:Has H0 Z H L) (hk:L[k]? = some (boxR b (wayC t w lv))) (hl:Rows Z 1 lv (strR w.left)) (hn:w.left.length<2 ^ 40) (hlk:w.links<=100) (hne:w.left≠[]) (follow:Bool)
  (hQ:∀ lv' Z' H',Fz H0.next Z Z'->Has H0 Z' H' (L.set k (boxR b (wayC t (stepY T M w follow).1 lv')))->Rows Z' 1 lv' (strR (stepY T M w follow).1.left)->Q (vi (stepY T M w follow).2) H'):E.call (E.fid i.f68) [ptr b 0,vb follow] H Q:=by
 apply hE.f68
 obtain ⟨a0,left,links⟩:=w
 cases left with
 | nil=>exact (hne rfl).elim
 | cons name left =>
 have hb:=hs.box hk
 have hl1:=hl.sub hs.sub
 obtain ⟨b1,o1,p1,p2,_⟩:=ix_strR hl1 (i:=0) (by simp)
 have p1:ixSlc 1 lv (vi 0)=some (ptr b1 o1):=p1
 have p2:(H.get b1).cell o1=some (str name):=p2
 have hlenL:(strR (name :: left)).length=left.length+1:=by simp [strR]
 obtain ⟨s1,_⟩:=hl1.slice' (lo:=some (vi (1:Nat))) (hi:=none) (i:=1) (j:=left.length+1) (.inl rfl) (.inr ⟨rfl,by rw [hlenL]⟩) (by omega) (by rw [hlenL]; exact Nat.le_refl _)
 obtain ⟨_,s2⟩:=hl.slice' (lo:=some (vi (1:Nat))) (hi:=none) (i:=1) (j:=left.length+1) (.inl rfl) (.inr ⟨rfl,by rw [hlenL]⟩) (by omega) (by rw [hlenL]; exact Nat.le_refl _)
 rw [List.take_of_length_le (by rw [hlenL]; exact Nat.le_refl _)] at s2
 have s2:Rows Z 1 (sliceV 1 lv 1 (left.length+1)) (strR left):=by simpa [strR] using s2
 have s1:slSlc 1 lv (some (vi 1)) none none H=some (sliceV 1 lv 1 (left.length+1)):=s1
 have hpl:=s2.plainV
 generalize sliceV 1 lv 1 (left.length+1)=lv1 at *
 have hst:store1 (ptr b 3) lv1 H=some (H.put b (.cells (wayC t ⟨a0,left,links⟩ lv1) none)):=by
  rw [store1_ptr,if_pos hpl,hb]; rfl
 have h1:=hs.put hk (wayC t ⟨a0,left,links⟩ lv1)
 have hk1:=getE_set hk (boxR b (wayC t ⟨a0,left,links⟩ lv1))
 have c3:(wayC t ⟨a0,name :: left,links⟩ lv)[3]? = some lv:=rfl
 simp only [F.f68,hb,c3,p1,p2,s1,hst,stdZ]
 generalize H.put b (.cells (wayC t ⟨a0,left,links⟩ lv1) none)=H1 at *
 have hb1:=h1.box hk1
 have c0:(wayC t ⟨a0,left,links⟩ lv1)[0]? = some (ptr t 0):=rfl
 have hlo:loadN 2 (ptr b 1) H1=some a0.v:=by rw [loadN_ptr,hb1]; rfl
 simp only [hb1,c0,hlo,stdZ]
 refine S.f61 hE (h.mono h1.ext) a0 fun H2 e2 =>?_
 have h2:=h1.grow e2
 have hb2:=h2.box hk1
 have fin:∀ (a:PlaceD) (e:Int) (H':AH),Has H0 Z H' (L.set k (boxR b (wayC t ⟨a,left,links⟩ lv1)))->(stepY T M ⟨a0,name :: left,links⟩ follow)=(⟨a,left,links⟩,e)->Q (vi e) H':=by
  intro a e H' g he
  rw [he] at hQ
  exact hQ lv1 Z H' (Fz.refl _ _) g s2
 simp only [un_not_z,stdZ]
 cases hd:dirP T M a0 with
 | false =>
  simp only [Bool.not_false,ifB_true]
  refine fin a0 20 _ h2 ?_
  simp [stepY,hd]
 | true =>
 simp only [Bool.not_true,ifB_false]
 by_cases hdd:name=[46,46]
 ·have hdd':binStr .eql (str name) (.string ⟨#[46,46]⟩)=some (vb true):=by
   show binStr .eql (str name) (str [46,46])=_
   rw [binStr_eql]; simp [hdd]
  have hlo2:loadN 2 (ptr b 1) H2=some a0.v:=by rw [loadN_ptr,hb2]; rfl
  simp only [hdd',hb2,c0,hlo2,stdZ]
  refine S.f63 hE (h.mono h2.ext) a0 fun H3 e3 =>?_
  have h3:=h2.grow e3
  have hb3:=h3.box hk1
  have hst3:storeN 2 (ptr b 1) (upP T M a0).v H3=some (H3.put b (.cells (wayC t ⟨upP T M a0,left,links⟩ lv1) none)):=by
   rw [storeN_ptr,hb3]; rfl
  have h4:=h3.put hk1 (wayC t ⟨upP T M a0,left,links⟩ lv1)
  rw [List.set_set] at h4
  have hk4:=getE_set hk (boxR b (wayC t ⟨upP T M a0,left,links⟩ lv1))
  generalize hu:upP T M a0=u at *
  simp only [hst3,stdZ]
  generalize H3.put b (.cells (wayC t ⟨u,left,links⟩ lv1) none)=H4 at *
  have hb4:=h4.box hk4
  obtain ⟨⟨p,m,L',q,nx,q1,q2,q3⟩,ho⟩:=h.mono h4.ext
  have c04:(wayC t ⟨u,left,links⟩ lv1)[0]? = some (ptr t 0):=rfl
  have c24:(wayC t ⟨u,left,links⟩ lv1)[2]? = some (u16 u.i):=rfl
  simp only [hb4,c04,c24,q1,stdZ]
  refine S.f8 hE q2 u.i ?_
  have hlo4:loadN 2 (ptr b 1) H4=some u.v:=by rw [loadN_ptr,hb4]; rfl
  rcases q2.get u.i with ⟨k0,_⟩ | ⟨kk,yy,k0,k1,k2,k3,k4⟩
  ·simp [nodeP_none q2.cov k0]
   refine fin u 0 _ h4 ?_
   simp [stepY,hd,hdd,hu,k0]
  ·simp [-loadN_ptr,nodeP_some q2.cov.nd k1,nilp_p,hb4,c04,hlo4]
   refine S.f61 hE (h.mono h4.ext) u fun H5 e5 =>?_
   have h5:=h4.grow e5
   cases hdu:dirP T M u with
   | false =>
    simp
    refine fin u 2 _ h5 ?_
    simp [stepY,hd,hdd,hu,k0,hdu]
   | true =>
    simp
    refine fin u 0 _ h5 ?_
    simp [stepY,hd,hdd,hu,k0,hdu]
 have hdd':binStr .eql (str name) (.string ⟨#[46,46]⟩)=some (vb false):=by
  show binStr .eql (str name) (str [46,46])=_
  rw [binStr_eql]; simp [hdd]
 by_cases h14:14<name.length
 ·have h14':(14:Int)<name.length:=by omega
  simp only [hdd',lenStr_s,i64_gtr,gt_iff_lt,h14',decide_true,stdZ]
  refine fin a0 36 _ h2 ?_
  simp [stepY,hd,hdd,h14]
 have h14':¬ (14:Int)<name.length:=by omega
 obtain ⟨⟨p,m,L',q,nx,q1',q2',q3'⟩,ho⟩:=id h
 have q1:=h2.ext.cells q1'
 have q2:=q2'.mono h2.ext
 have q3:=q3'.mono h2.ext
 have c2:(wayC t ⟨a0,left,links⟩ lv1)[2]? = some (u16 a0.i):=rfl
 simp only [hdd',lenStr_s,i64_gtr,gt_iff_lt,h14',decide_false,hb2,c0,c2,q1,stdZ]
 refine S.f9 hE q2 a0.i name ?_
 have hstep:stepY T M ⟨a0,name :: left,links⟩ follow=if (T.look a0.i name).2≠0 then (⟨a0,left,links⟩,(T.look a0.i name).2) else
   if (T.node (T.look a0.i name).1).kind=3#8/\(follow=true\/left≠[]) then followY M ⟨a0,left,links⟩ (T.node (T.look a0.i name).1).text
   else if (T.node (T.look a0.i name).1).kind=2#8 then (⟨seen M ⟨a0.m,(T.look a0.i name).1⟩,left,links⟩,0) else (⟨⟨a0.m,(T.look a0.i name).1⟩,left,links⟩,0):=by
  simp [stepY,hd,hdd,h14,followY]
 rw [hstep] at fin hQ
 have hlook:(T.look a0.i name).2=0->(T.node (T.look a0.i name).1).kind≠0#8:=fun e=>(wf.pos (Tr.look_ok e).2).2.2.2.1
 generalize T.look a0.i name=lk at *
 simp only [ext_tuple,i64_neq,stdZ]
 by_cases he:lk.2=0
 rotate_left
 ·simp only [ne_eq,he,not_false_eq_true,decide_true,ifB_true]
  refine fin a0 lk.2 _ h2 ?_
  simp [he]
 rw [if_neg (by simpa using he)] at fin hQ
 simp only [ne_eq,he,not_true,decide_false,hb2,c0,q1,stdZ]
 refine S.f8 hE q2 lk.1 ?_
 rcases q2'.get lk.1 with ⟨k0,_⟩ | ⟨kk,yy,k0,k1,k2,k3',k4⟩
 ·exact (hlook he k0).elim
 have k3:=h2.ext.cells k3'
 simp only [nodeP_some q2.cov.nd k1,k3,inC,stdZ]
 have hl2:=strR_lenSlc (s2.sub h2.sub)
 have c3':(wayC t ⟨a0,left,links⟩ lv1)[3]? = some lv1:=rfl
 have c1':(wayC t ⟨a0,left,links⟩ lv1)[1]? = some (vi a0.m):=rfl
 have hnp:=nodeP_some q2.cov.nd k1
 have hnl:left.length<2 ^ 40:=by simp only [List.length_cons] at hn; omega
 have stay:¬ ((T.node lk.1).kind=3#8/\(follow=true\/left≠[])) -> 
   opt (nilCk (ptr b 0)) fun v94=>opt (addOff v94 1) fun v95=>opt (addOff v95 0) fun v96=>opt (load1 v96 H2) fun v97 =>
    opt (buildV [(0,1),(1,1)] #[(.int .i64 0),(.int .u16 0)] [(0,v97),(1,u16 lk.1)]) fun v98 =>
    opt (nilCk (ptr b 0)) fun v99=>opt (addOff v99 1) fun v100=>opt (storeN 2 v100 v98 H2) fun H28 =>
    opt (nilCk (nodeP L' lk.1)) fun v101=>opt (addOff v101 1) fun v102=>opt (load1 v102 H28) fun v103=>opt (binInt .eql v103 (.int .u8 2)) fun v104 =>
    ifB v104 (opt (nilCk (ptr b 0)) fun v105=>opt (addOff v105 0) fun v106=>opt (load1 v106 H28) fun v107=>opt (nilCk v107) fun v108=>opt (addOff v108 1) fun v109=>opt (load1 v109 H28) fun v110 =>
     opt (nilCk (ptr b 0)) fun v111=>opt (addOff v111 1) fun v112=>opt (loadN 2 v112 H28) fun v113 =>
     E.call (E.fid i.f25) [v110,v113] H28 fun v114 H29=>opt (nilCk (ptr b 0)) fun v115=>opt (addOff v115 1) fun v116=>opt (storeN 2 v116 v114 H29) fun H30=>Q (.int .i64 0) H30) (Q (.int .i64 0) H28):=by
  intro hnf
  rw [if_neg hnf] at fin
  have hst5:storeN 2 (ptr b 1) (PlaceD.v ⟨a0.m,lk.1⟩) H2=some (H2.put b (.cells (wayC t ⟨⟨a0.m,lk.1⟩,left,links⟩ lv1) none)):=by
   rw [storeN_ptr,hb2]; rfl
  have h5:=h2.put hk1 (wayC t ⟨⟨a0.m,lk.1⟩,left,links⟩ lv1)
  rw [List.set_set] at h5
  have hk5:=getE_set hk (boxR b (wayC t ⟨⟨a0.m,lk.1⟩,left,links⟩ lv1))
  simp only [hb2,c1',mkPlace,hst5,stdZ]
  generalize H2.put b (.cells (wayC t ⟨⟨a0.m,lk.1⟩,left,links⟩ lv1) none)=H5 at *
  have hb5:=h5.box hk5
  have w1:=h5.ext.cells q1'
  have w3:=q3'.mono h5.ext
  have c05:(wayC t ⟨⟨a0.m,lk.1⟩,left,links⟩ lv1)[0]? = some (ptr t 0):=rfl
  have hk:load1 (ptr yy.blk 1) H5=some (u8 (T.node lk.1).kind):=by
   rw [load1_ptr,h5.ext.cells k3']; rfl
  simp only [hnp,hk,stdZ]
  by_cases h2k:(T.node lk.1).kind=2#8
  ·have e2:binInt .eql (u8 (T.node lk.1).kind) (.int .u8 2)=some (vb true):=by
    show binInt .eql (u8 (T.node lk.1).kind) (u8 2#8)=_
    rw [u8_eql]; simp [h2k]
   have hlo5:loadN 2 (ptr b 1) H5=some (PlaceD.v ⟨a0.m,lk.1⟩):=by rw [loadN_ptr,hb5]; rfl
   simp only [e2,hb5,c05,w1,hlo5,stdZ]
   refine S.f25 hE q M nx ⟨a0.m,lk.1⟩ w3 ho fun H6 e6 =>?_
   have h6:=h5.grow e6
   have hb6:=h6.box hk5
   have hst6:storeN 2 (ptr b 1) (seen M ⟨a0.m,lk.1⟩).v H6=some (H6.put b (.cells (wayC t ⟨seen M ⟨a0.m,lk.1⟩,left,links⟩ lv1) none)):=by
    rw [storeN_ptr,hb6]; rfl
   have h7:=h6.put hk5 (wayC t ⟨seen M ⟨a0.m,lk.1⟩,left,links⟩ lv1)
   rw [List.set_set] at h7
   simp only [hst6,stdZ]
   exact fin _ 0 _ h7 (by rw [if_pos h2k])
  ·have e2:binInt .eql (u8 (T.node lk.1).kind) (.int .u8 2)=some (vb false):=by
    show binInt .eql (u8 (T.node lk.1).kind) (u8 2#8)=_
    rw [u8_eql]; simp [h2k]
   simp only [e2,stdZ]
   exact fin _ 0 _ h5 (by rw [if_neg h2k])
 by_cases hk3:(T.node lk.1).kind=3#8
 ·have ht:=lt lk.1 hk3
  by_cases hf:follow=true\/left≠[]
  ·rw [if_pos ⟨hk3,hf⟩] at hQ
   have hfol:=S.f67 (Q:=fun v H=>Q v H) hE h h2 hk1 s2 hnl hlk (T.node lk.1).text ht (fun lv' Z' H' z1 z2 z3=>hQ lv' Z' H' z1 (by rwa [List.set_set] at z2) z3)
   cases follow with
   | true =>
    simp [hk3,hnp,k3,inC]
    exact hfol
   | false =>
    have hpos:0<left.length:=List.length_pos_iff.2 (by simpa using hf)
    simp [hk3,hnp,k3,inC,hb2,c3',hl2,hpos]
    exact hfol
  ·have hf1:follow=false:=by cases follow <;> simp_all
   have hf2:left=[]:=by
    refine Classical.byContradiction fun hc=>hf (.inr hc)
   have st2:=stay fun hc=>hf hc.2
   subst hf1
   subst hf2
   have e3:binInt .eql (u8 (T.node lk.1).kind) (.int .u8 3)=some (vb true):=by
    show binInt .eql (u8 (T.node lk.1).kind) (u8 3#8)=_
    rw [u8_eql]; simp [hk3]
   have hl3:AM.lenSlc lv1=some (vi 0):=hl2
   simp only [e3,gd_tt,gd_ff,hb2,c3',hl3,i64_gtr,gt_iff_lt,Int.lt_irrefl,decide_false,pick_true_z,pick_false_z,stdZ]
   simp only [hb2,stdZ] at st2
   exact st2
 ·have st2:=stay fun hc=>hk3 hc.1
  have e3:binInt .eql (u8 (T.node lk.1).kind) (.int .u8 3)=some (vb false):=by
   show binInt .eql (u8 (T.node lk.1).kind) (u8 3#8)=_
   rw [u8_eql]; simp [hk3]
  simp only [e3,gd_ft,gd_skip,pick_false_z,hb2,stdZ]
  simp only [hb2,stdZ] at st2
  exact st2
end
end Go.AM
end
section
namespace Go.AM
section
variable {E:Sy} {H H' H0 Z:AH} {Q:Value->AH->Prop} {t:Nat} {T:Tr} {M:List MntD} {L:List Res}
theorem Has.callee (h:Has H0 Z H L) (e:Ext H H'):∃ Z',Fz H.next Z Z'/\Has H0 Z' H' L/\∀ sz v rows,Rows H' sz v rows->FreshV H.next v->Rows Z' sz v rows:=by
 have hg:∀ b,(AH.mk H'.next fun b=>if b<H.next then Z.get b else H'.get b).get b=if b<H.next then Z.get b else H'.get b:=by
  intro b
  simp only [AH.get]
  by_cases hb:b<H'.next
  ·rw [if_pos hb]
  ·have h1:¬ b<H.next:=fun hb'=>hb (Nat.lt_of_lt_of_le hb' e.1)
   have h2:¬ b<H'.next:=hb
   simp [h1,h2]
 refine ⟨⟨H'.next,fun b=>if b<H.next then Z.get b else H'.get b⟩,⟨⟨Nat.le_trans h.sub.1 e.1,fun b hb =>?_⟩,fun b hb=>by rw [hg,if_pos hb]⟩,?_,?_⟩
 ·rw [hg]
  split
  ·rfl
  ·rename_i hn
   exact (hb (AH.get_ge _ (Nat.le_trans h.sub.1 (by omega)))).elim
 ·refine h.refreeze e ⟨⟨Nat.le_trans h.sub.1 e.1,fun b hb =>?_⟩,fun b hb=>by rw [hg,if_pos hb]⟩ ⟨Nat.le_refl _,fun b hb =>?_⟩
  ·rw [hg]
   split
   ·rfl
   ·rename_i hn
    exact (hb (AH.get_ge _ (Nat.le_trans h.sub.1 (by omega)))).elim
  ·rw [hg] at hb ⊢
   split
   ·rename_i hlt
    rw [if_pos hlt] at hb
    rw [e.get hlt]
    exact h.sub.2 b hb
   ·rfl
 ·intro sz v rows hr hf
  refine ⟨hr.len,?_⟩
  rcases hr.at_ with g | ⟨b,o,c,g1,g2,g3,g4⟩
  ·exact .inl g
  ·by_cases hrn:rows=[]
   ·have hz:¬ b<H.next:=by
     have:=hf b (by rw [g1]; rfl)
     omega
    exact .inr ⟨b,o,c,g1,g2,by rw [hg,if_neg hz]; exact g3,by rw [hg,if_neg hz]; exact g4⟩
   ·have hz:¬ b<H.next:=by
     have:=hf b (by rw [g1]; rfl)
     omega
    exact .inr ⟨b,o,c,g1,g2,by rw [hg,if_neg hz]; exact g3,by rw [hg,if_neg hz]; exact g4⟩
theorem stepY_need (lt:T.LT) {w:WayD} (follow:Bool) (hne:w.left≠[]) (hlk:w.links<=8) (h0:(stepY T M w follow).2=0):(stepY T M w follow).1.need<w.need/\(stepY T M w follow).1.links<=8:=by
 obtain ⟨a,left,links⟩:=w
 cases left with
 | nil=>exact (hne rfl).elim
 | cons name left =>
  have hlk:links<=8:=hlk
  have stay:∀ a':PlaceD,(WayD.mk a' left links).need<(WayD.mk a (name :: left) links).need/\(WayD.mk a' left links).links<=8:=by
   intro a'
   refine ⟨?_,hlk⟩
   simp only [WayD.need,List.length_cons]
   omega
  revert h0
  unfold stepY
  simp only
  split
  ·intro h; simp at h
  split
  ·split
   ·intro h; simp at h
   ·intro _; exact stay _
  split
  ·intro h; simp at h
  split
  ·rename_i h4
   intro h; exact (h4 h).elim
  split
  ·rename_i h5
   split
   ·intro h; simp at h
   ·rename_i h6
    intro _
    have ht:=(lt _ h5.1).2
    have hp:=partsL_le (T.node (T.look a.i name).1).text
    refine ⟨?_,by show links+1<=8; omega⟩
    simp only [WayD.need,List.length_cons,List.length_append]
    omega
  ·split
   ·intro _; exact stay _
   ·intro _; exact stay _
theorem walkN_stable (lt:T.LT) (follow:Bool):∀ (n:Nat) (w:WayD),w.need<=n->w.links<=8->walkN T M follow n w=walkN T M follow (n+1) w
 | 0,w,h,hl=>by
  have:w.left=[]:=List.eq_nil_of_length_eq_zero (by unfold WayD.need at h; omega)
  simp [walkN,this]
 | n+1,w,h,hl=>by
  rw [walkN,walkN]
  split
  ·rfl
  ·rename_i hne
   split
   ·rfl
   ·rename_i h0
    have:=stepY_need (M:=M) lt follow hne hl (by simpa using h0)
    exact walkN_stable lt follow n _ (by omega) this.2
theorem walkN_enough (lt:T.LT) (follow:Bool) (w:WayD) (hl:w.links<=8):∀ (d n:Nat),w.need<=n->walkN T M follow (n+d) w=walkN T M follow n w
 | 0,_,_=>rfl
 | d+1,n,h=>by rw [<- Nat.add_assoc,<- walkN_stable lt follow (n+d) w (by omega) hl,walkN_enough lt follow w hl d n h]
theorem walkW_nil (follow:Bool) {w:WayD} (h:w.left=[]):walkW T M follow w=(w,0):=by
 unfold walkW
 cases w.need <;> simp [walkN,h]
theorem walkW_step (lt:T.LT) (follow:Bool) {w:WayD} (h:w.left≠[]) (hl:w.links<=8):walkW T M follow w=if (stepY T M w follow).2≠0 then stepY T M w follow else walkW T M follow (stepY T M w follow).1:=by
 have hpos:0<w.need:=by
  have:=List.length_pos_iff.2 h
  unfold WayD.need; omega
 unfold walkW
 obtain ⟨n,hn⟩:∃ n,w.need=n+1:=⟨w.need - 1,by omega⟩
 rw [hn,walkN,if_neg h]
 split
 ·rfl
 ·rename_i h0
  have:=stepY_need (M:=M) lt follow h hl (by simpa using h0)
  obtain ⟨d,hd⟩:∃ d,n=(stepY T M w follow).1.need+d:=⟨n - (stepY T M w follow).1.need,by omega⟩
  rw [hd]
  exact walkN_enough lt follow _ this.2 d _ (Nat.le_refl _)
theorem S.f49 (hE:Fold E) (s:List UInt8) (hs:s.length<2 ^ 63) (hQ:Q (vb (endsSlash s)) H):E.call (E.fid i.f49) [str s,str [47]] H Q:=by
 apply hE.f49
 simp only [F.f49]
 apply hE.f19
 unfold endsSlash at hQ
 cases hs0:s.reverse with
 | nil =>
  obtain rfl:s=[]:=by simpa using hs0
  simp [F.f19]
  simpa using hQ
 | cons c l =>
  obtain rfl:s=l.reverse++[c]:=by
   have:=congrArg List.reverse hs0
   simpa using this
  have hl:((l.reverse++[c]).length:Int)=(l.length:Int)+1:=by simp
  have h1:(1:Int)<=(l.length:Int)+1:=by omega
  simp only [List.length_append,List.length_reverse,List.length_cons,List.length_nil] at hs
  have hsub:binInt .sub (vi ((l.length:Int)+1)) (vi 1)=some (vi (l.length:Nat)):=by
   rw [i64_sub (by omega) (by omega)]; simp
  have hsl:slStr (str (l.reverse++[c])) (some (vi (l.length:Nat))) none=some (str [c]):=by
   rw [slStr_drop _ _ (by simp)]
   congr 2
   rw [List.drop_append]
   simp
  simp [F.f19,h1,hsub,hsl]
  simpa using hQ
end
end Go.AM
end
section
namespace Go.AM
section
variable {E:Sy} {H H' H0 Z:AH} {Q:Value->AH->Prop} {t:Nat} {T:Tr} {M:List MntD} {L:List Res}
theorem beginW_links (M:List MntD) (c:PlaceD) (path:List UInt8):(beginW M c path).1.links=0/\(beginW M c path).1.left.length<=121:=by
 unfold beginW
 split
 ·exact ⟨rfl,by simp⟩
 ·split
  ·exact ⟨rfl,by simp⟩
  ·exact ⟨rfl,by have:=partsL_le path; show (partsL path).length<=121; omega⟩
theorem answer {rb:Nat} {z:PlaceD} (hz:H.get rb = .cells z.cells none) (p:PlaceD) {R:Value->AH->Prop} (hR:R p.v (H.put rb (.cells p.cells none))) :
  opt (storeN 2 (ptr rb 0) p.v H) fun H3=>opt (loadN 2 (ptr rb 0) H3) fun v10=>R v10 H3:=by
 have h1:storeN 2 (ptr rb 0) p.v H=some (H.put rb (.cells p.cells none)):=by rw [storeN_ptr,hz]; rfl
 have h2:loadN 2 (ptr rb 0) (H.put rb (.cells p.cells none))=some p.v:=by rw [loadN_ptr,AH.get_put_self _ _ (AH.lt_cells hz)]; rfl
 simp only [h1,h2,tk_eq,opt_some]
 exact hR
theorem S.f62 (hE:Fold E) (h:WkAt H t T M) (wf:T.WF) (lt:T.LT) (c:PlaceD) (path:List UInt8) (hp:path.length<2 ^ 63) (follow:Bool)
  (hQ:∀ H',Ext H H'->Q (.tuple #[(findW T M c path follow).1.v,vi (findW T M c path follow).2]) H'):E.call (E.fid i.f62) [ptr t 0,c.v,str path,vb follow] H Q:=by
 apply hE.f62
 have g0:Has H H H []:=Has.start (Ext.refl H)
 have g1:=g0.newbox c.cells
 have g2:=g1.newbox PlaceD.zero.cells
 have hz2:([(.int .i64 0),(.int .u16 0)]:List Value)=PlaceD.zero.cells:=rfl
 simp only [F.f62,boxO_agg_z,AM.mk_some,mkPtr_eq_z,allocW_eq,hz2,List.toList_toArray,tk_eq]
 have hb1:=g2.box (k:=0) rfl
 have hl1:loadN 2 (ptr H.next 0) ((H.new (.cells c.cells none)).new (.cells PlaceD.zero.cells none))=some c.v:=by rw [loadN_ptr,hb1]; rfl
 generalize hrb:(H.new (.cells c.cells none)).next=rb at *
 simp only [hl1,stdZ]
 generalize (H.new (.cells c.cells none)).new (.cells PlaceD.zero.cells none)=H2 at *
 refine S.f64 hE (h.mono g2.ext) c path hp fun lv H3 e3 r3 f3 =>?_
 obtain ⟨Z3,z1,g3,z3⟩:=g2.callee e3
 have rz:=z3 1 lv _ r3 f3
 have hlv:=rz.plainV
 have hbg:=beginW_links M c path
 unfold findW at hQ
 generalize hbw:beginW M c path=bw at *
 have hz5:([(.pointer none),(.int .i64 0),(.int .u16 0),(.slice none 0 0),(.int .i64 0)]:List Value).length=5:=rfl
 have g4:=g3.newbox [(.pointer none),(.int .i64 0),(.int .u16 0),(.slice none 0 0),(.int .i64 0)]
 have hb4:=g4.box (k:=2) (b:=H3.next) rfl
 have hst:=way_store t bw.1 hlv hz5 hb4
 have g5:=g4.put (k:=2) (b:=H3.next) rfl (wayC t bw.1 lv)
 simp only [ext_tuple,allocW_eq,hst,stdZ]
 generalize hwb:H3.next=wb at *
 generalize (H3.new (.cells [(.pointer none),(.int .i64 0),(.int .u16 0),(.slice none 0 0),(.int .i64 0)] none)).put wb (.cells (wayC t bw.1 lv) none)=H5 at *
 have g5:Has H Z3 H5 [boxR H.next c.cells,boxR rb PlaceD.zero.cells,boxR wb (wayC t bw.1 lv)]:=g5
 simp only [i64_neq,stdZ]
 by_cases he:bw.2=0
 rotate_left
 ·simp only [ne_eq,he,not_false_eq_true,decide_true,mkPlace0,stdZ]
  rw [if_pos (by simpa using he)] at hQ
  refine answer (R:=fun v H=>Q (.tuple #[v,vi bw.2]) H) (g5.box (k:=1) rfl) PlaceD.zero ?_
  exact hQ _ (g5.put (k:=1) (b:=rb) rfl PlaceD.zero.cells).ext
 rw [if_neg (by simpa using he)] at hQ
 simp only [ne_eq,he,not_true,decide_false,stdZ]
 refine S.f49 hE path hp ?_
 generalize endsSlash path=slash at *
 refine LoopL.ind (fun n ls H'=>∃ w lv Z',n=w.need/\ls=[ptr t 0,vb follow,ptr rb 0,ptr wb 0,vb slash]/\Has H Z' H' [boxR H.next c.cells,boxR rb PlaceD.zero.cells,boxR wb (wayC t w lv)]/\Rows Z' 1 lv (strR w.left)/\w.links<=8/\w.need<=5000/\walkW T M (follow||slash) w=walkW T M (follow||slash) bw.1) ?_ bw.1.need ⟨bw.1,lv,Z3,rfl,rfl,g5,rz,by omega,by unfold WayD.need; omega,rfl⟩
 rintro n _ H6 X hX ⟨w,lv,Z',rfl,rfl,g6,r6,hlk,hnd,hww⟩
 have hb6:=g6.box (k:=2) (b:=wb) rfl
 have c3:(wayC t w lv)[3]? = some lv:=rfl
 have hl6:=strR_lenSlc (r6.sub g6.sub)
 have hneed:w.left.length<=w.need:=by unfold WayD.need; omega
 by_cases hne:w.left=[]
 ·rw [<- hww,walkW_nil _ hne] at hQ
  simp only [ne_eq,not_true,if_false] at hQ
  have hl0:AM.lenSlc lv=some (vi 0):=by rw [hl6,hne]; rfl
  obtain ⟨⟨p,m,L',q,nx,q1,q2,q3⟩,ho⟩:=h.mono g6.ext
  have c2:(wayC t w lv)[2]? = some (u16 w.at_.i):=rfl
  simp only [F.f62_l1,nth_0,nth_1,nth_2,nth_3,nth_4,hb6,c3,hl0,i64_gtr,gt_iff_lt,Int.lt_irrefl,decide_false,q1,c2,stdZ]
  refine S.f8 hE q2 w.at_.i ?_
  have hz6:=g6.box (k:=1) rfl
  rcases q2.get w.at_.i with ⟨k0,_⟩ | ⟨kk,yy,k0,k1,k2,k3,k4⟩
  ·rw [if_pos k0] at hQ
   simp only [nodeP_none q2.cov k0,nilp_none_z,mkPlace0,stdZ]
   refine answer (R:=fun v H=>Q (.tuple #[v,vi 2]) H) hz6 PlaceD.zero ?_
   exact hQ _ (g6.put (k:=1) (b:=rb) rfl PlaceD.zero.cells).ext
  ·rw [if_neg k0] at hQ
   simp only [nodeP_some q2.cov.nd k1,nilq_p,stdZ]
   have hlo6:loadN 2 (ptr wb 1) H6=some w.at_.v:=by rw [loadN_ptr,hb6]; rfl
   cases slash with
   | false =>
    simp only [Bool.false_eq_true,false_and,if_false] at hQ
    simp only [gd_ft,gd_skip,pick_false_z,hlo6,stdZ]
    refine answer (R:=fun v H=>Q (.tuple #[v,vi 0]) H) hz6 w.at_ ?_
    exact hQ _ (g6.put (k:=1) (b:=rb) rfl w.at_.cells).ext
   | true =>
    simp only [gd_tt,hlo6,stdZ]
    refine S.f61 hE (h.mono g6.ext) w.at_ fun H7 e7 =>?_
    have g7:=g6.grow e7
    have hz7:=g7.box (k:=1) rfl
    have hlo7:loadN 2 (ptr wb 1) H7=some w.at_.v:=by rw [loadN_ptr,g7.box (k:=2) (b:=wb) rfl]; rfl
    cases hd:dirP T M w.at_ with
    | false =>
     simp only [hd,and_self,if_true] at hQ
     simp only [gd_tt,un_not_z,Bool.not_false,pick_true_z,mkPlace0,stdZ]
     refine answer (R:=fun v H=>Q (.tuple #[v,vi 20]) H) hz7 PlaceD.zero ?_
     exact hQ _ (g7.put (k:=1) (b:=rb) rfl PlaceD.zero.cells).ext
    | true =>
     simp only [hd,Bool.true_eq_false,and_false,if_false] at hQ
     simp only [gd_tt,un_not_z,Bool.not_true,pick_true_z,hlo7,stdZ]
     refine answer (R:=fun v H=>Q (.tuple #[v,vi 0]) H) hz7 w.at_ ?_
     exact hQ _ (g7.put (k:=1) (b:=rb) rfl w.at_.cells).ext
 ·have hpos:(0:Int)<(w.left.length:Nat):=by have:=List.length_pos_iff.2 hne; omega
  simp only [F.f62_l1,nth_0,nth_1,nth_2,nth_3,nth_4,hb6,c3,hl6,i64_gtr,gt_iff_lt,hpos,decide_true,stdZ]
  have hpk:∀ (K:Value->AH->Prop),K (vb (follow||slash)) H6->gd (vb follow) false (fun k=>k (vb slash) H6) H6 fun v5 H1=>opt (pick (vb follow) (.bool true) v5) fun v6=>K v6 H1:=by
   intro K hK
   cases follow <;> simpa using hK
  refine hpk _ ?_
  refine S.f68 hE h wf lt (k:=2) (b:=wb) g6 rfl r6 (by omega) (by omega) hne (follow||slash) fun lv' Z7 H7 y1 y2 y3 =>?_
  have hst7:=walkW_step (M:=M) lt (follow||slash) hne hlk
  have hnd7:=stepY_need (M:=M) lt (follow||slash) hne hlk
  have y2:Has H Z7 H7 [boxR H.next c.cells,boxR rb PlaceD.zero.cells,boxR wb (wayC t (stepY T M w (follow||slash)).1 lv')]:=y2
  generalize stepY T M w (follow||slash)=st at *
  simp only [i64_neq,stdZ]
  by_cases h0:st.2=0
  ·rw [if_neg (by simpa using h0)] at hst7
   obtain ⟨n1,n2⟩:=hnd7 h0
   simp only [ne_eq,h0,not_true,decide_false,stdZ]
   exact hX _ n1 _ _ ⟨st.1,lv',Z7,rfl,rfl,y2,y3,n2,by omega,by rw [<- hww,hst7]⟩
  ·rw [if_pos (by simpa using h0)] at hst7
   rw [<- hww,hst7,if_pos (by simpa using h0)] at hQ
   simp only [ne_eq,h0,not_false_eq_true,decide_true,mkPlace0,stdZ]
   refine answer (R:=fun v H=>Q (.tuple #[v,vi st.2]) H) (y2.box (k:=1) rfl) PlaceD.zero ?_
   exact hQ _ (y2.put (k:=1) (b:=rb) rfl PlaceD.zero.cells).ext
end
end Go.AM
end
section
namespace Go.AM
set_option maxRecDepth 20000
def placeR (l:List PlaceD):List (List Value):=l.map PlaceD.cells
def AtOk (T:Tr) (M:List MntD):Prop:=∀ m∈M,m.id≠0->(T.node m.at_.i).kind≠0#8
section
variable {E:Sy} {H H' H0 Z:AH} {Q:Value->AH->Prop} {t:Nat} {T:Tr} {M:List MntD} {L:List Res}
theorem placeR_length (l:List PlaceD):(placeR l).length=l.length:=by simp [placeR]
theorem place_agg (p q:PlaceD):binAgg [0,0] .eql p.v q.v=some (vb (decide (p=q))):=by
 obtain ⟨a,b⟩:=p
 obtain ⟨c,d⟩:=q
 simp [binAgg,PlaceD.cells,place_eq]
theorem above_loop (hE:Fold E) (h:WkAt H t T M) (ao:AtOk T M) (c:PlaceD) {N:Nat} (hN:N=289) {H2:AH} (g3:Has H H H2 [boxR H.next c.cells,growR 2 nilS []]) (hk0:(T.node c.i).kind≠0#8) (hQ:∀ v H',Ext H H'->Rows H' 2 v (placeR (aboveN T M N c))->Q v H') :
  LoopL (fun l H X0=>F.f60_l1 E Q (nth l 0) (nth l 1) (nth l 2) (nth l 3) H X0) [ptr t 0,ptr H.next 0,(.slice none 0 0),(.int .i64 0)] H2:=by
 refine LoopL.count N (fun j ls H'=>∃ p v done,ls=[ptr t 0,ptr H.next 0,v,vi j]/\Has H H H' [boxR H.next p.cells,growR 2 v (placeR done)]/\done.length=j/\aboveN T M N c=done++aboveN T M (N - j) p/\(T.node p.i).kind≠0#8) ?_ ⟨c,nilS,[],rfl,g3,rfl,rfl,hk0⟩
 intro j ls H4 X hj hX hI
 obtain ⟨p,hI⟩:=hI
 obtain ⟨v,done,els,g4,hdn,hab,hkp⟩:=hI
 subst els
 rcases Nat.lt_or_ge j N with hjl | hjl
 rotate_left
 ·have hjl':¬ (j:Int)<289:=by omega
  have hje:N - j=0:=by omega
  rw [hje] at hab
  simp only [aboveN,List.append_nil] at hab
  rw [hab] at hQ
  simp only [F.f60_l1,i64_lss,hjl',decide_false,stdZ]
  exact hQ _ _ g4.ext (g4.rows (k:=1) rfl)
 have hX:=hX hjl
 have hjl':(j:Int)<289:=by omega
 have hjj:=i64_inc (i:=j) (by omega)
 have hstep:aboveN T M (N - j) p=p :: (match nextA T M p with | none=>[] | some q=>aboveN T M (N - (j+1)) q):=by
  rw [show N - j=(N - (j+1))+1 by omega]; rfl
 rw [hstep] at hab
 have hb4:=g4.box (k:=0) (b:=H.next) rfl
 have hl4:loadN 2 (ptr H.next 0) H4=some p.v:=by rw [loadN_ptr,hb4]; rfl
 obtain ⟨v',H5,a1,a2,g5⟩:=g4.app1 (k:=1) (bytes:=16) rfl p.cells rfl rfl (by decide) (by decide) (by rw [placeR_length]; omega)
 have g5:Has H H H5 [boxR H.next p.cells,growR 2 v' (placeR (done++[p]))]:=by simpa [placeR] using g5
 have hbS:=buildS_one 2 [vi 0,u16 0#16] p.cells rfl rfl
 have hab:aboveN T M N c=(done++[p])++(match nextA T M p with | none=>[] | some q=>aboveN T M (N - (j+1)) q):=by rw [hab]; simp
 obtain ⟨⟨q,m,L',q',nx,q1,q2,q3⟩,ho⟩:=h.mono g5.ext
 have hb5:=g5.box (k:=0) (b:=H.next) rfl
 have hl5:loadN 2 (ptr H.next 0) H5=some p.v:=by rw [loadN_ptr,hb5]; rfl
 have hz2:([(.int .i64 0),(.int .u16 0)]:List Value)=PlaceD.zero.cells:=rfl
 have g6:=g5.newbox PlaceD.zero.cells
 have hbS':buildS 1 2 PlaceD.zero.cells.toArray [(0,p.v)]=some (.cells p.cells none,mkSlc 1 1):=hbS
 simp only [F.f60_l1,i64_lss,hjl',decide_true,hl4,hbS',AM.mk_some,mkSlc_eq,a1,opt2_some,q1,hl5,allocW_eq,hz2,stdZ]
 have hz6:=AH.get_new_self H5 (.cells PlaceD.zero.cells none)
 have x6:Ext H5 (H5.new (.cells PlaceD.zero.cells none)):=(Ext.refl _).new _
 refine S.f23 hE q' M nx p (q3.mono x6) fun H7 e7 =>?_
 have g7:=g6.grow e7
 have hb7:=g7.box (k:=2) (b:=H5.next) rfl
 refine ⟨by rw [hb7,hz6],?_⟩
 have hst:storeN 2 (ptr H5.next 0) (optP (downT M p)).v H7=some (H7.put H5.next (.cells (optP (downT M p)).cells none)):=by rw [storeN_ptr,hb7]; rfl
 have g8:=g7.put (k:=2) (b:=H5.next) rfl (optP (downT M p)).cells
 simp only [hst,stdZ]
 generalize H7.put H5.next (.cells (optP (downT M p)).cells none)=H8 at *
 have g8:Has H H H8 [boxR H.next p.cells,growR 2 v' (placeR (done++[p])),boxR H5.next (optP (downT M p)).cells]:=g8
 have hb8:=g8.box (k:=0) (b:=H.next) rfl
 have hb8':=g8.box (k:=2) (b:=H5.next) rfl
 cases hdn':downT M p with
 | some r =>
  have hna:nextA T M p=some r:=by simp [nextA,hdn']
  rw [hna] at hab
  rw [hdn'] at hb8'
  have hl8:loadN 2 (ptr H5.next 0) H8=some r.v:=by rw [loadN_ptr,hb8']; rfl
  have hs8:storeN 2 (ptr H.next 0) r.v H8=some (H8.put H.next (.cells r.cells none)):=by rw [storeN_ptr,hb8]; rfl
  have g9:=(g8.put (k:=0) (b:=H.next) rfl r.cells).drop 2
  obtain ⟨m',w1,w2,w3,rfl⟩:=downT_some hdn'
  simp only [Option.isSome_some,hl8,hs8,hjj,stdZ]
  exact hX _ _ ⟨m'.at_,v',done++[p],rfl,g9,by simp [hdn],hab,ao m' (getT_some w1).1 w2⟩
 | none =>
  rw [hdn'] at hb8'
  obtain ⟨⟨qq,mm,LL,qq',nnx,p1,p2,p3⟩,_⟩:=h.mono g8.ext
  have c0:p.cells[0]? = some (vi p.m):=rfl
  have c1:p.cells[1]? = some (u16 p.i):=rfl
  have g9:=g8.newbox PlaceD.zero.cells
  have x9:Ext H8 (H8.new (.cells PlaceD.zero.cells none)):=(Ext.refl _).new _
  have hb9:=g9.box (k:=0) (b:=H.next) rfl
  have hz9:=g9.box (k:=3) (b:=H8.next) rfl
  simp only [Option.isSome_none,hb8,c0,c1,p1,allocW_eq,hz2,stdZ]
  refine S.f8 hE (p2.mono x9) p.i ?_
  refine ⟨rfl,by rw [load1_ptr,load1_ptr,hb9,hb8],?_⟩
  rcases (p2.mono x9).get p.i with ⟨k0,_⟩ | ⟨kk,yy,k0,k1,k2,k3,k4⟩
  ·exact (hkp k0).elim
  have hst9:storeN 2 (ptr H8.next 0) (PlaceD.v ⟨p.m,(T.node p.i).parent⟩) (H8.new (.cells PlaceD.zero.cells none))=some ((H8.new (.cells PlaceD.zero.cells none)).put H8.next (.cells (PlaceD.cells ⟨p.m,(T.node p.i).parent⟩) none)):=by rw [storeN_ptr,hz9]; rfl
  have g10:=g9.put (k:=3) (b:=H8.next) rfl (PlaceD.cells ⟨p.m,(T.node p.i).parent⟩)
  simp only [nodeP_some p2.cov.nd k1,k3,inC,mkPlace,hst9,stdZ]
  generalize (H8.new (.cells PlaceD.zero.cells none)).put H8.next (.cells (PlaceD.cells ⟨p.m,(T.node p.i).parent⟩) none)=H10 at *
  have g10:Has H H H10 [boxR H.next p.cells,growR 2 v' (placeR (done++[p])),boxR H5.next (optP (downT M p)).cells,boxR H8.next (PlaceD.cells ⟨p.m,(T.node p.i).parent⟩)]:=g10
  have hbp:=g10.box (k:=0) (b:=H.next) rfl
  have hbu:=g10.box (k:=3) (b:=H8.next) rfl
  have hlp:loadN 2 (ptr H.next 0) H10=some p.v:=by rw [loadN_ptr,hbp]; rfl
  have hlu:loadN 2 (ptr H8.next 0) H10=some (PlaceD.v ⟨p.m,(T.node p.i).parent⟩):=by rw [loadN_ptr,hbu]; rfl
  simp only [hlp,hlu,place_agg,stdZ]
  by_cases hup:(⟨p.m,(T.node p.i).parent⟩:PlaceD)=p
  ·have hna:nextA T M p=none:=by simp [nextA,hdn',hup]
   rw [hna,List.append_nil] at hab
   rw [hab] at hQ
   simp only [hup,decide_true,stdZ]
   exact hQ _ _ g10.ext (g10.rows (k:=1) rfl)
  obtain ⟨⟨qz,mz,Lz,qz',nz,z1,z2,z3⟩,_⟩:=h.mono g10.ext
  have cu:(PlaceD.cells ⟨p.m,(T.node p.i).parent⟩)[1]? = some (u16 (T.node p.i).parent):=rfl
  simp only [hup,decide_false,z1,hbu,cu,stdZ]
  refine S.f8 hE z2 (T.node p.i).parent ?_
  rcases z2.get (T.node p.i).parent with ⟨n0,_⟩ | ⟨nn,ny,n0,n1,n2,n3,n4⟩
  ·have hna:nextA T M p=none:=by simp [nextA,hdn',n0]
   rw [hna,List.append_nil] at hab
   rw [hab] at hQ
   simp only [nodeP_none z2.cov n0,nilp_none_z,hup,decide_false,stdZ]
   exact hQ _ _ g10.ext (g10.rows (k:=1) rfl)
  ·have hna:nextA T M p=some ⟨p.m,(T.node p.i).parent⟩:=by simp [nextA,hdn',hup,n0]
   rw [hna] at hab
   have hs10:storeN 2 (ptr H.next 0) (PlaceD.v ⟨p.m,(T.node p.i).parent⟩) H10=some (H10.put H.next (.cells (PlaceD.cells ⟨p.m,(T.node p.i).parent⟩) none)):=by rw [storeN_ptr,hbp]; rfl
   have g11:=((g10.put (k:=0) (b:=H.next) rfl (PlaceD.cells ⟨p.m,(T.node p.i).parent⟩)).drop 3).drop 2
   simp only [nodeP_some z2.cov.nd n1,nilq_p,hup,decide_false,hlu,hs10,hjj,stdZ]
   exact hX _ _ ⟨_,v',done++[p],rfl,g11,by simp [hdn],hab,n0⟩
theorem S.f60 (hE:Fold E) (h:WkAt H t T M) (ao:AtOk T M) (c:PlaceD) (hQ:∀ v H',Ext H H'->Rows H' 2 v (placeR (aboveW T M c))->Q v H'):E.call (E.fid i.f60) [ptr t 0,c.v] H Q:=by
 apply hE.f60
 have g0:Has H H H []:=Has.start (Ext.refl H)
 have g1:=g0.newbox c.cells
 have hb1:=g1.box (k:=0) rfl
 have hl1:loadN 2 (ptr H.next 0) (H.new (.cells c.cells none))=some c.v:=by rw [loadN_ptr,hb1]; rfl
 simp only [F.f60,boxO_agg_z,AM.mk_some,mkPtr_eq_z,List.toList_toArray,hl1,stdZ]
 generalize H.new (.cells c.cells none)=H1 at *
 refine S.f61 hE (h.mono g1.ext) c fun H2 e2 =>?_
 have g2:=g1.grow e2
 unfold aboveW at hQ
 cases hd:dirP T M c with
 | false =>
  rw [hd] at hQ
  simp only [stdZ]
  exact hQ _ _ g2.ext (by simpa [placeR] using Rows.nil _ 2 none)
 | true =>
 rw [hd] at hQ
 simp only [if_true] at hQ
 simp only [stdZ]
 have hk0:(T.node c.i).kind≠0#8:=by
  unfold dirP at hd
  simp only [Bool.and_eq_true,decide_eq_true_eq] at hd
  rw [hd.2]; decide
 have g3:=g2.nils 2
 have g3:Has H H H2 [boxR H.next c.cells,growR 2 nilS []]:=g3
 exact above_loop hE h ao c rfl g3 hk0 hQ
end
end Go.AM
end
section
namespace Go.AM
structure InoX (H0 H:AH) (p m:Nat) (L:LyL) (T:Tr):Prop where
 ext:Ext H0 H
 ino:Ino H p m L T
 own:∀ b∈(inoR p m L T).fp,H0.next<=b
section
variable {E:Sy} {H0 H H' H'':AH} {Q:Value->AH->Prop} {p m:Nat} {L L' L'':LyL} {T T' T'':Tr}
theorem S.f7' (hE:Fold E) (limit:Int) (hQ:∀ p m L H',InoX H H' p m L (Tr.new limit)->Q (ptr p 0) H'):E.call (E.fid i.f7) [vi limit] H Q :=
 S.f7 hE limit fun p m L H' e h hf=>hQ p m L H' ⟨e,h,hf⟩
end
end Go.AM
end
section
namespace Go.AM
section
variable {E:Sy} {H H' H'':AH} {Q:Value->AH->Prop} {t:Nat} {nv nv' nv'' mv:Value} {nx:Int} {mr:List (List Value)} {T T' T'':Tr}
theorem buildS0 (sz:Nat) (z:List Value) (hz:z.length=sz):buildS 0 sz z.toArray []=some (.cells [] none,mkSlc 0 0):=by
 rw [buildS_eq _ _ _ _ hz]; simp; rfl
end
end Go.AM
end
section
namespace Go.AM
def wkRs (p m:Nat) (L:LyL) (T:Tr) (q:Nat) (v:Value) (M:List MntD) (nx:Int) (w:Nat) (X:List Res):List Res:=inoR p m L T :: tabR q v M nx :: boxR w [ptr p 0,ptr q 0] :: X
def WkO (X:List Res) (H0 H:AH) (w:Nat) (T:Tr) (M:List MntD) (nx:Int):Prop :=
 ∃ p m L q v,Ext H0 H/\Ow (joinR (wkRs p m L T q v M nx w X)) H/\(∀ b∈(joinR (wkRs p m L T q v M nx w X)).fp,H0.next<=b)/\Cov L T/\TabOk M nx
section
variable {E:Sy} {X:List Res} {H H' H0 Z:AH} {Q:Value->AH->Prop} {w:Nat} {T T':Tr} {M M':List MntD} {nx nx':Int} {L:List Res}
theorem WkO.ext (h:WkO X H0 H w T M nx):Ext H0 H:=by obtain ⟨_,_,_,_,_,h,_⟩:=h; exact h
theorem WkO.tab (h:WkO X H0 H w T M nx):TabOk M nx:=by obtain ⟨_,_,_,_,_,_,_,_,_,h⟩:=h; exact h
theorem own_upd {r r':Res} (e:Ext H0 H) (o:Ow r H) (own:∀ b∈r.fp,H0.next<=b) (u:Upd r r' H H'):Ext H0 H'/\Ow r' H'/\∀ b∈r'.fp,H0.next<=b :=
 ⟨u.only.ext e own,o.upd u,fun b hb=>(u.fp b hb).1.elim (own b) fun k=>Nat.le_trans e.1 k⟩
theorem WkO.open_ (h:WkO X H0 H w T M nx):∃ p q,H.get w = .cells [ptr p 0,ptr q 0] none /\
  (∃ m L,Ino H p m L T/\∀ L' T' H',UpdI p m L T L' T' H H'->WkO X H0 H' w T' M nx) /\
  (∃ v,(tabR q v M nx).P H/\(tabR q v M nx).fp.Nodup/\∀ v' M' nx' H',Upd (tabR q v M nx) (tabR q v' M' nx') H H'->TabOk M' nx'->WkO X H0 H' w T M' nx'):=by
 obtain ⟨p,m,L,q,v,e,o,own,cov,tab⟩:=h
 refine ⟨p,q,o.holds (boxR w [ptr p 0,ptr q 0]) (by simp [wkRs]),⟨m,L,⟨o.part (k:=0) rfl,cov⟩,fun L' T' H' u =>?_⟩,⟨v,o.holds (tabR q v M nx) (by simp [wkRs]),(o.part (k:=1) rfl).nd,fun v' M' nx' H' u ok =>?_⟩⟩
 ·obtain ⟨a,b,c⟩:=own_upd e o own (o.set (k:=0) rfl u.upd)
  exact ⟨p,m,L',q,v,a,b,c,u.cov,tab⟩
 ·obtain ⟨a,b,c⟩:=own_upd e o own (o.set (k:=1) rfl u)
  exact ⟨p,m,L,q,v',a,b,c,cov,ok⟩
theorem WkO.mono (h:WkO X H0 H w T M nx) (e:Ext H H'):WkO X H0 H' w T M nx:=by
 obtain ⟨p,m,L,q,v,e0,o,own,cov,tab⟩:=h
 exact ⟨p,m,L,q,v,e0.trans e,o.mono e,own,cov,tab⟩
theorem newbox (H:AH) (c:List Value):NewRes (boxR H.next c) H (H.new (.cells c none)):=⟨(Ext.refl H).new _,AH.get_new_self _ _,fun b hb=>by simp [boxR] at hb; subst hb; simp,by simp [boxR]⟩
theorem WkO.at_ (h:WkO X H0 H w T M nx):WkAt H w T M:=by
 obtain ⟨p,q,hw,⟨m,L,hi,_⟩,⟨v,ht,_,_⟩⟩:=h.open_
 have:=h.tab.len
 exact ⟨⟨p,m,L,q,nx,hw,hi,tabR.at_ ht (by omega)⟩,h.tab.older⟩
theorem S.f59 (hE:Fold E) (limit:Int) (hQ:∀ w H',WkO [] H H' w (Tr.new limit) tab0 1->Q (ptr w 0) H'):E.call (E.fid i.f59) [vi limit] H Q:=by
 apply hE.f59
 simp only [F.f59]
 refine S.f7' hE limit fun p m L H1 h1 =>?_
 refine S.f22 hE fun q v H2 n2 =>?_
 have hb:buildV [(0,1),(1,1)] #[(.pointer none),(.pointer none)] [(0,ptr p 0),(1,ptr q 0)]=some (.agg #[ptr p 0,ptr q 0]):=rfl
 simp only [hb,boxO_agg_z,AM.mk_some,mkPtr_eq_z,stdZ]
 refine hQ H2.next _ ⟨p,m,L,q,v,?_⟩
 have o1:Ow (joinR [inoR p m L (Tr.new limit)]) H1:=by
  refine ⟨fun r hr=>by rw [List.mem_singleton] at hr; rw [hr]; exact h1.ino.ow.holds,?_,?_⟩
  ·intro b hb; exact h1.ino.ow.lt b (by simpa [joinR] using hb)
  ·simpa [joinR] using h1.ino.ow.nd
 have own1:∀ b∈(joinR [inoR p m L (Tr.new limit)]).fp,H.next<=b:=fun b hb=>h1.own b (by simpa [joinR] using hb)
 obtain ⟨a2,b2,c2⟩:=own_upd h1.ext o1 own1 (o1.add _ n2.1 n2.2.1 n2.2.2.1 n2.2.2.2)
 have n3:=newbox H2 [ptr p 0,ptr q 0]
 obtain ⟨a3,b3,c3⟩:=own_upd a2 b2 c2 (b2.add _ n3.1 n3.2.1 n3.2.2.1 n3.2.2.2)
 exact ⟨a3,b3,c3,h1.ino.cov,tabOk0⟩
end
end Go.AM
end
section
namespace Go.AM
def Tr.Each (P:Nd->Prop) (T:Tr):Prop:=∀ n,P (T.node n)
structure Keeps (P:Nd->Prop):Prop where
 none:P Nd.none
 addE:∀ s k x,P x->P (Nd.addE s k x)
 delE:∀ s x,P x->P (Nd.delE s x)
 addL:∀ k x,P x->P (Nd.addL k x)
 addH:∀ k x,P x->P (Nd.addH k x)
 par:∀ (q:BitVec 16) (x:Nd),P x->P { x with parent:=q }
 made:∀ inn k text,¬ (k=0#8\/3#8<k\/(k=3#8/\(text.length<1\/120<text.length)))->P (Nd.made inn k text)
 data:∀ (x:Nd) (d:List (BitVec 8)),x.kind=1#8->P x->P { x with data:=d }
section
variable {T:Tr} {P:Nd->Prop} (K:Keeps P)
theorem Tr.Each.upd (h:T.Each P) {n:BitVec 16} {f:Nd->Nd} (hf:∀ x:Nd,P x->P (f x)):(T.upd n f).Each P:=by
 intro k
 rcases T.upd_or n k f with e | e
 ·rw [e]; exact h k
 ·rw [e]; exact hf _ (h k)
theorem Tr.Each.bump (h:T.Each P):T.bump.Each P:=h
include K
theorem Tr.Each.put (h:T.Each P) (a:Nat) (x:Nd) (hx:P x):(T.put a x).Each P:=by
 intro k
 unfold Tr.put Tr.node
 simp only [List.getD_eq_getElem?_getD]
 have hk:=h k
 unfold Tr.node at hk
 simp only [List.getD_eq_getElem?_getD] at hk
 split
 ·rw [List.getElem?_set]
  split
  ·exact hx
  ·exact hk
 ·rw [List.getElem?_append]
  split
  ·exact hk
  ·cases hz:([x][k.toNat - T.N.length]? : Option Nd) with
   | none=>exact K.none
   | some z =>
    have:=List.mem_of_getElem? hz
    simp at this
    subst this
    exact hx
theorem Tr.Each.make (h:T.Each P) (inn:BitVec 16) (s:NameL) (kd:BitVec 8) (text:List UInt8):(T.make inn s kd text).1.Each P:=by
 unfold Tr.make
 split
 ·exact h
 split
 ·exact h
 rename_i hc
 split
 ·exact h
 exact ((h.put K T.free (Nd.made inn kd text) (K.made inn kd text hc)).upd (f:=Nd.addE s (BitVec.ofNat 16 T.free)) fun x hx=>K.addE _ _ _ hx).bump
omit K in
theorem Tr.Each.new (limit:Int) (h0:P Nd.none) (h1:P { Nd.none with kind:=2#8,parent:=1#16,links:=1 }):(Tr.new limit).Each P:=by
 intro n
 unfold Tr.new Tr.node
 simp only [List.getD_eq_getElem?_getD]
 by_cases e0:n.toNat=0
 ·rw [e0]; exact h0
 ·by_cases e1:n.toNat=1
  ·rw [e1]; exact h1
  ·rw [List.getElem?_eq_none (by simp; omega)]; exact h0
end
structure Nd.KD (x:Nd):Prop where
 kind:x.kind=0#8\/x.kind=1#8\/x.kind=2#8\/x.kind=3#8
 text:x.kind=3#8->x.text≠[]/\x.text.length<=120
 notext:x.kind≠3#8->x.text=[]
 nodata:x.kind≠1#8->x.data=[]
theorem keeps_KD:Keeps Nd.KD where
 none:=⟨.inl rfl,by simp [Nd.none],by simp [Nd.none],by simp [Nd.none]⟩
 addE:=fun _ _ _ h=>⟨h.kind,h.text,h.notext,h.nodata⟩
 delE:=fun _ _ h=>⟨h.kind,h.text,h.notext,h.nodata⟩
 addL:=fun _ _ h=>⟨h.kind,h.text,h.notext,h.nodata⟩
 addH:=fun _ _ h=>⟨h.kind,h.text,h.notext,h.nodata⟩
 par:=fun _ _ h=>⟨h.kind,h.text,h.notext,h.nodata⟩
 made:=fun inn k text h=>by
  simp only [not_or,not_and] at h
  obtain ⟨h1,h2,h3⟩:=h
  have hk:k=1#8\/k=2#8\/k=3#8:=by
   have h2:¬ (3<k.toNat):=h2
   have h1:k.toNat≠0:=fun e=>h1 (BitVec.eq_of_toNat_eq e)
   have:k.toNat=1\/k.toNat=2\/k.toNat=3:=by omega
   rcases this with e | e | e
   ·exact .inl (BitVec.eq_of_toNat_eq e)
   ·exact .inr (.inl (BitVec.eq_of_toNat_eq e))
   ·exact .inr (.inr (BitVec.eq_of_toNat_eq e))
  refine ⟨.inr hk,fun e =>?_,fun e =>?_,fun _=>rfl⟩
  ·have e:k=3#8:=e
   obtain ⟨a,b⟩:=h3 e
   have ht:(Nd.made inn k text).text=text:=by simp [Nd.made,e]
   rw [ht]
   refine ⟨fun e0=>a (by rw [e0]; decide),by omega⟩
  ·have e:k≠3#8:=e
   simp [Nd.made,e]
 data:=fun x d hk h=>⟨h.kind,h.text,h.notext,fun e=>(e hk).elim⟩
abbrev Tr.KD (T:Tr):Prop:=T.Each Nd.KD
theorem Tr.KD.new (limit:Int):(Tr.new limit).KD:=Tr.Each.new limit keeps_KD.none ⟨.inr (.inr (.inl rfl)),by simp,by simp [Nd.none],by simp [Nd.none]⟩
end Go.AM
end
section
namespace Go.AM
section
variable {E:Sy} {X:List Res} {H H' H0 Z:AH} {Q:Value->AH->Prop} {w p m:Nat} {T T':Tr} {M M':List MntD} {nx nx':Int} {L:LyL}
abbrev Tr.CO (T:Tr):Prop := -9223372036854775808<=T.change/\T.change<9223372036854775806
theorem Ino.cMake (hE:Fold E) (h:Ino H p m L T) (wf:T.WF) (n:BitVec 16) (s:NameL) (hs:s.length<2 ^ 63) (k:BitVec 8) (text:List UInt8) (ht:text.length<2 ^ 63) (hc:T.CO)
  (hQ:∀ L' H',UpdI p m L T L' (T.make n s k text).1 H H'->Q (.tuple #[u16 (T.make n s k text).2.1,vi (T.make n s k text).2.2]) H'):E.call (E.fid i.f10) [ptr p 0,u16 n,str s,u8 k,str text] H Q:=by
 have hlen:=wf.len16
 have hl2:=wf.len.1
 exact S.f10 hE h n s hs k text ht ⟨hc.1,by have:=hc.2; omega⟩ ⟨by omega,by omega⟩ (fun _ r=>wf.chain ⟨(Tr.room_ok r).1,(Tr.room_ok r).2.2.1⟩ 17) fun L1 H1 _ u1=>hQ _ _ u1
theorem Tr.KD.lt (h:T.KD):T.LT:=fun n hk=>(h n).text hk
theorem tab0_atOk:AtOk T tab0:=by
 intro m hm h
 simp [tab0] at hm
 subst hm
 exact (h rfl).elim
end
end Go.AM
end
section
namespace Go.AM
structure SetD where
 h:BitVec 16
 paths:List (BitVec 16×BitVec 16)
 ports:List (BitVec 16×BitVec 16)
abbrev getR (n:BitVec 16) (l:List (BitVec 16×BitVec 16)):BitVec 16:=(l.lookup n).getD 0#16
def fitsR (dir:Bool) (r:BitVec 16):BitVec 16:=if dir then r&&&2047#16 else r&&&1031#16
def addR (n r:BitVec 16) (l:List (BitVec 16×BitVec 16)):List (BitVec 16×BitVec 16):=aset n (getR n l|||r) l
def ofStep (T:Tr) (M:List MntD) (cwd:PlaceD) (l:List (BitVec 16×BitVec 16)) (b:List UInt8×BitVec 16):List (BitVec 16×BitVec 16)×Int :=
 if (findW T M cwd b.1 true).2≠0 then (l,(findW T M cwd b.1 true).2)
 else if fitsR (decide ((T.node (findW T M cwd b.1 true).1.i).kind=2#8)) b.2≠b.2 then (l,22)
 else (addR (findW T M cwd b.1 true).1.i b.2 l,0)
def ofPaths (T:Tr) (M:List MntD) (cwd:PlaceD):List (BitVec 16×BitVec 16)->List (List UInt8×BitVec 16)->List (BitVec 16×BitVec 16)×Int
 | l,[]=>(l,0)
 | l,b :: bs=>if (ofStep T M cwd l b).2≠0 then ofStep T M cwd l b else ofPaths T M cwd (ofStep T M cwd l b).1 bs
def ofPorts (ps:List (BitVec 16×BitVec 16)):List (BitVec 16×BitVec 16):=ps.foldl (fun l x=>addR x.1 x.2 l) []
def PolX.set (T:Tr) (M:List MntD) (cwd:PlaceD) (x:PolX):SetD×Int:=(⟨x.handled,(ofPaths T M cwd [] x.paths).1,ofPorts x.ports⟩,(ofPaths T M cwd [] x.paths).2)
def SetD.at_ (d:SetD) (n:BitVec 16):BitVec 16:=getR n d.paths
def SetD.granted (d:SetD) (n:BitVec 16) (above:List PlaceD):BitVec 16:=above.foldl (fun r p=>r|||d.at_ p.i) (d.at_ n)
def SetD.denied (d:SetD) (want n:BitVec 16) (above:List PlaceD):BitVec 16:=(want&&&d.h) &&& ~~~ d.granted n above
def SetAt (H:AH) (s:Nat) (d:SetD):Prop:=∃ r1 r2,H.get s = .cells [u16 d.h,.map (some r1),.map (some r2)] none/\MapAt u16 u16 H r1 d.paths/\MapAt u16 u16 H r2 d.ports
section
variable {E:Sy} {X:List Res} {H H' H0 Z:AH} {Q:Value->AH->Prop} {t w:Nat} {T T':Tr} {M M':List MntD} {nx nx':Int} {L:List Res} {s:Nat} {d:SetD}
theorem SetAt.mono (h:SetAt H s d) (e:Ext H H'):SetAt H' s d:=by
 obtain ⟨r1,r2,h1,h2,h3⟩:=h
 exact ⟨r1,r2,e.cells h1,h2.keep (e.get h2.lt),h3.keep (e.get h3.lt)⟩
theorem look_u16 {r:Nat} {l:List (BitVec 16×BitVec 16)} (h:MapAt u16 u16 H r l) (n:BitVec 16):look 0 (.int .u16 0) false (.map (some r)) (u16 n) H=some (u16 (getR n l)):=by
 have:=h.look (kd:=0) (fun a b=>same_u16 a b) n (.int .u16 0) false
 rw [this]
 unfold getR
 cases l.lookup n <;> rfl
theorem S.f41 (hE:Fold E) (r:BitVec 16) (dir:Bool) (hQ:Q (u16 (fitsR dir r)) H):E.call (E.fid i.f41) [u16 r,vb dir] H Q:=by
 apply hE.f41
 cases dir <;> simpa [F.f41,fitsR] using hQ
theorem S.f46 (hE:Fold E) (h:SetAt H s d) (hQ:Q (u16 d.h) H):E.call (E.fid i.f46) [ptr s 0] H Q:=by
 apply hE.f46
 obtain ⟨r1,r2,h1,h2,h3⟩:=h
 simp only [F.f46,nilq_p,h1,stdZ]
 exact hQ
theorem S.f43 (hE:Fold E) (h:SetAt H s d) (n:BitVec 16) (hQ:Q (u16 (d.at_ n)) H):E.call (E.fid i.f43) [ptr s 0,u16 n] H Q:=by
 apply hE.f43
 obtain ⟨r1,r2,h1,h2,h3⟩:=h
 simp only [F.f43,nilq_p,h1,look_u16 h2,stdZ]
 exact hQ
theorem S.f45 (hE:Fold E) (h:SetAt H s d) (n:BitVec 16) (v:Value) (l:List PlaceD) (hv:Rows H 2 v (placeR l)) (hl:l.length<2 ^ 63) (hQ:∀ H',Ext H H'->Q (u16 (d.granted n l)) H'):E.call (E.fid i.f45) [ptr s 0,u16 n,v] H Q:=by
 apply hE.f45
 simp only [F.f45]
 refine S.f43 hE h n ?_
 have hls:=hv.lenSlc
 rw [placeR_length] at hls
 simp only [hls,stdZ]
 unfold SetD.granted at hQ
 refine LoopL.count l.length (fun j ls H'=>ls=[ptr s 0,u16 ((l.take j).foldl (fun r p=>r|||d.at_ p.i) (d.at_ n)),v,vi l.length,vi j]/\Ext H H') ?_ ⟨rfl,Ext.refl _⟩
 rintro j _ H1 X hj hX ⟨rfl,e1⟩
 rcases Nat.lt_or_ge j l.length with hjl | hjl
 ·have hX:=hX hjl
  have hjl':(j:Int)<l.length:=by omega
  have hjj:=i64_inc (i:=j) (by omega)
  obtain ⟨b,o,f1,f2⟩:=(hv.mono e1).ix (i:=j) (by rw [placeR_length]; exact hjl)
  have hrow:(placeR l)[j]'(by rw [placeR_length]; exact hjl)=(l[j]).cells:=by simp [placeR]
  rw [hrow] at f2
  rw [List.take_succ_eq_append_getElem hjl,List.foldl_append,List.foldl_cons,List.foldl_nil] at hX
  generalize l[j]=p at *
  have hlo:loadN 2 (ptr b o) H1=some p.v:=by rw [loadN_ptr,f2]; rfl
  have hz2:([(.int .i64 0),(.int .u16 0)]:List Value)=PlaceD.zero.cells:=rfl
  have hst:storeN 2 (ptr H1.next 0) p.v (H1.new (.cells PlaceD.zero.cells none))=some (H1.new (.cells p.cells none)):=by
   rw [storeN_ptr,AH.get_new_self]
   have:AM.splice PlaceD.zero.cells 0 p.cells=p.cells:=rfl
   simp only [List.size_toArray,List.toList_toArray,show p.cells.length=2 from rfl,show PlaceD.zero.cells.length=2 from rfl,show p.cells.all plain1=true from rfl,Nat.zero_add,Nat.le_refl,and_self,if_true,this,AH.new_put]
  have x2:Ext H1 (H1.new (.cells p.cells none)):=(Ext.refl _).new _
  have c1:p.cells[1]? = some (u16 p.i):=rfl
  simp only [F.f45_l1,i64_lss,hjl',decide_true,f1,hlo,allocW_eq,hz2,hst,AH.get_new_self,c1,stdZ]
  refine S.f43 hE (h.mono (e1.trans x2)) p.i ?_
  simp only [u16_or,hjj,stdZ]
  exact hX _ _ ⟨rfl,e1.trans x2⟩
 ·have hjl':¬ (j:Int)<l.length:=by omega
  rw [List.take_of_length_le hjl]
  simp only [F.f45_l1,i64_lss,hjl',decide_false,stdZ]
  exact hQ _ e1
theorem S.f44 (hE:Fold E) (h:SetAt H s d) (want n:BitVec 16) (v:Value) (l:List PlaceD) (hv:Rows H 2 v (placeR l)) (hl:l.length<2 ^ 63) (hQ:∀ H',Ext H H'->Q (u16 (d.denied want n l)) H'):E.call (E.fid i.f44) [ptr s 0,u16 want,u16 n,v] H Q:=by
 apply hE.f44
 simp only [F.f44]
 refine S.f46 hE h ?_
 simp only [u16_and,stdZ]
 refine S.f45 hE h n v l hv hl fun H1 e1 =>?_
 simp only [u16_andNot,stdZ]
 exact hQ _ e1
end
end Go.AM
end
section
namespace Go.AM
def AH.since (H:AH) (n:Nat):AH:=⟨if n<H.next then H.next else 0,fun b=>if b<n then .dead else H.get b⟩
theorem AH.get_since (H:AH) (n b:Nat):(H.since n).get b=if n<=b then H.get b else .dead:=by
 unfold AH.since
 simp only [AH.get]
 by_cases h:n<=b
 ·have h1:¬ b<n:=by omega
  rw [if_pos h]
  simp only [h1,if_false]
  by_cases hb:b<H.next
  ·have hn:n<H.next:=by omega
   simp [hb,hn]
  ·simp [hb]
 ·have h1:b<n:=by omega
  rw [if_neg h]
  simp [h1]
theorem AH.since_get {H:AH} {n b:Nat} (h:n<=b):(H.since n).get b=H.get b:=by rw [AH.get_since,if_pos h]
theorem since_sub (H:AH) (n:Nat):Sub (H.since n) H:=by
 constructor
 ·unfold AH.since
  simp only
  split <;> omega
 ·intro b hb
  rw [AH.get_since] at hb ⊢
  split at hb
  ·rename_i h; rw [if_pos h]
  ·exact (hb rfl).elim
theorem since_mono {H H':AH} {n n':Nat} (hn:n<=n') (e:Ext H H'):Sub (H.since n') (H'.since n):=by
 constructor
 ·unfold AH.since
  simp only
  have:=e.1
  split <;> split <;> omega
 ·intro b hb
  rw [AH.get_since] at hb ⊢
  split at hb
  ·rename_i h
   have hb':H.get b ≠ .dead:=hb
   rw [if_pos (show n<=b by omega)]
   simp only [AH.get_since,h,if_true]
   exact e.get (AH.lt_of_get hb')
  ·exact (hb rfl).elim
end Go.AM
end
