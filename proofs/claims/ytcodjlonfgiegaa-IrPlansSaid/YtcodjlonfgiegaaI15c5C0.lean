/- CONTRACTS ON THE PRINTED FUNCTIONS. -/
import Derived.Test.YtcodjlonfgiegaaI15c5F
set_option linter.all false
section
namespace Go.AM
variable {E:Sy} {H:AH} {Q:Value->AH->Prop}
def akind (a:BitVec 32):BitVec 32 :=
 if a&&&4294901760#32=327680#32 then 327680#32 else if a&&&4294901760#32=2147221504#32 then 2147221504#32 else if a&&&4294901760#32=2147418112#32 then 2147418112#32 else 2147483648#32
theorem S.f30 (hE:Fold E) (a:BitVec 32) (hQ:Q (u32 (akind a)) H):E.call (E.fid i.f30) [u32 a] H Q:=by
 apply hE.f30
 simp [F.f30,F.f30_j1,ifB_dec]
 unfold akind at hQ
 repeat' split at hQ
 all_goals (first | (simp [*]; done) | (simp [*]; exact hQ))
def astrength (a:BitVec 32):Int :=
 if akind a=2147483648#32 then 3 else if akind a=327680#32 then 2 else if akind a=2147221504#32 then 1 else 0
def afail (e:Int):BitVec 32:=327680#32|||BitVec.ofInt 32 (if 4095<(if 0 > e then 0 else e) then 4095 else (if 0 > e then 0 else e))
theorem S.f31 (hE:Fold E) (e:Int) (hQ:Q (u32 (afail e)) H):E.call (E.fid i.f31) [vi e] H Q:=by
 apply hE.f31
 simp [F.f31]
 exact hQ
def rstrength (a:BitVec 32):Int:=if a / 65536#32=5#32 then 2 else if a / 65536#32=32764#32 then 1 else if a / 65536#32=32767#32 then 0 else 3
theorem S.f29 (hE:Fold E) (a:BitVec 32) (hQ:Q (vi (rstrength a)) H):E.call (E.fid i.f29) [u32 a] H Q:=by
 apply hE.f29
 simp [F.f29,ifB_dec]
 unfold rstrength at hQ
 repeat' split at hQ
 all_goals (first | (simp [*]; done) | (simp [*]; exact hQ))
end Go.AM
end
section
namespace Go.AM
variable {E:Sy} {H:AH} {Q:Value->AH->Prop}
theorem land_high (x k w:Nat) (h:x<2 ^ w):x&&&((2 ^ (w - k) - 1) <<< k)=(x / 2 ^ k)*2 ^ k:=by
 rw [<- Nat.shiftLeft_eq,<- Nat.shiftRight_eq_div_pow]
 apply Nat.eq_of_testBit_eq
 intro i
 simp only [Nat.testBit_and,Nat.testBit_shiftLeft,Nat.testBit_shiftRight,Nat.testBit_two_pow_sub_one]
 by_cases hk:k<=i
 ·by_cases hw:i<w
  ·simp [hk,show i - k<w - k by omega,show k+(i - k)=i by omega]
  ·have:x.testBit i=false:=Nat.testBit_lt_two_pow (Nat.lt_of_lt_of_le h (Nat.pow_le_pow_right (by omega) (by omega)))
   simp [hk,this,show k+(i - k)=i by omega]
 ·simp [hk]
end Go.AM
end
section
namespace Go.AM
variable {E:Sy} {H:AH} {Q:Value->AH->Prop}
structure CondD where
 arg:Int
 op:BitVec 8
 mask:BitVec 64
 value:BitVec 64
def CondD.cells (c:CondD):List Value:=[vi c.arg,u8 c.op,u64 c.mask,u64 c.value]
abbrev CondD.v (c:CondD):Value := .agg c.cells.toArray
def holdsOf (op:Nat) (mask value a:BitVec 64):Bool :=
 if op=1 then decide (a=value) else if op=2 then decide (a≠value) else if op=3 then decide (a.toNat<value.toNat) else if op=4 then decide (a.toNat<=value.toNat)
 else if op=5 then decide (value.toNat<a.toNat) else if op=6 then decide (value.toNat<=a.toNat) else if op=7 then decide (a&&&mask=value) else false
def argAt (l:List (BitVec 64)) (n:Nat):BitVec 64:=l.getD n 0
def holds (c:CondD) (args:List (BitVec 64)):Bool:=if c.arg<0\/5<c.arg then false else holdsOf c.op.toNat c.mask c.value (argAt args c.arg.toNat)
end Go.AM
end
section
namespace Go.AM
def Only (F:List Nat) (H H':AH):Prop:=H.next<=H'.next/\∀ b,b<H.next->b ∉ F->H'.get b=H.get b
theorem Only.refl (F:List Nat) (H:AH):Only F H H:=⟨Nat.le_refl _,fun _ _ _=>rfl⟩
theorem Only.trans {F F':List Nat} {H H' H'':AH} (h:Only F H H') (h':Only F' H' H'') (hs:∀ b∈F',b∈F\/H.next<=b):Only F H H'' :=
 ⟨Nat.le_trans h.1 h'.1,fun b hb hf=>by
  rw [h'.2 b (Nat.lt_of_lt_of_le hb h.1) (fun k=>(hs b k).elim hf (fun k=>by omega)),h.2 b hb hf]⟩
theorem Only.trans' {F:List Nat} {H H' H'':AH} (h:Only F H H') (h':Only F H' H''):Only F H H'':=h.trans h' fun _ k => .inl k
theorem Only.new {F:List Nat} {H H':AH} (h:Only F H H') (o:AObj):Only F H (H'.new o) :=
 ⟨Nat.le_succ_of_le h.1,fun b hb hf=>by rw [AH.get_new_lt _ _ (Nat.lt_of_lt_of_le hb h.1)]; exact h.2 b hb hf⟩
theorem Only.put {F:List Nat} {H H':AH} (h:Only F H H') {b:Nat} (hb:b∈F\/H.next<=b) (o:AObj):Only F H (H'.put b o) :=
 ⟨h.1,fun x hx hf=>by rw [AH.get_put_ne _ _ (by rintro rfl; exact hb.elim hf (fun k=>by omega))]; exact h.2 x hx hf⟩
theorem Ext.only {F:List Nat} {H H':AH} (h:Ext H H'):Only F H H':=⟨h.1,fun b hb _=>h.2 b hb⟩
theorem Only.get {F:List Nat} {H H':AH} (h:Only F H H') {b:Nat} (hb:b<H.next) (hf:b ∉ F):H'.get b=H.get b:=h.2 b hb hf
theorem Only.ext {F:List Nat} {H0 H H':AH} (h:Only F H H') (e:Ext H0 H) (hs:∀ b∈F,H0.next<=b):Ext H0 H' :=
 ⟨Nat.le_trans e.1 h.1,fun b hb=>by rw [h.2 b (Nat.lt_of_lt_of_le hb e.1) (fun k=>by have:=hs b k; omega)]; exact e.2 b hb⟩
def Sub (Z H:AH):Prop:=Z.next<=H.next/\∀ b,Z.get b ≠ .dead->H.get b=Z.get b
theorem Sub.refl (H:AH):Sub H H:=⟨Nat.le_refl _,fun _ _=>rfl⟩
theorem Ext.sub {H H':AH} (e:Ext H H'):Sub H H':=⟨e.1,fun _ hb=>e.get (AH.lt_of_get hb)⟩
theorem Sub.trans {A B C:AH} (h:Sub A B) (h':Sub B C):Sub A C:=⟨Nat.le_trans h.1 h'.1,fun b hb=>by rw [h'.2 b (by rw [h.2 b hb]; exact hb),h.2 b hb]⟩
theorem Sub.ext {Z H H':AH} (h:Sub Z H) (e:Ext H H'):Sub Z H':=h.trans e.sub
theorem Sub.new {Z H:AH} (h:Sub Z H) (o:AObj):Sub Z (H.new o):=h.ext ((Ext.refl H).new o)
theorem Sub.only {Z H H':AH} {F:List Nat} (h:Sub Z H) (o:Only F H H') (hF:∀ b∈F,Z.get b = .dead):Sub Z H' :=
 ⟨Nat.le_trans h.1 o.1,fun b hb=>by
  have h1:=h.2 b hb
  rw [o.2 b (AH.lt_of_get (by rw [h1]; exact hb)) (fun k=>hb (hF b k)),h1]⟩
theorem Sub.cells {Z H:AH} (h:Sub Z H) {b:Nat} {c:List Value} {f:Option Nat} (hb:Z.get b = .cells c f):H.get b = .cells c f:=by
 rw [h.2 b (by rw [hb]; simp),hb]
theorem AH.get_ge (H:AH) {b:Nat} (h:H.next<=b):H.get b = .dead:=by simp [AH.get,Nat.not_lt.2 h]
theorem Rows.sub {Z H:AH} {sz:Nat} {v:Value} {rows:List (List Value)} (h:Rows Z sz v rows) (e:Sub Z H):Rows H sz v rows:=by
 refine ⟨h.len,?_⟩
 rcases h.at_ with h | ⟨b,o,c,h1,h2,h3,h4⟩
 ·exact .inl h
 ·have:=e.2 b (row_notdead h4)
  exact .inr ⟨b,o,c,h1,h2,by rw [this]; exact h3,by rw [this]; exact h4⟩
def AH.freeze (Z:AH) (n b:Nat) (o:AObj):AH:={ next:=n,raw:=fun x=>if x=b then o else Z.get x }
theorem AH.get_freeze (Z:AH) (n b:Nat) (o:AObj) (x:Nat) (hn:Z.next<=n) (hb:b<n):(Z.freeze n b o).get x=if x=b then o else Z.get x:=by
 by_cases h:x=b
 ·subst h; simp [AH.get,AH.freeze,hb]
 ·by_cases k:x<n
  ·simp [AH.get,AH.freeze,h,k]
  ·have:¬ x<Z.next:=by omega
   simp [AH.get,AH.freeze,h,k,this]
theorem Sub.freeze {Z H:AH} (h:Sub Z H) {b:Nat} (hb:b<H.next):Sub (Z.freeze H.next b (H.get b)) H :=
 ⟨Nat.le_refl _,fun x hx=>by
  rw [AH.get_freeze _ _ _ _ _ h.1 hb] at hx ⊢
  split
  ·rename_i e; rw [e]
  ·rename_i e; rw [if_neg e] at hx; exact h.2 x hx⟩
theorem Sub.to_freeze {Z H:AH} (h:Sub Z H) {b:Nat} (hb:b<H.next):Sub Z (Z.freeze H.next b (H.get b)) :=
 ⟨h.1,fun x hx=>by
  rw [AH.get_freeze _ _ _ _ _ h.1 hb]
  split
  ·rename_i e; rw [<- h.2 x hx,e]
  ·rfl⟩
def Grow (Z H:AH) (sz:Nat) (v:Value) (rows:List (List Value)):Prop :=
 (∀ r∈rows,r.length=sz/\r.all plain1=true)/\((rows=[]/\v=nilS)\/∃ b f c cs,Z.get b = .dead/\v=slc b 0 rows.length c/\H.get b = .cells cs f/\rows.length<=c/\cs.length=c*sz/\cs.take (rows.length*sz)=rows.flatten /\
  (f=none\/f=some sz))
section
variable {Z H H':AH} {sz:Nat} {v:Value} {rows:List (List Value)}
theorem Grow.nil (Z H:AH) (sz:Nat):Grow Z H sz nilS []:=⟨by simp,.inl ⟨rfl,rfl⟩⟩
theorem Grow.made {b n:Nat} {f:Option Nat} (hb:Z.get b = .dead) (hg:H.get b = .cells rows.flatten f) (hf:f=none\/f=some sz) (hn:rows.length=n) (hr:∀ r∈rows,r.length=sz/\r.all plain1=true):Grow Z H sz (slc b 0 n n) rows:=by
 subst hn
 have hfl:=flatten_length rows fun r h=>(hr r h).1
 exact ⟨hr,.inr ⟨b,f,rows.length,rows.flatten,hb,rfl,hg,Nat.le_refl _,hfl,by rw [<- hfl,List.take_length],hf⟩⟩
theorem Grow.toRows (h:Grow Z H sz v rows):Rows H sz v rows:=by
 rcases h.2 with ⟨rfl,rfl⟩ | ⟨b,f,c,cs,h1,rfl,h3,h4,h5,h6,h7⟩
 ·exact Rows.nil _ _ none
 ·refine ⟨fun r hr=>(h.1 r hr).1,.inr ⟨b,0,c,rfl,h4,?_,?_⟩⟩
  ·rw [h3]; rcases h7 with rfl | rfl <;> simp [fits]
  ·have:rows.length*sz<=c*sz:=Nat.mul_le_mul_right _ h4
   rw [h3,row_cells,if_pos (by omega),List.drop_zero,h6]
theorem Grow.plain (h:Grow Z H sz v rows):plain1 v=true:=by
 rcases h.2 with ⟨_,rfl⟩ | ⟨b,f,c,cs,h1,rfl,_⟩ <;> rfl
theorem Grow.keep (h:Grow Z H sz v rows) (e:∀ b,blk v=some b->b<H.next->H'.get b=H.get b):Grow Z H' sz v rows:=by
 refine ⟨h.1,?_⟩
 rcases h.2 with h | ⟨b,f,c,cs,h1,rfl,h3,h4⟩
 ·exact .inl h
 ·exact .inr ⟨b,f,c,cs,h1,rfl,by rw [e b rfl (AH.lt_cells h3)]; exact h3,h4⟩
theorem Grow.ext (h:Grow Z H sz v rows) (e:Ext H H'):Grow Z H' sz v rows:=h.keep fun b _ hb=>e.get hb
theorem Grow.blk_lt (h:Grow Z H sz v rows) {b:Nat} (hb:blk v=some b):b<H.next:=by
 rcases h.2 with ⟨_,rfl⟩ | ⟨b',f,c,cs,h1,rfl,h3,_⟩
 ·simp [blk] at hb
 ·simp [blk] at hb; subst hb; exact AH.lt_cells h3
def blkL (v:Value):List Nat:=match blk v with | some b=>[b] | none=>[]
theorem mem_blkL {v:Value} {b:Nat}:b∈blkL v↔blk v=some b:=by
 unfold blkL
 cases blk v <;> simp [eq_comm]
def Grew' (H H':AH) (v v':Value):Prop:=Only (blkL v) H H'/\∀ b,blk v'=some b->blk v=some b\/H.next<=b
theorem Grow.app (h:Grow Z H sz v rows) (hZ:Z.next<=H.next) {bytes:Nat} {x:Value} {new:List (List Value)} (hx:Rows H sz x new) (hp:∀ r∈new,r.all plain1=true)
  (hs:sz≠0) (hb:bytes≠0) (h1:(rows.length+new.length)*bytes<=2 ^ 46) (h2:rows.length+new.length<2 ^ 62) :
  ∃ v' H',AM.app sz bytes v x H=some (v',H')/\Grow Z H' sz v' (rows++new)/\Grew' H H' v v':=by
 have hrows:=h.toRows
 have hall:∀ r∈rows++new,r.length=sz/\r.all plain1=true:=by
  intro r hr
  rcases List.mem_append.1 hr with hr | hr
  ·exact h.1 r hr
  ·exact ⟨hx.len r hr,hp r hr⟩
 have hpn:new.flatten.all plain1=true:=all_flatten hp
 have hpo:rows.flatten.all plain1=true:=all_flatten fun r hr=>(h.1 r hr).2
 have hfn:=flatten_length new hx.len
 have hfo:=flatten_length rows fun r hr=>(h.1 r hr).1
 have hnew:srcRow sz new.length x H=some new.flatten:=firstRow_rows hx
 rcases h.2 with ⟨rfl,rfl⟩ | ⟨b,f,c,cs,g1,rfl,g3,g4,g5,g6,g7⟩
 ·by_cases hn:new=[]
  ·subst hn
   refine ⟨nilS,H,?_,⟨by simp,.inl ⟨rfl,rfl⟩⟩,Only.refl _ _,fun b hb => .inl hb⟩
   have e:=lenO_rows hx
   simp at e hnew
   simp [AM.app,e,hnew]
  ·have hpos:0<new.length:=List.length_pos_iff.2 hn
   refine ⟨slc H.next 0 new.length new.length,H.new (.cells new.flatten (some sz)),?_,Grow.made (AH.get_ge _ hZ) (AH.get_new_self _ _) (.inr rfl) (by simp) (by simpa using hall),(Only.refl _ _).new _,fun b hb => .inr (by simp [blk] at hb; omega)⟩
   simp only [AM.app,lenO_rows hx,hnew,Option.bind_some,hpn,Bool.not_true,Bool.false_eq_true,if_false]
   simp at h1 h2
   rw [if_neg (by omega),if_neg (by simp; omega)]
   simp [firstRow]
 ·have hlt:=AH.lt_cells g3
  have hbl:blkL (slc b 0 rows.length c)=[b]:=rfl
  have hmul:(rows.length+new.length)*sz=rows.length*sz+new.length*sz:=Nat.add_mul _ _ _
  by_cases hcap:rows.length+new.length<=c
  ·have hle:(rows.length+new.length)*sz<=c*sz:=Nat.mul_le_mul_right _ hcap
   refine ⟨slc b 0 (rows.length+new.length) c,H.put b (.cells (splice cs (rows.length*sz) new.flatten) f),?_,⟨hall,.inr ⟨b,f,c,_,g1,by simp,AH.get_put_self _ _ hlt,by simpa using hcap,?_,?_,?_⟩⟩,(Only.refl _ _).put (.inl (by simp [hbl])) _,fun b' hb' => .inl (by simpa [blk] using hb')⟩
   ·simp only [AM.app,lenO_rows hx,hnew,Option.bind_some,hpn,Bool.not_true,Bool.false_eq_true,if_false]
    rw [if_pos hcap]
    simp only [Option.isSome_none,Bool.false_eq_true,if_false,g3]
    rw [if_pos (by omega),Nat.zero_add]
   ·rw [splice_length (by omega)]; exact g5
   ·simp only [List.length_append,List.flatten_append,hmul,splice]
    rw [List.take_append_of_le_length (by rw [List.length_append,List.length_take,hfn]; omega),List.take_of_length_le (by rw [List.length_append,List.length_take,hfn]; omega),g6]
   ·exact g7
  ·have hold:firstRow sz rows.length (slc b 0 rows.length c) H=some rows.flatten:=by
    have:rows.length*sz<=c*sz:=Nat.mul_le_mul_right _ g4
    simp only [firstRow,Option.isSome_none,Bool.false_eq_true,if_false,g3,row_cells]
    rw [if_pos (by omega),List.drop_zero,g6]
   have hfin:∀ H1:AH,H1.next=H.next->AM.app sz bytes (slc b 0 rows.length c) x H=some (mkSlc (rows.length+new.length) (rows.length+new.length) H.next,H1.new (.cells (rows.flatten++new.flatten) (some sz))) ->
     Only [b] H H1 ->
     ∃ v' H',AM.app sz bytes (slc b 0 rows.length c) x H=some (v',H')/\Grow Z H' sz v' (rows++new)/\Grew' H H' (slc b 0 rows.length c) v':=by
    intro H1 e1 e2 e3
    exact ⟨_,_,e2,Grow.made (AH.get_ge _ hZ) (by rw [<- e1,AH.get_new_self,List.flatten_append]) (.inr rfl) (by simp) hall,by rw [hbl]; exact e3.new _,fun b' hb' => .inr (by simp [blk] at hb'; omega)⟩
   have pre:AM.app sz bytes (slc b 0 rows.length c) x H=(match f with
     | none=>some (mkSlc (rows.length+new.length) (rows.length+new.length) H.next,H.new (.cells (rows.flatten++new.flatten) (some sz)))
     | some e=>if e=sz then some (mkSlc (rows.length+new.length) (rows.length+new.length) H.next,(H.put b .dead).new (.cells (rows.flatten++new.flatten) (some sz))) else none):=by
    simp only [AM.app,lenO_rows hx,hnew,Option.bind_some,hpn,Bool.not_true,Bool.false_eq_true,if_false]
    rw [if_neg hcap,if_neg (by omega),hold]
    simp only [Option.bind_some,hpo,Bool.not_true,Bool.false_eq_true,if_false,g3]
    cases f <;> rfl
   rcases g7 with rfl | rfl
   ·exact hfin H rfl pre (Only.refl _ _)
   ·exact hfin (H.put b .dead) rfl (by rw [pre]; simp) ((Only.refl _ _).put (.inl (by simp)) _)
theorem Grow.app1 (h:Grow Z H sz v rows) (hZ:Z.next<=H.next) {bytes:Nat} (new:List Value) (hl:new.length=sz) (hp:new.all plain1=true) (hs:sz≠0) (hb:bytes≠0) (h1:(rows.length+1)*bytes<=2 ^ 46) :
  ∃ v' H',AM.app sz bytes v (slc H.next 0 1 1) (H.new (.cells new none))=some (v',H')/\Grow Z H' sz v' (rows++[new])/\Grew' H H' v v':=by
 have hb1:1<=bytes:=by omega
 have h2:(rows.length+1)*1<=(rows.length+1)*bytes:=Nat.mul_le_mul_left _ hb1
 obtain ⟨v',H',a1,a2,a3,a4⟩:=(h.ext ((Ext.refl H).new (.cells new none))).app (Nat.le_succ_of_le hZ) (bytes:=bytes) (x:=slc H.next 0 1 1) (new:=[new]) (Rows.made (f:=none) (by rw [AH.get_new_self]; simp) (.inl rfl) rfl (by simpa using hl)) (by simpa using hp) hs hb h1 (by simp at *; omega)
 refine ⟨v',H',a1,a2,⟨by have:=a3.1; simp at this; omega,fun b hb hf =>?_⟩,fun b hb=>(a4 b hb).imp id fun k=>by simp at k; omega⟩
 rw [a3.2 b (by simp; omega) hf,AH.get_new_lt _ _ hb]
end
theorem row_all (c:List Value) (f:Option Nat) (n:Nat) (h:c.length=n):(AObj.cells c f).row 0 n=some c:=by
 rw [row_cells,if_pos (by omega),List.drop_zero,List.take_of_length_le (by omega)]
theorem splice_mid (a b c v:List Value) (h:b.length=v.length):splice (a++b++c) a.length v=a++v++c:=by
 have h1:(a++b++c).take a.length=a:=by rw [List.append_assoc,List.take_left' rfl]
 have h2:(a++b++c).drop (a.length+v.length)=c:=by rw [<- h,<- List.length_append,List.drop_left' rfl]
 simp only [splice,h1,h2]
theorem fillL_full (size:Nat):∀ (vs:List Value) (k:Nat) (pre post:List Value),pre.length=k*size->post.length=vs.length*size->(∀ v∈vs,(vcells v).length=size) ->
  fillL (fun i=>some (i*size,size)) (pre++post) ((List.range' k vs.length).zip vs)=some (pre++vs.flatMap vcells)
 | [],k,pre,post,_,h2,_=>by
  simp at h2
  simp [h2]
 | v :: vs,k,pre,post,h1,h2,h3=>by
  have hv:=h3 v (by simp)
  have e:post=post.take size++post.drop size:=(List.take_append_drop _ _).symm
  have hl:(post.take size).length=size:=by rw [List.length_take,h2,List.length_cons,Nat.succ_mul]; omega
  have hs:splice (pre++post) (k*size) (vcells v)=(pre++vcells v)++post.drop size:=by
   conv=>lhs; rw [e]
   rw [<- h1,<- List.append_assoc,splice_mid _ _ _ _ (by omega)]
  simp only [List.length_cons,List.range'_succ,List.zip_cons_cons,fillL_cons]
  rw [hv,hs]
  have ih:=fillL_full size vs (k+1) (pre++vcells v) (post.drop size) (by rw [List.length_append,h1,hv,Nat.succ_mul]) (by rw [List.length_drop,h2,List.length_cons,Nat.succ_mul]; omega) (fun x hx=>h3 x (by simp [hx]))
  rw [ih]
  have hle:k*size+size<=pre.length+post.length:=by rw [h1,h2,List.length_cons,Nat.succ_mul]; omega
  simp [hle]
theorem buildS_full (len size:Nat) (zero:List Value) (parts:List (Nat×Value)) (vs:List Value) (hz:zero.length=size) (hp:parts=(List.range' 0 vs.length).zip vs) (hn:vs.length=len) (hd:vs.all defd=true) (hl:∀ v∈vs,(vcells v).length=size) :
  buildS len size zero.toArray parts=some (.cells (vs.flatMap vcells) none,mkSlc len len):=by
 subst hp hn
 rw [buildS_eq _ _ _ _ hz]
 have h1:((List.range' 0 vs.length).zip vs).all (fun p=>defd p.2)=true:=by
  rw [List.all_eq_true] at hd ⊢
  intro p hp
  exact hd _ (List.of_mem_zip hp).2
 have:=fillL_full size vs 0 [] (List.replicate vs.length zero).flatten (by simp) (by simp [hz]) hl
 simp only [List.nil_append] at this
 simp [h1,this]
 rfl
theorem buildS_one (size:Nat) (zero cs:List Value) (hz:zero.length=size) (h:cs.length=size):buildS 1 size zero.toArray [(0,.agg cs.toArray)]=some (.cells cs none,mkSlc 1 1):=by
 have:=buildS_full 1 size zero [(0,.agg cs.toArray)] [.agg cs.toArray] hz rfl rfl rfl (by simpa using h)
 simpa using this
@[simp] theorem callV_func (c:CallT) (g:FuncId) (a b:Array Value) (args:List Value) (H:AH) (K:Value->AH->Prop):callV c (.func (.func g) a b) args H K=c g (a.toList++args++b.toList) H K:=nrfl rfl
theorem nodup_le {α:Type} [DecidableEq α]:∀ (l m:List α),l.Nodup->(∀ x∈l,x∈m)->l.length<=m.length
 | [],m,_,_=>Nat.zero_le _
 | x :: l,m,hn,hs=>by
  have hx:=hs x (by simp)
  rw [List.nodup_cons] at hn
  have:=nodup_le l (m.erase x) hn.2 fun y hy=>(List.mem_erase_of_ne (by rintro rfl; exact hn.1 hy)).2 (hs y (by simp [hy]))
  rw [List.length_erase_of_mem hx] at this
  have:=List.length_pos_of_mem hx
  simp only [List.length_cons]
  omega
theorem lookup_set {K:Type} [DecidableEq K] {V:Type} (k:K):∀ l:List (K×V),(l.map fun p=>(p.1,true)).lookup k=if k∈l.map Prod.fst then some true else none
 | []=>rfl
 | p :: l=>by
  have ih:=lookup_set k l
  by_cases e:k=p.1
  ·simp [e,List.lookup]
  ·have e':(k == p.1)=false:=by simpa using e
   simp only [List.map_cons,List.lookup,e',ih,List.mem_cons,e,false_or]
theorem i64_rem_nat (a b:Nat) (hb:b≠0):binInt .rem (vi a) (vi b)=some (vi ((a % b:Nat):Int)):=by
 rw [binInt_rem _ _ _ (by omega)]
 simp [Int.tmod]
theorem i64_quo_nat (a b:Nat) (hb:b≠0) (ha:a<2 ^ 63):binInt .quo (vi a) (vi b)=some (vi ((a / b:Nat):Int)):=by
 have h1:a / b<=a:=Nat.div_le_self _ _
 rw [binInt_quo _ _ _ (by omega)]
 have e:(a:Int).tdiv b=((a / b:Nat):Int):=by simp [Int.tdiv]
 rw [e]
 generalize a / b=q at *
 rw [wrap_i64 (by omega) (by omega)]
theorem i64_add_nat (a b:Nat) (h:a+b<2 ^ 63):binInt .add (vi a) (vi b)=some (vi ((a+b:Nat):Int)):=by
 rw [i64_add (by omega) (by omega)]; simp
theorem i64_quo_num (a n:Nat) (hn:n≠0) (ha:a<2 ^ 63):binInt .quo (vi a) (vi (no_index (OfNat.ofNat n)))=some (vi ((a / n:Nat):Int)):=i64_quo_nat a n hn ha
def MapAt {K V:Type} (fk:K->Value) (fv:V->Value) (H:AH) (r:Nat) (l:List (K×V)):Prop :=
 ∃ es clock,H.get r = .map es clock true/\es.map (fun e=>(e.key,e.val))=(l.map fun p=>(fk p.1,fv p.2))/\(es.map (·.born)).Nodup/\(∀ e∈es,e.born<clock)/\(l.map Prod.fst).Nodup
def aset {K V:Type} [DecidableEq K] (k:K) (v:V):List (K×V)->List (K×V)
 | []=>[(k,v)]
 | p :: l=>if p.1=k then (k,v) :: l else p :: aset k v l
section
variable {K V:Type} [DecidableEq K] {fk:K->Value} {fv:V->Value} {H:AH} {r kd:Nat}
theorem MapAt.lt {l:List (K×V)} (h:MapAt fk fv H r l):r<H.next:=by
 obtain ⟨es,clock,h1,_⟩:=h
 exact AH.lt_of_get (by rw [h1]; simp)
theorem MapAt.keep {H':AH} {l:List (K×V)} (h:MapAt fk fv H r l) (e:H'.get r=H.get r):MapAt fk fv H' r l:=by
 obtain ⟨es,clock,h1,h2⟩:=h
 exact ⟨es,clock,by rw [e]; exact h1,h2⟩
theorem MapAt.new (H:AH):MapAt fk fv (H.new (.map [] 0 true)) H.next ([]:List (K×V)):=⟨[],0,AH.get_new_self _ _,rfl,by simp,by simp,by simp⟩
theorem findE_told (hk:∀ a b,sameCell kd (fk a) (fk b)=some (decide (a=b))) (k:K):∀ (es:List MapEntry) (l:List (K×V)),es.map (fun e=>(e.key,e.val))=l.map (fun p=>(fk p.1,fv p.2)) ->
  findE kd (fk k) es=some ((l.findIdx? fun p=>decide (k=p.1)).bind fun i=>(l[i]?).map fun p=>(i,fv p.2))
 | [],[],_=>rfl
 | [],_ :: _,h=>by simp at h
 | _ :: _,[],h=>by simp at h
 | e :: es,p :: l,h=>by
  simp only [List.map_cons,List.cons.injEq,Prod.mk.injEq] at h
  obtain ⟨⟨h1,h2⟩,h3⟩:=h
  have ih:=findE_told hk k es l h3
  simp only [findE,h1,hk,Option.bind_some]
  by_cases e:k=p.1
  ·simp [e,h2,List.findIdx?_cons]
  ·simp only [e,decide_false,ih,Option.map_some,List.findIdx?_cons,if_false,Bool.false_eq_true]
   congr 1
   cases l.findIdx? fun p=>decide (k=p.1) <;> simp
   rename_i i
   cases l[i]? <;> rfl
theorem lookup_findIdx (k:K):∀ l:List (K×V),(l.findIdx? fun p=>decide (k=p.1)).bind (fun i=>(l[i]?).map fun p=>(i,fv p.2))=(l.findIdx? fun p=>decide (k=p.1)).bind (fun i=>(l.lookup k).map fun v=>(i,fv v))
 | []=>rfl
 | p :: l=>by
  have ih:=lookup_findIdx k l
  by_cases e:k=p.1
  ·subst e
   simp [List.findIdx?_cons,List.lookup]
  ·have e':(k == p.1)=false:=by simpa using e
   simp only [List.findIdx?_cons,e,decide_false,Bool.false_eq_true,if_false,List.lookup,e']
   cases hf:l.findIdx? fun p=>decide (k=p.1) with
   | none=>simp
   | some i =>
    rw [hf] at ih
    simp at ih ⊢
    cases h1:l[i]? <;> cases h2:l.lookup k <;> simp [h1,h2] at ih ⊢
    exact ih
theorem findIdx_lookup (k:K):∀ l:List (K×V),(l.findIdx? fun p=>decide (k=p.1))=none↔l.lookup k=none
 | []=>by simp
 | p :: l=>by
  have ih:=findIdx_lookup k l
  by_cases e:k=p.1
  ·subst e; simp [List.findIdx?_cons,List.lookup]
  ·have e':(k == p.1)=false:=by simpa using e
   simp only [List.findIdx?_cons,e,decide_false,Bool.false_eq_true,if_false,List.lookup,e']
   rw [Option.map_eq_none_iff]
   exact ih
theorem MapAt.look {l:List (K×V)} (h:MapAt fk fv H r l) (hk:∀ a b,sameCell kd (fk a) (fk b)=some (decide (a=b))) (k:K) (zero:Value) (ok:Bool) :
  AM.look kd zero ok (.map (some r)) (fk k) H=some (match l.lookup k with | some v=>(if ok then .tuple #[fv v,.bool true] else fv v) | none=>(if ok then .tuple #[zero,.bool false] else zero)):=by
 obtain ⟨es,clock,h1,h2,_⟩:=h
 simp only [AM.look,entriesOf,h1,Option.bind_some]
 rw [findE_told hk k es l h2,lookup_findIdx]
 have:=findIdx_lookup k l
 cases hf:l.findIdx? fun p=>decide (k=p.1) with
 | none =>
  have this:=this.1 hf
  simp only [this,Option.bind_none,Option.map_some]
 | some i =>
  rw [hf] at this
  cases hl:l.lookup k with
  | none=>rw [hl] at this; simp at this
  | some v=>simp
theorem aset_found (k:K) (v:V):∀ (l:List (K×V)) (i:Nat),(l.findIdx? fun p=>decide (k=p.1))=some i->aset k v l=l.set i (k,v)
 | [],i,h=>by simp at h
 | p :: l,i,h=>by
  by_cases e:k=p.1
  ·subst e
   simp [List.findIdx?_cons] at h
   subst h
   simp [aset]
  ·have e':¬ p.1=k:=fun x=>e x.symm
   simp only [List.findIdx?_cons,e,decide_false,Bool.false_eq_true,if_false,Option.map_eq_some_iff] at h
   obtain ⟨j,h1,rfl⟩:=h
   simp [aset,e',aset_found k v l j h1]
theorem aset_none (k:K) (v:V):∀ (l:List (K×V)),(l.findIdx? fun p=>decide (k=p.1))=none->aset k v l=l++[(k,v)]
 | [],_=>rfl
 | p :: l,h=>by
  by_cases e:k=p.1
  ·subst e; simp [List.findIdx?_cons] at h
  ·have e':¬ p.1=k:=fun x=>e x.symm
   simp only [List.findIdx?_cons,e,decide_false,Bool.false_eq_true,if_false,Option.map_eq_none_iff] at h
   simp [aset,e',aset_none k v l h]
theorem aset_keys (k:K) (v:V):∀ (l:List (K×V)),(aset k v l).map Prod.fst=if k∈l.map Prod.fst then l.map Prod.fst else l.map Prod.fst++[k]
 | []=>by simp [aset]
 | p :: l=>by
  by_cases e:p.1=k
  ·subst e; simp [aset]
  ·have e':¬ k=p.1:=fun x=>e x.symm
   simp only [aset,e,if_false,List.map_cons,aset_keys k v l,List.mem_cons,e',false_or]
   split <;> simp
theorem aset_nodup (k:K) (v:V) (l:List (K×V)) (h:(l.map Prod.fst).Nodup):((aset k v l).map Prod.fst).Nodup:=by
 rw [aset_keys]
 split
 ·exact h
 ·rename_i hk
  rw [List.nodup_append]
  exact ⟨h,by simp,fun a ha b hb=>by simp at hb; subst hb; rintro rfl; exact hk ha⟩
theorem MapAt.set {l:List (K×V)} (h:MapAt fk fv H r l) (hk:∀ a b,sameCell kd (fk a) (fk b)=some (decide (a=b))) (k:K) (v:V) :
  ∃ o,o ≠ .dead/\setMap kd (.map (some r)) (fk k) (fv v) H=some (H.put r o)/\MapAt fk fv (H.put r o) r (aset k v l):=by
 have hlt:=h.lt
 obtain ⟨es,clock,h1,h2,h3,h4,h5⟩:=h
 have hlen:es.length=l.length:=by simpa using congrArg List.length h2
 simp only [setMap,h1]
 rw [findE_told hk k es l h2]
 cases hf:l.findIdx? fun p=>decide (k=p.1) with
 | none =>
  refine ⟨.map (es++[{ key:=fk k,val:=fv v,born:=clock }]) (clock+1) true,by simp,by simp,_,_,AH.get_put_self _ _ hlt,?_,?_,?_,aset_nodup k v l h5⟩
  ·rw [aset_none k v l hf,List.map_append,List.map_append,h2]
   rfl
  ·rw [List.map_append,List.nodup_append]
   refine ⟨h3,by simp,fun a ha b hb =>?_⟩
   obtain ⟨e,he,rfl⟩:=List.mem_map.1 ha
   have:=h4 e he
   simp at hb
   omega
  ·intro e he
   rcases List.mem_append.1 he with he | he
   ·exact Nat.lt_succ_of_lt (h4 e he)
   ·simp at he; subst he; exact Nat.lt_succ_self _
 | some i =>
  have hi:i<l.length:=by
   have:=List.findIdx?_eq_some_iff_getElem.1 hf
   exact this.1
  refine ⟨.map (es.modify i fun e=>{ e with key:=fk k,val:=fv v }) clock true,by simp,by simp [hi],_,_,AH.get_put_self _ _ hlt,?_,?_,?_,aset_nodup k v l h5⟩
  rotate_left
  ·have:(es.modify i fun e=>{ e with key:=fk k,val:=fv v }).map (·.born)=es.map (·.born):=by
    apply List.ext_getElem?
    intro j
    simp only [List.getElem?_map,List.getElem?_modify]
    cases es[j]? <;> simp
    split <;> rfl
   rw [this]; exact h3
  ·intro e he
   obtain ⟨j,hj⟩:=List.mem_iff_getElem?.1 he
   rw [List.getElem?_modify] at hj
   cases hx:es[j]? with
   | none=>rw [hx] at hj; simp at hj
   | some x =>
    have hm:=h4 x (List.mem_of_getElem? hx)
    rw [hx] at hj
    simp at hj
    subst hj
    split <;> exact hm
  rw [aset_found k v l i hf]
  apply List.ext_getElem?
  intro j
  have:=congrArg (fun x=>x[j]?) h2
  simp only [List.getElem?_map] at this
  simp only [List.getElem?_map,List.getElem?_modify,List.getElem?_set]
  by_cases e:i=j
  ·subst e
   simp [hi]
   have:i<es.length:=by omega
   simp [this]
  ·simp [e,this]
end
theorem nodup_of_map {A B:Type} (f:A->B):∀ {l:List A},(l.map f).Nodup->l.Nodup
 | [],_=>by simp
 | x :: l,h=>by
  rw [List.map_cons,List.nodup_cons] at h
  rw [List.nodup_cons]
  exact ⟨fun hm=>h.1 (List.mem_map.2 ⟨x,hm,rfl⟩),nodup_of_map f h.2⟩
section
variable {K V:Type} [DecidableEq K] {fk:K->Value} {fv:V->Value} {H:AH} {r kd:Nat}
theorem MapAt.len {l:List (K×V)} (h:MapAt fk fv H r l):lenMap (.map (some r)) H=some (vi l.length):=by
 obtain ⟨es,clock,h1,h2,_⟩:=h
 have hlen:es.length=l.length:=by simpa using congrArg List.length h2
 simp [lenMap,h1,hlen]
def IterAt (fk:K->Value) (fv:V->Value) (H:AH) (ib r:Nat) (l done:List (K×V)):Prop :=
 ∃ es clock,H.get r = .map es clock true/\es.map (fun e=>(e.key,e.val))=(l.map fun p=>(fk p.1,fv p.2))/\(es.map (·.born)).Nodup/\(∀ e∈es,e.born<clock)/\(l.map Prod.fst).Nodup /\
  ∃ ix:List Nat,ix.Nodup/\(∀ i∈ix,i<l.length)/\ix.filterMap (l[·]?)=done/\H.get ib = .miter (some r) clock (ix.filterMap fun i=>(es[i]?).map (·.born)) clock
theorem IterAt.start {l:List (K×V)} (h:MapAt fk fv H r l):∃ o,rangeM (.map (some r)) H=some (o,mkPtr)/\IterAt fk fv (H.new o) H.next r l []:=by
 have hlt:=h.lt
 obtain ⟨es,clock,h1,h2,h3,h4,h5⟩:=h
 exact ⟨.miter (some r) clock [] clock,by simp [rangeM,h1],es,clock,by rw [AH.get_new_lt _ _ hlt]; exact h1,h2,h3,h4,h5,[],by simp,by simp,rfl,AH.get_new_self _ _⟩
theorem IterAt.map {ib:Nat} {l done:List (K×V)} (h:IterAt fk fv H ib r l done):MapAt fk fv H r l:=by
 obtain ⟨es,clock,h1,h2,h3,h4,h5,_⟩:=h
 exact ⟨es,clock,h1,h2,h3,h4,h5⟩
theorem IterAt.keep {H':AH} {ib:Nat} {l done:List (K×V)} (h:IterAt fk fv H ib r l done) (e1:H'.get r=H.get r) (e2:H'.get ib=H.get ib):IterAt fk fv H' ib r l done:=by
 obtain ⟨es,clock,h1,h2,h3,h4,h5,ix,h6,h7,h8,h9⟩:=h
 exact ⟨es,clock,by rw [e1]; exact h1,h2,h3,h4,h5,ix,h6,h7,h8,by rw [e2]; exact h9⟩
theorem IterAt.lt {ib:Nat} {l done:List (K×V)} (h:IterAt fk fv H ib r l done):ib<H.next:=by
 obtain ⟨es,clock,h1,h2,h3,h4,h5,ix,h6,h7,h8,h9⟩:=h
 exact AH.lt_of_get (by rw [h9]; simp)
theorem filterMap_born {es:List MapEntry}:∀ {ix:List Nat},(∀ i∈ix,i<es.length)->ix.filterMap (fun i=>(es[i]?).map (·.born))=ix.map fun i=>(es[i]?.map (·.born)).getD 0
 | [],_=>rfl
 | i :: ix,h=>by
  have hi:=h i (by simp)
  rw [List.filterMap_cons,List.map_cons,filterMap_born fun j hj=>h j (by simp [hj])]
  simp [hi]
theorem nodup_get {es:List MapEntry} (h:(es.map (·.born)).Nodup) {i j:Nat} (hi:i<es.length) (hj:j<es.length) (e:es[i].born=es[j].born):i=j:=by
 have:=(List.getElem_inj (h₀:=by simpa using hi) (h₁:=by simpa using hj) h).1 (by simpa using e)
 exact this
theorem nodup_pick {A:Type} {l:List A} (h:l.Nodup):∀ {ix:List Nat},ix.Nodup->(ix.filterMap (l[·]?)).Nodup
 | [],_=>by simp
 | i :: ix,hn=>by
  rw [List.nodup_cons] at hn
  rw [List.filterMap_cons]
  cases hi:l[i]? with
  | none=>exact nodup_pick h hn.2
  | some x =>
   simp only [List.nodup_cons]
   refine ⟨fun hm =>?_,nodup_pick h hn.2⟩
   obtain ⟨j,hj,hx⟩:=List.mem_filterMap.1 hm
   have hil:=(List.getElem?_eq_some_iff.1 hi).1
   have:=(List.getElem?_inj hil h).1 (hi.trans hx.symm)
   subst this
   exact hn.1 hj
theorem IterAt.nodup {ib:Nat} {l done:List (K×V)} (h:IterAt fk fv H ib r l done):done.Nodup/\∀ p∈done,p∈l:=by
 obtain ⟨es,clock,h1,h2,h3,h4,h5,ix,h6,h7,rfl,h9⟩:=h
 refine ⟨nodup_pick (nodup_of_map _ h5) h6,fun p hp =>?_⟩
 obtain ⟨i,_,hi⟩:=List.mem_filterMap.1 hp
 exact List.mem_of_getElem? hi
theorem List.perm_of_nodup_nodup_toFinset_eq' {A:Type} {l m:List A} (h1:l.Nodup) (h2:m.Nodup) (h3:∀ x∈l,x∈m) (h4:∀ x∈m,x∈l):l.Perm m:=by
 classical
 rw [List.perm_iff_count]
 intro a
 by_cases ha:a∈l
 ·rw [List.Nodup.count h1,List.Nodup.count h2,if_pos ha,if_pos (h3 a ha)]
 ·rw [List.count_eq_zero_of_not_mem ha,List.count_eq_zero_of_not_mem fun k=>ha (h4 a k)]
theorem IterAt.next {ib:Nat} {l done:List (K×V)} (h:IterAt fk fv H ib r l done) {Q:Value->AH->Prop}
  (more:∀ p o,p∈l->p ∉ done->IterAt fk fv (H.put ib o) ib r l (done++[p])->entryR (ptr ib 0) (H.put ib o)=some (.tuple #[fk p.1,fv p.2])->Q (.tuple #[.bool true,fk p.1,fv p.2]) (H.put ib o))
  (fin:done.Perm l->Q (.tuple #[.bool false]) H):nextM (ptr ib 0) H Q:=by
 have hlt:=h.lt
 have hnd:=h.nodup
 obtain ⟨es,clock,h1,h2,h3,h4,h5,ix,h6,h7,h8,h9⟩:=h
 have hlen:es.length=l.length:=by simpa using congrArg List.length h2
 have hne:r≠ib:=by rintro rfl; rw [h1] at h9; simp at h9
 have hat:∀ i (hi:i<es.length),es[i].key=fk (l[i]'(by omega)).1/\es[i].val=fv (l[i]'(by omega)).2:=by
  intro i hi
  have:=congrArg (fun x=>x[i]?) h2
  simp only [List.getElem?_map,List.getElem?_eq_getElem hi,List.getElem?_eq_getElem (show i<l.length by omega),Option.map_some,Option.some.injEq,Prod.mk.injEq] at this
  exact this
 have hb:=filterMap_born (es:=es) (ix:=ix) fun i hi=>by rw [hlen]; exact h7 i hi
 simp only [nextM,h9,h1]
 refine ⟨fun ⟨_,k2,k3⟩ =>?_,fun e he hn =>?_,fun hall =>?_⟩
 ·obtain ⟨e,he⟩:=List.exists_mem_of_ne_nil _ k2
  have a:=List.all_eq_true.1 k3 e he
  have b:=h4 e he
  simp at a
  omega
 ·obtain ⟨i,hi,rfl⟩:=List.getElem_of_mem he
  have hil:i<l.length:=by omega
  have hni:i ∉ ix:=fun hm=>hn (List.mem_filterMap.2 ⟨i,hm,by simp [hi]⟩)
  obtain ⟨g1,g2⟩:=hat i hi
  rw [g1,g2]
  have hs:(ix.filterMap fun i=>(es[i]?).map (·.born))++[es[i].born]=(ix++[i]).filterMap fun i=>(es[i]?).map (·.born):=by
   rw [List.filterMap_append]; simp [hi]
  refine more l[i] _ (List.getElem_mem hil) ?_ ⟨es,clock,by rw [AH.get_put_ne _ _ hne]; exact h1,h2,h3,h4,h5,ix++[i],?_,?_,?_,?_⟩ ?_
  ·rw [<- h8]
   intro hm
   obtain ⟨j,hj,hx⟩:=List.mem_filterMap.1 hm
   have:=(List.getElem?_inj hil (nodup_of_map _ h5)).1 ((List.getElem?_eq_getElem hil).trans hx.symm)
   subst this
   exact hni hj
  ·rw [List.nodup_append]
   exact ⟨h6,by simp,fun a ha b hb=>by simp at hb; subst hb; rintro rfl; exact hni ha⟩
  ·intro j hj
   rcases List.mem_append.1 hj with hj | hj
   ·exact h7 j hj
   ·simp at hj; subst hj; exact hil
  ·rw [List.filterMap_append,h8]; simp [hil]
  ·rw [AH.get_put_self _ _ hlt,hs]
  ·simp only [entryR,AH.get_put_self _ _ hlt,List.getLast?_append,List.getLast?_singleton,Option.some_or,AH.get_put_ne _ _ hne,h1,if_true]
   have:es.find? (fun e=>e.born == es[i].born)=some es[i]:=by
    rw [List.find?_eq_some_iff_getElem]
    refine ⟨by simp,i,hi,rfl,fun j hj =>?_⟩
    simp only [Bool.not_eq_true',beq_eq_false_iff_ne,ne_eq]
    intro e
    have:=nodup_get h3 (by omega) hi e
    omega
   rw [this]
   simp [g1,g2]
 ·refine fin ?_
  refine List.perm_of_nodup_nodup_toFinset_eq' hnd.1 (nodup_of_map _ h5) hnd.2 fun p hp =>?_
  obtain ⟨i,hi,rfl⟩:=List.getElem_of_mem hp
  have hie:i<es.length:=by omega
  have:=hall es[i] (List.getElem_mem hie) (h4 _ (List.getElem_mem hie))
  obtain ⟨j,hj,hx⟩:=List.mem_filterMap.1 this
  have hjl:j<es.length:=by rw [hlen]; exact h7 j hj
  simp [hjl] at hx
  have:=nodup_get h3 hjl hie hx
  subst this
  rw [<- h8]
  exact List.mem_filterMap.2 ⟨j,hj,by simp [hi]⟩
end
theorem aset_new {K:Type} [DecidableEq K] {V W:Type} (k:K) (w:W) (f:V->W):∀ (l:List (K×V)),k ∉ l.map Prod.fst->aset k w (l.map fun p=>(p.1,f p.2))=(l.map fun p=>(p.1,f p.2))++[(k,w)]
 | [],_=>rfl
 | p :: l,h=>by
  simp only [List.map_cons,List.mem_cons,not_or] at h
  have e:¬ p.1=k:=fun x=>h.1 x.symm
  simp only [List.map_cons,aset,e,if_false,aset_new k w f l h.2,List.cons_append]
end Go.AM
end
section
namespace Go.AM
variable {E:Sy} {H:AH} {Q:Value->AH->Prop}
structure RuleD where
 number:BitVec 32
 action:BitVec 32
 conds:List CondD
def RuleAt (H:AH) (r:RuleD) (cs:List Value):Prop:=r.conds.length<2 ^ 63/\∃ v,cs=[u32 r.number,u32 r.action,v]/\Rows H 4 v (r.conds.map CondD.cells)
theorem RuleAt.mono {H H':AH} {r:RuleD} {cs:List Value} (h:RuleAt H r cs) (e:Ext H H'):RuleAt H' r cs:=⟨h.1,h.2.choose,h.2.choose_spec.1,h.2.choose_spec.2.mono e⟩
end Go.AM
end
section
namespace Go.AM
variable {E:Sy} {H:AH} {Q:Value->AH->Prop}
def SliceOf {α:Type} (R:AH->α->List Value->Prop) (H:AH) (sz:Nat) (v:Value) (l:List α):Prop :=
 ∃ rows,Rows H sz v rows/\rows.length=l.length/\∀ i (h1:i<l.length) (h2:i<rows.length),R H l[i] rows[i]
theorem Rows.plain {H:AH} {sz:Nat} {v:Value} {rows:List (List Value)} (h:Rows H sz v rows):plain1 v=true:=by
 rcases h.at_ with ⟨_,c,rfl⟩ | ⟨b,o,c,rfl,_⟩ <;> rfl
section
variable {α:Type} {R:AH->α->List Value->Prop} {sz:Nat} {v:Value} {l:List α}
theorem SliceOf.mono (h:SliceOf R H sz v l) (hm:∀ (H H':AH) (a:α) (c:List Value),R H a c->Ext H H'->R H' a c) {H':AH} (e:Ext H H'):SliceOf R H' sz v l:=by
 obtain ⟨rows,h1,h2,h3⟩:=h
 exact ⟨rows,h1.mono e,h2,fun i a b=>hm _ _ _ _ (h3 i a b) e⟩
theorem SliceOf.lenSlc (h:SliceOf R H sz v l):AM.lenSlc v=some (vi l.length):=by
 obtain ⟨rows,h1,h2,h3⟩:=h
 rw [h1.lenSlc,h2]
theorem SliceOf.ix (h:SliceOf R H sz v l) {i:Nat} (hi:i<l.length):∃ b o cs,ixSlc sz v (vi i)=some (ptr b o)/\(H.get b).row o sz=some cs/\R H l[i] cs:=by
 obtain ⟨rows,h1,h2,h3⟩:=h
 obtain ⟨b,o,f1,f2⟩:=h1.ix (i:=i) (by omega)
 exact ⟨b,o,_,f1,f2,h3 i hi (by omega)⟩
end
structure PolD where
 default:BitVec 32
 rules:List RuleD
def PolAt (H:AH) (p:PolD) (cs:List Value):Prop:=p.rules.length<2 ^ 63/\∃ a v b c d,cs=[a,u32 p.default,v,b,c,d]/\SliceOf RuleAt H 3 v p.rules
end Go.AM
end
section
namespace Go.AM
variable {E:Sy} {H:AH} {Q:Value->AH->Prop}
theorem kind_nat (a:BitVec 32):(a&&&4294901760#32).toNat=a.toNat / 65536*65536:=by
 rw [BitVec.toNat_and]
 exact land_high a.toNat 16 32 a.isLt
theorem kind_iff (a:BitVec 32) (k:Nat) (hk:k<65536):(a&&&4294901760#32=BitVec.ofNat 32 (k*65536))↔a / 65536#32=BitVec.ofNat 32 k:=by
 rw [<- BitVec.toNat_inj,<- BitVec.toNat_inj,kind_nat]
 simp only [BitVec.toNat_udiv,BitVec.toNat_ofNat]
 rw [Nat.mod_eq_of_lt (by omega:k*65536<2 ^ 32),Nat.mod_eq_of_lt (by omega:k<2 ^ 32),show (65536 % 2 ^ 32:Nat)=65536 from rfl]
 omega
theorem akind_r (a:BitVec 32):akind a=if a / 65536#32=5#32 then 327680#32 else if a / 65536#32=32764#32 then 2147221504#32 else if a / 65536#32=32767#32 then 2147418112#32 else 2147483648#32:=by
 unfold akind
 have h1:=kind_iff a 5 (by omega)
 have h2:=kind_iff a 32764 (by omega)
 have h3:=kind_iff a 32767 (by omega)
 simp only [Nat.reduceMul] at h1 h2 h3
 simp only [h1,h2,h3]
theorem rstrength_eq (a:BitVec 32):rstrength a=astrength a:=by
 unfold astrength rstrength
 rw [akind_r]
 split
 ·simp
 split
 ·simp
 split <;> simp
end Go.AM
end
section
namespace Go.AM
variable {E:Sy} {H:AH} {Q:Value->AH->Prop}
theorem astrength_range (a:BitVec 32):0<=astrength a/\astrength a<=3:=by
 unfold astrength
 split
 ·omega
 split
 ·omega
 split <;> omega
end Go.AM
end
section
namespace Go.AM
deriving instance DecidableEq for CondD
structure BranchD where
 conds:List CondD
 action:BitVec 32
structure CaseD where
 number:BitVec 32
 branches:List BranchD
structure PlanD where
 cases:List CaseD
 default:BitVec 32
def inArg (c:CondD):Bool:=decide (0<=c.arg)&&decide (c.arg<=5)
def alwaysC (c:CondD):Bool:=inArg c&&(decide (c.op=6#8)&&decide (c.value=0#64)||decide (c.op=4#8)&&decide (c.value=18446744073709551615#64))
def never1 (c:CondD):Bool:=decide (c.op=3#8)&&decide (c.value=0#64)||decide (c.op=5#8)&&decide (c.value=18446744073709551615#64)
def clash (c d:CondD):Bool:=decide (c.arg=d.arg)&&decide (c.op=1#8)&&decide (d.op=1#8)&&decide (c.value≠d.value)
def tidyFrom:List CondD->List CondD->List CondD
 | out,[]=>out
 | out,c :: l=>tidyFrom (if alwaysC c=false/\c ∉ out then out++[c] else out) l
def tidyC (l:List CondD):List CondD:=tidyFrom [] l
def neverFrom:List CondD->List CondD->Bool
 | _,[]=>false
 | pre,c :: l=>never1 c||pre.any (clash c)||neverFrom (pre++[c]) l
def neverC (l:List CondD):Bool:=neverFrom [] l
def branchesF:List RuleD->List BranchD
 | []=>[]
 | r :: l=>if neverC (tidyC r.conds)=true then branchesF l else if tidyC r.conds=[] then [⟨[],r.action⟩] else ⟨tidyC r.conds,r.action⟩ :: branchesF l
def rankA (a:BitVec 32):Nat:=(3 - astrength a).toNat
def byRank (l:List RuleD) (k:Nat):List RuleD:=l.filter fun x=>decide (rankA x.action=k)
def sortS (l:List RuleD):List RuleD:=byRank l 0++byRank l 1++byRank l 2++byRank l 3
def ofNum (l:List RuleD) (n:BitVec 32):List RuleD:=l.filter fun x=>decide (x.number=n)
def caseOf (p:PolD) (n:BitVec 32):CaseD:=⟨n,branchesF (sortS (ofNum p.rules n))⟩
structure Nums (p:PolD) (ns:List (BitVec 32)):Prop where
 up:ns.Pairwise fun a b=>a.toNat<b.toNat
 mem:∀ n,n∈ns↔∃ r∈p.rules,r.number=n
def planOf (p:PolD) (ns:List (BitVec 32)):PlanD:=⟨ns.map (caseOf p),p.default⟩
theorem rankA_le (a:BitVec 32):rankA a<=3/\(rankA a:Int)=3 - astrength a:=by
 have:=astrength_range a
 unfold rankA
 omega
end Go.AM
end
section
namespace Go.AM
structure Res where
 fp:List Nat
 P:AH->Prop
 keep:∀ {H H':AH},P H->(∀ b∈fp,H'.get b=H.get b)->P H'
structure Has (H0 Z H:AH) (L:List Res):Prop where
 ext:Ext H0 H
 sub:Sub Z H
 all:∀ r∈L,r.P H/\∀ b∈r.fp,H0.next<=b/\b<H.next/\Z.get b = .dead
 nd:(L.flatMap Res.fp).Nodup
structure Upd (r r':Res) (H H':AH):Prop where
 only:Only r.fp H H'
 holds:r'.P H'
 fp:∀ b∈r'.fp,(b∈r.fp\/H.next<=b)/\b<H'.next
 nd:r'.fp.Nodup
def Fz (n:Nat) (Z Z':AH):Prop:=Sub Z Z'/\∀ b,b<n->Z'.get b=Z.get b
theorem Fz.refl (n:Nat) (Z:AH):Fz n Z Z:=⟨Sub.refl _,fun _ _=>rfl⟩
theorem Fz.trans {n:Nat} {A B C:AH} (h:Fz n A B) (h':Fz n B C):Fz n A C:=⟨h.1.trans h'.1,fun b hb=>(h'.2 b hb).trans (h.2 b hb)⟩
theorem Sub.newfrozen {Z H:AH} (h:Sub Z H) (o:AObj):∃ Z',Fz H.next Z Z'/\Sub Z' (H.new o)/\Z'.get H.next=o:=by
 have hs:Sub Z (H.new o):=h.new o
 have hlt:H.next<(H.new o).next:=by simp
 refine ⟨Z.freeze (H.new o).next H.next ((H.new o).get H.next),⟨hs.to_freeze hlt,fun b hb =>?_⟩,hs.freeze hlt,?_⟩
 ·rw [AH.get_freeze _ _ _ _ _ hs.1 hlt,if_neg (by omega)]
 ·rw [AH.get_freeze _ _ _ _ _ hs.1 hlt,if_pos rfl,AH.get_new_self]
theorem Fz.dead {n:Nat} {Z Z':AH} (h:Fz n Z Z') {b:Nat} (hb:b<n) (hd:Z.get b = .dead):Z'.get b = .dead:=by rw [h.2 b hb,hd]
section
variable {H0 Z H H':AH} {L:List Res}
theorem Has.begin (e:Ext H0 H) (s:Sub Z H):Has H0 Z H []:=⟨e,s,by simp,by simp⟩
theorem Has.refreeze (h:Has H0 Z H L) {Z':AH} (e:Ext H H') (f:Fz H.next Z Z') (s:Sub Z' H'):Has H0 Z' H' L :=
 ⟨h.ext.trans e,s,fun r hr=>by
  obtain ⟨h1,h2⟩:=h.all r hr
  exact ⟨r.keep h1 fun b hb=>e.get (h2 b hb).2.1,fun b hb=>⟨(h2 b hb).1,Nat.lt_of_lt_of_le (h2 b hb).2.1 e.1,f.dead (h2 b hb).2.1 (h2 b hb).2.2⟩⟩,h.nd⟩
theorem Has.get (h:Has H0 Z H L) {k:Nat} {r:Res} (hk:L[k]? = some r):r.P H:=(h.all r (List.mem_of_getElem? hk)).1
theorem Has.grow (h:Has H0 Z H L) (e:Ext H H'):Has H0 Z H' L :=
 ⟨h.ext.trans e,h.sub.ext e,fun r hr=>by
  obtain ⟨h1,h2⟩:=h.all r hr
  exact ⟨r.keep h1 fun b hb=>e.get (h2 b hb).2.1,fun b hb=>⟨(h2 b hb).1,Nat.lt_of_lt_of_le (h2 b hb).2.1 e.1,(h2 b hb).2.2⟩⟩,h.nd⟩
theorem Has.new (h:Has H0 Z H L) (o:AObj):Has H0 Z (H.new o) L:=h.grow ((Ext.refl H).new o)
theorem Has.add (h:Has H0 Z H L) (r:Res) (e:Ext H H') (hp:r.P H') (hf:∀ b∈r.fp,H.next<=b/\b<H'.next) (hn:r.fp.Nodup):Has H0 Z H' (L++[r]):=by
 have g:=h.grow e
 refine ⟨g.ext,g.sub,fun x hx =>?_,?_⟩
 ·rcases List.mem_append.1 hx with hx | hx
  ·exact g.all x hx
  ·simp only [List.mem_singleton] at hx; subst hx
   exact ⟨hp,fun b hb=>⟨Nat.le_trans h.ext.1 (hf b hb).1,(hf b hb).2,AH.get_ge _ (Nat.le_trans h.sub.1 (hf b hb).1)⟩⟩
 ·rw [List.flatMap_append,List.nodup_append]
  refine ⟨h.nd,by simpa using hn,fun a ha b hb =>?_⟩
  simp only [List.mem_flatMap] at ha
  obtain ⟨y,hy,ha⟩:=ha
  have:=((h.all y hy).2 a ha).2.1
  have:=(hf b (by simpa using hb)).1
  omega
theorem nodup_disj:∀ {L:List Res} (_:(L.flatMap Res.fp).Nodup) {i j:Nat} {r s:Res} (_:L[i]? = some r) (_:L[j]? = some s) (_:i≠j) {b:Nat} (_:b∈r.fp),b ∉ s.fp
 | [],_,i,j,r,s,hi,_,_,b,_=>by simp at hi
 | x :: L,hn,i,j,r,s,hi,hj,hij,b,hb=>by
  rw [List.flatMap_cons,List.nodup_append] at hn
  obtain ⟨_,h2,h3⟩:=hn
  intro hs
  cases i with
  | zero =>
   cases j with
   | zero=>exact hij rfl
   | succ j =>
    simp at hi; subst hi
    exact h3 b hb b (List.mem_flatMap.2 ⟨s,List.mem_of_getElem? (by simpa using hj),hs⟩) rfl
  | succ i =>
   cases j with
   | zero =>
    simp at hj; subst hj
    exact h3 b hs b (List.mem_flatMap.2 ⟨r,List.mem_of_getElem? (by simpa using hi),hb⟩) rfl
   | succ j=>exact nodup_disj h2 (by simpa using hi) (by simpa using hj) (by omega) hb hs
theorem nodup_set:∀ {L:List Res} (_:(L.flatMap Res.fp).Nodup) {n:Nat} (_:∀ r∈L,∀ b∈r.fp,b<n) {k:Nat} {r r':Res} (_:L[k]? = some r) (_:∀ b∈r'.fp,b∈r.fp\/n<=b) (_:r'.fp.Nodup),((L.set k r').flatMap Res.fp).Nodup
 | [],_,n,_,k,r,r',hk,_,_=>by simp at hk
 | x :: L,hn,n,hlt,k,r,r',hk,hf,hr=>by
  rw [List.flatMap_cons,List.nodup_append] at hn
  obtain ⟨h1,h2,h3⟩:=hn
  cases k with
  | zero =>
   simp at hk; subst hk
   rw [List.set_cons_zero,List.flatMap_cons,List.nodup_append]
   refine ⟨hr,h2,fun a ha b hb =>?_⟩
   rcases hf a ha with h | h
   ·exact h3 a h b hb
   ·obtain ⟨y,hy,hb⟩:=List.mem_flatMap.1 hb
    have:=hlt y (by simp [hy]) b hb
    omega
  | succ k =>
   rw [List.set_cons_succ,List.flatMap_cons,List.nodup_append]
   refine ⟨h1,nodup_set h2 (fun r hr=>hlt r (by simp [hr])) (by simpa using hk) hf hr,fun a ha b hb =>?_⟩
   obtain ⟨y,hy,hb⟩:=List.mem_flatMap.1 hb
   rcases List.mem_or_eq_of_mem_set hy with hy | e
   ·exact h3 a ha b (List.mem_flatMap.2 ⟨y,hy,hb⟩)
   ·subst e
    rcases hf b ‹b∈y.fp› with h | h
    ·exact h3 a ha b (List.mem_flatMap.2 ⟨r,List.mem_of_getElem? (by simpa using hk),h⟩)
    ·have:=hlt x (by simp) a ha
     omega
theorem Has.step (h:Has H0 Z H L) {k:Nat} {r r':Res} (hk:L[k]? = some r) (u:Upd r r' H H'):Has H0 Z H' (L.set k r'):=by
 have hr:=h.all r (List.mem_of_getElem? hk)
 refine ⟨u.only.ext h.ext fun b hb=>(hr.2 b hb).1,h.sub.only u.only fun b hb=>(hr.2 b hb).2.2,fun x hx =>?_,nodup_set h.nd (fun r hr b hb=>((h.all r hr).2 b hb).2.1) hk (fun b hb=>(u.fp b hb).1) u.nd⟩
 obtain ⟨j,hj,hjx⟩:=List.getElem_of_mem hx
 by_cases e:k=j
 ·subst e
  rw [List.getElem_set_self] at hjx
  subst hjx
  refine ⟨u.holds,fun b hb=>⟨?_,(u.fp b hb).2,?_⟩⟩
  ·rcases (u.fp b hb).1 with g | g
   ·exact (hr.2 b g).1
   ·exact Nat.le_trans h.ext.1 g
  ·rcases (u.fp b hb).1 with g | g
   ·exact (hr.2 b g).2.2
   ·exact AH.get_ge _ (Nat.le_trans h.sub.1 g)
 ·rw [List.getElem_set_ne e] at hjx
  have hj':j<L.length:=by simpa using hj
  have hjx':L[j]? = some x:=by rw [List.getElem?_eq_getElem hj',hjx]
  obtain ⟨h1,h2⟩:=h.all x (List.mem_of_getElem? hjx')
  refine ⟨x.keep h1 fun b hb=>u.only.get (h2 b hb).2.1 (nodup_disj h.nd hjx' hk (Ne.symm e) hb),fun b hb=>⟨(h2 b hb).1,Nat.lt_of_lt_of_le (h2 b hb).2.1 u.only.1,(h2 b hb).2.2⟩⟩
theorem nodup_erase:∀ {L:List Res} (_:(L.flatMap Res.fp).Nodup) (k:Nat),((L.eraseIdx k).flatMap Res.fp).Nodup
 | [],_,_=>by simp
 | x :: L,hn,0=>by
  rw [List.flatMap_cons,List.nodup_append] at hn
  exact hn.2.1
 | x :: L,hn,k+1=>by
  rw [List.flatMap_cons,List.nodup_append] at hn
  rw [List.eraseIdx_cons_succ,List.flatMap_cons,List.nodup_append]
  refine ⟨hn.1,nodup_erase hn.2.1 k,fun a ha b hb =>?_⟩
  obtain ⟨y,hy,hb⟩:=List.mem_flatMap.1 hb
  exact hn.2.2 a ha b (List.mem_flatMap.2 ⟨y,List.mem_of_mem_eraseIdx hy,hb⟩)
theorem Has.drop (h:Has H0 Z H L) (k:Nat):Has H0 Z H (L.eraseIdx k) :=
 ⟨h.ext,h.sub,fun r hr=>h.all r (List.mem_of_mem_eraseIdx hr),nodup_erase h.nd k⟩
theorem freeze_all (h:Sub Z H):∀ (l:List Nat),(∀ b∈l,b<H.next)->∃ Z',Sub Z Z'/\Sub Z' H/\(∀ b∈l,Z'.get b=H.get b)/\∀ b,b ∉ l->Z'.get b=Z.get b
 | [],_=>⟨Z,Sub.refl _,h,by simp,fun _ _=>rfl⟩
 | b :: l,hl=>by
  obtain ⟨Z',h1,h2,h3,h4⟩:=freeze_all h l fun x hx=>hl x (by simp [hx])
  have hb:=hl b (by simp)
  have hg:∀ x,(Z'.freeze H.next b (H.get b)).get x=if x=b then H.get b else Z'.get x:=fun x=>AH.get_freeze _ _ _ _ _ h2.1 hb
  refine ⟨_,h1.trans (h2.to_freeze hb),h2.freeze hb,fun x hx =>?_,fun x hx =>?_⟩
  ·rw [hg]
   split
   ·rename_i e; rw [e]
   ·rename_i e; exact h3 x (by simpa [e] using hx)
  ·simp only [List.mem_cons,not_or] at hx
   rw [hg,if_neg hx.1,h4 x hx.2]
theorem Has.freeze (h:Has H0 Z H L) {k:Nat} {r:Res} (hk:L[k]? = some r):∃ Z',Fz H0.next Z Z'/\r.P Z'/\Has H0 Z' H (L.eraseIdx k):=by
 have hr:=h.all r (List.mem_of_getElem? hk)
 obtain ⟨Z',h1,h2,h3,h4⟩:=freeze_all h.sub r.fp fun b hb=>(hr.2 b hb).2.1
 refine ⟨Z',⟨h1,fun b hb=>h4 b fun hm =>?_⟩,r.keep hr.1 h3,h.ext,h2,fun x hx =>?_,nodup_erase h.nd k⟩
 ·have:=(hr.2 b hm).1
  omega
 obtain ⟨j,hjk,hj⟩:=List.mem_eraseIdx_iff_getElem?.1 hx
 obtain ⟨g1,g2⟩:=h.all x (List.mem_of_getElem? hj)
 exact ⟨g1,fun b hb=>⟨(g2 b hb).1,(g2 b hb).2.1,by rw [h4 b (nodup_disj h.nd hj hk hjk hb)]; exact (g2 b hb).2.2⟩⟩
end
def boxR (b:Nat) (c:List Value):Res:=⟨[b],fun H=>H.get b = .cells c none,fun h e=>by rw [e _ (by simp)]; exact h⟩
def zH:AH:=⟨0,fun _ => .dead⟩
theorem zH_get (b:Nat):zH.get b = .dead:=by simp [AH.get,zH]
def growR (sz:Nat) (v:Value) (rows:List (List Value)):Res:=⟨blkL v,fun H=>Grow zH H sz v rows,fun h e=>h.keep fun b hb _=>e b (mem_blkL.2 hb)⟩
def mapR {K V:Type} [DecidableEq K] (fk:K->Value) (fv:V->Value) (r:Nat) (l:List (K×V)):Res:=⟨[r],fun H=>MapAt fk fv H r l,fun h e=>h.keep (e _ (by simp))⟩
section
variable {H0 Z H H':AH} {L:List Res}
theorem blkL_nodup (v:Value):(blkL v).Nodup:=by unfold blkL; split <;> simp
theorem Has.box (h:Has H0 Z H L) {k b:Nat} {c:List Value} (hk:L[k]? = some (boxR b c)):H.get b = .cells c none:=h.get hk
theorem Has.box_lt (h:Has H0 Z H L) {k b:Nat} {c:List Value} (hk:L[k]? = some (boxR b c)):b<H.next:=AH.lt_cells (h.box hk)
theorem Has.newbox (h:Has H0 Z H L) (c:List Value):Has H0 Z (H.new (.cells c none)) (L++[boxR H.next c]) :=
 h.add _ ((Ext.refl H).new _) (AH.get_new_self _ _) (by simp [boxR]) (by simp [boxR])
theorem Has.put (h:Has H0 Z H L) {k b:Nat} {c:List Value} (hk:L[k]? = some (boxR b c)) (c':List Value):Has H0 Z (H.put b (.cells c' none)) (L.set k (boxR b c')) :=
 h.step hk ⟨(Only.refl _ _).put (.inl (by simp [boxR])) _,AH.get_put_self _ _ (h.box_lt hk),fun x hx=>⟨.inl hx,by simp [boxR] at hx; subst hx; exact h.box_lt hk⟩,by simp [boxR]⟩
theorem Has.nils (h:Has H0 Z H L) (sz:Nat):Has H0 Z H (L++[growR sz nilS []]) :=
 h.add _ (Ext.refl H) (Grow.nil _ _ _) (by simp [growR,blkL,blk]) (by simp [growR,blkL,blk])
theorem Has.slice (h:Has H0 Z H L) {k sz:Nat} {v:Value} {rows:List (List Value)} (hk:L[k]? = some (growR sz v rows)):Grow zH H sz v rows:=h.get hk
theorem Has.rows (h:Has H0 Z H L) {k sz:Nat} {v:Value} {rows:List (List Value)} (hk:L[k]? = some (growR sz v rows)):Rows H sz v rows:=(h.slice hk).toRows
theorem Grow.upd {sz:Nat} {v v':Value} {rows rows':List (List Value)} (g:Grew' H H' v v') (h':Grow zH H' sz v' rows'):Upd (growR sz v rows) (growR sz v' rows') H H' :=
 ⟨g.1,h',fun b hb=>⟨(g.2 b (mem_blkL.1 hb)).imp mem_blkL.2 id,h'.blk_lt (mem_blkL.1 hb)⟩,blkL_nodup v'⟩
theorem Has.app1 (h:Has H0 Z H L) {k sz:Nat} {v:Value} {rows:List (List Value)} (hk:L[k]? = some (growR sz v rows)) {bytes:Nat} (new:List Value) (hl:new.length=sz) (hp:new.all plain1=true) (hs:sz≠0) (hb:bytes≠0) (h1:(rows.length+1)*bytes<=2 ^ 46) :
  ∃ v' H',AM.app sz bytes v (slc H.next 0 1 1) (H.new (.cells new none))=some (v',H')/\plain1 v'=true/\Has H0 Z H' (L.set k (growR sz v' (rows++[new]))):=by
 obtain ⟨v',H',a1,a2,a3⟩:=(h.slice hk).app1 (Nat.zero_le _) new hl hp hs hb h1
 exact ⟨v',H',a1,a2.plain,h.step hk (Grow.upd a3 a2)⟩
theorem Has.mapAt {K V:Type} [DecidableEq K] {fk:K->Value} {fv:V->Value} (h:Has H0 Z H L) {k r:Nat} {l:List (K×V)} (hk:L[k]? = some (mapR fk fv r l)):MapAt fk fv H r l:=h.get hk
theorem Has.newmap {K V:Type} [DecidableEq K] (fk:K->Value) (fv:V->Value) (h:Has H0 Z H L):Has H0 Z (H.new (.map [] 0 true)) (L++[mapR fk fv H.next ([]:List (K×V))]) :=
 h.add _ ((Ext.refl H).new _) (MapAt.new H) (by simp [mapR]) (by simp [mapR])
theorem Has.mapset {K V:Type} [DecidableEq K] {fk:K->Value} {fv:V->Value} (h:Has H0 Z H L) {n r kd:Nat} {l:List (K×V)} (hn:L[n]? = some (mapR fk fv r l)) (hk:∀ a b,sameCell kd (fk a) (fk b)=some (decide (a=b))) (k:K) (v:V) :
  ∃ H',setMap kd (.map (some r)) (fk k) (fv v) H=some H'/\Has H0 Z H' (L.set n (mapR fk fv r (aset k v l))):=by
 have hm:=h.mapAt hn
 obtain ⟨o,h1,h2,h3⟩:=hm.set hk k v
 exact ⟨_,h2,h.step hn ⟨(Only.refl _ _).put (.inl (by simp [mapR])) _,h3,fun x hx=>⟨.inl hx,by simp [mapR] at hx; subst hx; exact hm.lt⟩,by simp [mapR]⟩⟩
end
end Go.AM
end
section
namespace Go.AM
abbrev alook {K V:Type} [DecidableEq K] (k:K) (l:List (K×V)):Option V:=@List.lookup K V instBEqOfDecidableEq k l
theorem alook_cons {K V:Type} [DecidableEq K] (k:K) (e:K×V) (l:List (K×V)):alook k (e :: l)=if k=e.1 then some e.2 else alook k l:=by
 by_cases h:k=e.1
 ·subst h; simp [alook,List.lookup]
 ·have:(k == e.1)=false:=by simpa using h
  simp [alook,List.lookup,this,h]
end Go.AM
end
section
namespace Go.AM
def FreshV (n:Nat) (v:Value):Prop:=∀ b,blk v=some b->n<=b
end Go.AM
end
section
namespace Go.AM
variable {E:Sy} {H:AH} {Q:Value->AH->Prop}
structure PlaceD where
 m:Int
 i:BitVec 16
 deriving DecidableEq
def PlaceD.cells (p:PlaceD):List Value:=[vi p.m,u16 p.i]
structure MntD where
 id:Int
 at_:PlaceD
 root:BitVec 16
 held:Int
 deriving DecidableEq
def MntD.cells (m:MntD):List Value:=[vi m.id,vi m.at_.m,u16 m.at_.i,u16 m.root,vi m.held]
@[simp] theorem nilp_some (a:Addr):binNil eqPtr .eql (.pointer (some a)) (.pointer none)=some (.bool false):=rfl
@[simp] theorem nilp_none:binNil eqPtr .eql (.pointer none) (.pointer none)=some (.bool true):=rfl
@[simp] theorem nilp_some' (a:Addr):binNil eqPtr .neq (.pointer (some a)) (.pointer none)=some (.bool true):=rfl
@[simp] theorem nilp_none':binNil eqPtr .neq (.pointer none) (.pointer none)=some (.bool false):=rfl
@[simp] theorem nilCk_ptr (a:Addr):nilCk (.pointer (some a))=some (.pointer (some a)):=rfl
end Go.AM
end
section
namespace Go.AM
variable {E:Sy} {H:AH} {Q:Value->AH->Prop}
def standsAt (p:PlaceD) (m:MntD):Bool:=decide (m.id≠0)&&decide (m.at_=p)
def seenN (T:List MntD):Nat->PlaceD->PlaceD
 | 0,p=>p
 | n+1,p=>match T.find? (standsAt p) with
  | none=>p
  | some m=>seenN T n ⟨m.id,m.root⟩
def seen (T:List MntD) (p:PlaceD):PlaceD:=seenN T T.length p
end Go.AM
end
section
namespace Go.AM
variable {E:Sy} {H:AH} {Q:Value->AH->Prop}
def NewRes (r:Res) (H H':AH):Prop:=Ext H H'/\r.P H'/\(∀ b∈r.fp,H.next<=b/\b<H'.next)/\r.fp.Nodup
end Go.AM
end
section
namespace Go.AM
variable {E:Sy} {H0 Z H:AH} {L:List Res} {Q:Value->AH->Prop}
@[simp] theorem PlaceD.cells_length (p:PlaceD):p.cells.length=2:=rfl
@[simp] theorem MntD.cells_length (m:MntD):m.cells.length=5:=rfl
@[simp] theorem place_plain (p:PlaceD):p.cells.all plain1=true:=rfl
@[simp] theorem place_splice (a b:Value) (p:PlaceD):splice [a,b] 0 p.cells=p.cells:=rfl
@[simp] theorem place_splice' (q p:PlaceD):splice q.cells 0 p.cells=p.cells:=rfl
@[simp] theorem place_take (p:PlaceD):p.cells.take 2=p.cells:=rfl
@[simp] theorem mnt_plain (p:MntD):p.cells.all plain1=true:=rfl
@[simp] theorem mnt_splice (a b c d e:Value) (p:MntD):splice [a,b,c,d,e] 0 p.cells=p.cells:=rfl
@[simp] theorem mnt_take (p:MntD):p.cells.take 5=p.cells:=rfl
end Go.AM
end
section
namespace Go.AM
variable {E:Sy} {H:AH} {Q:Value->AH->Prop}
structure PolX where
 name:List UInt8
 pol:PolD
 handled:BitVec 16
 paths:List (List UInt8×BitVec 16)
 ports:List (BitVec 16×BitVec 16)
def PolXAt (H:AH) (x:PolX) (cs:List Value):Prop:=∃ v pv qv,cs=[str x.name,u32 x.pol.default,v,u16 x.handled,pv,qv]/\SliceOf RuleAt H 3 v x.pol.rules /\
 Rows H 2 pv (x.paths.map fun p=>[str p.1,u16 p.2])/\Rows H 2 qv (x.ports.map fun p=>[u16 p.1,u16 p.2])
def PolX.fits (x:PolX):Prop:=x.name.length<2 ^ 63/\x.pol.rules.length<2 ^ 63/\x.paths.length<2 ^ 63/\x.ports.length<2 ^ 63
def PolX.few (x:PolX):Prop:=x.pol.rules.length<=80/\(∀ r∈x.pol.rules,r.conds.length<=20)/\x.paths.length<=50/\x.ports.length<=50
theorem SliceOf.sub {α:Type} {R:AH->α->List Value->Prop} {sz:Nat} {v:Value} {l:List α} (h:SliceOf R H sz v l) (hm:∀ (H H':AH) (a:α) (c:List Value),R H a c->Sub H H'->R H' a c) {H':AH} (e:Sub H H'):SliceOf R H' sz v l:=by
 obtain ⟨rows,h1,h2,h3⟩:=h
 exact ⟨rows,h1.sub e,h2,fun i a b=>hm _ _ _ _ (h3 i a b) e⟩
theorem RuleAt.sub {H H':AH} {r:RuleD} {cs:List Value} (h:RuleAt H r cs) (e:Sub H H'):RuleAt H' r cs:=⟨h.1,h.2.choose,h.2.choose_spec.1,h.2.choose_spec.2.sub e⟩
theorem PolXAt.sub {H H':AH} {x:PolX} {cs:List Value} (h:PolXAt H x cs) (e:Sub H H'):PolXAt H' x cs:=by
 obtain ⟨v,pv,qv,h1,h2,h3,h4⟩:=h
 exact ⟨v,pv,qv,h1,h2.sub (fun _ _ _ _ h e=>RuleAt.sub h e) e,h3.sub e,h4.sub e⟩
theorem PolXAt.mono {H H':AH} {x:PolX} {cs:List Value} (h:PolXAt H x cs) (e:Ext H H'):PolXAt H' x cs:=h.sub e.sub
theorem PolXAt.at_ {x:PolX} {cs:List Value} (h:PolXAt H x cs) (hb:x.pol.rules.length<2 ^ 63):PolAt H x.pol cs:=by
 obtain ⟨v,pv,qv,h1,h2,_⟩:=h
 exact ⟨hb,_,v,_,_,_,h1,h2⟩
theorem S.law09_Few_l2 (H0:AH) (b1:Nat) (x:PolX) (hf:x.fits) (v pv qv:Value)
  (hv:SliceOf RuleAt H 3 v x.pol.rules) (hp:Rows H 2 pv (x.paths.map fun p=>[str p.1,u16 p.2])) (hq:Rows H 2 qv (x.ports.map fun p=>[u16 p.1,u16 p.2])) (h1:H.get b1 = .cells [str x.name,u32 x.pol.default,v,u16 x.handled,pv,qv] none)
  (hx:Ext H0 H) (hQ:∀ b H',Ext H0 H'->(b=true->x.pol.rules.length<=80/\x.paths.length<=50/\x.ports.length<=50)->Q (vb b) H') :
  LoopL (fun l H X0=>F.f19_l2 E Q (nth l 0) (nth l 1) (nth l 2) (nth l 3) H X0) [ptr b1 0,pv,vi x.paths.length,vi 0] H:=by
 have hp63:=hf.2.2.1
 refine LoopL.count x.paths.length (fun i s H'=>s=[ptr b1 0,pv,vi x.paths.length,vi i]/\Ext H H') ?_ ⟨rfl,Ext.refl _⟩
 rintro i _ H' X hi hX ⟨rfl,e1⟩
 have k1:=e1.cells h1
 simp [F.f19_l2]
 refine ifB_split (fun h =>?_) (fun h =>?_)
 ·have hil:i<x.paths.length:=by omega
  obtain ⟨b,o,f1,f2⟩:=(hp.mono e1).ix (i:=i) (by simpa using hil)
  rw [List.getElem_map] at f2
  simp [f1,f2,AH.get_new,splice]
  refine ifB_split (fun h =>?_) (fun h =>?_)
  ·exact hQ false _ (hx.trans (e1.trans ((Ext.refl _).new _))) (by simp)
  ·rw [i64_add (by omega) (by omega),opt_some]
   exact hX hil _ _ ⟨by simp,e1.trans ((Ext.refl _).new _)⟩
 ·have hl3:=hv.lenSlc
  have hl4:=hp.lenSlc
  have hl5:=hq.lenSlc
  rw [List.length_map] at hl4 hl5
  simp [k1,hl3,hl4,hl5]
  by_cases c1:x.pol.rules.length<=80
  ·have d1:((x.pol.rules.length:Int)<=80):=by omega
   by_cases c2:((x.paths.length:Int)<=50)
   ·by_cases c3:((x.ports.length:Int)<=50)
    ·simp [d1,c2,c3,k1,hl3,hl4,hl5]
     exact hQ _ _ (hx.trans e1) fun _=>⟨c1,by omega,by omega⟩
    ·simp [d1,c2,c3,k1,hl3,hl4,hl5]
     exact hQ _ _ (hx.trans e1) (by simp)
   ·simp [d1,c2,k1,hl3,hl4,hl5]
    exact hQ _ _ (hx.trans e1) (by simp)
  ·have d1:¬ ((x.pol.rules.length:Int)<=80):=by omega
   simp [d1]
   exact hQ _ _ (hx.trans e1) (by simp)
theorem S.f19 (hE:Fold E) (x:PolX) (cs:List Value) (hp:PolXAt H x cs) (hf:x.fits) (hQ:∀ b H',Ext H H'->(b=true->x.few)->Q (vb b) H'):E.call (E.fid i.f19) [.agg cs.toArray] H Q:=by
 apply hE.f19
 obtain ⟨v,pv,qv,hcs,hv,hpr,hqr⟩:=hp
 have hr63:=hf.2.1
 have hl:=hv.lenSlc
 simp [F.f19,AH.get_new]
 generalize hH2:H.new _=H2
 have x2:Ext H H2:=by subst hH2; exact (Ext.refl H).new _
 have k2:H2.get H.next = .cells cs none:=by subst hH2; simp [AH.get_new]
 clear hH2
 subst hcs
 simp [k2,hl]
 refine LoopL.count x.pol.rules.length (fun i s H'=>s=[ptr H.next 0,v,vi x.pol.rules.length,vi i]/\Ext H2 H'/\∀ j (hj:j<x.pol.rules.length),j<i->x.pol.rules[j].conds.length<=20) ?_ ⟨rfl,Ext.refl _,fun j _ h=>by omega⟩
 rintro i _ H' X hi hX ⟨rfl,e1,hc⟩
 have k1:=e1.cells k2
 simp [F.f19_l1]
 refine ifB_split (fun h =>?_) (fun h =>?_)
 ·have hil:i<x.pol.rules.length:=by omega
  obtain ⟨b,o,ccs,f1,f2,f3⟩:=(hv.mono (fun _ _ _ _ h e=>RuleAt.mono h e) (x2.trans e1)).ix (i:=i) hil
  obtain ⟨hxl,w,rfl,hw⟩:=f3
  have hlw:=hw.lenSlc
  rw [List.length_map] at hlw
  simp [f1,f2,AH.get_new,splice,hw.plain,hlw]
  refine ifB_split (fun h =>?_) (fun h =>?_)
  ·exact hQ false _ (x2.trans (e1.trans ((Ext.refl _).new _))) (by simp)
  ·rw [i64_add (by omega) (by omega),opt_some]
   refine hX hil _ _ ⟨by simp,e1.trans ((Ext.refl _).new _),fun j hj hji =>?_⟩
   by_cases e:j=i
   ·subst e; omega
   ·exact hc j hj (by omega)
 ·have:i=x.pol.rules.length:=by omega
  subst this
  have hl4:=(hpr.mono (x2.trans e1)).lenSlc
  rw [List.length_map] at hl4
  simp [k1,hl4]
  refine S.law09_Few_l2 H H.next x hf v pv qv (hv.mono (fun _ _ _ _ h e=>RuleAt.mono h e) (x2.trans e1)) (hpr.mono (x2.trans e1)) (hqr.mono (x2.trans e1)) k1 (x2.trans e1) fun b H'' h h' =>?_
  refine hQ b H'' h fun hb=>⟨(h' hb).1,fun x hx =>?_,(h' hb).2⟩
  obtain ⟨j,hj,rfl⟩:=List.getElem_of_mem hx
  exact hc j hj (by omega)
end Go.AM
end
section
namespace Go.AM
variable {E:Sy} {H:AH} {Q:Value->AH->Prop}
def smallValues:List (BitVec 64):=[0#64,1#64,2#64,3#64,5#64,255#64,4294967295#64,4294967296#64,4294967297#64,8589934597#64,9223372036854775810#64,18446744073709551615#64]
theorem S.f22 (hE:Fold E) (hQ:∀ v H',Ext H H'->Vals H' v (smallValues.map u64)->Q v H'):E.call (E.fid i.f22) [] H Q:=by
 apply hE.f22
 simp [F.f22]
 refine hQ _ _ ((Ext.refl _).new _) (Vals.made (AH.get_new_self _ _) (.inl rfl) rfl)
structure SCond where
 arg:BitVec 8
 op:BitVec 8
 mask:BitVec 8
 value:BitVec 8
def SCond.cells (c:SCond):List Value:=[u8 c.arg,u8 c.op,u8 c.mask,u8 c.value]
abbrev SCond.v (c:SCond):Value := .agg c.cells.toArray
def sval (n:Nat):BitVec 64:=smallValues.getD n 0#64
def SCond.cond (s:SCond):CondD :=
 if 1#8+s.op % 7#8=7#8 then ⟨(s.arg % 6#8).toNat,7#8,sval (1+s.mask.toNat % 11),sval (s.value.toNat % 12)&&&sval (1+s.mask.toNat % 11)⟩
 else ⟨(s.arg % 6#8).toNat,1#8+s.op % 7#8,0#64,sval (s.value.toNat % 12)⟩
theorem Vals.get? {H:AH} {v:Value} {l:List Value} (h:Vals H v l) {i:Nat} {x:Value} (hi:l[i]? = some x):∃ b o,ixSlc 1 v (vi i)=some (ptr b o)/\(H.get b).cell o=some x:=by
 obtain ⟨hlt,rfl⟩:=List.getElem?_eq_some_iff.1 hi
 exact h.elem hlt
theorem S.f17 (hE:Fold E) (c:SCond) (hQ:∀ H',Ext H H'->Q c.cond.v H'):E.call (E.fid i.f17) [c.v] H Q:=by
 apply hE.f17
 simp [F.f17]
 refine S.f22 hE fun v H3 h3 hv =>?_
 have e3:Ext H H3:=(((Ext.refl H).new _).new _).trans h3
 have k1:H3.get H.next = .cells c.cells none:=h3.cells (by simp [AH.get_new])
 have k2:H3.get (H.next+1) = .cells [.int .i64 0,u8 0#8,u64 0#64,u64 0#64] none:=h3.cells (by simp [AH.get_new])
 have hl:=hv.lenSlc
 have h12:((smallValues.map u64).length:Int)=((12:Nat):Int):=rfl
 have hlt:=AH.lt_cells k2
 have m12:smallValues.length=12:=rfl
 have hat:∀ n,n<12->(smallValues.map u64)[n]? = some (u64 (sval n)):=fun n hn=>by
  have:n<smallValues.length:=hn
  simp [sval,List.getD_eq_getElem?_getD,this]
 have r1:binInt .rem (vi c.value.toNat) (vi 12)=some (vi ((c.value.toNat % 12:Nat):Int)):=i64_rem_nat c.value.toNat 12 (by decide)
 have r2:binInt .rem (vi c.mask.toNat) (vi 11)=some (vi ((c.mask.toNat % 11:Nat):Int)):=i64_rem_nat c.mask.toNat 11 (by decide)
 have ea:((c.arg % 6#8).toNat:Int)=(c.arg.toNat:Int) % 6:=by simp
 unfold SCond.cond at hQ
 have hn1:c.value.toNat % 12<12:=Nat.mod_lt _ (by decide)
 have hn2:c.mask.toNat % 11<11:=Nat.mod_lt _ (by decide)
 generalize c.value.toNat % 12=n1 at *
 generalize c.mask.toNat % 11=n2 at *
 have r3:binInt .add (vi 1) (vi (n2:Int))=some (vi ((1+n2:Nat):Int)):=i64_add_nat 1 _ (by omega)
 have r4:binInt .sub (vi 12) (vi 1)=some (vi 11):=rfl
 obtain ⟨b1,o1,f1,f2⟩:=hv.get? (hat n1 hn1)
 obtain ⟨b2,o2,f3,f4⟩:=hv.get? (hat (1+n2) (by omega))
 have hb1:b1<H3.next:=AH.lt_of_get (fun h=>by rw [h] at f2; cases f2)
 have hb2:b2<H3.next:=AH.lt_of_get (fun h=>by rw [h] at f4; cases f4)
 generalize 1+n2=n3 at *
 have hne:H.next+1≠H3.next:=Nat.ne_of_lt hlt
 simp [k1,SCond.cells,hl,m12,r1,f1,f2,splice,AH.get_new,Nat.ne_of_lt (Nat.lt_of_succ_lt hlt)]
 by_cases hop:1#8+c.op % 7#8=7#8
 ·rw [if_pos hop] at hQ
  simp [hop,r2,r3,r4,f3,f4,AH.get_new,AH.get_put,splice,k1,k2,hlt,hne,Nat.ne_of_lt hb2]
  simpa [CondD.v,CondD.cells,ea] using hQ _ ((e3.put (b:=H.next+1) (by omega) _).new _)
 ·rw [if_neg hop] at hQ
  simp [hop,AH.get_new,AH.get_put,hlt,hne,k2,splice]
  simpa [CondD.v,CondD.cells,ea] using hQ _ ((e3.put (b:=H.next+1) (by omega) _).new _)
end Go.AM
end
section
namespace Go.AM
variable {E:Sy} {H:AH} {Q:Value->AH->Prop}
def callTable:List (Nat×List UInt8×Nat):=[(0,[114,101,97,100],2),(1,[119,114,105,116,101],2),(2,[111,112,101,110],2),(3,[99,108,111,115,101],1),(4,[115,116,97,116],1),(8,[115,101,101,107],2),(32,[100,117,112],1),(39,[112,105,100],0),(41,[115,111,99,107,101,116],0),(42,[99,111,110,110,101,99,116],2),(49,[98,105,110,100],2),(50,[108,105,115,116,101,110],1),(57,[102,111,114,107],0),(60,[101,120,105,116],1),(77,[116,114,117,110,99,97,116,101],2),(78,[114,101,97,100,100,105,114],1),(79,[99,119,100],0),(80,[99,104,100,105,114],1),(82,[114,101,110,97,109,101],2),(83,[109,107,100,105,114],1),(84,[114,109,100,105,114],1),(86,[108,105,110,107],2),(87,[117,110,108,105,110,107],1),(88,[115,121,109,108,105,110,107],2),(89,[114,101,97,100,108,105,110,107],1),(157,[112,114,99,116,108],1),(165,[109,111,117,110,116],2),(166,[117,109,111,117,110,116],1),(317,[115,101,99,99,111,109,112],1),(446,[114,101,115,116,114,105,99,116],1)]
def callCells (c:Nat×List UInt8×Nat):List Value:=[vi c.1,str c.2.1,vi c.2.2]
theorem bv3 (z0 z1 z2 a b c:Value) (ha:vcells a=[a]) (hb:vcells b=[b]) (hc:vcells c=[c]) (da:defd a=true) (db:defd b=true) (dc:defd c=true):buildV [(0,1),(1,1),(2,1)] #[z0,z1,z2] [(0,a),(1,b),(2,c)]=some (.agg #[a,b,c]):=by
 simp [ha,hb,hc,da,db,dc,splice]
theorem S.f28' (hE:Fold E) (hQ:Q (slc H.next 0 30 30) (H.new (.cells (callTable.map callCells).flatten none))):E.call (E.fid i.f28) [] H Q:=by
 apply hE.f28
 unfold F.f28
 repeat rw [bv3 _ _ _ _ _ _ rfl rfl rfl rfl rfl rfl,opt_some]
 rw [buildS_full 30 3 _ _ (callTable.map fun c => .agg (callCells c).toArray) rfl ?_ rfl rfl ?_,mk_some]
 ·exact hQ
 ·rfl
 ·intro r hr
  obtain ⟨c,_,rfl⟩:=List.mem_map.1 hr
  rfl
def sdirs:List (List UInt8):=[[47],[47,97],[47,97,47,98],[47,102],[47,97,47,103],[47,99]]
theorem S.f18 (hE:Fold E) (hQ:∀ v H',Ext H H'->Vals H' v (sdirs.map str)->Q v H'):E.call (E.fid i.f18) [] H Q:=by
 apply hE.f18
 simp [F.f18,splice]
 exact hQ _ _ ((Ext.refl _).new _) (Vals.made (AH.get_new_self _ _) (.inl rfl) rfl)
def saction (k n:BitVec 8):BitVec 32:=if k % 4#8=0#8 then 2147483648#32 else if k % 4#8=1#8 then afail (1+(n.toNat:Int)) else if k % 4#8=2#8 then 2147221504#32 else 2147418112#32
theorem S.f16 (hE:Fold E) (k n:BitVec 8) (hQ:Q (u32 (saction k n)) H):E.call (E.fid i.f16) [u8 k,u8 n] H Q:=by
 apply hE.f16
 unfold saction at hQ
 have hn:=n.isLt
 simp [F.f16,ifB_dec]
 by_cases h0:k % 4#8=0#8
 ·simp [h0] at hQ ⊢; exact hQ
 by_cases h1:k % 4#8=1#8
 ·simp [h1] at hQ ⊢
  rw [i64_add (by omega) (by omega),opt_some]
  exact S.f31 hE _ hQ
 by_cases h2:k % 4#8=2#8
 ·simp [h2] at hQ ⊢; exact hQ
 ·simp [h0,h1,h2] at hQ ⊢; exact hQ
end Go.AM
end
section
namespace Go.AM
variable {E:Sy} {H:AH} {Q:Value->AH->Prop}
abbrev refL (b2 b3:Nat) (c2:List Value) (nm:Value) (d:BitVec 32) (rv hd pv qv:Value) (rows prows qrows:List (List Value)):List Res :=
 [boxR b2 c2,boxR b3 [nm,u32 d,rv,hd,pv,qv],growR 3 rv rows,growR 2 pv prows,growR 2 qv qrows]
end Go.AM
end
section
namespace Go.AM
variable {E:Sy} {H:AH} {Q:Value->AH->Prop}
structure SRule where
 call:BitVec 8
 action:BitVec 8
 errno:BitVec 8
 conds:List SCond
structure Small where
 name:BitVec 8
 dflt:BitVec 8
 errno:BitVec 8
 rules:List SRule
 handled:BitVec 16
 paths:List (BitVec 8)
 rights:List (BitVec 16)
 ports:List (BitVec 8)
def SRuleAt (H:AH) (r:SRule) (cs:List Value):Prop:=r.conds.length<2 ^ 63/\∃ w,cs=[u8 r.call,u8 r.action,u8 r.errno,w]/\Rows H 4 w (r.conds.map SCond.cells)
theorem SRuleAt.sub {H H':AH} {r:SRule} {cs:List Value} (h:SRuleAt H r cs) (e:Sub H H'):SRuleAt H' r cs:=⟨h.1,h.2.choose,h.2.choose_spec.1,h.2.choose_spec.2.sub e⟩
def SmallAt (H:AH) (s:Small) (cs:List Value):Prop:=∃ v pv rv qv,cs=[u8 s.name,u8 s.dflt,u8 s.errno,v,u16 s.handled,pv,rv,qv]/\SliceOf SRuleAt H 4 v s.rules/\Vals H pv (s.paths.map u8)/\Vals H rv (s.rights.map u16)/\Vals H qv (s.ports.map u8) /\
 s.rules.length<2 ^ 63/\s.paths.length<2 ^ 63/\s.rights.length<2 ^ 63/\s.ports.length<2 ^ 63
theorem SmallAt.sub {H H':AH} {s:Small} {cs:List Value} (h:SmallAt H s cs) (e:Sub H H'):SmallAt H' s cs:=by
 obtain ⟨v,pv,rv,qv,h1,h2,h3,h4,h5,h6⟩:=h
 exact ⟨v,pv,rv,qv,h1,h2.sub (fun _ _ _ _ h e=>SRuleAt.sub h e) e,Rows.sub h3 e,Rows.sub h4 e,Rows.sub h5 e,h6⟩
def callNumber (n:Nat):BitVec 32:=BitVec.ofNat 32 (callTable.getD n (0,[],0)).1
def SRule.rule (r:SRule):RuleD:=⟨callNumber (r.call.toNat % 30),saction r.action r.errno,(r.conds.take 4).map SCond.cond⟩
def Small.hd (s:Small):BitVec 16:=s.handled&&&51199#16
def Small.right (s:Small) (i:Nat) (kind:BitVec 16):BitVec 16:=match s.rights[i]? with | none=>s.hd&&&kind | some r=>r&&&s.hd&&&kind
def stepPath (s:Small) (l:List (List UInt8×BitVec 16)) (i:Nat):List (List UInt8×BitVec 16) :=
 let p:=sdirs.getD ((s.paths.getD i 0#8).toNat % 6) []
 if p ∉ l.map Prod.fst/\s.right i 2047#16≠0#16 then l++[(p,s.right i 2047#16)] else l
def stepPort (s:Small) (l:List (BitVec 16×BitVec 16)) (i:Nat):List (BitVec 16×BitVec 16) :=
 let n:BitVec 16:=(80#8+s.ports.getD i 0#8 % 4#8).setWidth 16
 if n ∉ l.map Prod.fst/\s.right i 49152#16≠0#16 then l++[(n,s.right i 49152#16)] else l
def Small.pathsTo (s:Small) (n:Nat):List (List UInt8×BitVec 16):=(List.range n).foldl (stepPath s) []
def Small.portsTo (s:Small) (n:Nat):List (BitVec 16×BitVec 16):=(List.range n).foldl (stepPort s) []
def snames:List (List UInt8):=[[112],[112,111,108,45,49],[120,95,121]]
def Small.pol (s:Small):PolX:=⟨snames.getD (s.name % 3#8).toNat [],⟨saction s.dflt s.errno,(s.rules.take 12).map SRule.rule⟩,s.hd,s.pathsTo s.paths.length,s.portsTo s.ports.length⟩
theorem pathsTo_succ (s:Small) (n:Nat):s.pathsTo (n+1)=stepPath s (s.pathsTo n) n:=by simp [Small.pathsTo,List.range_succ]
theorem portsTo_succ (s:Small) (n:Nat):s.portsTo (n+1)=stepPort s (s.portsTo n) n:=by simp [Small.portsTo,List.range_succ]
theorem step_nodup {α β:Type} [DecidableEq α] (l:List (α×β)) (a:α) (b:β) (h:a ∉ l.map Prod.fst) (hn:(l.map Prod.fst).Nodup):((l++[(a,b)]).map Prod.fst).Nodup:=by
 rw [List.map_append,List.nodup_append]
 refine ⟨hn,by simp,fun x hx y hy =>?_⟩
 simp at hy
 subst hy
 rintro rfl
 exact h hx
theorem pathsTo_ok (s:Small):∀ n,((s.pathsTo n).map Prod.fst).Nodup/\∀ x∈(s.pathsTo n).map Prod.fst,x∈sdirs
 | 0=>by simp [Small.pathsTo]
 | n+1=>by
  obtain ⟨h1,h2⟩:=pathsTo_ok s n
  rw [pathsTo_succ]
  unfold stepPath
  simp only
  split
  ·rename_i h
   refine ⟨step_nodup _ _ _ h.1 h1,fun x hx =>?_⟩
   rw [List.map_append,List.mem_append] at hx
   rcases hx with hx | hx
   ·exact h2 x hx
   ·simp only [List.map_cons,List.map_nil,List.mem_singleton] at hx
    subst hx
    have:(s.paths.getD n 0#8).toNat % 6<sdirs.length:=Nat.mod_lt _ (by decide)
    rw [List.getD_eq_getElem?_getD,List.getElem?_eq_getElem this]
    exact List.getElem_mem this
  ·exact ⟨h1,h2⟩
theorem pathsTo_len (s:Small) (n:Nat):(s.pathsTo n).length<=6:=by
 have:=nodup_le _ sdirs (pathsTo_ok s n).1 (pathsTo_ok s n).2
 simpa [sdirs] using this
def portNs:List (BitVec 16):=[80#16,81#16,82#16,83#16]
theorem portN (x:BitVec 8):((80#8+x % 4#8).setWidth 16:BitVec 16)∈portNs:=by
 have h:∀ y:BitVec 8,y.toNat<4->((80#8+y).setWidth 16:BitVec 16)∈portNs:=by
  intro y hy
  have:y=BitVec.ofNat 8 y.toNat:=by simp
  rw [this]
  generalize y.toNat=k at *
  match k,hy with
  | 0,_=>decide
  | 1,_=>decide
  | 2,_=>decide
  | 3,_=>decide
 exact h _ (by simp; omega)
theorem portsTo_ok (s:Small):∀ n,((s.portsTo n).map Prod.fst).Nodup/\∀ x∈(s.portsTo n).map Prod.fst,x∈portNs
 | 0=>by simp [Small.portsTo]
 | n+1=>by
  obtain ⟨h1,h2⟩:=portsTo_ok s n
  rw [portsTo_succ]
  unfold stepPort
  simp only
  split
  ·rename_i h
   refine ⟨step_nodup _ _ _ h.1 h1,fun x hx =>?_⟩
   rw [List.map_append,List.mem_append] at hx
   rcases hx with hx | hx
   ·exact h2 x hx
   ·simp only [List.map_cons,List.map_nil,List.mem_singleton] at hx
    subst hx
    exact portN _
  ·exact ⟨h1,h2⟩
theorem portsTo_len (s:Small) (n:Nat):(s.portsTo n).length<=4:=by
 have:=nodup_le _ portNs (portsTo_ok s n).1 (portsTo_ok s n).2
 simpa [portNs] using this
theorem Small.pol_few (s:Small):s.pol.few:=by
 refine ⟨by simp [Small.pol]; omega,?_,by have:=pathsTo_len s s.paths.length; simp [Small.pol]; omega,by have:=portsTo_len s s.ports.length; simp [Small.pol]; omega⟩
 intro r hr
 simp only [Small.pol,List.mem_map] at hr
 obtain ⟨x,_,rfl⟩:=hr
 simp [SRule.rule]; omega
theorem S.f21 (hE:Fold E) (s:Small) (cs:List Value) (hs:SmallAt H s cs) (b1 b4:Nat) (h1:H.get b1 = .cells cs none) (c4:List Value) (h4:H.get b4 = .cells c4 none) (hc4:c4[3]? = some (u16 s.hd)) (n:Nat) (k:BitVec 16) (hQ:Q (u16 (s.right n k)) H) :
  E.call (E.fid i.f21) [vi n,u16 k,ptr b1 0,ptr b4 0] H Q:=by
 apply hE.f21
 obtain ⟨v,pv,rv,qv,rfl,_,_,hr,_⟩:=hs
 have hl:=hr.lenSlc
 rw [List.length_map] at hl
 unfold Small.right at hQ
 simp [F.f21,h1,hl]
 refine ifB_split (fun h =>?_) (fun h =>?_)
 ·rw [List.getElem?_eq_none (by omega)] at hQ
  simp [h4,hc4]
  exact hQ
 ·have hi:n<s.rights.length:=by omega
  rw [List.getElem?_eq_getElem hi] at hQ
  obtain ⟨b,o,f1,f2⟩:=hr.elem (i:=n) (by simpa using hi)
  simp [h1,h4,hc4,f1,f2]
  exact hQ
def pathV (p:List UInt8×BitVec 16):List Value:=[str p.1,u16 p.2]
def portV (p:BitVec 16×BitVec 16):List Value:=[u16 p.1,u16 p.2]
theorem sdirs_get (n:Nat) (h:n<6):(sdirs.map str)[n]? = some (str (sdirs.getD n [])):=by
 have:n<sdirs.length:=h
 simp [List.getD_eq_getElem?_getD,this]
theorem Policy_l2 (hE:Fold E) (s:Small) (cs:List Value) (H0 Z:AH) (hs:SmallAt Z s cs) (b1 b2 b4 r:Nat) (h1:Z.get b1 = .cells cs none) (c2:List Value) (hc2:c2.length=6) (nm:Value) (hnm:plain1 nm=true) (d:BitVec 32) (rv pv:Value) (rows prows:List (List Value)) (sv:Value) (hsv:Vals Z sv (s.ports.map u8)) (hn:s.ports.length<2 ^ 63)
  (hS:Has H0 Z H (refL b2 b4 c2 nm d rv (u16 s.hd) pv nilS rows prows []++[mapR u16 vb r []]))
  (hQ:∀ H' qv c2,Has H0 Z H' (refL b2 b4 c2 nm d rv (u16 s.hd) pv qv rows prows ((s.portsTo s.ports.length).map portV))->Q (.agg #[nm,u32 d,rv,u16 s.hd,pv,qv]) H') :
  LoopL (fun l H X0=>F.f20_l2 E Q (nth l 0) (nth l 1) (nth l 2) (nth l 3) (nth l 4) (nth l 5) (nth l 6) H X0) [ptr b2 0,ptr b4 0,.func (.func (E.fid i.f21)) #[] #[ptr b1 0,ptr b4 0],.map (some r),sv,vi s.ports.length,vi 0] H:=by
 refine LoopL.count s.ports.length (fun j l H'=>∃ qv,l=[ptr b2 0,ptr b4 0,.func (.func (E.fid i.f21)) #[] #[ptr b1 0,ptr b4 0],.map (some r),sv,vi s.ports.length,vi j]/\plain1 qv=true /\
   Has H0 Z H' (refL b2 b4 c2 nm d rv (u16 s.hd) pv qv rows prows ((s.portsTo j).map portV)++[mapR u16 vb r ((s.portsTo j).map fun p=>(p.1,true))])) ?_ ⟨nilS,rfl,rfl,hS⟩
 rintro j _ H' X hj hX ⟨qv,rfl,hqv,g1⟩
 have k4:=g1.box (k:=1) rfl
 have k2:=g1.box (k:=0) rfl
 simp only [F.f20_l2,nth_0,nth_1,nth_2,nth_3,nth_4,nth_5,nth_6,i64_lss,opt_some]
 refine ifB_split (fun h =>?_) (fun h =>?_)
 ·have hjl:j<s.ports.length:=by omega
  obtain ⟨b,o,f1,f2⟩:=(Rows.sub hsv g1.sub).ix (i:=j) (by simpa using hjl)
  simp only [List.getElem_map] at f2
  have f2:=row_at f2 (by omega:0<1)
  simp at f2
  have hst:=portsTo_succ s j
  have hlen:=portsTo_len s j
  unfold stepPort at hst
  simp only [List.getD_eq_getElem?_getD,List.getElem?_eq_getElem hjl,Option.getD_some] at hst
  generalize s.ports[j]=c at *
  simp [-buildS_eq,-buildV_eq,f1,f2]
  generalize hnn:(BitVec.setWidth 16 (80#8+c % 4#8):BitVec 16)=n at *
  refine S.f21 hE s cs (hs.sub g1.sub) b1 b4 (g1.sub.cells h1) _ k4 rfl j 49152#16 ?_
  have hm:=(g1.mapAt (k:=5) rfl).look (kd:=0) same_u16 n (.bool false) false
  rw [lookup_set] at hm
  by_cases hin:n∈(s.portsTo j).map Prod.fst
  ·rw [if_pos hin] at hm
   have hm:look 0 (.bool false) false (.map (some r)) (u16 n) H'=some (.bool true):=hm
   simp only [hm,opt_some,un_not,Bool.not_true,gd_ft,gd_skip,pick_false,ifB_false]
   rw [i64_add (by omega) (by omega),opt_some]
   refine hX hjl _ _ ⟨qv,by simp,hqv,?_⟩
   rw [hst,if_neg (fun h=>h.1 hin)]
   exact g1
  ·rw [if_neg hin] at hm
   have hm:look 0 (.bool false) false (.map (some r)) (u16 n) H'=some (.bool false):=hm
   by_cases hr:s.right j 49152#16=0#16
   ·simp [-buildS_eq,-buildV_eq,hm,hr]
    rw [i64_add (by omega) (by omega),opt_some]
    refine hX hjl _ _ ⟨qv,by simp,hqv,?_⟩
    rw [hst,if_neg (fun h=>h.2 hr)]
    exact g1
   ·rw [if_pos ⟨hin,hr⟩] at hst
    simp [-buildS_eq,-buildV_eq,hm,hr]
    obtain ⟨H4,m1,m2⟩:=g1.mapset (n:=5) rfl (kd:=0) same_u16 n true
    rw [aset_new n true (fun _=>true) _ hin] at m2
    rw [m1,opt_some,m2.box (k:=1) rfl]
    obtain ⟨v',H5,a1,a2,a3⟩:=m2.app1 (k:=4) rfl (bytes:=4) (portV (n,s.right j 49152#16)) rfl rfl (by omega) (by omega) (by simp; omega)
    have e:=buildS_one 2 [u16 0#16,u16 0#16] (portV (n,s.right j 49152#16)) rfl rfl
    simp only [portV] at e a1 
    simp [-buildS_eq,splice]
    rw [e,mk_some,mkSlc_eq,a1]
    simp [a2,a3.box (k:=1) rfl]
    rw [i64_add (by omega) (by omega),opt_some]
    refine hX hjl _ _ ⟨v',by simp,a2,?_⟩
    rw [hst,List.map_append,List.map_append]
    exact a3.put (k:=1) rfl [nm,u32 d,rv,u16 s.hd,pv,v']
 ·have:j=s.ports.length:=by omega
  subst this
  have hrv:=(g1.slice (k:=2) rfl).plain
  have hpv:=(g1.slice (k:=3) rfl).plain
  have e9:=row_all [nm,u32 d,rv,u16 s.hd,pv,qv] none 6 rfl
  have l2:=g1.box_lt (k:=0) rfl
  have h4:=(g1.put (k:=0) rfl [nm,u32 d,rv,u16 s.hd,pv,qv]).drop 5
  simp [k4,e9,k2,hc2,hnm,hrv,hpv,hqv,l2,splice]
  have e0:List.drop 6 c2=[]:=List.drop_eq_nil_of_le (by omega)
  rw [e0]
  exact hQ _ qv _ h4
end Go.AM
end
section
namespace Go.AM
variable {E:Sy} {H:AH} {Q:Value->AH->Prop}
theorem Policy_l1 (hE:Fold E) (s:Small) (cs:List Value) (H0 Z:AH) (hs:SmallAt Z s cs) (b1 b2 b4 r:Nat) (h1:Z.get b1 = .cells cs none) (c2:List Value) (hc2:c2.length=6) (nm:Value) (hnm:plain1 nm=true) (d:BitVec 32) (rv:Value) (rows:List (List Value)) (sv:Value) (hsv:Vals Z sv (s.paths.map u8)) (hn:s.paths.length<2 ^ 63)
  (hS:Has H0 Z H (refL b2 b4 c2 nm d rv (u16 s.hd) nilS nilS rows [] []++[mapR str vb r []]))
  (hQ:∀ H' pv qv c2,Has H0 Z H' (refL b2 b4 c2 nm d rv (u16 s.hd) pv qv rows ((s.pathsTo s.paths.length).map pathV) ((s.portsTo s.ports.length).map portV))->Q (.agg #[nm,u32 d,rv,u16 s.hd,pv,qv]) H') :
  LoopL (fun l H X0=>F.f20_l1 E Q (nth l 0) (nth l 1) (nth l 2) (nth l 3) (nth l 4) (nth l 5) (nth l 6) (nth l 7) H X0) [ptr b1 0,ptr b2 0,ptr b4 0,.map (some r),.func (.func (E.fid i.f21)) #[] #[ptr b1 0,ptr b4 0],sv,vi s.paths.length,vi 0] H:=by
 refine LoopL.count s.paths.length (fun j l H'=>∃ pv,l=[ptr b1 0,ptr b2 0,ptr b4 0,.map (some r),.func (.func (E.fid i.f21)) #[] #[ptr b1 0,ptr b4 0],sv,vi s.paths.length,vi j] /\
   Has H0 Z H' (refL b2 b4 c2 nm d rv (u16 s.hd) pv nilS rows ((s.pathsTo j).map pathV) []++[mapR str vb r ((s.pathsTo j).map fun p=>(p.1,true))])) ?_ ⟨nilS,rfl,hS⟩
 rintro j _ H' X hj hX ⟨pv,rfl,g1⟩
 have k4:=g1.box (k:=1) rfl
 simp only [F.f20_l1,nth_0,nth_1,nth_2,nth_3,nth_4,nth_5,nth_6,nth_7,i64_lss,opt_some]
 refine ifB_split (fun h =>?_) (fun h =>?_)
 ·have hjl:j<s.paths.length:=by omega
  obtain ⟨b,o,f1,f2⟩:=(Rows.sub hsv g1.sub).ix (i:=j) (by simpa using hjl)
  simp only [List.getElem_map] at f2
  have f2:=row_at f2 (by omega:0<1)
  simp at f2
  have hst:=pathsTo_succ s j
  have hlen:=pathsTo_len s j
  unfold stepPath at hst
  simp only [List.getD_eq_getElem?_getD (l:=s.paths),List.getElem?_eq_getElem hjl,Option.getD_some] at hst
  generalize s.paths[j]=c at *
  simp [-buildS_eq,-buildV_eq,f1,f2]
  refine S.f18 hE fun w1 H1 e1 hw1 =>?_
  refine S.f18 hE fun w2 H2 e2 hw2 =>?_
  have hl2:=hw2.lenSlc
  have hl2:lenSlc w2=some (vi 6):=hl2
  have hrm:binInt .rem (vi c.toNat) (vi 6)=some (vi ((c.toNat % 6:Nat):Int)):=i64_rem_nat c.toNat 6 (by decide)
  have hm6:c.toNat % 6<6:=Nat.mod_lt _ (by decide)
  generalize c.toNat % 6=m at *
  obtain ⟨b3,o3,f3,f4⟩:=(hw1.mono e2).get? (sdirs_get m hm6)
  generalize sdirs.getD m []=n at *
  have g1:=(g1.grow e1).grow e2
  have k4:=g1.box (k:=1) rfl
  simp [-buildS_eq,-buildV_eq,hl2,hrm,f3,f4]
  refine S.f21 hE s cs (hs.sub g1.sub) b1 b4 (g1.sub.cells h1) _ k4 rfl j 2047#16 ?_
  have hm:=(g1.mapAt (k:=5) rfl).look (kd:=1) same_str n (.bool false) false
  rw [lookup_set] at hm
  by_cases hin:n∈(s.pathsTo j).map Prod.fst
  ·rw [if_pos hin] at hm
   have hm:look 1 (.bool false) false (.map (some r)) (str n) H2=some (.bool true):=hm
   simp only [hm,opt_some,un_not,Bool.not_true,gd_ft,gd_skip,pick_false,ifB_false]
   rw [i64_add (by omega) (by omega),opt_some]
   refine hX hjl _ _ ⟨pv,by simp,?_⟩
   rw [hst,if_neg (fun h=>h.1 hin)]
   exact g1
  ·rw [if_neg hin] at hm
   have hm:look 1 (.bool false) false (.map (some r)) (str n) H2=some (.bool false):=hm
   by_cases hr:s.right j 2047#16=0#16
   ·simp [-buildS_eq,-buildV_eq,hm,hr]
    rw [i64_add (by omega) (by omega),opt_some]
    refine hX hjl _ _ ⟨pv,by simp,?_⟩
    rw [hst,if_neg (fun h=>h.2 hr)]
    exact g1
   ·rw [if_pos ⟨hin,hr⟩] at hst
    simp [-buildS_eq,-buildV_eq,hm,hr]
    obtain ⟨H4,m1,m2⟩:=g1.mapset (n:=5) rfl (kd:=1) same_str n true
    rw [aset_new n true (fun _=>true) _ hin] at m2
    rw [m1,opt_some,m2.box (k:=1) rfl]
    obtain ⟨v',H5,a1,a2,a3⟩:=m2.app1 (k:=3) rfl (bytes:=24) (pathV (n,s.right j 2047#16)) rfl rfl (by omega) (by omega) (by simp; omega)
    have e:=buildS_one 2 [str [],u16 0#16] (pathV (n,s.right j 2047#16)) rfl rfl
    simp only [pathV] at e a1
    simp [-buildS_eq,splice]
    rw [e,mk_some,mkSlc_eq,a1]
    simp [a2,a3.box (k:=1) rfl]
    rw [i64_add (by omega) (by omega),opt_some]
    refine hX hjl _ _ ⟨v',by simp,?_⟩
    rw [hst,List.map_append,List.map_append]
    exact a3.put (k:=1) rfl [nm,u32 d,rv,u16 s.hd,v',nilS]
 ·have:j=s.paths.length:=by omega
  subst this
  have hs':=hs
  obtain ⟨v,pv',rv',qv,rfl,_,_,_,h5,_,_,_,h9⟩:=hs'
  have hl2:=(Rows.sub h5 g1.sub).lenSlc
  simp only [List.length_map] at hl2
  have g2:=(g1.drop 5).newmap u16 vb
  have k1:=g2.sub.cells h1
  simp [k1,hl2]
  exact Policy_l2 hE s _ H0 Z hs b1 b2 b4 H'.next h1 c2 hc2 nm hnm d rv pv rows _ qv h5 h9 g2 fun H'' qv c2 g=>hQ _ _ _ _ g
theorem Policy_j1 (hE:Fold E) (s:Small) (cs:List Value) (H0 Z:AH) (hs:SmallAt Z s cs) (b1 b2 b4:Nat) (h1:Z.get b1 = .cells cs none) (c2:List Value) (hc2:c2.length=6) (nm:Value) (hnm:plain1 nm=true) (d:BitVec 32) (rv:Value) (rows:List (List Value))
  (hS:Has H0 Z H (refL b2 b4 c2 nm d rv (u16 s.hd) nilS nilS rows [] []))
  (hQ:∀ H' pv qv c2,Has H0 Z H' (refL b2 b4 c2 nm d rv (u16 s.hd) pv qv rows ((s.pathsTo s.paths.length).map pathV) ((s.portsTo s.ports.length).map portV))->Q (.agg #[nm,u32 d,rv,u16 s.hd,pv,qv]) H') :
  F.f20_j1 E Q (ptr b1 0) (ptr b2 0) (ptr b4 0) H:=by
 have hs':=hs
 obtain ⟨v,pv',rv',qv,rfl,_,h4,_,_,_,h7,_,_⟩:=hs'
 have g2:=hS.newmap str vb
 have hl2:=(Rows.sub h4 g2.sub).lenSlc
 simp only [List.length_map] at hl2
 have k1:=g2.sub.cells h1
 simp [F.f20_j1,k1,hl2]
 exact Policy_l1 hE s _ H0 Z hs b1 b2 b4 H.next h1 c2 hc2 nm hnm d rv rows pv' h4 h7 g2 hQ
theorem Policy_l4 (hE:Fold E) (X0:List Value->AH->Prop) (b1 b2 b4 b7:Nat) (t3 t38 t39:Value) (i:Nat) (hi:i<12) (x:SRule) (hx:x.conds.length<2 ^ 63) (w:Value) (H0 Z:AH) (hw:Rows Z 4 w (x.conds.map SCond.cells)) (c2:List Value) (nm:Value) (d nu ac:BitVec 32) (rv hd pv qv:Value) (rows prows qrows:List (List Value))
  (hr:rows.length=i) (hS:Has H0 Z H (refL b2 b4 c2 nm d rv hd pv qv rows prows qrows++[boxR b7 [u32 nu,u32 ac,nilS]]))
  (hX0:∀ Z' H' rv' row,Fz H0.next Z Z'->RuleAt Z' ⟨nu,ac,(x.conds.take 4).map SCond.cond⟩ row->Has H0 Z' H' (refL b2 b4 c2 nm d rv' hd pv qv (rows++[row]) prows qrows)->X0 [ptr b1 0,ptr b2 0,t3,ptr b4 0,t38,t39,vi ((i+1:Nat):Int)] H') :
  LoopL (fun l H X1=>F.f20_l4 E Q X0 (nth l 0) (nth l 1) (nth l 2) (nth l 3) (nth l 4) (nth l 5) (nth l 6) (nth l 7) (nth l 8) (nth l 9) (nth l 10) H X1) [ptr b1 0,ptr b2 0,t3,ptr b4 0,ptr b7 0,t38,t39,vi i,w,vi x.conds.length,vi 0] H:=by
 refine LoopL.count x.conds.length (fun j s H'=>∃ cv,s=[ptr b1 0,ptr b2 0,t3,ptr b4 0,ptr b7 0,t38,t39,vi i,w,vi x.conds.length,vi j]/\plain1 cv=true/\Has H0 Z H' (refL b2 b4 c2 nm d rv hd pv qv rows prows qrows++[boxR b7 [u32 nu,u32 ac,cv],growR 4 cv ((((x.conds.take 4).map SCond.cond).take j).map CondD.cells)])) ?_ ⟨nilS,rfl,rfl,hS.nils 4⟩
 rintro j _ H' X hj hX ⟨cv,rfl,hcv,h1⟩
 have k6:=h1.box (k:=5) rfl
 have h6:=h1.box_lt (k:=5) rfl
 simp only [F.f20_l4,nth_0,nth_1,nth_2,nth_3,nth_4,nth_5,nth_6,nth_7,nth_8,nth_9,nth_10,i64_lss,opt_some]
 refine ifB_split (fun h =>?_) (fun h =>?_)
 ·have hjl:j<x.conds.length:=by omega
  obtain ⟨b,o,f1,f2⟩:=(hw.sub h1.sub).ix (i:=j) (by simpa using hjl)
  simp only [List.getElem_map] at f2
  have h2:=h1.new (.cells x.conds[j].cells none)
  by_cases hj4:j<4
  ·have htk:(((x.conds.take 4).map SCond.cond).take (j+1)).map CondD.cells=(((x.conds.take 4).map SCond.cond).take j).map CondD.cells++[x.conds[j].cond.cells]:=by
    rw [List.take_succ_eq_append_getElem (by simp; omega),List.map_append]; simp
   generalize x.conds[j]=c at *
   have hj4':(j:Int)<4:=by omega
   simp [-buildS_eq,f1,f2,SCond.cells,splice,AH.get_new,Nat.ne_of_lt h6,k6,hj4']
   refine S.f17 hE c fun H3 e3 =>?_
   have h3:=h2.grow e3
   have k63:=h3.box (k:=5) rfl
   obtain ⟨v',H5,a1,a2,a3⟩:=h3.app1 (k:=6) rfl (bytes:=32) c.cond.cells rfl rfl (by omega) (by omega) (by simp; omega)
   have k65:=a3.box (k:=5) rfl
   rw [k63]
   refine ⟨rfl,?_⟩
   rw [buildS_one 4 [_,_,_,_] c.cond.cells rfl rfl,mk_some,mkSlc_eq,a1]
   simp [a2,k65]
   rw [i64_add (by omega) (by omega),opt_some]
   refine hX hjl _ _ ⟨v',by simp,a2,?_⟩
   rw [htk]
   exact a3.put (k:=5) rfl [u32 nu,u32 ac,v']
  ·have htk:((x.conds.take 4).map SCond.cond).take (j+1)=((x.conds.take 4).map SCond.cond).take j:=by
    rw [List.take_of_length_le (i:=j+1) (by simp; omega),List.take_of_length_le (i:=j) (by simp; omega)]
   generalize x.conds[j]=c at *
   have hj4':¬ (j:Int)<4:=by omega
   simp [-buildS_eq,f1,f2,SCond.cells,splice,AH.get_new,Nat.ne_of_lt h6,k6,hj4']
   rw [i64_add (by omega) (by omega),opt_some]
   refine hX hjl _ _ ⟨cv,by simp,hcv,?_⟩
   rw [htk]
   exact h2
 ·have:j=x.conds.length:=by omega
  subst this
  rw [List.take_of_length_le (by simp; omega)] at h1
  have k3:=h1.box (k:=1) rfl
  obtain ⟨v',H8,a1,a2,a3⟩:=h1.app1 (k:=2) rfl (bytes:=32) [u32 nu,u32 ac,cv] rfl (by simp [hcv]) (by omega) (by omega) (by omega)
  have k38:=a3.box (k:=1) rfl
  simp only [addOff_ptr,opt_some,load1_ptr,loadN_ptr,k3,k6,row_all [u32 nu,u32 ac,cv] none 3 rfl,cell_cells,Option.map_some]
  simp only [Nat.zero_add,List.getElem?_cons_succ,List.getElem?_cons_zero,opt_some]
  rw [buildS_one 3 [_,_,_] [u32 nu,u32 ac,cv] rfl rfl,mk_some,mkSlc_eq,a1]
  simp [a2,k38]
  rw [i64_inc (by omega),opt_some]
  have h4:=a3.put (k:=1) rfl [nm,u32 d,v',hd,pv,qv]
  obtain ⟨Z',z1,z2,z3⟩:=h4.freeze (k:=6) rfl
  exact hX0 Z' _ v' [u32 nu,u32 ac,cv] z1 ⟨by simp; omega,cv,rfl,z2.toRows⟩ (z3.drop 5)
theorem callTable_get (n:Nat) (h:n<30):∃ c,(callTable.map callCells)[n]? = some (callCells c)/\BitVec.ofNat 32 c.1=callNumber n:=by
 have hn:n<callTable.length:=h
 refine ⟨callTable[n],by simp [hn],?_⟩
 simp [callNumber,List.getD_eq_getElem?_getD,hn]
theorem S.pinfoldlaw09_Small_PolicyZ (hE:Fold E) (s:Small) (cs:List Value) (Z0:AH) (hz:Sub Z0 H) (hs:SmallAt Z0 s cs) (hQ:∀ Z' H' cs',Ext H H'->Fz H.next Z0 Z'->Sub Z' H'->PolXAt Z' s.pol cs'->Q (.agg cs'.toArray) H'):E.call (E.fid i.f20) [.agg cs.toArray] H Q:=by
 apply hE.f20
 simp [-buildS_eq,F.f20]
 obtain ⟨Z,zf,zs,k1⟩:=hz.newfrozen (.cells cs none)
 have hS:=(Has.begin ((Ext.refl H).new (.cells cs none)) zs).newbox [str [],u32 0#32,nilS,u16 0#16,nilS,nilS]
 simp only [AH.next_new] at hS
 generalize hH2:(H.new _).new _=H2 at *
 have hn2:H2.next=H.next+2:=by subst hH2; rfl
 refine S.f28' hE ?_
 have hG:Grow zH (H2.new (.cells (callTable.map callCells).flatten none)) 3 (slc H2.next 0 30 30) (callTable.map callCells):=Grow.made (zH_get _) (AH.get_new_self _ _) (.inl rfl) rfl (by
  intro r hr
  obtain ⟨c,_,rfl⟩:=List.mem_map.1 hr
  exact ⟨rfl,rfl⟩)
 have hS:=hS.add (growR 3 (slc H2.next 0 30 30) (callTable.map callCells)) ((Ext.refl H2).new _) hG (by simp [growR,blkL,blk]) (by simp [growR,blkL,blk])
 obtain ⟨Z1,z1,z2,hS⟩:=hS.freeze (k:=1) rfl
 have hs':=hs
 obtain ⟨v,pv,rv,qv,rfl,hv,hpv,hrv,hqv,n1,n2,n3,n4⟩:=hs'
 generalize hHT:H2.new _=HT at *
 have hnT:HT.next=H2.next+1:=by subst hHT; rfl
 have kT:=hS.sub.cells (z1.1.cells k1)
 have ltT:=AH.lt_cells kT
 have b2T:=hS.box (k:=0) rfl
 have l2T:=hS.box_lt (k:=0) rfl
 have hq3:(s.name % 3#8).toNat<3:=by simp; omega
 have hnm:(snames.map str)[(s.name % 3#8).toNat]? = some (str (snames.getD (s.name % 3#8).toNat [])):=by
  have:(s.name % 3#8).toNat<snames.length:=hq3
  simp only [List.getElem?_map,List.getElem?_eq_getElem this,List.getD_eq_getElem?_getD,Option.map_some,Option.getD_some]
 unfold Small.pol at hQ
 generalize hq:s.name % 3#8=q at *
 generalize snames.getD q.toNat []=nm at *
 have hnm:[str [112],str [112,111,108,45,49],str [120,95,121]][q.toNat]? = some (str nm):=hnm
 have hss:s.handled&&&51199#16=s.hd:=rfl
 have hnm':[str [112],str [112,111,108,45,49],str [120,95,121]][q.toNat]'hq3=str nm:=by
  rw [List.getElem?_eq_getElem hq3] at hnm
  exact Option.some.inj hnm
 have hne2:¬ H.next=HT.next+1:=by omega
 simp [-buildV_eq,splice,AH.get_new,Nat.ne_of_lt ltT,kT,hq,hq3,hnm',hss]
 refine S.f16 hE _ _ ?_
 have hl:=(hv.sub (fun _ _ _ _ h e=>SRuleAt.sub h e) (zf.1.trans (z1.1.trans hS.sub))).lenSlc
 simp [splice,AH.get_new,Nat.ne_of_lt ltT,hne2,kT,hnm',hl]
 refine ⟨hnm,?_⟩
 have hS:=((((hS.new (.cells [str [112],str [112,111,108,45,49],str [120,95,121]] none)).newbox [str nm,u32 (saction s.dflt s.errno),nilS,u16 s.hd,nilS,nilS]).nils 3).nils 2).nils 2
 generalize (HT.new _).new _=H5 at *
 simp only [AH.next_new] at hS
 have hsZ:=hs.sub (zf.1.trans z1.1)
 have k1Z:=z1.1.cells k1
 clear hHT hH2 kT ltT b2T l2T hl
 refine LoopL.count s.rules.length (fun j l H'=>∃ Z' rv rows,l=[ptr H.next 0,ptr (H.next+1) 0,slc H2.next 0 30 30,ptr (HT.next+1) 0,v,vi s.rules.length,vi j]/\j<=12/\Fz H.next Z1 Z'/\Has H Z' H' (refL (H.next+1) (HT.next+1) [str [],u32 0#32,nilS,u16 0#16,nilS,nilS] (str nm) (saction s.dflt s.errno) rv (u16 s.hd) nilS nilS rows [] []) /\
   rows.length=j/\∀ i (h1:i<s.rules.length) (h2:i<rows.length),RuleAt Z' s.rules[i].rule rows[i]) ?_ ⟨Z1,nilS,[],rfl,by omega,Fz.refl _ _,hS,rfl,fun i _ h=>by simp at h⟩
 rintro j _ H' X hj hX ⟨Z',rv',rows,rfl,hj12,y1,g1,g2,g3⟩
 have hend:∀ H'',(j=12\/j=s.rules.length)->Ext H' H''->F.f20_j1 E Q (ptr H.next 0) (ptr (H.next+1) 0) (ptr (HT.next+1) 0) H'':=by
  intro H'' hjj ex
  refine Policy_j1 hE s _ H Z' (hsZ.sub y1.1) H.next (H.next+1) (HT.next+1) (y1.1.cells k1Z) _ rfl (str nm) rfl (saction s.dflt s.errno) rv' rows (g1.grow ex) fun H3 pv3 qv3 c2 q =>?_
  obtain ⟨Z2,w1,w2,w3⟩:=q.freeze (k:=2) rfl
  obtain ⟨Z3,w4,w5,w6⟩:=w3.freeze (k:=2) rfl
  obtain ⟨Z4,w7,w8,w9⟩:=w6.freeze (k:=2) rfl
  have r1:Rows Z4 3 rv' rows:=(Grow.toRows (show Grow zH Z2 3 rv' rows from w2)).sub (w4.1.trans w7.1)
  have r2:=(Grow.toRows (show Grow zH Z3 2 pv3 _ from w5)).sub w7.1
  have r3:=Grow.toRows (show Grow zH Z4 2 qv3 _ from w8)
  refine hQ Z4 H3 [str nm,u32 (saction s.dflt s.errno),rv',u16 s.hd,pv3,qv3] q.ext ((((zf.trans z1).trans y1).trans w1).trans (w4.trans w7)) w9.sub ⟨rv',pv3,qv3,rfl,⟨rows,r1,?_,?_⟩,r2,r3⟩
  ·simp [g2]; omega
  ·intro i a b
   have hi:i<s.rules.length:=by simp at a; omega
   simpa using (g3 i hi b).sub (w1.1.trans (w4.1.trans w7.1))
 simp only [F.f20_l3,nth_0,nth_1,nth_2,nth_3,nth_4,nth_5,nth_6,i64_lss,opt_some]
 refine ifB_split (fun h =>?_) (fun h =>?_)
 ·have hjl:j<s.rules.length:=by omega
  obtain ⟨b,o,ccs,m1,m2,m3⟩:=(hv.sub (fun _ _ _ _ h e=>SRuleAt.sub h e) (zf.1.trans (z1.1.trans y1.1))).ix (i:=j) hjl
  have m2:(H'.get b).row o 4=some ccs:=by rw [g1.sub.2 b (row_notdead m2)]; exact m2
  obtain ⟨hxl,w,rfl,hw⟩:=m3
  have hlw:=(hw.sub g1.sub).lenSlc
  rw [List.length_map] at hlw
  by_cases h12:j=12
  ·have h12':(12:Int)<=j:=by omega
   simp [m1,m2,splice,AH.get_new,hw.plain,h12']
   exact hend _ (.inl h12) ((Ext.refl _).new _)
  ·have hne:¬ (12:Int)<=j:=by omega
   have hrm:binInt .rem (vi s.rules[j].call.toNat) (vi 30)=some (vi ((s.rules[j].call.toNat % 30:Nat):Int)):=i64_rem_nat _ 30 (by decide)
   have hrule:s.rules[j].rule=⟨callNumber (s.rules[j].call.toNat % 30),saction s.rules[j].action s.rules[j].errno,(s.rules[j].conds.take 4).map SCond.cond⟩:=rfl
   have hm30:s.rules[j].call.toNat % 30<30:=Nat.mod_lt _ (by decide)
   generalize s.rules[j].call.toNat % 30=m at *
   obtain ⟨c,c1,c2⟩:=callTable_get m hm30
   obtain ⟨hlt,c1⟩:=List.getElem?_eq_some_iff.1 c1
   obtain ⟨b5,o5,f3,f4⟩:=(((z2:Grow zH Z1 3 _ _).toRows).sub (y1.1.trans g1.sub)).ix (i:=m) hlt
   rw [c1] at f4
   have f5:=row_at f4 (by omega:0<3)
   simp [callCells] at f5
   have hlt5:b5<H'.next:=AH.lt_of_get (row_notdead f4)
   simp [m1,m2,splice,AH.get_new,hw.plain,hne,hrm,f3,f5,Nat.ne_of_lt hlt5]
   refine S.f16 hE _ _ ?_
   have hne5:¬ b5=H'.next+1:=by omega
   simp [splice,AH.get_new,hw.plain,hlw,f5,Nat.ne_of_lt hlt5,hne5,c2]
   have g4:=(g1.new (.cells [u8 s.rules[j].call,u8 s.rules[j].action,u8 s.rules[j].errno,w] none)).newbox [u32 (callNumber m),u32 (saction s.rules[j].action s.rules[j].errno),nilS]
   refine Policy_l4 hE X H.next (H.next+1) (HT.next+1) (H'.next+1) _ v _ j (by omega) s.rules[j] hxl w H Z' hw _ _ _ _ _ rv' _ nilS nilS rows [] [] g2 g4 fun Z2 H2' rv'' row q1 q2 q3 =>?_
   refine hX hjl _ _ ⟨Z2,rv'',rows++[row],rfl,by omega,y1.trans q1,q3,by simp [g2],fun i h1 h2 =>?_⟩
   by_cases e:i<rows.length
   ·rw [List.getElem_append_left e]
    exact (g3 i h1 e).sub q1.1
   ·have:i=j:=by simp at h2; omega
    subst this
    rw [List.getElem_append_right (by omega),hrule]
    simpa [g2] using q2
 ·exact hend H' (.inr (by omega)) (Ext.refl _)
theorem S.f20 (hE:Fold E) (s:Small) (cs:List Value) (hs:SmallAt H s cs) (hQ:∀ H' cs',Ext H H'->PolXAt H' s.pol cs'->Q (.agg cs'.toArray) H'):E.call (E.fid i.f20) [.agg cs.toArray] H Q :=
 S.pinfoldlaw09_Small_PolicyZ hE s cs H (Sub.refl _) hs fun _ H' cs' e _ s h=>hQ H' cs' e (h.sub s)
end Go.AM
end
section
namespace Go.AM
variable {E:Sy} {H:AH} {Q:Value->AH->Prop}
abbrev condSh:Sh := .struct [.int .i64,.int .u8,.int .u64,.int .u64]
abbrev ruleSh:Sh := .struct [.int .u32,.int .u32,.slice 4 condSh]
abbrev polSh:Sh := .struct [.str,.int .u32,.slice 3 ruleSh,.int .u16,.slice 2 (.struct [.str,.int .u16]),.slice 2 (.struct [.int .u16,.int .u16])]
abbrev scondSh:Sh := .struct [.int .u8,.int .u8,.int .u8,.int .u8]
abbrev smallSh:Sh := .struct [.int .u8,.int .u8,.int .u8,.slice 4 (.struct [.int .u8,.int .u8,.int .u8,.slice 4 scondSh]),.int .u16,.slice 1 (.int .u8),.slice 1 (.int .u16),.slice 1 (.int .u8)]
theorem rows_map' {α:Type} {f:α->List Value}:∀ {rows:List (List Value)},(∀ r∈rows,∃ x,r=f x)->∃ l:List α,rows=l.map f
 | [],_=>⟨[],rfl⟩
 | r :: rows,h=>by
  obtain ⟨x,rfl⟩:=h r (by simp)
  obtain ⟨l,rfl⟩:=rows_map' (rows:=rows) (fun r hr=>h r (by simp [hr]))
  exact ⟨x :: l,rfl⟩
theorem rows_rel {α:Type} {R:α->List Value->Prop}:∀ {rows:List (List Value)},(∀ r∈rows,∃ x,R x r)->∃ l:List α,rows.length=l.length/\∀ i (h1:i<l.length) (h2:i<rows.length),R l[i] rows[i]
 | [],_=>⟨[],rfl,fun i h=>by simp at h⟩
 | r :: rows,h=>by
  obtain ⟨x,hx⟩:=h r (by simp)
  obtain ⟨l,h1,h2⟩:=rows_rel (rows:=rows) (fun r hr=>h r (by simp [hr]))
  refine ⟨x :: l,by simp [h1],fun i a b =>?_⟩
  cases i with
  | zero=>exact hx
  | succ i=>exact h2 i (by simpa using a) (by simpa using b)
theorem SV.cond {cs:List Value} (h:SV H condSh cs):∃ d:CondD,cs=d.cells:=by
 obtain ⟨c1,c2,rfl,h1,c3,c4,rfl,h2,c5,c6,rfl,h3,c7,c8,rfl,h4,rfl⟩:=h
 obtain ⟨x1,rfl,_⟩:=h1.i64
 obtain ⟨x2,rfl⟩:=h2.u8
 obtain ⟨x3,rfl⟩:=h3.u64
 obtain ⟨x4,rfl⟩:=h4.u64
 exact ⟨⟨x1,x2,x3,x4⟩,rfl⟩
theorem SV.scond {cs:List Value} (h:SV H scondSh cs):∃ d:SCond,cs=d.cells:=by
 obtain ⟨c1,c2,rfl,h1,c3,c4,rfl,h2,c5,c6,rfl,h3,c7,c8,rfl,h4,rfl⟩:=h
 obtain ⟨x1,rfl⟩:=h1.u8
 obtain ⟨x2,rfl⟩:=h2.u8
 obtain ⟨x3,rfl⟩:=h3.u8
 obtain ⟨x4,rfl⟩:=h4.u8
 exact ⟨⟨x1,x2,x3,x4⟩,rfl⟩
theorem SV.sliceOf {α:Type} {R:AH->α->List Value->Prop} {sz:Nat} {e:Sh} {cs:List Value} (hf:∀ r,SV H e r->∃ x,R H x r) (h:SV H (.slice sz e) cs):∃ v,∃ l:List α,cs=[v]/\SliceOf R H sz v l/\l.length<2 ^ 63:=by
 obtain ⟨v,rows,rfl,h1,h2,h3⟩:=h
 obtain ⟨l,g1,g2⟩:=rows_rel (R:=R H) fun r hr=>hf r (h3 r hr)
 exact ⟨v,l,rfl,⟨rows,h1,g1,g2⟩,by omega⟩
theorem SV.rowsOf {α:Type} {f:α->List Value} {sz:Nat} {e:Sh} {cs:List Value} (hf:∀ r,SV H e r->∃ x,r=f x) (h:SV H (.slice sz e) cs):∃ v,∃ l:List α,cs=[v]/\Rows H sz v (l.map f)/\l.length<2 ^ 63:=by
 obtain ⟨v,rows,rfl,h1,h2,h3⟩:=h
 obtain ⟨l,rfl⟩:=rows_map' fun r hr=>hf r (h3 r hr)
 exact ⟨v,l,rfl,h1,by simp at h2; omega⟩
theorem SV.rule {cs:List Value} (h:SV H ruleSh cs):∃ d:RuleD,RuleAt H d cs:=by
 obtain ⟨c1,c2,rfl,h1,c3,c4,rfl,h2,c5,c6,rfl,h3,rfl⟩:=h
 obtain ⟨x1,rfl⟩:=h1.u32
 obtain ⟨x2,rfl⟩:=h2.u32
 obtain ⟨v,l,rfl,h4,h5⟩:=SV.rowsOf (f:=CondD.cells) (fun r hr=>SV.cond hr) h3
 exact ⟨⟨x1,x2,l⟩,h5,v,rfl,h4⟩
theorem SV.srule {cs:List Value} (h:SV H (.struct [.int .u8,.int .u8,.int .u8,.slice 4 scondSh]) cs):∃ d:SRule,SRuleAt H d cs:=by
 obtain ⟨c1,c2,rfl,h1,c3,c4,rfl,h2,c5,c6,rfl,h3,c7,c8,rfl,h4,rfl⟩:=h
 obtain ⟨x1,rfl⟩:=h1.u8
 obtain ⟨x2,rfl⟩:=h2.u8
 obtain ⟨x3,rfl⟩:=h3.u8
 obtain ⟨v,l,rfl,h4,h5⟩:=SV.rowsOf (f:=SCond.cells) (fun r hr=>SV.scond hr) h4
 exact ⟨⟨x1,x2,x3,l⟩,h5,v,rfl,h4⟩
theorem SV.pol {cs:List Value} (h:SV H polSh cs):∃ x:PolX,PolXAt H x cs/\x.fits:=by
 obtain ⟨c1,c2,rfl,h1,c3,c4,rfl,h2,c5,c6,rfl,h3,c7,c8,rfl,h4,c9,c10,rfl,h5,c11,c12,rfl,h6,rfl⟩:=h
 obtain ⟨nm,rfl,hn⟩:=h1
 obtain ⟨x2,rfl⟩:=h2.u32
 obtain ⟨v,l,rfl,g1,g2⟩:=SV.sliceOf (R:=RuleAt) (fun r hr=>SV.rule hr) h3
 obtain ⟨x4,rfl⟩:=h4.u16
 obtain ⟨pv,pl,rfl,g3,g4⟩:=SV.rowsOf (f:=fun p:List UInt8×BitVec 16=>[AM.str p.1,AM.u16 p.2]) (fun r hr=>by
  obtain ⟨c1,c2,rfl,h1,c3,c4,rfl,h2,rfl⟩:=hr
  obtain ⟨s,rfl,_⟩:=h1
  obtain ⟨w,rfl⟩:=h2.u16
  exact ⟨(s,w),rfl⟩) h5
 obtain ⟨qv,ql,rfl,g5,g6⟩:=SV.rowsOf (f:=fun p:BitVec 16×BitVec 16=>[AM.u16 p.1,AM.u16 p.2]) (fun r hr=>by
  obtain ⟨c1,c2,rfl,h1,c3,c4,rfl,h2,rfl⟩:=hr
  obtain ⟨s,rfl⟩:=h1.u16
  obtain ⟨w,rfl⟩:=h2.u16
  exact ⟨(s,w),rfl⟩) h6
 exact ⟨⟨nm,⟨x2,l⟩,x4,pl,ql⟩,⟨v,pv,qv,rfl,g1,g3,g5⟩,by simp; omega,g2,g4,g6⟩
theorem ArgSV.pol {v:Value} (h:ArgSV H polSh v):∃ (x:PolX) (cs:List Value),v = .agg cs.toArray/\PolXAt H x cs/\x.fits:=by
 obtain ⟨cs,rfl,h⟩:=h
 obtain ⟨x,h1,h2⟩:=SV.pol (show SV H polSh cs from h)
 exact ⟨x,cs,rfl,h1,h2⟩
theorem SV.small {cs:List Value} (h:SV H smallSh cs):∃ x:Small,SmallAt H x cs:=by
 obtain ⟨c1,c2,rfl,h1,c3,c4,rfl,h2,c5,c6,rfl,h3,c7,c8,rfl,h4,c9,c10,rfl,h5,c11,c12,rfl,h6,c13,c14,rfl,h7,c15,c16,rfl,h8,rfl⟩:=h
 obtain ⟨x1,rfl⟩:=h1.u8
 obtain ⟨x2,rfl⟩:=h2.u8
 obtain ⟨x3,rfl⟩:=h3.u8
 obtain ⟨v,l,rfl,g1,g2⟩:=SV.sliceOf (R:=SRuleAt) (fun r hr=>SV.srule hr) h4
 obtain ⟨x5,rfl⟩:=h5.u16
 obtain ⟨pv,pl,rfl,g3,g4⟩:=SV.vals (fun r hr=>SV.u8 hr) h6
 obtain ⟨rv,rl,rfl,g5,g6⟩:=SV.vals (fun r hr=>SV.u16 hr) h7
 obtain ⟨qv,ql,rfl,g7,g8⟩:=SV.vals (fun r hr=>SV.u8 hr) h8
 exact ⟨⟨x1,x2,x3,l,x5,pl,rl,ql⟩,v,pv,rv,qv,rfl,g1,g3,g5,g7,g2,by simp; omega,by simp; omega,by simp; omega⟩
theorem ArgSV.small {v:Value} (h:ArgSV H smallSh v):∃ (x:Small) (cs:List Value),v = .agg cs.toArray/\SmallAt H x cs:=by
 obtain ⟨cs,rfl,h⟩:=h
 obtain ⟨x,h1⟩:=SV.small (show SV H smallSh cs from h)
 exact ⟨x,cs,rfl,h1⟩
end Go.AM
end
section
namespace Go.AM
variable {E:Sy} {H:AH} {Q:Value->AH->Prop}
structure InsnD where
 code:BitVec 16
 jt:BitVec 8
 jf:BitVec 8
 k:BitVec 32
end Go.AM
end
section
namespace Go.AM
theorem nrf {α:Type} {a b:α} (h:a=b):a=b:=Eq.trans h rfl
def tk {α:Type} (x:α):α:=x
@[simp] theorem tk_eq {α:Type} (x:α):tk x=x:=Eq.trans (Eq.refl x) (Eq.refl x)
@[congr] theorem ifB_lazy {v v':Value} {A B:Prop} (h:tk v=v'):ifB v A B=ifB v' A B:=by rw [<- h,tk_eq]
@[congr] theorem opt_lazy {α:Type} {o o':Option α} {K:α->Prop} (h:tk o=o'):opt o K=opt o' K:=by rw [<- h,tk_eq]
@[congr] theorem opt2_lazy {α β:Type} {o o':Option (α×β)} {K:α->β->Prop} (h:tk o=o'):opt2 o K=opt2 o' K:=by rw [<- h,tk_eq]
@[congr] theorem mk_lazy {o o':Option (AObj×(Nat->Value))} {H:AH} {K:Value->AH->Prop} (h:tk o=o'):AM.mk o H K=AM.mk o' H K:=by rw [<- h,tk_eq]
@[congr] theorem call_lazy {E:Sy} {f f':FuncId} {a a':List Value} {H H':AH} {K:Value->AH->Prop} (h1:tk f=f') (h2:tk a=a') (h3:tk H=H'):E.call f a H K=E.call f' a' H' K:=by rw [<- h1,<- h2,<- h3]; rfl
@[congr] theorem callV_lazy {c:CallT} {f f':Value} {a a':List Value} {H H':AH} {K:Value->AH->Prop} (h1:tk f=f') (h2:tk a=a') (h3:tk H=H'):callV c f a H K=callV c f' a' H' K:=by rw [<- h1,<- h2,<- h3]; rfl
@[congr] theorem gd_lazy {v v':Value} {b:Bool} {m:(Value->AH->Prop)->Prop} {H:AH} {K:Value->AH->Prop} (h:tk v=v'):gd v b m H K=gd v' b m H K:=by rw [<- h,tk_eq]
@[congr] theorem LoopL_lazy {B:List Value->AH->(List Value->AH->Prop)->Prop} {l l':List Value} {H H':AH} (h1:tk l=l') (h2:tk H=H'):LoopL B l H=LoopL B l' H':=by rw [<- h1,<- h2]; rfl
@[simp high] theorem mkPtr_eq_z (b:Nat):mkPtr b=ptr b 0:=nrf rfl
@[simp high] theorem cell_cells_z (c:List Value) (f:Option Nat) (i:Nat):(AObj.cells c f).cell i=c[i]? :=nrf rfl
@[simp high] theorem boxO_agg_z (a:Array Value):boxO (.agg a)=some (.cells a.toList none,mkPtr):=nrf rfl
@[simp high] theorem lenSlc_slc_z (o:Option Addr) (n c:Nat):lenSlc (.slice o n c)=some (.int .i64 n):=nrf rfl
@[simp high] theorem un_not_z (b:Bool):un .not (.bool b)=some (.bool !b):=nrf rfl
@[simp high] theorem pick_true_z (x y:Value):pick (.bool true) x y=some x:=nrf rfl
@[simp high] theorem pick_false_z (x y:Value):pick (.bool false) x y=some y:=nrf rfl
@[simp high] theorem plain1_u8_z (x:BitVec 8):plain1 (u8 x)=true:=nrf rfl
@[simp high] theorem plain1_u16_z (x:BitVec 16):plain1 (u16 x)=true:=nrf rfl
@[simp high] theorem u32_lit0_z:(.int .u32 0:Value)=u32 0#32:=nrf rfl
@[simp high] theorem defd_u32_z (x:BitVec 32):defd (u32 x)=true:=nrf rfl
@[simp high] theorem plain1_u32_z (x:BitVec 32):plain1 (u32 x)=true:=nrf rfl
@[simp high] theorem u64_lit0_z:(.int .u64 0:Value)=u64 0#64:=nrf rfl
@[simp high] theorem plain1_u64_z (x:BitVec 64):plain1 (u64 x)=true:=nrf rfl
@[simp high] theorem vcells_agg_z (a:Array Value):vcells (.agg a)=a.toList:=nrf rfl
@[simp high] theorem vcells_u32_z (x:BitVec 32):vcells (u32 x)=[u32 x]:=nrf rfl
@[simp high] theorem plain1_int_z (k:IntKind) (n:Int):plain1 (.int k n)=true:=nrf rfl
@[simp high] theorem fillL_nil_z (place:Nat->Option (Nat×Nat)) (cells:List Value):fillL place cells []=some cells:=nrf rfl
@[simp high] theorem plain1_str_z (l:List UInt8):plain1 (str l)=true:=nrf rfl
@[simp high] theorem sameCells_nil_z:sameCells [] [] []=some true:=nrf rfl
@[simp high] theorem sameCells_cons_z (k:Nat) (ks:List Nat) (x y:Value) (xs ys:List Value):sameCells (k :: ks) (x :: xs) (y :: ys)=(sameCell k x y).bind fun b=>(sameCells ks xs ys).map (b && ·):=nrf rfl
@[simp high] theorem nilCk_ptr_z (a:Addr):nilCk (.pointer (some a))=some (.pointer (some a)):=nrf rfl
@[simp high] theorem AH.next_new_z (H:AH) (o:AObj):(H.new o).next=H.next+1:=nrf rfl
theorem plain_defd {v:Value} (h:plain1 v=true):defd v=true:=by cases v <;> first | rfl | simp [plain1] at h
theorem plain_vcells {v:Value} (h:plain1 v=true):vcells v=[v]:=by cases v <;> first | rfl | simp [plain1] at h
@[simp] theorem nilCk_p (a:Addr):nilCk (.pointer (some a))=some (.pointer (some a)):=nrf rfl
def stdZ:=And.intro @nth_0<|And.intro @nth_1<|And.intro @nth_2<|And.intro @nth_3<|And.intro @nth_4<|And.intro @nth_5<|And.intro @nth_6<|And.intro @nth_7<|And.intro @nth_8<|And.intro @nth_9<|And.intro @nth_10<|And.intro @nth_11<|And.intro @nth_12<|And.intro @nth_13<|And.intro @nth_14<|And.intro @nth_15<|And.intro @nilCk_p<|And.intro @addOff_ptr<|And.intro @load1_ptr<|And.intro @cell_cells_z<|And.intro @gd_tt<|And.intro @gd_tf<|And.intro @gd_ft<|And.intro @gd_ff<|And.intro @gd_skip<|And.intro @pick_true_z<|And.intro @pick_false_z<|And.intro @un_not_z<|And.intro @ext_tuple<|And.intro @boxO_agg_z<|And.intro @mkPtr_eq_z<|And.intro @AM.mk_some<|And.intro @mkSlc_eq<|And.intro @opt2_some<|And.intro @AH.next_new_z<|And.intro @tk_eq<|And.intro @opt_some<|And.intro @Nat.zero_add<|And.intro @Nat.add_zero<|And.intro @List.getElem?_cons_zero.{0}<|And.intro @List.getElem?_cons_succ.{0}<|And.intro Bool.not_true<|And.intro Bool.not_false<|And.intro @List.toList_toArray.{0}<|And.intro @ifB_true @ifB_false
end Go.AM
end
section
namespace Go.AM
theorem aset_fresh {K V:Type} [DecidableEq K] (k:K) (v:V):∀ (l:List (K×V)),k ∉ l.map Prod.fst->aset k v l=l++[(k,v)]
 | [],_=>rfl
 | p :: l,h=>by
  simp only [List.map_cons,List.mem_cons,not_or] at h
  have e:¬ p.1=k:=fun x=>h.1 x.symm
  simp [aset,e,aset_fresh k v l h.2]
end Go.AM
end
section
namespace Go.AM
open Go.Sort (swp SWO PermIn SortedIn scanUp scanDown)
theorem i64_sub_nat (a b:Nat) (h:b<=a) (ha:a<2 ^ 62):binInt .sub (vi a) (vi b)=some (vi ((a - b:Nat):Int)):=by
 rw [i64_sub (by omega) (by omega)]; congr 2; omega
theorem i64_dec (a:Nat) (h:1<=a) (ha:a<2 ^ 62):binInt .sub (vi a) (.int .i64 1)=some (vi ((a - 1:Nat):Int)):=i64_sub_nat a 1 h ha
theorem i64_succ (a:Nat) (ha:a<2 ^ 62):binInt .add (vi a) (.int .i64 1)=some (vi ((a+1:Nat):Int)):=i64_add_nat a 1 (by omega)
theorem i64_dbl (a:Nat) (ha:a<2 ^ 61):binInt .mul (.int .i64 2) (vi a)=some (vi ((2*a:Nat):Int)):=by
 rw [i64_mul (by omega) (by omega)]; congr 2
theorem sUp_le {α:Type} [Inhabited α] (p:α->Bool) (d:Array α) (j:Nat):∀ (m i:Nat),j+1 - i<=m->i<=scanUp p d j i/\(i<=j+1->scanUp p d j i<=j+1)
 | 0,i,h=>by
  rw [scanUp,if_neg (by simp; omega)]
  exact ⟨Nat.le_refl _,id⟩
 | m+1,i,h=>by
  rw [scanUp]
  split
  ·rename_i hc
   have:i<=j:=by simp at hc; exact hc.1
   have:=sUp_le p d j m (i+1) (by omega)
   exact ⟨by omega,fun _=>this.2 (by omega)⟩
  ·exact ⟨Nat.le_refl _,id⟩
theorem sDown_le {α:Type} [Inhabited α] (p:α->Bool) (d:Array α) (i:Nat):∀ j,scanDown p d i j<=j/\(i<=j+1->i<=scanDown p d i j+1)
 | 0=>⟨Nat.le_refl _,id⟩
 | j+1=>by
  rw [scanDown]
  split
  ·have:=sDown_le p d i j
   rename_i hc
   have:i<=j+1:=by simp at hc; exact hc.1
   exact ⟨by omega,fun _=>by omega⟩
  ·exact ⟨Nat.le_refl _,id⟩
end Go.AM
end
section
namespace Go.AM
open Go.Sort
section
variable {E:Sy} {H H':AH} {Q:Value->AH->Prop}
theorem bitsLen_shift (x k:Nat) (h:2 ^ k<=x):bitsLen x=bitsLen (x / 2 ^ k)+k:=by
 have hp:=Nat.two_pow_pos k
 apply Nat.le_antisymm
 ·rw [bitsLen_le_iff,Nat.pow_add]
  have:=lt_two_pow_bitsLen (x / 2 ^ k)
  rw [Nat.div_lt_iff_lt_mul hp] at this
  exact this
 ·have h1:k<=bitsLen x:=by
   apply Classical.byContradiction
   intro hc
   have:bitsLen x<=k:=by omega
   rw [bitsLen_le_iff] at this
   omega
  have:bitsLen (x / 2 ^ k)<=bitsLen x - k:=by
   rw [bitsLen_le_iff,Nat.div_lt_iff_lt_mul hp,<- Nat.pow_add,Nat.sub_add_cancel h1]
   exact lt_two_pow_bitsLen x
  omega
def len8tab:List UInt8:=(List.range 256).map fun n=>UInt8.ofNat (bitsLen n)
theorem len8tab_at:∀ n<256,len8tab[n]? = some (UInt8.ofNat (bitsLen n)):=by decide +kernel
theorem bitsLen_le8:∀ n<256,bitsLen n<=8:=by decide +kernel
theorem len8_ix (x:BitVec 8):ixStr (str len8tab) (u8 x)=some (u8 (BitVec.ofNat 8 (bitsLen x.toNat))):=by
 rw [ixStr_u8]
 have hx:=x.isLt
 have hl:len8tab.length=256:=by decide +kernel
 have hlt:x.toNat<len8tab.length:=by omega
 rw [ixStr_s len8tab x.toNat hlt]
 have:=len8tab_at x.toNat (by omega)
 rw [List.getElem?_eq_getElem hlt] at this
 simp only [Option.some.injEq] at this
 rw [this]
 rfl
theorem len_tail (l:List UInt8) (hl:l=len8tab) (x:BitVec 64) (hx:x.toNat<256) (k:Nat) (hk:k<1000) (hQ:Q (vi ((bitsLen x.toNat+k:Nat):Int)) H) :
  (opt (convInt .u8 (u64 x)) fun v1=>opt (ixStr (.string ⟨l.toArray⟩) v1) fun v2=>opt (convInt .i64 v2) fun v3=>opt (binInt .add (vi k) v3) fun v4=>Q v4 H):=by
 subst hl
 have e1:(x.setWidth 8).toNat=x.toNat:=by rw [BitVec.toNat_setWidth,Nat.mod_eq_of_lt (by omega)]
 have e2:=bitsLen_le8 x.toNat hx
 simp only [u64_to_u8,tk_eq,opt_some]
 rw [show (Value.string ⟨len8tab.toArray⟩)=str len8tab from rfl,len8_ix,e1]
 simp only [opt_some,u8_to_i64,tk_eq,BitVec.toNat_ofNat]
 rw [Nat.mod_eq_of_lt (by omega),i64_add_nat _ _ (by omega),opt_some,Nat.add_comm]
 exact hQ
set_option maxRecDepth 100000
theorem S.f13 (hE:Fold E) (x:BitVec 64) (hx:x.toNat<2 ^ 32) (hQ:Q (vi (bitsLen x.toNat:Nat)) H):E.call (E.fid i.f13) [u64 x] H Q:=by
 apply hE.f13
 simp only [F.f13,ifB_false]
 apply hE.f15
 have c0:¬ 4294967296<=x.toNat:=by omega
 have t3:∀ (y:BitVec 64) (k:Nat),y.toNat<256->k<1000->bitsLen x.toNat=bitsLen y.toNat+k->F.f15_j3 E Q (u64 y) (vi k) H:=by
  intro y k hy hk e
  unfold F.f15_j3
  refine len_tail _ ?_ y hy k hk ?_
  ·decide +kernel
  ·rw [<- e]; exact hQ
 have t2:∀ (y:BitVec 64) (k:Nat),y.toNat<65536->k<900->bitsLen x.toNat=bitsLen y.toNat+k->F.f15_j2 E Q (u64 y) (vi k) H:=by
  intro y k hy hk e
  by_cases h:256<=y.toNat
  ·have h8:(y >>> 8).toNat=y.toNat / 256:=by rw [BitVec.toNat_ushiftRight,Nat.shiftRight_eq_div_pow]
   have hs:=bitsLen_shift y.toNat 8 (by omega)
   rw [show (2:Nat) ^ 8=256 from rfl] at hs
   have hk8:binInt .add (vi k) (.int .i64 8)=some (vi ((k+8:Nat):Int)):=i64_add_nat k 8 (by omega)
   simp only [F.f15_j2,u64_lit 256 (by decide),u64_geq,tk_eq,opt_some]
   simp [h,hk8]
   have:=t3 (y >>> 8) (k+8) (by omega) (by omega) (by rw [e,hs,h8]; omega)
   simpa using this
  ·simp only [F.f15_j2,u64_lit 256 (by decide),u64_geq,tk_eq,opt_some]
   simp [h]
   exact t3 y k (by omega) (by omega) e
 by_cases h:65536<=x.toNat
 ·have h8:(x >>> 16).toNat=x.toNat / 65536:=by rw [BitVec.toNat_ushiftRight,Nat.shiftRight_eq_div_pow]
  have hs:=bitsLen_shift x.toNat 16 (by omega)
  rw [show (2:Nat) ^ 16=65536 from rfl] at hs
  have hk8:binInt .add (.int .i64 0) (.int .i64 16)=some (vi ((16:Nat):Int)):=i64_add_nat 0 16 (by omega)
  simp [F.f15,F.f15_j1,c0,h,hk8]
  exact t2 (x >>> 16) 16 (by omega) (by omega) (by rw [hs,h8])
 ·simp [F.f15,F.f15_j1,c0,h]
  exact t2 x 0 (by omega) (by omega) rfl
theorem S.f44 (hE:Fold E) (x:Nat) (hx:x<2 ^ 32) (hQ:Q (u64 (BitVec.ofNat 64 (2 ^ bitsLen x))) H):E.call (E.fid i.f44) [vi x] H Q:=by
 apply hE.f44
 have e1:(BitVec.ofNat 64 x).toNat=x:=by rw [BitVec.toNat_ofNat,Nat.mod_eq_of_lt (by omega)]
 have hc:convInt .u64 (vi x)=some (u64 (BitVec.ofNat 64 x)):=by
  rw [i64_to_u64,BitVec.ofInt_natCast]
 simp only [F.f44,hc,tk_eq,opt_some]
 refine S.f13 hE _ (by rw [e1]; exact hx) ?_
 rw [e1]
 have:=u64_shl 1#64 .i64 (bitsLen x)
 have l1:(.int .u64 1:Value)=u64 1#64:=rfl
 have e2:(1#64 <<< bitsLen x)=BitVec.ofNat 64 (2 ^ bitsLen x):=by
  apply BitVec.eq_of_toNat_eq
  rw [BitVec.toNat_shiftLeft,Nat.shiftLeft_eq]
  simp
 rw [l1,this,opt_some,e2]
 exact hQ
theorem S.f56 (hE:Fold E) (r:Nat) (x:BitVec 64) (hr:H.get r = .cells [u64 x] none) (hQ:∀ y,Q (u64 y) (H.put r (.cells [u64 y] none))):E.call (E.fid i.f56) [ptr r 0] H Q:=by
 apply hE.f56
 have hlt:=AH.lt_cells hr
 have l1:(.int .u64 13:Value)=u64 13#64:=rfl
 have l2:(.int .u64 7:Value)=u64 7#64:=rfl
 have l3:(.int .u64 17:Value)=u64 17#64:=rfl
 simp [F.f56,hr,l1,l2,l3,AH.get_put,hlt]
 exact hQ _
end
end Go.AM
end
section
namespace Go.AM
section
variable {E:Sy} {H H' H0 Z:AH} {Q:Value->AH->Prop} {t:Nat} {M:List MntD} {L:List Res}
theorem Has.callee (h:Has H0 Z H L) (e:Ext H H'):∃ Z',Fz H.next Z Z'/\Has H0 Z' H' L/\∀ sz v rows,Rows H' sz v rows->FreshV H.next v->Rows Z' sz v rows:=by
 have hg:∀ b,(AH.mk H'.next fun b=>if b<H.next then Z.get b else H'.get b).get b=if b<H.next then Z.get b else H'.get b:=by
  intro b
  simp only [AH.get]
  by_cases hb:b<H'.next
  ·rw [if_pos hb]
  ·have h1:¬ b<H.next:=fun hb'=>hb (Nat.lt_of_lt_of_le hb' e.1)
   have h2:¬ b<H'.next:=hb
   simp [h1,h2]
 refine ⟨⟨H'.next,fun b=>if b<H.next then Z.get b else H'.get b⟩,⟨⟨Nat.le_trans h.sub.1 e.1,fun b hb =>?_⟩,fun b hb=>by rw [hg,if_pos hb]⟩,?_,?_⟩
 ·rw [hg]
  split
  ·rfl
  ·rename_i hn
   exact (hb (AH.get_ge _ (Nat.le_trans h.sub.1 (by omega)))).elim
 ·refine h.refreeze e ⟨⟨Nat.le_trans h.sub.1 e.1,fun b hb =>?_⟩,fun b hb=>by rw [hg,if_pos hb]⟩ ⟨Nat.le_refl _,fun b hb =>?_⟩
  ·rw [hg]
   split
   ·rfl
   ·rename_i hn
    exact (hb (AH.get_ge _ (Nat.le_trans h.sub.1 (by omega)))).elim
  ·rw [hg] at hb ⊢
   split
   ·rename_i hlt
    rw [if_pos hlt] at hb
    rw [e.get hlt]
    exact h.sub.2 b hb
   ·rfl
 ·intro sz v rows hr hf
  refine ⟨hr.len,?_⟩
  rcases hr.at_ with g | ⟨b,o,c,g1,g2,g3,g4⟩
  ·exact .inl g
  ·by_cases hrn:rows=[]
   ·have hz:¬ b<H.next:=by
     have:=hf b (by rw [g1]; rfl)
     omega
    exact .inr ⟨b,o,c,g1,g2,by rw [hg,if_neg hz]; exact g3,by rw [hg,if_neg hz]; exact g4⟩
   ·have hz:¬ b<H.next:=by
     have:=hf b (by rw [g1]; rfl)
     omega
    exact .inr ⟨b,o,c,g1,g2,by rw [hg,if_neg hz]; exact g3,by rw [hg,if_neg hz]; exact g4⟩
end
end Go.AM
end
section
namespace Go.AM
section
variable {E:Sy} {X:List Res} {H H' H0 Z:AH} {Q:Value->AH->Prop} {w:Nat} {M M':List MntD} {nx nx':Int} {L:List Res}
theorem newbox (H:AH) (c:List Value):NewRes (boxR H.next c) H (H.new (.cells c none)):=⟨(Ext.refl H).new _,AH.get_new_self _ _,fun b hb=>by simp [boxR] at hb; subst hb; simp,by simp [boxR]⟩
end
end Go.AM
end
section
namespace Go.AM
section
variable {E:Sy} {X:List Res} {H H' H0 Z:AH} {Q:Value->AH->Prop} {t w:Nat} {M M':List MntD} {nx nx':Int} {L:List Res} {s:Nat}
theorem two_store {H:AH} {z c:List Value} (hz:z.length=2) (hc:c.length=2) (hp:c.all plain1=true):storeN 2 (ptr H.next 0) (.agg c.toArray) (H.new (.cells z none))=some (H.new (.cells c none)):=by
 rw [storeN_ptr,AH.get_new_self]
 have:AM.splice z 0 c=c:=by simp [splice,hz,hc]
 simp only [List.size_toArray,List.toList_toArray,hc,hz,hp,Nat.zero_add,Nat.le_refl,and_self,if_true,this,AH.new_put]
end
end Go.AM
end
section
namespace Go.AM
set_option maxRecDepth 20000
section
variable {X:List Res} {E:Sy} {H H' H0 Z:AH} {Q:Value->AH->Prop} {w t:Nat} {M:List MntD} {v v':Value} {nx:Int}
theorem half (a b:Nat) (h:a+b<2 ^ 62):∃ y:BitVec 64,convInt .u64 (vi ((a+b:Nat):Int))=some (u64 (BitVec.ofInt 64 ((a+b:Nat):Int)))/\binInt .shr (u64 (BitVec.ofInt 64 ((a+b:Nat):Int))) (.int .u64 1)=some (u64 y)/\convInt .i64 (u64 y)=some (vi (((a+b) / 2:Nat):Int)):=by
 refine ⟨BitVec.ofInt 64 ((a+b:Nat):Int) >>> 1,i64_to_u64 _,u64_shr _ .u64 1,?_⟩
 have hy:(BitVec.ofInt 64 ((a+b:Nat):Int) >>> 1).toNat=(a+b) / 2:=by
  rw [BitVec.toNat_ushiftRight,BitVec.ofInt_natCast,BitVec.toNat_ofNat,Nat.mod_eq_of_lt (by omega),Nat.shiftRight_eq_div_pow]
 generalize BitVec.ofInt 64 ((a+b:Nat):Int) >>> 1=y at *
 rw [<- hy]
 have hlt:y.toNat<2 ^ 62:=by omega
 rw [u64_def,convInt_int,wrap_i64 (by omega) (by omega)]
end
end Go.AM
end
section
namespace Go.AM
set_option maxRecDepth 20000
section
variable {E:Sy} {H H' H0 Z:AH} {Q:Value->AH->Prop} {L:List Res}
def cmpZ (a b:Int):Int:=if a<b then -1 else if b<a then 1 else 0
def cmp32 (a b:BitVec 32):Int:=if a.toNat<b.toNat then -1 else if b.toNat<a.toNat then 1 else 0
theorem S.f0 (hE:Fold E) (a b:Int) (hQ:Q (vi (cmpZ a b)) H):E.call (E.fid i.f0) [vi a,vi b] H Q:=by
 have nn:∀ (x:Int) (K:Value->AH->Prop),K (vb false) H->E.call (E.fid i.f2) [vi x] H K:=by
  intro x K hK
  apply hE.f2
  simp only [F.f2,i64_neq,ne_eq,not_true,decide_false,stdZ]
  exact hK
 apply hE.f0
 simp only [F.f0]
 refine nn a _ (nn b _ ?_)
 unfold cmpZ at hQ
 simp only [i64_lss,i64_gtr,gt_iff_lt,stdZ]
 by_cases h1:a<b
 ·rw [if_pos h1] at hQ
  simp only [h1,decide_true,stdZ]
  exact hQ
 ·rw [if_neg h1] at hQ
  simp only [h1,decide_false,i64_gtr,gt_iff_lt,stdZ]
  by_cases h2:b<a
  ·rw [if_pos h2] at hQ
   simp only [h2,decide_true,stdZ]
   exact hQ
  ·rw [if_neg h2] at hQ
   simp only [h2,decide_false,stdZ]
   exact hQ
theorem S.f1 (hE:Fold E) (a b:BitVec 32) (hQ:Q (vi (cmp32 a b)) H):E.call (E.fid i.f1) [u32 a,u32 b] H Q:=by
 have nn:∀ (x:BitVec 32) (K:Value->AH->Prop),K (vb false) H->E.call (E.fid i.f3) [u32 x] H K:=by
  intro x K hK
  apply hE.f3
  simp only [F.f3,u32_neq,ne_eq,not_true,decide_false,stdZ]
  exact hK
 apply hE.f1
 simp only [F.f1]
 refine nn a _ (nn b _ ?_)
 unfold cmp32 at hQ
 simp only [u32_lss,stdZ]
 by_cases h1:a.toNat<b.toNat
 ·rw [if_pos h1] at hQ
  simp only [h1,decide_true,stdZ]
  exact hQ
 ·rw [if_neg h1] at hQ
  simp only [h1,decide_false,u32_gtr,stdZ]
  by_cases h2:b.toNat<a.toNat
  ·rw [if_pos h2] at hQ
   simp only [h2,decide_true,stdZ]
   exact hQ
  ·rw [if_neg h2] at hQ
   simp only [h2,decide_false,stdZ]
   exact hQ
def ixL {α:Type} [DecidableEq α] (x:α) (l:List α):Int:=match l.findIdx? fun y=>decide (x=y) with
 | some i=>(i:Int)
 | none => -1
def a32R (l:List (BitVec 32)):List (List Value):=l.map fun x=>[u32 x]
theorem S.f34 (hE:Fold E) {v:Value} {l:List (BitVec 32)} (hv:Rows H 1 v (a32R l)) (hl:l.length<2 ^ 60) (x:BitVec 32) (hQ:Q (vi (ixL x l)) H):E.call (E.fid i.f34) [v,u32 x] H Q:=by
 apply hE.f34
 have hlv:=hv.lenSlc
 have hlr:(a32R l).length=l.length:=by simp [a32R]
 rw [hlr] at hlv
 have i0:(.int .i64 0:Value)=vi ((0:Nat):Int):=rfl
 simp only [F.f34,hlv,i0,stdZ]
 refine LoopL.count l.length (fun j ls H'=>ls=[v,u32 x,vi (l.length:Int),vi j]/\H=H'/\∀ i (hi:i<l.length),i<j->¬ x=l[i]) ?_ ⟨rfl,rfl,fun i _ h=>by omega⟩
 rintro j _ _ X hj hX ⟨rfl,rfl,hno⟩
 by_cases hjl:j<l.length
 ·have hjl':(j:Int)<l.length:=by omega
  have hjj:=i64_inc (i:=j) (by omega)
  obtain ⟨b,o,f1,f2⟩:=hv.ix (i:=j) (by rw [hlr]; exact hjl)
  have hrow:(a32R l)[j]'(by rw [hlr]; exact hjl)=[u32 l[j]]:=by simp [a32R]
  rw [hrow] at f2
  have f3:(H.get b).cell o=some (u32 l[j]):=by have:=row_at f2 (j:=0) (by omega); simpa using this
  by_cases he:x=l[j]
  ·have hfi:l.findIdx? (fun y=>decide (x=y))=some j:=List.findIdx?_eq_some_iff_getElem.2 ⟨hjl,by simpa using he,fun i hi=>by simpa using hno i (by omega) hi⟩
   have hix:ixL x l=(j:Int):=by unfold ixL; rw [hfi]
   rw [hix] at hQ
   simp only [F.f34_l1,i64_lss,hjl',decide_true,f1,f3,u32_eql,<- he,stdZ]
   exact hQ
  ·simp only [F.f34_l1,i64_lss,hjl',decide_true,f1,f3,u32_eql,he,decide_false,hjj,stdZ]
   refine hX hjl _ _ ⟨rfl,rfl,fun i hi hij =>?_⟩
   by_cases e:i=j
   ·subst e; exact he
   ·exact hno i hi (by omega)
 ·have hjl':¬ (j:Int)<l.length:=by omega
  have hfi:l.findIdx? (fun y=>decide (x=y))=none:=by
   rw [List.findIdx?_eq_none_iff]
   intro y hy
   obtain ⟨i,hi,rfl⟩:=List.getElem_of_mem hy
   simpa using hno i hi (by omega)
  have hix:ixL x l = -1:=by unfold ixL; rw [hfi]
  rw [hix] at hQ
  simp only [F.f34_l1,i64_lss,hjl',decide_false,stdZ]
  exact hQ
def kindsA:List (BitVec 32):=[2147483648#32,327680#32,2147221504#32,2147418112#32]
theorem ix_kinds (a:BitVec 32):ixL (akind a) kindsA=(rankA a:Int):=by
 rw [(rankA_le a).2]
 unfold astrength
 have hk:akind a=327680#32\/akind a=2147221504#32\/akind a=2147418112#32\/akind a=2147483648#32:=by
  unfold akind
  repeat' split
  all_goals simp
 rcases hk with h | h | h | h <;> rw [h] <;> decide
theorem S.f11 (hE:Fold E) (a:BitVec 32) (hQ:∀ H',Ext H H'->Q (vi (rankA a:Nat)) H'):E.call (E.fid i.f11) [u32 a] H Q:=by
 apply hE.f11
 have hbv:buildA 1 #[(.int .u32 0),(.int .u32 0),(.int .u32 0),(.int .u32 0)] [(0,(.int .u32 2147483648)),(1,(.int .u32 327680)),(2,(.int .u32 2147221504)),(3,(.int .u32 2147418112))]=some (.agg (kindsA.map u32).toArray):=rfl
 have x1:Ext H (H.new (.cells (kindsA.map u32) none)):=(Ext.refl _).new _
 have b1:=AH.get_new_self H (.cells (kindsA.map u32) none)
 have hst:storeN 4 (ptr H.next 0) (.agg (kindsA.map u32).toArray) (H.new (.cells [(.int .u32 0),(.int .u32 0),(.int .u32 0),(.int .u32 0)] none))=some (H.new (.cells (kindsA.map u32) none)):=by
  rw [storeN_ptr,AH.get_new_self]
  have h3:AM.splice [(.int .u32 0),(.int .u32 0),(.int .u32 0),(.int .u32 0)] 0 (kindsA.map u32)=kindsA.map u32:=rfl
  have h4:(kindsA.map u32).all plain1=true:=rfl
  have h5:(kindsA.map u32).length=4:=rfl
  simp only [List.size_toArray,List.toList_toArray,h4,h5,List.length_cons,List.length_nil,Nat.zero_add,Nat.le_refl,and_self,if_true,h3,AH.new_put]
 have hsl:slArr 4 1 (ptr H.next 0) none none none=some (slc H.next 0 4 4):=rfl
 simp only [F.f11,hbv,allocW_eq,hst,hsl,stdZ]
 apply S.f30 hE
 have hr:Rows (H.new (.cells (kindsA.map u32) none)) 1 (slc H.next 0 4 4) (a32R kindsA):=Rows.made (f:=none) (by rw [b1]; rfl) (.inl rfl) rfl (by
  intro r hr
  obtain ⟨x,_,rfl⟩:=List.mem_map.1 hr
  rfl)
 refine S.f34 hE hr (by decide) _ ?_
 rw [ix_kinds]
 exact hQ _ x1
theorem cond_load {c:CondD} {b:Nat} {H:AH} (hb:H.get b = .cells c.cells none):loadN 4 (ptr b 0) H=some c.v:=by rw [loadN_ptr,hb]; rfl
theorem cond_new (c:CondD) (H:AH):storeN 4 (ptr H.next 0) c.v (H.new (.cells [(.int .i64 0),(.int .u8 0),(.int .u64 0),(.int .u64 0)] none))=some (H.new (.cells c.cells none)):=by
 rw [storeN_ptr,AH.get_new_self]
 have h3:AM.splice [(.int .i64 0),(.int .u8 0),(.int .u64 0),(.int .u64 0)] 0 c.cells=c.cells:=rfl
 have h4:c.cells.all plain1=true:=rfl
 have h5:c.cells.length=4:=rfl
 simp only [List.size_toArray,List.toList_toArray,h4,h5,List.length_cons,List.length_nil,Nat.zero_add,Nat.le_refl,and_self,if_true,h3,AH.new_put]
theorem S.f8 (hE:Fold E) (c:CondD) (hQ:∀ H',Ext H H'->Q (vb (alwaysC c)) H'):E.call (E.fid i.f8) [c.v] H Q:=by
 apply hE.f8
 have x1:Ext H (H.new (.cells c.cells none)):=(Ext.refl _).new _
 have b1:=AH.get_new_self H (.cells c.cells none)
 have c0:c.cells[0]? = some (vi c.arg):=rfl
 have c1:c.cells[1]? = some (u8 c.op):=rfl
 have c3:c.cells[3]? = some (u64 c.value):=rfl
 have hQ:=hQ _ x1
 unfold alwaysC inArg at hQ
 have k6:(.int .u8 6:Value)=u8 6#8:=rfl
 have k4:(.int .u8 4:Value)=u8 4#8:=rfl
 have k0:(.int .u64 0:Value)=u64 0#64:=rfl
 have kM:(.int .u64 18446744073709551615:Value)=u64 18446744073709551615#64:=rfl
 simp only [F.f8,boxO_agg_z,AM.mk_some,mkPtr_eq_z,List.toList_toArray,b1,c0,c1,c3,i64_lss,stdZ]
 by_cases h0:c.arg<0
 ·have:decide (0<=c.arg)=false:=by rw [decide_eq_false_iff_not]; omega
  rw [this] at hQ
  simp only [Bool.false_and] at hQ
  simp only [h0,decide_true,stdZ]
  exact hQ
 ·have h0':decide (0<=c.arg)=true:=by rw [decide_eq_true_iff]; omega
  rw [h0',Bool.true_and] at hQ
  simp only [h0,decide_false,b1,c0,i64_gtr,gt_iff_lt,stdZ]
  by_cases h5:5<c.arg
  ·have:decide (c.arg<=5)=false:=by rw [decide_eq_false_iff_not]; omega
   rw [this] at hQ
   simp only [Bool.false_and] at hQ
   simp only [h5,decide_true,stdZ]
   exact hQ
  ·have h5':decide (c.arg<=5)=true:=by rw [decide_eq_true_iff]; omega
   rw [h5',Bool.true_and] at hQ
   simp only [h5,decide_false,b1,c1,k6,u8_eql,stdZ]
   by_cases h6:c.op=6#8
   ·have h4:¬ c.op=4#8:=by rw [h6]; decide
    simp only [h6,decide_true,Bool.true_and,show decide ((6#8:BitVec 8)=4#8)=false from rfl,Bool.false_and,Bool.or_false] at hQ
    simp only [h6,decide_true,b1,c3,k0,u64_eql,stdZ]
    exact hQ
   ·simp only [h6,decide_false,Bool.false_and,Bool.false_or] at hQ
    simp only [h6,decide_false,k4,u8_eql,stdZ]
    by_cases h4:c.op=4#8
    ·simp only [h4,decide_true,Bool.true_and] at hQ
     simp only [h4,decide_true,b1,c3,kM,u64_eql,stdZ]
     exact hQ
    ·simp only [h4,decide_false,Bool.false_and] at hQ
     simp only [h4,decide_false,stdZ]
     exact hQ
def condR (l:List CondD):List (List Value):=l.map CondD.cells
theorem condR_length (l:List CondD):(condR l).length=l.length:=by simp [condR]
theorem cond_agg (c d:CondD):binAgg [0,0,0,0] .eql c.v d.v=some (vb (decide (c=d))):=by
 obtain ⟨a1,a2,a3,a4⟩:=c
 obtain ⟨b1,b2,b3,b4⟩:=d
 simp [binAgg,CondD.cells]
theorem cond_ix {v:Value} {l:List CondD} (hv:Rows H 4 v (condR l)) {j:Nat} (hj:j<l.length):∃ b o,ixSlc 4 v (vi j)=some (ptr b o)/\(∀ H',Ext H H'->loadN 4 (ptr b o) H'=some (l[j]).v):=by
 obtain ⟨b,o,f1,f2⟩:=hv.ix (i:=j) (by rw [condR_length]; exact hj)
 have hrow:(condR l)[j]'(by rw [condR_length]; exact hj)=(l[j]).cells:=by simp [condR]
 rw [hrow] at f2
 exact ⟨b,o,f1,fun H' e=>by rw [loadN_ptr,e.get (AH.lt_of_get (row_notdead f2)),f2]; rfl⟩
theorem S.f32 (hE:Fold E) {v:Value} {l:List CondD} (hv:Rows H 4 v (condR l)) (hl:l.length<2 ^ 60) (c:CondD) (hQ:∀ H',Ext H H'->Q (vb (decide (c∈l))) H'):E.call (E.fid i.f32) [v,c.v] H Q:=by
 apply hE.f32
 have x1:Ext H (H.new (.cells c.cells none)):=(Ext.refl _).new _
 have b1:=AH.get_new_self H (.cells c.cells none)
 simp only [F.f32,boxO_agg_z,AM.mk_some,mkPtr_eq_z,List.toList_toArray,cond_load b1,stdZ]
 generalize H.new (.cells c.cells none)=H1 at *
 apply hE.f33
 have x2:Ext H1 (H1.new (.cells c.cells none)):=(Ext.refl _).new _
 have b2:=AH.get_new_self H1 (.cells c.cells none)
 have hlv:=hv.lenSlc
 rw [condR_length] at hlv
 have i0:(.int .i64 0:Value)=vi ((0:Nat):Int):=rfl
 simp only [F.f33,boxO_agg_z,AM.mk_some,mkPtr_eq_z,List.toList_toArray,hlv,i0,stdZ]
 have x12:=x1.trans x2
 generalize H1.new (.cells c.cells none)=H2 at *
 generalize H1.next=bc at *
 refine LoopL.count l.length (fun j ls H'=>ls=[v,ptr bc 0,vi (l.length:Int),vi j]/\H2=H'/\∀ i (hi:i<l.length),i<j->¬ c=l[i]) ?_ ⟨rfl,rfl,fun i _ h=>by omega⟩
 rintro j _ _ X hj hX ⟨rfl,rfl,hno⟩
 by_cases hjl:j<l.length
 ·have hjl':(j:Int)<l.length:=by omega
  have hjj:=i64_inc (i:=j) (by omega)
  obtain ⟨b,o,f1,f2⟩:=cond_ix hv hjl
  by_cases he:c=l[j]
  ·have hm:decide (c∈l)=true:=by rw [decide_eq_true_iff,he]; exact List.getElem_mem hjl
   rw [hm] at hQ
   have hge:(0:Int)<=j:=by omega
   simp only [F.f33_l1,i64_lss,hjl',decide_true,f1,f2 _ x12,cond_load b2,cond_agg,<- he,i64_geq,ge_iff_le,hge,stdZ]
   exact hQ _ x12
  ·simp only [F.f33_l1,i64_lss,hjl',decide_true,f1,f2 _ x12,cond_load b2,cond_agg,he,decide_false,hjj,stdZ]
   refine hX hjl _ _ ⟨rfl,rfl,fun i hi hij =>?_⟩
   by_cases e:i=j
   ·subst e; exact he
   ·exact hno i hi (by omega)
 ·have hjl':¬ (j:Int)<l.length:=by omega
  have hm:decide (c∈l)=false:=by
   rw [decide_eq_false_iff_not]
   intro hm
   obtain ⟨i,hi,he⟩:=List.getElem_of_mem hm
   exact hno i hi (by omega) he.symm
  rw [hm] at hQ
  have hge:¬ (0:Int) <= -1:=by decide
  simp only [F.f33_l1,i64_lss,hjl',decide_false,i64_geq,ge_iff_le,hge,stdZ]
  exact hQ _ x12
theorem tidyFrom_le:∀ (l out:List CondD),(tidyFrom out l).length<=out.length+l.length
 | [],out=>by simp [tidyFrom]
 | c :: l,out=>by
  rw [tidyFrom]
  have:=tidyFrom_le l (if alwaysC c=false/\c ∉ out then out++[c] else out)
  split at this
  ·rename_i hc; rw [if_pos hc]; simp at this ⊢; omega
  ·rename_i hc; rw [if_neg hc]; simp at this ⊢; omega
theorem S.f12 (hE:Fold E) {v:Value} {l:List CondD} (hv:Rows H 4 v (condR l)) (hl:l.length<2 ^ 30) (hQ:∀ v' H',Ext H H'->Rows H' 4 v' (condR (tidyC l))->FreshV H.next v'->Q v' H'):E.call (E.fid i.f12) [v] H Q:=by
 apply hE.f12
 have hlv:=hv.lenSlc
 rw [condR_length] at hlv
 have i0:(.int .i64 0:Value)=vi ((0:Nat):Int):=rfl
 simp only [F.f12,hlv,i0,stdZ]
 refine LoopL.count l.length (fun j ls H'=>∃ w out,ls=[w,v,vi (l.length:Int),vi j]/\Has H zH H' [growR 4 w (condR out)]/\tidyC l=tidyFrom out (l.drop j)/\out.length<=j) ?_ ⟨nilS,[],rfl,(Has.begin (Ext.refl H) ⟨Nat.zero_le _,fun b hb=>(hb (zH_get b)).elim⟩).nils 4,rfl,by simp⟩
 rintro j _ H1 X hj hX ⟨w,out,rfl,g,ht,hol⟩
 by_cases hjl:j<l.length
 rotate_left
 ·have hjl':¬ (j:Int)<l.length:=by omega
  rw [List.drop_of_length_le (by omega),tidyFrom] at ht
  simp only [F.f12_l1,i64_lss,hjl',decide_false,stdZ]
  refine hQ w _ g.ext ?_ fun b hb=>((g.all (growR 4 w (condR out)) (by simp)).2 b (mem_blkL.2 hb)).1
  rw [ht]
  exact g.rows (k:=0) rfl
 have hX:=hX hjl
 have hjl':(j:Int)<l.length:=by omega
 have hjj:=i64_inc (i:=j) (by omega)
 obtain ⟨b,o,f1,f2⟩:=cond_ix hv hjl
 rw [List.drop_eq_getElem_cons hjl,tidyFrom] at ht
 generalize l[j]=c at *
 have x2:Ext H1 (H1.new (.cells c.cells none)):=(Ext.refl _).new _
 have b2:=AH.get_new_self H1 (.cells c.cells none)
 simp only [F.f12_l1,i64_lss,hjl',decide_true,f1,f2 _ g.ext,allocW_eq,cond_new,cond_load b2,stdZ]
 have g2:=g.grow x2
 generalize H1.new (.cells c.cells none)=H2 at *
 generalize H1.next=bc at *
 refine S.f8 hE c fun H3 e3 =>?_
 have b3:=e3.cells b2
 have g3:=g2.grow e3
 cases ha:alwaysC c with
 | true =>
  rw [ha,if_neg (by simp)] at ht
  simp only [hjj,stdZ]
  exact hX _ _ ⟨w,out,rfl,g3,ht,by omega⟩
 | false =>
  simp only [cond_load b3,stdZ]
  refine S.f32 hE (g3.rows (k:=0) rfl) (by omega) c fun H4 e4 =>?_
  have b4:=e4.cells b3
  have g4:=g3.grow e4
  rw [ha] at ht
  by_cases hm:c∈out
  ·rw [if_neg (by simp [hm])] at ht
   have hd:decide (c∈out)=true:=by simpa using hm
   simp only [hd,hjj,stdZ]
   exact hX _ _ ⟨w,out,rfl,g4,ht,by omega⟩
  ·rw [if_pos (by simp [hm])] at ht
   have hd:decide (c∈out)=false:=by simpa using hm
   have hbS:buildS 1 4 #[(.int .i64 0),(.int .u8 0),(.int .u64 0),(.int .u64 0)] [(0,c.v)]=some (.cells c.cells none,mkSlc 1 1):=buildS_one 4 [vi 0,u8 0#8,u64 0#64,u64 0#64] c.cells rfl rfl
   obtain ⟨w',H5,a1,a2,g5⟩:=g4.app1 (k:=0) (bytes:=32) rfl c.cells rfl rfl (by decide) (by decide) (by rw [condR_length]; omega)
   have g5:Has H zH H5 [growR 4 w' (condR (out++[c]))]:=by simpa [condR] using g5
   simp only [hd,cond_load b4,hbS,AM.mk_some,mkSlc_eq,a1,opt2_some,hjj,stdZ]
   exact hX _ _ ⟨w',out++[c],rfl,g5,ht,by simp; omega⟩
end
end Go.AM
end
section
namespace Go.AM
set_option maxRecDepth 20000
section
variable {E:Sy} {H H' H0 Z:AH} {Q:Value->AH->Prop} {L:List Res}
theorem never_l2 (hE:Fold E) {X0:List Value->AH->Prop} {t0 t7 t8:Value} {i:Nat} (hi:i<2 ^ 60) {bc:Nat} {c:CondD} (hb:H.get bc = .cells c.cells none) {v:Value} {l:List CondD} (hv:Rows H 4 v (condR l)) (hl:l.length<2 ^ 60)
  (hQ:l.any (clash c)=true->∀ H',Ext H H'->Q (vb true) H') (hX:l.any (clash c)=false->∀ H',Ext H H'->X0 [t0,t7,t8,vi ((i+1:Nat):Int)] H') :
  LoopL (fun l H X1=>F.f10_l2 E Q X0 (nth l 0) (nth l 1) (nth l 2) (nth l 3) (nth l 4) (nth l 5) (nth l 6) (nth l 7) H X1) [t0,ptr bc 0,t7,t8,vi i,v,vi (l.length:Int),vi ((0:Nat):Int)] H:=by
 have c0:∀ c:CondD,c.cells[0]? = some (vi c.arg):=fun _=>rfl
 have c1:∀ c:CondD,c.cells[1]? = some (u8 c.op):=fun _=>rfl
 have c3:∀ c:CondD,c.cells[3]? = some (u64 c.value):=fun _=>rfl
 have k1:(.int .u8 1:Value)=u8 1#8:=rfl
 refine LoopL.count l.length (fun j ls H'=>ls=[t0,ptr bc 0,t7,t8,vi i,v,vi (l.length:Int),vi j]/\Ext H H'/\∀ i (hi:i<l.length),i<j->clash c l[i]=false) ?_ ⟨rfl,Ext.refl _,fun i _ h=>by omega⟩
 rintro j _ H1 X1 hj hX1 ⟨rfl,e1,hno⟩
 by_cases hjl:j<l.length
 rotate_left
 ·have hjl':¬ (j:Int)<l.length:=by omega
  have hii:=i64_inc (i:=i) (by omega)
  have ha:l.any (clash c)=false:=by
   rw [List.any_eq_false]
   intro x hx
   obtain ⟨i,hi,rfl⟩:=List.getElem_of_mem hx
   rw [hno i hi (by omega)]
   simp
  simp only [F.f10_l2,i64_lss,hjl',decide_false,hii,stdZ]
  exact hX ha _ e1
 have hjl':(j:Int)<l.length:=by omega
 have hjj:=i64_inc (i:=j) (by omega)
 have hX1:=hX1 hjl
 obtain ⟨b,o,f1,f2⟩:=cond_ix (hv.mono e1) hjl
 have hstep:clash c l[j]=false->∀ i (hi:i<l.length),i<j+1->clash c l[i]=false:=by
  intro h i hi hij
  by_cases e:i=j
  ·subst e; exact h
  ·exact hno i hi (by omega)
 have hyes:clash c l[j]=true->l.any (clash c)=true:=fun h=>List.any_eq_true.2 ⟨_,List.getElem_mem hjl,h⟩
 generalize l[j]=d at *
 have x2:Ext H1 (H1.new (.cells d.cells none)):=(Ext.refl _).new _
 have b2:=AH.get_new_self H1 (.cells d.cells none)
 have e2:=e1.trans x2
 have bb:=e2.cells hb
 simp only [F.f10_l2,i64_lss,hjl',decide_true,f1,f2 _ (Ext.refl _),allocW_eq,cond_new,stdZ]
 generalize H1.new (.cells d.cells none)=H2 at *
 generalize H1.next=bd at *
 simp only [bb,c0,b2,i64_eql,stdZ]
 by_cases h1:c.arg=d.arg
 rotate_left
 ·have hd:clash c d=false:=by simp [clash,h1]
  simp only [h1,decide_false,hjj,stdZ]
  exact hX1 _ _ ⟨rfl,e2,hstep hd⟩
 simp only [h1,decide_true,bb,c1,k1,u8_eql,stdZ]
 by_cases h2:c.op=1#8
 rotate_left
 ·have hd:clash c d=false:=by simp [clash,h2]
  simp only [h2,decide_false,hjj,stdZ]
  exact hX1 _ _ ⟨rfl,e2,hstep hd⟩
 simp only [h2,decide_true,b2,c1,k1,u8_eql,stdZ]
 by_cases h3:d.op=1#8
 rotate_left
 ·have hd:clash c d=false:=by simp [clash,h3]
  simp only [h3,decide_false,hjj,stdZ]
  exact hX1 _ _ ⟨rfl,e2,hstep hd⟩
 simp only [h3,decide_true,bb,b2,c3,u64_neq,stdZ]
 by_cases h4:c.value=d.value
 ·have hd:clash c d=false:=by simp [clash,h4]
  have hz:decide (c.value≠d.value)=false:=by simp [h4]
  simp only [hz,hjj,stdZ]
  exact hX1 _ _ ⟨rfl,e2,hstep hd⟩
 ·have hd:clash c d=true:=by simp [clash,h1,h2,h3,h4]
  have hz:decide (c.value≠d.value)=true:=by simp [h4]
  simp only [hz,stdZ]
  exact hQ (hyes hd) _ e2
theorem S.f10 (hE:Fold E) {v:Value} {l:List CondD} (hv:Rows H 4 v (condR l)) (hl:l.length<2 ^ 30) (hQ:∀ H',Ext H H'->Q (vb (neverC l)) H'):E.call (E.fid i.f10) [v] H Q:=by
 have c1:∀ c:CondD,c.cells[1]? = some (u8 c.op):=fun _=>rfl
 have c3:∀ c:CondD,c.cells[3]? = some (u64 c.value):=fun _=>rfl
 have k3:(.int .u8 3:Value)=u8 3#8:=rfl
 have k5:(.int .u8 5:Value)=u8 5#8:=rfl
 have k0:(.int .u64 0:Value)=u64 0#64:=rfl
 have kM:(.int .u64 18446744073709551615:Value)=u64 18446744073709551615#64:=rfl
 apply hE.f10
 have hlv:=hv.lenSlc
 rw [condR_length] at hlv
 have i0:(.int .i64 0:Value)=vi ((0:Nat):Int):=rfl
 simp only [F.f10,hlv,i0,stdZ]
 refine LoopL.count l.length (fun j ls H'=>ls=[v,v,vi (l.length:Int),vi j]/\Ext H H'/\neverC l=neverFrom (l.take j) (l.drop j)) ?_ ⟨rfl,Ext.refl _,rfl⟩
 rintro j _ H1 X hj hX ⟨rfl,e1,hn⟩
 by_cases hjl:j<l.length
 rotate_left
 ·have hjl':¬ (j:Int)<l.length:=by omega
  rw [List.drop_of_length_le (by omega),neverFrom] at hn
  rw [hn] at hQ
  simp only [F.f10_l1,i64_lss,hjl',decide_false,stdZ]
  exact hQ _ e1
 have hX:=hX hjl
 have hjl':(j:Int)<l.length:=by omega
 obtain ⟨b,o,f1,f2⟩:=cond_ix (hv.mono e1) hjl
 have htk:l.take (j+1)=l.take j++[l[j]]:=List.take_succ_eq_append_getElem hjl
 rw [List.drop_eq_getElem_cons hjl,neverFrom,<- htk] at hn
 have hpl:(l.take j).length=j:=by rw [List.length_take]; omega
 obtain ⟨v',s1,s2⟩:=(hv.mono e1).slice (lo:=none) (hi:=some (vi j)) (i:=0) (j:=j) (.inr ⟨rfl,rfl⟩) (.inl rfl) (by omega) (by rw [condR_length]; omega)
 have s2:Rows H1 4 v' (condR (l.take j)):=by
  have:((condR l).take j).drop 0=condR (l.take j):=by simp [condR]
  rwa [this] at s2
 generalize l[j]=c at *
 have x2:Ext H1 (H1.new (.cells c.cells none)):=(Ext.refl _).new _
 have b2:=AH.get_new_self H1 (.cells c.cells none)
 have e2:=e1.trans x2
 have half:never1 c=false->∀ (H3:AH),Ext H1 H3->H3.get H1.next = .cells c.cells none->F.f10_j1 E Q X v (vi j) (ptr H1.next 0) v (vi (l.length:Int)) (vi j) (vb false) H3:=by
  intro h1 H3 e3 b3
  have hs:slSlc 4 v none (some (vi j)) none H3=some v':=by
   have:=((hv.mono e1).mono e3).slice' (lo:=none) (hi:=some (vi j)) (i:=0) (j:=j) (.inr ⟨rfl,rfl⟩) (.inl rfl) (by omega) (by rw [condR_length]; omega)
   have h0:=(hv.mono e1).slice' (lo:=none) (hi:=some (vi j)) (i:=0) (j:=j) (.inr ⟨rfl,rfl⟩) (.inl rfl) (by omega) (by rw [condR_length]; omega)
   rw [h0.1] at s1
   rw [this.1,s1]
  have s3:=s2.mono e3
  have hl3:=s3.lenSlc
  rw [condR_length] at hl3
  simp only [F.f10_j1,hs,hl3,i0,stdZ]
  refine never_l2 hE (by omega) b3 s3 (by rw [hpl]; omega) (fun ha H' e' =>?_) (fun ha H' e' =>?_)
  ·rw [hn,ha] at hQ
   simp only [Bool.or_true,Bool.true_or] at hQ
   exact hQ _ ((e1.trans e3).trans e')
  ·refine hX _ _ ⟨rfl,(e1.trans e3).trans e',?_⟩
   rw [hn,h1,ha]
   simp
 have yes:never1 c=true->∀ (H3:AH),Ext H1 H3->F.f10_j1 E Q X v (vi j) (ptr H1.next 0) v (vi (l.length:Int)) (vi j) (vb true) H3:=by
  intro h1 H3 e3
  rw [hn,h1] at hQ
  simp only [Bool.true_or] at hQ
  simp only [F.f10_j1,stdZ]
  exact hQ _ (e1.trans e3)
 simp only [F.f10_l1,i64_lss,hjl',decide_true,f1,f2 _ (Ext.refl _),allocW_eq,cond_new,stdZ]
 simp only [b2,c1,k3,u8_eql,stdZ]
 have second:(decide (c.op=3#8)&&decide (c.value=0#64))=false->(opt (binInt .eql (u8 c.op) (.int .u8 5)) fun v14 =>
   gd v14 true (fun k=>opt (addOff (ptr H1.next 0) 3) fun w=>k w (H1.new (.cells c.cells none))) (H1.new (.cells c.cells none)) fun v15 H6 =>
   gd v14 true (fun k=>opt (load1 v15 H6) fun w=>k w H6) H6 fun v16 H7 =>
   gd v14 true (fun k=>opt (binInt .eql v16 (.int .u64 18446744073709551615)) fun w=>k w H7) H7 fun v17 H8 =>
   opt (pick v14 v17 (.bool false)) fun v18=>F.f10_j1 E Q X v (vi j) (ptr H1.next 0) v (vi (l.length:Int)) (vi j) v18 H8):=by
  intro hfirst
  simp only [k5,u8_eql,stdZ]
  by_cases h5:c.op=5#8
  ·simp only [h5,decide_true,b2,c3,kM,u64_eql,stdZ]
   by_cases hv:c.value=18446744073709551615#64
   ·simp only [hv,decide_true,stdZ]
    exact yes (by simp [never1,h5,hv]) _ x2
   ·simp only [hv,decide_false,stdZ]
    exact half (by unfold never1; rw [hfirst]; simp [h5,hv]) _ x2 b2
  ·simp only [h5,decide_false,stdZ]
   exact half (by unfold never1; rw [hfirst]; simp [h5]) _ x2 b2
 by_cases h3:c.op=3#8
 ·simp only [h3,decide_true,b2,c3,k0,u64_eql,stdZ]
  by_cases hv:c.value=0#64
  ·simp only [hv,decide_true,stdZ]
   exact yes (by simp [never1,h3,hv]) _ x2
  ·have:=second (by simp [hv])
   simp only [h3] at this
   simp only [hv,decide_false,b2,c1,h3,stdZ]
   exact this
 ·have:=second (by simp [h3])
  simp only [h3,decide_false,b2,c1,stdZ]
  exact this
def BranchAt (n:Nat) (H:AH) (b:BranchD) (cs:List Value):Prop:=b.conds.length<2 ^ 30/\∃ v,cs=[v,u32 b.action]/\Rows H 4 v (condR b.conds)/\FreshV n v
theorem BranchAt.sub {n:Nat} {H H':AH} {b:BranchD} {cs:List Value} (h:BranchAt n H b cs) (e:Sub H H'):BranchAt n H' b cs:=by
 obtain ⟨h0,v,h1,h2,h3⟩:=h
 exact ⟨h0,v,h1,h2.sub e,h3⟩
def Each {α:Type} (R:α->List Value->Prop) (rows:List (List Value)) (l:List α):Prop:=rows.length=l.length/\∀ i (h1:i<l.length) (h2:i<rows.length),R l[i] rows[i]
theorem Each.nil {α:Type} (R:α->List Value->Prop):Each R [] ([]:List α):=⟨rfl,fun i h=>by simp at h⟩
theorem Each.snoc {α:Type} {R:α->List Value->Prop} {rows:List (List Value)} {l:List α} (h:Each R rows l) {r:List Value} {x:α} (hr:R x r):Each R (rows++[r]) (l++[x]):=by
 obtain ⟨h0,h⟩:=h
 refine ⟨by simp [h0],fun i h1 h2 =>?_⟩
 by_cases hi:i<l.length
 ·rw [List.getElem_append_left hi,List.getElem_append_left (by omega)]
  exact h i hi (by omega)
 ·have:i=l.length:=by simp at h1; omega
  subst this
  simp only [List.getElem_append_right (Nat.le_refl l.length)]
  simp only [Nat.sub_self,List.getElem_cons_zero]
  have:(rows++[r])[l.length]'h2=r:=by
   rw [List.getElem_append_right (by omega)]
   simp [h0]
  rw [this]
  exact hr
theorem Each.imp {α:Type} {R R':α->List Value->Prop} {rows:List (List Value)} {l:List α} (h:Each R rows l) (hi:∀ a c,R a c->R' a c):Each R' rows l:=⟨h.1,fun i h1 h2=>hi _ _ (h.2 i h1 h2)⟩
theorem S.f9 (hE:Fold E) {v:Value} {l:List RuleD} (hv:SliceOf RuleAt H 3 v l) (hl:l.length<2 ^ 30) (hc:∀ r∈l,r.conds.length<2 ^ 20)
  (hQ:∀ v' H',Ext H H'->SliceOf (BranchAt H.next) H' 2 v' (branchesF l)->FreshV H.next v'->Q v' H'):E.call (E.fid i.f9) [v] H Q:=by
 apply hE.f9
 have hlv:=hv.lenSlc
 have i0:(.int .i64 0:Value)=vi ((0:Nat):Int):=rfl
 simp only [F.f9,hlv,i0,stdZ]
 refine LoopL.count l.length (fun j ls H'=>∃ w out rows Z,ls=[w,v,vi (l.length:Int),vi j]/\Has H Z H' [growR 2 w rows]/\Each (BranchAt H.next Z) rows out/\branchesF l=out++branchesF (l.drop j)/\out.length<=j) ?_
  ⟨nilS,[],[],zH,rfl,(Has.begin (Ext.refl H) ⟨Nat.zero_le _,fun b hb=>(hb (zH_get b)).elim⟩).nils 2,Each.nil _,rfl,by simp⟩
 rintro j _ H1 X hj hX ⟨w,out,rows,Z,rfl,g,hea,hb,hol⟩
 have fin:branchesF l=out->Q w H1:=by
  intro he
  refine hQ w _ g.ext ?_ fun b hb=>((g.all (growR 2 w rows) (by simp)).2 b (mem_blkL.2 hb)).1
  rw [he]
  exact ⟨rows,g.rows (k:=0) rfl,hea.1,fun i h1 h2=>(hea.2 i h1 h2).sub g.sub⟩
 by_cases hjl:j<l.length
 rotate_left
 ·have hjl':¬ (j:Int)<l.length:=by omega
  rw [List.drop_of_length_le (by omega),branchesF,List.append_nil] at hb
  simp only [F.f9_l1,i64_lss,hjl',decide_false,stdZ]
  exact fin hb
 have hX:=hX hjl
 have hjl':(j:Int)<l.length:=by omega
 have hjj:=i64_inc (i:=j) (by omega)
 obtain ⟨b,o,cs,f1,f2,f3⟩:=(hv.mono (fun _ _ _ _ h e=>RuleAt.mono h e) g.ext).ix (i:=j) hjl
 rw [List.drop_eq_getElem_cons hjl,branchesF] at hb
 have hcl:=hc _ (List.getElem_mem hjl)
 generalize l[j]=r at *
 obtain ⟨hrl,cv,rfl,hcv⟩:=f3
 have hpl:=hcv.plain
 have lo1:loadN 3 (ptr b o) H1=some (.agg [u32 r.number,u32 r.action,cv].toArray):=by rw [loadN_ptr,f2]; rfl
 have g2:=g.newbox [u32 r.number,u32 r.action,cv]
 have st2:storeN 3 (ptr H1.next 0) (.agg [u32 r.number,u32 r.action,cv].toArray) (H1.new (.cells [(.int .u32 0),(.int .u32 0),(.slice none 0 0)] none))=some (H1.new (.cells [u32 r.number,u32 r.action,cv] none)):=by
  rw [storeN_ptr,AH.get_new_self]
  have h3:AM.splice [(.int .u32 0),(.int .u32 0),(.slice none 0 0)] 0 [u32 r.number,u32 r.action,cv]=[u32 r.number,u32 r.action,cv]:=rfl
  have h4:[u32 r.number,u32 r.action,cv].all plain1=true:=by simp [hpl]
  have h5:[u32 r.number,u32 r.action,cv].length=3:=rfl
  simp only [List.size_toArray,List.toList_toArray,h4,h5,List.length_cons,List.length_nil,Nat.zero_add,Nat.le_refl,and_self,if_true,h3,AH.new_put]
 have x2:Ext H1 (H1.new (.cells [u32 r.number,u32 r.action,cv] none)):=(Ext.refl _).new _
 have b2:=AH.get_new_self H1 (.cells [u32 r.number,u32 r.action,cv] none)
 simp only [F.f9_l1,i64_lss,hjl',decide_true,f1,lo1,allocW_eq,st2,stdZ]
 have hcv2:=hcv.mono x2
 generalize H1.new (.cells [u32 r.number,u32 r.action,cv] none)=H2 at *
 generalize H1.next=br at *
 simp only [b2,allocW_eq,stdZ]
 have g3:=g2.newbox [(.slice none 0 0),(.int .u32 0)]
 have x3:Ext H2 (H2.new (.cells [(.slice none 0 0),(.int .u32 0)] none)):=(Ext.refl _).new _
 have b3:=AH.get_new_self H2 (.cells [(.slice none 0 0),(.int .u32 0)] none)
 have hcv3:=hcv2.mono x3
 have b23:=x3.cells b2
 generalize H2.new (.cells [(.slice none 0 0),(.int .u32 0)] none)=H3 at *
 generalize H2.next=bb at *
 refine S.f12 hE hcv3 (by omega) fun tv H4 e4 tr tf =>?_
 have b4:=e4.cells b3
 have b24:=e4.cells b23
 obtain ⟨Z4,fz,g4,keep⟩:=g3.callee e4
 have tr4:=keep _ _ _ tr tf
 have htl:(tidyC r.conds).length<=r.conds.length:=by have:=tidyFrom_le r.conds []; simpa [tidyC] using this
 have hn3:H.next<=H3.next:=g3.ext.1
 have tf0:FreshV H.next tv:=fun b hb=>Nat.le_trans hn3 (tf b hb)
 have htp:=tr.plain
 have hbv:buildV [(0,1),(1,1)] #[(.slice none 0 0),(.int .u32 0)] [(0,tv),(1,u32 r.action)]=some (.agg [tv,u32 r.action].toArray):=by
  have hd:=plain_defd htp
  have hvc:=plain_vcells htp
  simp [hd,hvc,splice]
 have st4:storeN 2 (ptr bb 0) (.agg [tv,u32 r.action].toArray) H4=some (H4.put bb (.cells [tv,u32 r.action] none)):=by
  rw [storeN_ptr,b4]
  have h3:AM.splice [(.slice none 0 0),(.int .u32 0)] 0 [tv,u32 r.action]=[tv,u32 r.action]:=rfl
  have h4:[tv,u32 r.action].all plain1=true:=by simp [htp]
  simp only [List.size_toArray,List.toList_toArray,h4,List.length_cons,List.length_nil,Nat.zero_add,Nat.le_refl,and_self,if_true,h3]
 have g5:=g4.put (k:=2) (b:=bb) rfl [tv,u32 r.action]
 refine ⟨by rw [b4,b3],by rw [load1_ptr,load1_ptr,b24,b2],?_⟩
 simp only [hbv,st4,stdZ]
 generalize H4.put bb (.cells [tv,u32 r.action] none)=H5 at *
 have g5:Has H Z4 H5 [growR 2 w rows,boxR br [u32 r.number,u32 r.action,cv],boxR bb [tv,u32 r.action]]:=g5
 have b5:=g5.box (k:=2) (b:=bb) rfl
 have tr5:=tr4.sub g5.sub
 simp only [b5,stdZ]
 refine S.f10 hE tr5 (by omega) fun H6 e6 =>?_
 have g6:=g5.grow e6
 have hea4:Each (BranchAt H.next Z4) rows out:=hea.imp fun a c h=>h.sub fz.1
 cases hnv:neverC (tidyC r.conds) with
 | true =>
  rw [if_pos hnv] at hb
  simp only [hjj,stdZ]
  exact hX _ _ ⟨w,out,rows,Z4,rfl,(g6.drop 2).drop 1,hea4,hb,by omega⟩
 | false =>
  rw [if_neg (by rw [hnv]; decide)] at hb
  have b6:=g6.box (k:=2) (b:=bb) rfl
  have lo6:loadN 2 (ptr bb 0) H6=some (.agg [tv,u32 r.action].toArray):=by rw [loadN_ptr,b6]; rfl
  have hbS:buildS 1 2 #[(.slice none 0 0),(.int .u32 0)] [(0,.agg [tv,u32 r.action].toArray)]=some (.cells [tv,u32 r.action] none,mkSlc 1 1):=buildS_one 2 [nilS,u32 0#32] _ rfl rfl
  obtain ⟨w',H7,a1,a2,g7⟩:=g6.app1 (k:=0) (bytes:=32) rfl [tv,u32 r.action] rfl (by simp [htp]) (by decide) (by decide) (by rw [hea.1]; omega)
  have g7:Has H Z4 H7 [growR 2 w' (rows++[[tv,u32 r.action]]),boxR br [u32 r.number,u32 r.action,cv],boxR bb [tv,u32 r.action]]:=g7
  have b7:=g7.box (k:=2) (b:=bb) rfl
  have hlt:=tr4.lenSlc
  rw [condR_length] at hlt
  have hea7:Each (BranchAt H.next Z4) (rows++[[tv,u32 r.action]]) (out++[⟨tidyC r.conds,r.action⟩]):=hea4.snoc ⟨by show (tidyC r.conds).length<_; omega,tv,rfl,tr4,tf0⟩
  simp only [lo6,hbS,AM.mk_some,mkSlc_eq,a1,opt2_some,b7,hlt,i64_eql,stdZ]
  by_cases h0:tidyC r.conds=[]
  ·rw [if_pos h0] at hb
   have hz:decide (((tidyC r.conds).length:Int)=0)=true:=by rw [h0]; rfl
   simp only [hz,stdZ]
   refine hQ w' _ g7.ext ?_ fun b hb=>((g7.all (growR 2 w' (rows++[[tv,u32 r.action]])) (by simp)).2 b (mem_blkL.2 hb)).1
   rw [hb,<- h0]
   exact ⟨_,g7.rows (k:=0) rfl,hea7.1,fun i h1 h2=>(hea7.2 i h1 h2).sub g7.sub⟩
  ·rw [if_neg h0] at hb
   have hz:decide (((tidyC r.conds).length:Int)=0)=false:=by
    rw [decide_eq_false_iff_not]
    intro h
    exact h0 (List.length_eq_zero_iff.1 (by omega))
   simp only [hz,hjj,stdZ]
   exact hX _ _ ⟨w',_,_,Z4,rfl,(g7.drop 2).drop 1,hea7,by rw [hb]; simp,by simp; omega⟩
end
end Go.AM
end
section
namespace Go.AM
open Go.Sort (swp SWO PermIn SortedIn)
section
variable {α:Type} [Inhabited α] {sz:Nat} {enc:α->List Value} {H H' H'':AH} {b c n:Nat} {d d':Array α} {tail:List Value} {f:Option Nat}
def arrM (enc:α->List Value) (d:Array α) (tail:List Value) (f:Option Nat):AObj := .cells (d.toList.flatMap enc++tail) f
structure EncOk (sz:Nat) (enc:α->List Value):Prop where
 len:∀ x,(enc x).length=sz
 plain:∀ x,(enc x).all plain1=true
theorem mrr_ix {i:Nat} (h:i<n):ixSlc sz (slc b 0 n c) (vi (i:Int))=some (ptr b (i*sz)):=by
 rw [ixSlc_slc _ _ _ _ _ _ h,Nat.zero_add]
theorem EncOk.flat (he:EncOk sz enc):∀ l:List α,(l.flatMap enc).length=l.length*sz
 | []=>by simp
 | x :: l=>by
  rw [List.flatMap_cons,List.length_append,he.len,he.flat l,List.length_cons,Nat.succ_mul,Nat.add_comm]
theorem mrr_load (he:EncOk sz enc) (hg:H.get b=arrM enc d tail f) {i:Nat} (hi:i<d.size):loadN sz (ptr b (i*sz)) H=some (.agg (enc d[i]!).toArray):=by
 have hle:i*sz+sz<=d.size*sz:=by rw [<- Nat.succ_mul]; exact Nat.mul_le_mul_right _ hi
 have hl:(d.toList.flatMap enc).length=d.size*sz:=by rw [he.flat d.toList]; simp
 rw [loadN_ptr,hg,arrM,row_cells,if_pos (by rw [List.length_append,hl]; omega)]
 have hp:=flatten_part (d.toList.map enc) (sz:=sz) (fun r hr=>by obtain ⟨x,_,rfl⟩:=List.mem_map.1 hr; exact he.len x) i (by simpa using hi)
 rw [<- List.flatMap_def] at hp
 rw [List.drop_append_of_le_length (by omega),List.take_append_of_le_length (by rw [List.length_drop]; omega),hp]
 simp [hi]
theorem splice_right (A B v:List Value) (k:Nat):splice (A++B) (A.length+k) v=A++splice B k v:=by
 unfold splice
 rw [List.take_length_add_append,Nat.add_assoc,List.drop_length_add_append,List.append_assoc,List.append_assoc]
 simp only [List.append_assoc]
theorem flatMap_set (he:EncOk sz enc):∀ (l:List α) (i:Nat) (x:α) (tail:List Value),i<l.length->splice (l.flatMap enc++tail) (i*sz) (enc x)=(l.set i x).flatMap enc++tail
 | [],i,x,tail,h=>by simp at h
 | y :: l,0,x,tail,h=>by
  have h1:=he.len x
  have h2:=he.len y
  simp only [Nat.zero_mul,splice,List.take_zero,List.nil_append,Nat.zero_add,List.set_cons_zero,List.flatMap_cons,h1,List.append_assoc]
  rw [<- h2,List.drop_left]
 | y :: l,i+1,x,tail,h=>by
  have h1:=he.len y
  have ih:=flatMap_set he l i x tail (by simpa using h)
  simp only [List.set_cons_succ,List.flatMap_cons,List.append_assoc]
  rw [<- ih,show (i+1)*sz=(enc y).length+i*sz by rw [h1,Nat.succ_mul,Nat.add_comm],splice_right]
theorem mrr_store (he:EncOk sz enc) (hg:H.get b=arrM enc d tail f) {i:Nat} (hi:i<d.size) (x:α):storeN sz (ptr b (i*sz)) (.agg (enc x).toArray) H=some (H.put b (arrM enc (d.setIfInBounds i x) tail f)):=by
 have hle:i*sz+sz<=d.size*sz:=by rw [<- Nat.succ_mul]; exact Nat.mul_le_mul_right _ hi
 have hl:(d.toList.flatMap enc).length=d.size*sz:=by rw [he.flat d.toList]; simp
 rw [storeN_ptr,hg,arrM]
 simp only [List.size_toArray,List.toList_toArray,he.len,he.plain]
 rw [if_pos ⟨trivial,by rw [List.length_append,hl]; omega,trivial⟩,flatMap_set he _ _ _ _ (by simpa using hi)]
 simp only [arrM,Array.toList_setIfInBounds]
theorem mrr_lt (hg:H.get b=arrM enc d tail f):b<H.next:=AH.lt_cells hg
theorem mrr_swap (he:EncOk sz enc) (hg:H.get b=arrM enc d tail f) {i j:Nat} (hi:i<d.size) (hj:j<d.size) :
  storeN sz (ptr b (i*sz)) (.agg (enc d[j]!).toArray) H=some (H.put b (arrM enc (d.setIfInBounds i d[j]!) tail f)) /\
  storeN sz (ptr b (j*sz)) (.agg (enc d[i]!).toArray) (H.put b (arrM enc (d.setIfInBounds i d[j]!) tail f))=some (H.put b (arrM enc (swp d i j) tail f)):=by
 refine ⟨mrr_store he hg hi _,?_⟩
 rw [mrr_store he (AH.get_put_self _ _ (mrr_lt hg)) (by simpa using hj),AH.put_put]
 rfl
structure SortMo (H:AH) (b:Nat) (enc:α->List Value) (tail:List Value) (f:Option Nat) (d':Array α) (H':AH):Prop where
 only:Only [b] H H'
 get:H'.get b=arrM enc d' tail f
theorem SortMo.refl (hg:H.get b=arrM enc d tail f):SortMo H b enc tail f d H:=⟨Only.refl _ _,hg⟩
theorem SortMo.trans (h:SortMo H b enc tail f d H') (h':SortMo H' b enc tail f d' H''):SortMo H b enc tail f d' H'':=⟨h.only.trans' h'.only,h'.get⟩
theorem SortMo.put (h:SortMo H b enc tail f d H') (d':Array α):SortMo H b enc tail f d' (H'.put b (arrM enc d' tail f)) :=
 ⟨h.only.put (.inl (by simp)) _,AH.get_put_self _ _ (mrr_lt h.get)⟩
theorem SortMo.ext (h:SortMo H b enc tail f d H') (e:Ext H' H''):SortMo H b enc tail f d H'' :=
 ⟨h.only.trans' e.only,by rw [e.get (mrr_lt h.get)]; exact h.get⟩
def CmpOk (E:Sy) (fv:Value) (enc:α->List Value) (LT:α->α->Bool):Prop:=∀ (x y:α) (H:AH) (K:Value->AH->Prop),(∀ (z:Int) H',Ext H H'->decide (z<0)=LT x y->K (vi z) H')->callV E.call fv [.agg (enc x).toArray,.agg (enc y).toArray] H K
end
section
variable {α:Type} [Inhabited α] (rk:α->Nat)
def ltK (x y:α):Bool:=decide (rk x<rk y)
theorem swo_ltK:SWO (ltK rk):=⟨fun x=>by simp [ltK],fun x y z=>by simp only [ltK,decide_eq_true_eq]; omega,fun x y z=>by simp only [ltK,decide_eq_false_iff_not]; omega⟩
def SameK (l l':List α):Prop:=∀ k,l'.filter (fun x=>decide (rk x=k))=l.filter fun x=>decide (rk x=k)
theorem SameK.refl (l:List α):SameK rk l l:=fun _=>rfl
theorem SameK.trans {l l' l'':List α} (h:SameK rk l l') (h':SameK rk l' l''):SameK rk l l'':=fun k=>(h' k).trans (h k)
theorem SameK.app {a a' b b':List α} (h:SameK rk a a') (h':SameK rk b b'):SameK rk (a++b) (a'++b'):=fun k=>by rw [List.filter_append,List.filter_append,h k,h' k]
theorem SameK.swap2 {x y:α} (h:rk x≠rk y) (p q:List α):SameK rk (p++x :: y :: q) (p++y :: x :: q):=by
 refine (SameK.refl rk p).app rk fun k =>?_
 by_cases h1:rk x=k
 ·have h2:¬ rk y=k:=fun e=>h (h1.trans e.symm)
  simp [List.filter_cons,h1,h2]
 ·simp [List.filter_cons,h1]
theorem swp_list (d:Array α) {j:Nat} (h:j+1<d.size):∃ p q,d.toList=p++d[j]! :: d[j+1]! :: q/\(swp d (j+1) j).toList=p++d[j+1]! :: d[j]! :: q/\p.length=j:=by
 have h1:d.toList=d.toList.take j++d[j]! :: d[j+1]! :: d.toList.drop (j+2):=by
  conv=>lhs; rw [<- List.take_append_drop j d.toList]
  congr 1
  rw [List.drop_eq_getElem_cons (by simpa using Nat.lt_of_succ_lt h),List.drop_eq_getElem_cons (by simpa using h)]
  have e1:d[j]! = d.toList[j]'(by simpa using Nat.lt_of_succ_lt h):=by
   rw [getElem!_pos d j (by omega)]; simp
  have e2:d[j+1]! = d.toList[j+1]'(by simpa using h):=by
   rw [getElem!_pos d (j+1) h]; simp
  rw [e1,e2]
 refine ⟨_,_,h1,?_,by rw [List.length_take,Array.length_toList]; omega⟩
 unfold Go.Sort.swp
 rw [Array.toList_setIfInBounds,Array.toList_setIfInBounds]
 generalize d[j]! = x at *
 generalize d[j+1]! = y at *
 have hl:(d.toList.take j).length=j:=by rw [List.length_take,Array.length_toList]; omega
 rw [h1]
 generalize d.toList.drop (j+2)=q
 generalize d.toList.take j=p at *
 subst hl
 rw [List.set_append_right _ _ (by omega),List.set_append_right _ _ (by omega)]
 simp
theorem insInner_same (a:Nat):∀ (j:Nat) (d:Array α),j<d.size->SameK rk d.toList (Go.Sort.insInner (ltK rk) a j d).toList/\(Go.Sort.insInner (ltK rk) a j d).size=d.size
 | 0,d,_=>⟨SameK.refl rk _,rfl⟩
 | j+1,d,h=>by
  rw [Go.Sort.insInner]
  split
  ·rename_i hc
   simp only [Bool.and_eq_true,ltK,decide_eq_true_eq] at hc
   obtain ⟨p,q,h1,h2,_⟩:=swp_list d h
   have ih:=insInner_same a j (swp d (j+1) j) (by rw [Go.Sort.size_swp]; omega)
   rw [Go.Sort.size_swp] at ih
   refine ⟨SameK.trans rk ?_ ih.1,ih.2⟩
   rw [h1,h2]
   exact SameK.swap2 rk (by omega) p q
  ·exact ⟨SameK.refl rk _,rfl⟩
theorem insOuter_same (a b:Nat):∀ (m i:Nat) (d:Array α),b - i<=m->b<=d.size->SameK rk d.toList (Go.Sort.insOuter (ltK rk) a b i d).toList
 | 0,i,d,h,hb=>by
  rw [Go.Sort.insOuter,if_neg (by omega)]
  exact SameK.refl rk _
 | m+1,i,d,h,hb=>by
  rw [Go.Sort.insOuter]
  split
  ·rename_i hc
   obtain ⟨h1,h2⟩:=insInner_same rk a i d (by omega)
   exact SameK.trans rk h1 (insOuter_same a b m (i+1) _ (by omega) (by omega))
  ·exact SameK.refl rk _
theorem insertionSort_same (d:Array α) (a b:Nat) (hb:b<=d.size):SameK rk d.toList (Go.Sort.insertionSort (ltK rk) d a b).toList:=insOuter_same rk a b _ _ d (Nat.le_refl _) hb
def ranked (l:List α):Nat->List α
 | 0=>[]
 | n+1=>ranked l n++l.filter fun x=>decide (rk x=n)
theorem filter_lt_succ:∀ (l:List α),l.Pairwise (fun x y=>rk x<=rk y)->∀ n,l.filter (fun x=>decide (rk x<n+1))=l.filter (fun x=>decide (rk x<n))++l.filter fun x=>decide (rk x=n)
 | [],_,n=>rfl
 | x :: l,hs,n=>by
  have hx:=List.pairwise_cons.1 hs
  have ih:=filter_lt_succ l hx.2 n
  by_cases h1:rk x<n
  ·rw [List.filter_cons_of_pos (by simpa using Nat.lt_succ_of_lt h1),List.filter_cons_of_pos (by simpa using h1),List.filter_cons_of_neg (by simp; omega),ih]
   rfl
  ·have hnone:(x :: l).filter (fun x=>decide (rk x<n))=[]:=by
    rw [List.filter_eq_nil_iff]
    intro y hy
    simp only [decide_eq_true_eq]
    rcases List.mem_cons.1 hy with rfl | hy
    ·exact h1
    ·have:=hx.1 y hy; omega
   have hnone2:l.filter (fun x=>decide (rk x<n))=[]:=by
    rw [List.filter_eq_nil_iff]
    intro y hy
    simp only [decide_eq_true_eq]
    have:=hx.1 y hy; omega
   rw [hnone,List.nil_append]
   rw [hnone2,List.nil_append] at ih
   by_cases h2:rk x=n
   ·rw [List.filter_cons_of_pos (by simp; omega),List.filter_cons_of_pos (by simpa using h2),ih]
   ·rw [List.filter_cons_of_neg (by simp; omega),List.filter_cons_of_neg (by simpa using h2),ih]
theorem sorted_ranked (l:List α) (hs:l.Pairwise fun x y=>rk x<=rk y):∀ n,l.filter (fun x=>decide (rk x<n))=ranked rk l n
 | 0=>by simp [ranked]
 | n+1=>by rw [ranked,<- sorted_ranked l hs n,filter_lt_succ rk l hs n]
theorem ranked_same {l l':List α} (h:SameK rk l l'):∀ n,ranked rk l' n=ranked rk l n
 | 0=>rfl
 | n+1=>by rw [ranked,ranked,ranked_same h n,h n]
theorem stable_is {l l':List α} (h:SameK rk l l') (hs:l'.Pairwise fun x y=>rk x<=rk y) {n:Nat} (hn:∀ x∈l',rk x<n):l'=ranked rk l n:=by
 rw [<- ranked_same rk h,<- sorted_ranked rk l' hs n,List.filter_eq_self.2]
 intro x hx
 simpa using hn x hx
end
end Go.AM
end
section
namespace Go.AM
open Go.Sort
set_option maxRecDepth 20000
section
variable {α:Type} [Inhabited α] {E:Sy} {H H':AH} {Q:Value->AH->Prop} {b c n:Nat} {enc:α->List Value} {LT:α->α->Bool} {fv:Value} {d:Array α} {tail:List Value} {f:Option Nat}
theorem S.f41 (hE:Fold E) (he:EncOk 3 enc) (hC:CmpOk E fv enc LT) (hg:H.get b=arrM enc d tail f) (hn:d.size=n) (hsz:n<2 ^ 60) (a e:Nat) (hae:a<=e) (hle:e<=n)
  (hQ:∀ H',SortMo H b enc tail f (insertionSort LT d a e) H'->Q (.tuple #[]) H'):E.call (E.fid i.f41) [slc b 0 n c,vi a,vi e,fv] H Q:=by
 apply hE.f41
 have a1:binInt .add (vi a) (.int .i64 1)=some (vi ((a+1:Nat):Int)):=i64_succ a (by omega)
 simp only [F.f41,a1,stdZ]
 unfold insertionSort at hQ
 obtain ⟨R,hR⟩:∃ R,R=insOuter LT a e (a+1) d:=⟨_,rfl⟩
 rw [<- hR] at hQ
 refine LoopL.ind (fun m l H'=>∃ (j:Nat) (d':Array α),l=[slc b 0 n c,vi a,vi e,fv,vi j]/\SortMo H b enc tail f d' H'/\d'.size=n/\R=insOuter LT a e j d'/\a<j/\m=e - j) ?_ (e - (a+1)) ⟨a+1,d,rfl,.refl hg,hn,hR,by omega,rfl⟩
 rintro m _ H1 X hX ⟨j,d1,rfl,s1,n1,r1,haj,rfl⟩
 unfold insOuter at r1
 by_cases hj:j<e
 ·rw [if_pos hj] at r1
  have hj':(j:Int)<e:=by omega
  have hjj:binInt .add (vi j) (.int .i64 1)=some (vi ((j+1:Nat):Int)):=i64_succ j (by omega)
  simp only [F.f41_l1,i64_lss,hj',decide_true,stdZ]
  refine LoopL.ind (fun m l H2=>∃ (k:Nat) (d2:Array α),l=[slc b 0 n c,vi a,vi e,fv,vi j,vi k]/\SortMo H b enc tail f d2 H2/\d2.size=n/\insInner LT a j d1=insInner LT a k d2/\k<=j/\m=k) ?_ j ⟨j,d1,rfl,s1,n1,rfl,Nat.le_refl _,rfl⟩
  rintro m _ H2 X1 hX1 ⟨k,d2,rfl,s2,n2,r2,hkj,rfl⟩
  have done:insInner LT a m d2=d2->∀ H3,Ext H2 H3->X [slc b 0 n c,vi a,vi e,fv,vi ((j+1:Nat):Int)] H3:=by
   intro e2 H3 e3
   rw [e2] at r2
   rw [r2] at r1
   exact hX (e - (j+1)) (by omega) _ _ ⟨j+1,d2,rfl,s2.ext e3,n2,r1,by omega,rfl⟩
  by_cases hka:a<m
  ·obtain ⟨k,rfl⟩:∃ k,m=k+1:=⟨m - 1,by omega⟩
   have hka':(a:Int)<((k+1:Nat):Int):=by omega
   have f1:ixSlc 3 (slc b 0 n c) (vi ((k+1:Nat):Int))=some (ptr b ((k+1)*3)):=mrr_ix (by omega)
   have f2:ixSlc 3 (slc b 0 n c) (vi (k:Int))=some (ptr b (k*3)):=mrr_ix (by omega)
   have g1:=mrr_load he s2.get (i:=k+1) (by omega)
   have g2:=mrr_load he s2.get (i:=k) (by omega)
   have hd:binInt .sub (vi ((k+1:Nat):Int)) (.int .i64 1)=some (vi (k:Int)):=i64_dec (k+1) (by omega) (by omega)
   simp only [F.f41_l2,i64_gtr,gt_iff_lt,hka',decide_true,f1,f2,g1,g2,hd,stdZ]
   refine hC _ _ _ _ fun z H3 e3 hz =>?_
   have s3:=s2.ext e3
   have g1:=mrr_load he s3.get (i:=k+1) (by omega)
   have g2:=mrr_load he s3.get (i:=k) (by omega)
   obtain ⟨w1,w2⟩:=mrr_swap he s3.get (i:=k+1) (j:=k) (by omega) (by omega)
   simp only [i64_lss,hz,stdZ]
   have hka2:k+1 > a:=hka
   cases hl:LT d2[k+1]! d2[k]! with
   | true =>
    rw [insInner,if_pos (by simp [hka2,hl])] at r2
    simp only [hd,f1,f2,g1,g2,w1,w2,stdZ]
    exact hX1 k (by omega) _ _ ⟨k,_,rfl,s3.put _,by rw [size_swp]; exact n2,r2,by omega,rfl⟩
   | false =>
    simp only [hjj,stdZ]
    exact done (by rw [insInner,if_neg (by simp [hl])]) _ e3
  ·have hka':¬ (a:Int)<(m:Int):=by omega
   simp only [F.f41_l2,i64_gtr,gt_iff_lt,hka',decide_false,hjj,stdZ]
   refine done ?_ _ (Ext.refl _)
   cases m with
   | zero=>rfl
   | succ k=>rw [insInner,if_neg (by simp; omega)]
 ·rw [if_neg hj] at r1
  subst r1
  have hj':¬ (j:Int)<e:=by omega
  simp only [F.f41_l1,i64_lss,hj',decide_false,stdZ]
  exact hQ _ s1
end
end Go.AM
end
section
namespace Go.AM
open Go.Sort
set_option maxRecDepth 20000
section
variable {α:Type} [Inhabited α] {E:Sy} {H H':AH} {Q:Value->AH->Prop} {b c n:Nat} {enc:α->List Value} {LT:α->α->Bool} {fv:Value} {d:Array α} {tail:List Value} {f:Option Nat}
theorem S.f40 (hE:Fold E) (he:EncOk 2 enc) (hC:CmpOk E fv enc LT) (hg:H.get b=arrM enc d tail f) (hn:d.size=n) (hsz:n<2 ^ 60) (a e:Nat) (hae:a<=e) (hle:e<=n)
  (hQ:∀ H',SortMo H b enc tail f (insertionSort LT d a e) H'->Q (.tuple #[]) H'):E.call (E.fid i.f40) [slc b 0 n c,vi a,vi e,fv] H Q:=by
 apply hE.f40
 have a1:binInt .add (vi a) (.int .i64 1)=some (vi ((a+1:Nat):Int)):=i64_succ a (by omega)
 simp only [F.f40,a1,stdZ]
 unfold insertionSort at hQ
 obtain ⟨R,hR⟩:∃ R,R=insOuter LT a e (a+1) d:=⟨_,rfl⟩
 rw [<- hR] at hQ
 refine LoopL.ind (fun m l H'=>∃ (j:Nat) (d':Array α),l=[slc b 0 n c,vi a,vi e,fv,vi j]/\SortMo H b enc tail f d' H'/\d'.size=n/\R=insOuter LT a e j d'/\a<j/\m=e - j) ?_ (e - (a+1)) ⟨a+1,d,rfl,.refl hg,hn,hR,by omega,rfl⟩
 rintro m _ H1 X hX ⟨j,d1,rfl,s1,n1,r1,haj,rfl⟩
 unfold insOuter at r1
 by_cases hj:j<e
 ·rw [if_pos hj] at r1
  have hj':(j:Int)<e:=by omega
  have hjj:binInt .add (vi j) (.int .i64 1)=some (vi ((j+1:Nat):Int)):=i64_succ j (by omega)
  simp only [F.f40_l1,i64_lss,hj',decide_true,stdZ]
  refine LoopL.ind (fun m l H2=>∃ (k:Nat) (d2:Array α),l=[slc b 0 n c,vi a,vi e,fv,vi j,vi k]/\SortMo H b enc tail f d2 H2/\d2.size=n/\insInner LT a j d1=insInner LT a k d2/\k<=j/\m=k) ?_ j ⟨j,d1,rfl,s1,n1,rfl,Nat.le_refl _,rfl⟩
  rintro m _ H2 X1 hX1 ⟨k,d2,rfl,s2,n2,r2,hkj,rfl⟩
  have done:insInner LT a m d2=d2->∀ H3,Ext H2 H3->X [slc b 0 n c,vi a,vi e,fv,vi ((j+1:Nat):Int)] H3:=by
   intro e2 H3 e3
   rw [e2] at r2
   rw [r2] at r1
   exact hX (e - (j+1)) (by omega) _ _ ⟨j+1,d2,rfl,s2.ext e3,n2,r1,by omega,rfl⟩
  by_cases hka:a<m
  ·obtain ⟨k,rfl⟩:∃ k,m=k+1:=⟨m - 1,by omega⟩
   have hka':(a:Int)<((k+1:Nat):Int):=by omega
   have f1:ixSlc 2 (slc b 0 n c) (vi ((k+1:Nat):Int))=some (ptr b ((k+1)*2)):=mrr_ix (by omega)
   have f2:ixSlc 2 (slc b 0 n c) (vi (k:Int))=some (ptr b (k*2)):=mrr_ix (by omega)
   have g1:=mrr_load he s2.get (i:=k+1) (by omega)
   have g2:=mrr_load he s2.get (i:=k) (by omega)
   have hd:binInt .sub (vi ((k+1:Nat):Int)) (.int .i64 1)=some (vi (k:Int)):=i64_dec (k+1) (by omega) (by omega)
   simp only [F.f40_l2,i64_gtr,gt_iff_lt,hka',decide_true,f1,f2,g1,g2,hd,stdZ]
   refine hC _ _ _ _ fun z H3 e3 hz =>?_
   have s3:=s2.ext e3
   have g1:=mrr_load he s3.get (i:=k+1) (by omega)
   have g2:=mrr_load he s3.get (i:=k) (by omega)
   obtain ⟨w1,w2⟩:=mrr_swap he s3.get (i:=k+1) (j:=k) (by omega) (by omega)
   simp only [i64_lss,hz,stdZ]
   have hka2:k+1 > a:=hka
   cases hl:LT d2[k+1]! d2[k]! with
   | true =>
    rw [insInner,if_pos (by simp [hka2,hl])] at r2
    simp only [hd,f1,f2,g1,g2,w1,w2,stdZ]
    exact hX1 k (by omega) _ _ ⟨k,_,rfl,s3.put _,by rw [size_swp]; exact n2,r2,by omega,rfl⟩
   | false =>
    simp only [hjj,stdZ]
    exact done (by rw [insInner,if_neg (by simp [hl])]) _ e3
  ·have hka':¬ (a:Int)<(m:Int):=by omega
   simp only [F.f40_l2,i64_gtr,gt_iff_lt,hka',decide_false,hjj,stdZ]
   refine done ?_ _ (Ext.refl _)
   cases m with
   | zero=>rfl
   | succ k=>rw [insInner,if_neg (by simp; omega)]
 ·rw [if_neg hj] at r1
  subst r1
  have hj':¬ (j:Int)<e:=by omega
  simp only [F.f40_l1,i64_lss,hj',decide_false,stdZ]
  exact hQ _ s1
theorem S.slices_SortFunc_nil (hE:Fold E) (hQ:Q (.tuple #[]) H):E.call (E.fid i.f35) [nilS,fv] H Q:=by
 apply hE.f35
 have hc:convInt .u64 (vi 0)=some (u64 0#64):=by rw [i64_to_u64]; rfl
 have hl:AM.lenSlc nilS=some (vi 0):=rfl
 simp only [F.f35,hl,hc,stdZ]
 refine S.f13 hE _ (by decide) ?_
 apply hE.f49
 simp only [F.f49]
 refine LoopL.step fun X _ =>?_
 have a1:binInt .sub (vi 0) (vi 0)=some (vi 0):=i64_sub (by decide) (by decide)
 simp only [F.f49_l1,a1,i64_leq,show ((0:Int)<=12)=True by simp,decide_true,stdZ]
 apply hE.f40
 have ha:binInt .add (vi 0) (.int .i64 1)=some (vi 1):=i64_add (by decide) (by decide)
 simp only [F.f40,ha,stdZ]
 refine LoopL.step fun X _ =>?_
 have h10:¬ (1:Int)<0:=by decide
 simp only [F.f40_l1,i64_lss,h10,decide_false,stdZ]
 exact hQ
end
end Go.AM
end
section
namespace Go.AM
open Go.Sort (SWO PermIn SortedIn insertionSort)
set_option maxRecDepth 20000
abbrev PlV:={v:Value // plain1 v=true}
structure RuleE where
 r:RuleD
 v:PlV
def RuleE.cells (x:RuleE):List Value:=[u32 x.r.number,u32 x.r.action,x.v.1]
instance:Inhabited RuleE:=⟨⟨⟨0,0,[]⟩,⟨nilS,rfl⟩⟩⟩
structure CaseE where
 c:CaseD
 v:PlV
def CaseE.cells (x:CaseE):List Value:=[u32 x.c.number,x.v.1]
instance:Inhabited CaseE:=⟨⟨⟨0,[]⟩,⟨nilS,rfl⟩⟩⟩
theorem ruleE_ok:EncOk 3 RuleE.cells:=⟨fun _=>rfl,fun x=>by simp [RuleE.cells,x.v.2]⟩
theorem caseE_ok:EncOk 2 CaseE.cells:=⟨fun _=>rfl,fun x=>by simp [CaseE.cells,x.v.2]⟩
def rkR (x:RuleE):Nat:=rankA x.r.action
def ltC (x y:CaseE):Bool:=decide (x.c.number.toNat<y.c.number.toNat)
theorem swo_ltC:SWO ltC:=⟨fun x=>by simp [ltC],fun x y z=>by simp only [ltC,decide_eq_true_eq]; omega,fun x y z=>by simp only [ltC,decide_eq_false_iff_not]; omega⟩
def CaseAt (n:Nat) (H:AH) (c:CaseD) (cs:List Value):Prop:=∃ v,cs=[u32 c.number,v]/\SliceOf (BranchAt n) H 2 v c.branches
def PlanAt (H:AH) (p:PlanD) (cs:List Value):Prop:=∃ v,cs=[v,u32 p.default]/\SliceOf (CaseAt 0) H 2 v p.cases
theorem FreshV.zero (v:Value):FreshV 0 v:=fun _ _=>Nat.zero_le _
theorem CaseAt.sub {n:Nat} {H H':AH} {c:CaseD} {cs:List Value} (h:CaseAt n H c cs) (e:Sub H H'):CaseAt n H' c cs:=by
 obtain ⟨v,h1,h2⟩:=h
 exact ⟨v,h1,h2.sub (fun _ _ _ _ h e=>BranchAt.sub h e) e⟩
theorem PlanAt.mono {H H':AH} {p:PlanD} {cs:List Value} (h:PlanAt H p cs) (e:Ext H H'):PlanAt H' p cs:=by
 obtain ⟨v,h1,h2⟩:=h
 exact ⟨v,h1,h2.sub (fun _ _ _ _ h e=>CaseAt.sub h e) e.sub⟩
section
variable {E:Sy} {H H' H0 Z:AH} {Q:Value->AH->Prop} {L:List Res}
theorem sliceOf_rules {v:Value} {l:List RuleD} (h:SliceOf RuleAt H 3 v l):∃ es:List RuleE,es.map RuleE.r=l/\Rows H 3 v (es.map RuleE.cells)/\∀ e∈es,RuleAt H e.r e.cells:=by
 obtain ⟨rows,h1,h2,h3⟩:=h
 have key:∀ (l:List RuleD) (rows:List (List Value)),rows.length=l.length->(∀ i (h1:i<l.length) (h2:i<rows.length),RuleAt H l[i] rows[i])->∃ es:List RuleE,es.map RuleE.r=l/\es.map RuleE.cells=rows/\∀ e∈es,RuleAt H e.r e.cells:=by
  intro l
  induction l with
  | nil =>
   intro rows h1 _
   have:rows=[]:=List.length_eq_zero_iff.1 h1
   subst this
   exact ⟨[],rfl,rfl,by simp⟩
  | cons r l ih =>
   intro rows h1 h2
   match rows,h1 with
   | row :: rows,h1 =>
    obtain ⟨es,e1,e2,e3⟩:=ih rows (by simpa using h1) fun i a b=>h2 (i+1) (by simpa using a) (by simpa using b)
    have h0:=h2 0 (by simp) (by simp)
    simp only [List.getElem_cons_zero] at h0
    obtain ⟨hl,cv,hc,hr⟩:=id h0
    have he:RuleE.cells ⟨r,⟨cv,hr.plain⟩⟩=row:=by rw [hc]; rfl
    refine ⟨⟨r,⟨cv,hr.plain⟩⟩ :: es,by simp [e1],by simp [e2,he],fun e hm =>?_⟩
    rcases List.mem_cons.1 hm with rfl | hm
    ·rw [he]; exact h0
    ·exact e3 e hm
 obtain ⟨es,e1,e2,e3⟩:=key l rows h2 h3
 exact ⟨es,e1,by rw [e2]; exact h1,e3⟩
theorem rules_sliceOf {v:Value} {es:List RuleE} (h:Rows H 3 v (es.map RuleE.cells)) (ha:∀ e∈es,RuleAt H e.r e.cells):SliceOf RuleAt H 3 v (es.map RuleE.r) :=
 ⟨_,h,by simp,fun i h1 h2=>by
  simp only [List.getElem_map]
  exact ha _ (List.getElem_mem _)⟩
theorem cmp_rules (hE:Fold E):CmpOk E (.func (.func (E.fid i.f5)) #[] #[]) RuleE.cells (ltK rkR):=by
 intro x y H K hK
 rw [callV_func]
 simp only [List.nil_append,List.append_nil]
 apply hE.f5
 have x2:Ext H ((H.new (.cells x.cells none)).new (.cells y.cells none)):=((Ext.refl _).new _).new _
 have b1:((H.new (.cells x.cells none)).new (.cells y.cells none)).get H.next = .cells x.cells none:=by rw [AH.get_new_ne _ _ (by rw [AH.next_new]; omega),AH.get_new_self]
 have b2:((H.new (.cells x.cells none)).new (.cells y.cells none)).get (H.next+1) = .cells y.cells none:=AH.get_new_self (H.new _) _
 have c1:∀ z:RuleE,z.cells[1]? = some (u32 z.r.action):=fun _=>rfl
 simp only [F.f5,boxO_agg_z,AM.mk_some,mkPtr_eq_z,List.toList_toArray,AH.next_new_z,b1,b2,c1,stdZ]
 refine S.f11 hE _ fun H3 e3 =>?_
 refine ⟨by rw [load1_ptr,load1_ptr,e3.cells b2]; simp only [tk_eq,b2],?_⟩
 refine S.f11 hE _ fun H4 e4 =>?_
 refine S.f0 hE _ _ ?_
 refine hK _ _ (x2.trans (e3.trans e4)) ?_
 unfold cmpZ ltK rkR
 by_cases h:rankA x.r.action<rankA y.r.action
 ·rw [if_pos (by omega)]; simp [h]
 ·rw [if_neg (by omega)]
  split <;> simp [h]
theorem cmp_cases (hE:Fold E):CmpOk E (.func (.func (E.fid i.f6)) #[] #[]) CaseE.cells ltC:=by
 intro x y H K hK
 rw [callV_func]
 simp only [List.nil_append,List.append_nil]
 apply hE.f6
 have x2:Ext H ((H.new (.cells x.cells none)).new (.cells y.cells none)):=((Ext.refl _).new _).new _
 have b1:((H.new (.cells x.cells none)).new (.cells y.cells none)).get H.next = .cells x.cells none:=by rw [AH.get_new_ne _ _ (by rw [AH.next_new]; omega),AH.get_new_self]
 have b2:((H.new (.cells x.cells none)).new (.cells y.cells none)).get (H.next+1) = .cells y.cells none:=AH.get_new_self (H.new _) _
 have c0:∀ z:CaseE,z.cells[0]? = some (u32 z.c.number):=fun _=>rfl
 simp only [F.f6,boxO_agg_z,AM.mk_some,mkPtr_eq_z,List.toList_toArray,AH.next_new_z,b1,b2,c0,stdZ]
 refine S.f1 hE _ _ ?_
 refine hK _ _ x2 ?_
 unfold cmp32 ltC
 by_cases h:x.c.number.toNat<y.c.number.toNat
 ·rw [if_pos h]; simp [h]
 ·rw [if_neg h]
  split <;> simp [h]
def SortsC (E:Sy) (m:Nat):Prop:=∀ {H:AH} {Q:Value->AH->Prop} {b c:Nat} {d:Array CaseE} {tail:List Value} {f:Option Nat},H.get b=arrM CaseE.cells d tail f->d.size<=m ->
 (∀ d' H',PermIn 0 d.size d d'->SortedIn ltC 0 d.size d'->SortMo H b CaseE.cells tail f d' H'->Q (.tuple #[]) H')->E.call (E.fid i.f35) [slc b 0 d.size c,.func (.func (E.fid i.f6)) #[] #[]] H Q
def SortsR (E:Sy) (m:Nat):Prop:=∀ {H:AH} {Q:Value->AH->Prop} {b c:Nat} {d:Array RuleE} {tail:List Value} {f:Option Nat},H.get b=arrM RuleE.cells d tail f->d.size<=m ->
 (∀ d' H',d'.toList=ranked rkR d.toList 4->SortMo H b RuleE.cells tail f d' H'->Q (.tuple #[]) H')->E.call (E.fid i.f36) [slc b 0 d.size c,.func (.func (E.fid i.f5)) #[] #[]] H Q
theorem rk_lt (x:RuleE):rkR x<4:=by have:=(rankA_le x.r.action).1; unfold rkR; omega
theorem Grow.arrE {α:Type} [Inhabited α] {enc:α->List Value} {sz:Nat} {v:Value} {l:List α} (h:Grow zH H sz v (l.map enc)) (he:EncOk sz enc) (hne:l≠[]) :
  ∃ b c tail f,v=slc b 0 l.length c/\H.get b=arrM enc l.toArray tail f/\∀ (d':Array α) H',d'.size=l.length->SortMo H b enc tail f d' H'->Upd (growR sz v (l.map enc)) (growR sz v (d'.toList.map enc)) H H':=by
 rcases h.2 with ⟨h0,_⟩ | ⟨b,f,c,cs,g1,rfl,g3,g4,g5,g6,g7⟩
 ·exact (hne (List.map_eq_nil_iff.1 h0)).elim
 ·rw [List.length_map] at g4 g6 ⊢
  have hfl:(l.map enc).flatten=l.flatMap enc:=(List.flatMap_def).symm
  rw [hfl] at g6
  have hcs:cs=l.flatMap enc++cs.drop (l.length*sz):=by
   conv=>lhs; rw [<- List.take_append_drop (l.length*sz) cs,g6]
  refine ⟨b,c,cs.drop (l.length*sz),f,rfl,by rw [g3]; unfold arrM; rw [<- hcs],fun d' H' hd s=>⟨?_,?_,?_,by have h:=blkL_nodup (slc b 0 l.length c); exact h⟩⟩
  ·exact s.only
  ·refine ⟨fun r hr =>?_,.inr ⟨b,f,c,d'.toList.flatMap enc++cs.drop (l.length*sz),g1,?_,s.get,?_,?_,?_,g7⟩⟩
   ·obtain ⟨x,_,rfl⟩:=List.mem_map.1 hr
    exact ⟨he.len x,he.plain x⟩
   ·simp [hd]
   ·simp [hd,g4]
   ·have h1:(d'.toList.flatMap enc).length=l.length*sz:=by rw [he.flat]; simp [hd]
    have h2:=he.flat l
    have h3:=congrArg List.length hcs
    rw [List.length_append,h2] at h3
    rw [List.length_append,h1]
    omega
   ·have h1:(d'.toList.flatMap enc).length=l.length*sz:=by rw [he.flat]; simp [hd]
    rw [List.length_map,show d'.toList.length=l.length by simp [hd],<- h1,List.take_left]
    exact List.flatMap_def
  ·intro x hx
   refine ⟨.inl hx,?_⟩
   have hb:x=b:=by
    have:blkL (slc b 0 l.length c)=[b]:=rfl
    have hx:x∈blkL (slc b 0 l.length c):=hx
    rw [this] at hx
    simpa using hx
   subst hb
   exact mrr_lt s.get
end
end Go.AM
end
section
namespace Go.AM
open Go.Sort (SWO PermIn SortedIn insertionSort)
set_option maxRecDepth 20000
structure EntE where
 n:BitVec 32
 v:PlV
 l:List RuleE
def EntE.kv (e:EntE):BitVec 32×PlV:=(e.n,e.v)
def entER (e:EntE):Res:=growR 3 e.v.1 (e.l.map RuleE.cells)
def pv (v:PlV):Value:=v.1
def ofNE (es:List RuleE) (n:BitVec 32):List RuleE:=es.filter fun x=>decide (x.r.number=n)
structure Grp (es:List RuleE) (al:List EntE):Prop where
 nd:(al.map EntE.n).Nodup
 all:∀ e∈al,e.l=ofNE es e.n/\e.l≠[]
 mem:∀ x∈es,x.r.number∈al.map EntE.n
section
variable {E:Sy} {H H' H0 Z:AH} {Q:Value->AH->Prop} {L:List Res}
theorem kv_lookup:∀ (al:List EntE) (n:BitVec 32),alook n (al.map EntE.kv)=(al.find? fun e=>decide (n=e.n)).map EntE.v
 | [],n=>rfl
 | e :: al,n=>by
  rw [List.map_cons,alook_cons,List.find?_cons]
  by_cases h:n=e.n
  ·simp [h,EntE.kv]
  ·simp [h,EntE.kv,kv_lookup al n]
theorem ofNE_snoc (es:List RuleE) (x:RuleE) (n:BitVec 32):ofNE (es++[x]) n=if x.r.number=n then ofNE es n++[x] else ofNE es n:=by
 unfold ofNE
 rw [List.filter_append]
 by_cases h:x.r.number=n <;> simp [h]
theorem Grp.old {es:List RuleE} {al:List EntE} (g:Grp es al) {x:RuleE} {i:Nat} (hi:i<al.length) (hn:al[i].n=x.r.number) (v':PlV):Grp (es++[x]) (al.set i ⟨al[i].n,v',al[i].l++[x]⟩):=by
 have hnm:(al.set i ⟨al[i].n,v',al[i].l++[x]⟩).map EntE.n=al.map EntE.n:=by
  rw [List.map_set]
  show (al.map EntE.n).set i al[i].n=_
  have:=List.set_getElem_self (as:=al.map EntE.n) (i:=i) (by simpa using hi)
  rw [List.getElem_map] at this
  exact this
 refine ⟨by rw [hnm]; exact g.nd,fun e he =>?_,fun y hy =>?_⟩
 ·obtain ⟨j,hj,rfl⟩:=List.getElem_of_mem he
  have hj':j<al.length:=by simpa using hj
  rw [List.getElem_set]
  split
  ·rename_i hij
   subst hij
   obtain ⟨h1,_⟩:=g.all _ (List.getElem_mem hi)
   refine ⟨?_,by simp⟩
   simp only
   rw [ofNE_snoc,if_pos hn.symm,h1]
  ·rename_i hij
   obtain ⟨h1,h2⟩:=g.all _ (List.getElem_mem hj')
   refine ⟨?_,h2⟩
   rw [ofNE_snoc,if_neg,h1]
   intro e
   have hnd:=g.nd
   have:=(List.getElem_inj (xs:=al.map EntE.n) (i:=i) (j:=j) (h₀:=by simpa using hi) (h₁:=by simpa using hj') hnd).1 (by rw [List.getElem_map,List.getElem_map,hn,e])
   exact hij this
 ·rw [hnm]
  rcases List.mem_append.1 hy with hy | hy
  ·exact g.mem y hy
  ·simp only [List.mem_singleton] at hy
   subst hy
   rw [<- hn]
   exact List.mem_map.2 ⟨_,List.getElem_mem hi,rfl⟩
theorem Grp.new {es:List RuleE} {al:List EntE} (g:Grp es al) {x:RuleE} (hn:x.r.number ∉ al.map EntE.n) (v':PlV):Grp (es++[x]) (al++[⟨x.r.number,v',[x]⟩]):=by
 have hno:ofNE es x.r.number=[]:=by
  unfold ofNE
  rw [List.filter_eq_nil_iff]
  intro y hy
  simp only [decide_eq_true_eq]
  intro e
  exact hn (by rw [<- e]; exact g.mem y hy)
 refine ⟨?_,fun e he =>?_,fun y hy =>?_⟩
 ·rw [List.map_append,List.nodup_append]
  exact ⟨g.nd,by simp,fun a ha b hb=>by simp at hb; subst hb; rintro rfl; exact hn ha⟩
 ·rcases List.mem_append.1 he with he | he
  ·obtain ⟨h1,h2⟩:=g.all e he
   refine ⟨?_,h2⟩
   rw [ofNE_snoc,if_neg,h1]
   intro e'
   exact hn (by rw [e']; exact List.mem_map.2 ⟨e,he,rfl⟩)
  ·simp only [List.mem_singleton] at he
   subst he
   refine ⟨?_,by simp⟩
   simp only
   rw [ofNE_snoc,if_pos rfl,hno]
   rfl
 ·rw [List.map_append]
  rcases List.mem_append.1 hy with hy | hy
  ·exact List.mem_append_left _ (g.mem y hy)
  ·simp only [List.mem_singleton] at hy
   subst hy
   simp
theorem aset_kv_old:∀ (al:List EntE) (i:Nat) (hi:i<al.length) (v':PlV) (l':List RuleE),(al.map EntE.n).Nodup->aset al[i].n v' (al.map EntE.kv)=(al.set i ⟨al[i].n,v',l'⟩).map EntE.kv
 | e :: al,0,hi,v',l',_=>by simp [aset,EntE.kv]
 | e :: al,i+1,hi,v',l',hnd=>by
  have hi':i<al.length:=by simpa using hi
  rw [List.map_cons,List.nodup_cons] at hnd
  have hne:¬ e.n=al[i].n:=fun h=>hnd.1 (by rw [h]; exact List.mem_map.2 ⟨_,List.getElem_mem hi',rfl⟩)
  have ih:=aset_kv_old al i hi' v' l' hnd.2
  simp only [List.getElem_cons_succ,List.map_cons,List.set_cons_succ,aset]
  have h0:(e.kv).1=e.n:=rfl
  rw [h0,if_neg hne,ih]
theorem aset_kv_new:∀ (al:List EntE) (n:BitVec 32) (v':PlV),n ∉ al.map EntE.n->aset n v' (al.map EntE.kv)=al.map EntE.kv++[(n,v')]
 | [],n,v',_=>rfl
 | e :: al,n,v',h=>by
  simp only [List.map_cons,List.mem_cons,not_or] at h
  have h0:(e.kv).1=e.n:=rfl
  rw [List.map_cons,aset,h0,if_neg (fun x=>h.1 x.symm),aset_kv_new al n v' h.2]
  rfl
def ofBase (t2 t3 r:Nat) (c2 c3:List Value) (al:List EntE):List Res:=[boxR t2 c2,boxR t3 c3,mapR u32 pv r (al.map EntE.kv)]++al.map entER
theorem three_new (x:RuleE) (H:AH):storeN 3 (ptr H.next 0) (.agg x.cells.toArray) (H.new (.cells [(.int .u32 0),(.int .u32 0),(.slice none 0 0)] none))=some (H.new (.cells x.cells none)):=by
 rw [storeN_ptr,AH.get_new_self]
 have h3:AM.splice [(.int .u32 0),(.int .u32 0),(.slice none 0 0)] 0 x.cells=x.cells:=rfl
 have h4:x.cells.all plain1=true:=ruleE_ok.plain x
 have h5:x.cells.length=3:=rfl
 simp only [List.size_toArray,List.toList_toArray,h4,h5,List.length_cons,List.length_nil,Nat.zero_add,Nat.le_refl,and_self,if_true,h3,AH.new_put]
theorem of_step {t2 t3 r:Nat} {c2 c3:List Value} {al:List EntE} {es:List RuleE} (g:Has H0 Z H (ofBase t2 t3 r c2 c3 al)) (gr:Grp es al) (hlen:es.length<1000) (x:RuleE) {R:AH->Prop}
  (next:∀ al' H',Has H0 Z H' (ofBase t2 t3 r c2 c3 al')->Grp (es++[x]) al'->R H') {b4:Nat} (hb4:b4=H.next) :
  opt (look 0 (.slice none 0 0) false (.map (some r)) (u32 x.r.number) (H.new (.cells x.cells none))) fun v9 =>
  opt2 (app 3 32 v9 (slc (H.next+1) 0 1 1) ((H.new (.cells x.cells none)).new (.cells x.cells none))) fun v12 H4 =>
  load1 (ptr b4 0) H4=load1 (ptr b4 0) (H.new (.cells x.cells none))/\opt (setMap 0 (.map (some r)) (u32 x.r.number) v12 H4) fun H5=>R H5:=by
 subst hb4
 have g2:=g.newbox x.cells
 have hbl:(ofBase t2 t3 r c2 c3 al).length=3+al.length:=by simp [ofBase]; omega
 have hm:=g2.mapAt (k:=2) (fk:=u32) (fv:=pv) (r:=r) (l:=al.map EntE.kv) (by simp [ofBase])
 have hl:=hm.look (kd:=0) same_u32 x.r.number (.slice none 0 0) false
 have hl2:(al.map EntE.kv).lookup x.r.number=(al.find? fun e=>decide (x.r.number=e.n)).map EntE.v:=kv_lookup al x.r.number
 rw [hl2] at hl
 have hbx:∀ {L':List Res} {H'':AH},Has H0 Z H'' L'->L'[3+al.length]? = some (boxR H.next x.cells)->load1 (ptr H.next 0) H''=load1 (ptr H.next 0) (H.new (.cells x.cells none)):=by
  intro L' H'' g' h'
  rw [load1_ptr,load1_ptr,g'.box h',AH.get_new_self]
 have hnx:(H.new (.cells x.cells none)).next=H.next+1:=rfl
 cases hf:al.find? fun e=>decide (x.r.number=e.n) with
 | some e =>
  rw [hf] at hl
  have hl:look 0 (.slice none 0 0) false (.map (some r)) (u32 x.r.number) (H.new (.cells x.cells none))=some e.v.1:=hl
  obtain ⟨h1,i,hi,rfl,_⟩:=List.find?_eq_some_iff_getElem.1 hf
  simp only [decide_eq_true_eq] at h1
  have hk:(ofBase t2 t3 r c2 c3 al++[boxR H.next x.cells])[3+i]? = some (growR 3 al[i].v.1 (al[i].l.map RuleE.cells)):=by
   rw [List.getElem?_append_left (by rw [hbl]; omega)]
   simp only [ofBase]
   rw [List.getElem?_append_right (by simp)]
   simp [hi,entER]
  have hle:al[i].l.length<=es.length:=by rw [(gr.all _ (List.getElem_mem hi)).1]; exact List.length_filter_le _ _
  obtain ⟨v',H4,a1,a2,g4⟩:=g2.app1 (k:=3+i) (bytes:=32) hk x.cells rfl (ruleE_ok.plain x) (by decide) (by decide) (by rw [List.length_map]; omega)
  rw [hnx] at a1
  simp only [hl,a1,stdZ]
  have hset:(ofBase t2 t3 r c2 c3 al++[boxR H.next x.cells]).set (3+i) (growR 3 v' (al[i].l.map RuleE.cells++[x.cells]))=[boxR t2 c2,boxR t3 c3,mapR u32 pv r (al.map EntE.kv)]++((al.set i ⟨al[i].n,⟨v',a2⟩,al[i].l++[x]⟩).map entER++[boxR H.next x.cells]):=by
   rw [List.set_append_left _ _ (by rw [hbl]; omega)]
   simp only [ofBase]
   rw [List.set_append_right _ _ (by simp),List.append_assoc]
   congr 2
   rw [List.map_set]
   simp [entER]
  rw [hset] at g4
  have hbq:=hbx g4 (by rw [List.getElem?_append_right (by simp),List.getElem?_append_right (by simp),List.length_map,List.length_set,show 3+al.length - [boxR t2 c2,boxR t3 c3,mapR u32 pv r (al.map EntE.kv)].length - al.length=0 by simp]; rfl)
  refine ⟨hbq,?_⟩
  obtain ⟨H5,m1,g5⟩:=g4.mapset (n:=2) (r:=r) (l:=al.map EntE.kv) (fk:=u32) (fv:=pv) (by simp) same_u32 x.r.number ⟨v',a2⟩
  have m1:setMap 0 (.map (some r)) (u32 x.r.number) v' H4=some H5:=m1
  simp only [m1,stdZ]
  rw [h1,aset_kv_old al i hi ⟨v',a2⟩ (al[i].l++[x]) gr.nd] at g5
  have g6:=g5.drop (3+al.length)
  refine next (al.set i ⟨al[i].n,⟨v',a2⟩,al[i].l++[x]⟩) H5 ?_ (gr.old hi h1.symm ⟨v',a2⟩)
  have he:(([boxR t2 c2,boxR t3 c3,mapR u32 pv r (al.map EntE.kv)]++((al.set i ⟨al[i].n,⟨v',a2⟩,al[i].l++[x]⟩).map entER++[boxR H.next x.cells])).set 2 (mapR u32 pv r ((al.set i ⟨al[i].n,⟨v',a2⟩,al[i].l++[x]⟩).map EntE.kv))).eraseIdx (3+al.length)=ofBase t2 t3 r c2 c3 (al.set i ⟨al[i].n,⟨v',a2⟩,al[i].l++[x]⟩):=by
   simp only [ofBase,List.cons_append,List.nil_append,List.set_cons_succ,List.set_cons_zero]
   rw [show 3+al.length=al.length+1+1+1 by omega,List.eraseIdx_cons_succ,List.eraseIdx_cons_succ,List.eraseIdx_cons_succ,List.eraseIdx_append_of_length_le (by simp)]
   simp
  rw [he] at g6
  exact g6
 | none =>
  rw [hf] at hl
  have hl:look 0 (.slice none 0 0) false (.map (some r)) (u32 x.r.number) (H.new (.cells x.cells none))=some nilS:=hl
  have hno:x.r.number ∉ al.map EntE.n:=by
   intro hm
   obtain ⟨e,he,hen⟩:=List.mem_map.1 hm
   rw [List.find?_eq_none] at hf
   have:=hf e he
   simp [hen] at this
  have g3:=g2.nils 3
  obtain ⟨v',H4,a1,a2,g4⟩:=g3.app1 (k:=3+al.length+1) (sz:=3) (v:=nilS) (rows:=[]) (bytes:=32) (by rw [List.getElem?_append_right (by rw [List.length_append,hbl]; simp)]; simp [hbl]) x.cells rfl (ruleE_ok.plain x) (by decide) (by decide) (by simp)
  rw [hnx] at a1
  simp only [hl,a1,stdZ]
  have hset:(ofBase t2 t3 r c2 c3 al++[boxR H.next x.cells]++[growR 3 nilS []]).set (3+al.length+1) (growR 3 v' ([]++[x.cells]))=ofBase t2 t3 r c2 c3 al++[boxR H.next x.cells]++[entER ⟨x.r.number,⟨v',a2⟩,[x]⟩]:=by
   rw [List.set_append_right _ _ (by rw [List.length_append,hbl]; simp)]
   simp [hbl,entER]
  rw [hset] at g4
  have hbq:=hbx g4 (by rw [List.getElem?_append_left (by rw [List.length_append,hbl]; simp),List.getElem?_append_right (by rw [hbl]; omega)]; simp [hbl])
  refine ⟨hbq,?_⟩
  obtain ⟨H5,m1,g5⟩:=g4.mapset (n:=2) (r:=r) (l:=al.map EntE.kv) (fk:=u32) (fv:=pv) (by simp [ofBase]) same_u32 x.r.number ⟨v',a2⟩
  have m1:setMap 0 (.map (some r)) (u32 x.r.number) v' H4=some H5:=m1
  simp only [m1,stdZ]
  rw [aset_kv_new al x.r.number ⟨v',a2⟩ hno] at g5
  have g6:=g5.drop (3+al.length)
  refine next (al++[⟨x.r.number,⟨v',a2⟩,[x]⟩]) H5 ?_ (gr.new hno ⟨v',a2⟩)
  have he:((ofBase t2 t3 r c2 c3 al++[boxR H.next x.cells]++[entER ⟨x.r.number,⟨v',a2⟩,[x]⟩]).set 2 (mapR u32 pv r (al.map EntE.kv++[(x.r.number,⟨v',a2⟩)]))).eraseIdx (3+al.length)=ofBase t2 t3 r c2 c3 (al++[⟨x.r.number,⟨v',a2⟩,[x]⟩]):=by
   simp only [ofBase,List.cons_append,List.nil_append,List.set_cons_succ,List.set_cons_zero,List.append_assoc]
   rw [show 3+al.length=al.length+1+1+1 by omega,List.eraseIdx_cons_succ,List.eraseIdx_cons_succ,List.eraseIdx_cons_succ,List.eraseIdx_append_of_length_le (by simp)]
   simp [EntE.kv]
  rw [he] at g6
  exact g6
end
end Go.AM
end
section
namespace Go.AM
open Go.Sort (SWO PermIn SortedIn insertionSort)
set_option maxRecDepth 20000
theorem Has.perm {H0 Z H:AH} {L L':List Res} (h:Has H0 Z H L) (p:L.Perm L'):Has H0 Z H L' :=
 ⟨h.ext,h.sub,fun r hr=>h.all r (p.mem_iff.2 hr),(p.flatMap_right Res.fp).nodup_iff.1 h.nd⟩
def itR (ib r:Nat) (l done:List (BitVec 32×PlV)):Res:=⟨[r,ib],fun H=>IterAt u32 pv H ib r l done,fun h e=>h.keep (e _ (by simp)) (e _ (by simp))⟩
section
variable {E:Sy} {H H' H0 Z:AH} {Q:Value->AH->Prop} {L:List Res}
theorem rank_filter (l:List RuleE) (k:Nat):(l.filter fun x=>decide (rkR x=k)).map RuleE.r=byRank (l.map RuleE.r) k:=by
 unfold byRank
 rw [List.filter_map]
 rfl
theorem ranked_sort (l:List RuleE):(ranked rkR l 4).map RuleE.r=sortS (l.map RuleE.r):=by
 simp only [ranked,List.nil_append,List.map_append,rank_filter,sortS]
theorem ofNE_map (es:List RuleE) (n:BitVec 32):(ofNE es n).map RuleE.r=ofNum (es.map RuleE.r) n:=by
 unfold ofNE ofNum
 rw [List.filter_map]
 rfl
theorem ranked_mem (l:List RuleE):∀ (n:Nat) {x:RuleE},x∈ranked rkR l n->x∈l
 | 0,x,h=>by simp [ranked] at h
 | n+1,x,h=>by
  rw [ranked,List.mem_append] at h
  rcases h with h | h
  ·exact ranked_mem l n h
  ·exact (List.mem_filter.1 h).1
theorem ranked_len (l:List RuleE):(ranked rkR l 4).length=l.length:=by
 have h0:∀ n,(ranked rkR l n).length=(l.filter fun x=>decide (rkR x<n)).length:=by
  intro n
  induction n with
  | zero =>
   have:l.filter (fun x=>decide (rkR x<0))=[]:=List.filter_eq_nil_iff.2 fun x _=>by simp
   rw [this]; rfl
  | succ n ih =>
   rw [ranked,List.length_append,ih]
   clear ih
   induction l with
   | nil=>rfl
   | cons x l ih =>
    by_cases h1:rkR x<n
    ·have h2:¬ rkR x=n:=by omega
     have h3:rkR x<n+1:=by omega
     simp only [List.filter_cons,h1,h2,h3,decide_true,decide_false,if_true,Bool.false_eq_true,if_false,List.length_cons] at ih ⊢
     omega
    ·by_cases h2:rkR x=n
     ·have h3:rkR x<n+1:=by omega
      simp only [List.filter_cons,h1,h2,h3,decide_true,decide_false,if_true,Bool.false_eq_true,if_false,List.length_cons] at ih ⊢
      rw [h2] at h1
      simp only [h1,decide_false,Bool.false_eq_true,if_false,Nat.lt_succ_self,decide_true,if_true,List.length_cons]
      omega
     ·have h3:¬ rkR x<n+1:=by omega
      simp only [List.filter_cons,h1,h2,h3,decide_false,Bool.false_eq_true,if_false] at ih ⊢
      omega
 rw [h0,List.filter_eq_self.2]
 intro x _
 simpa using rk_lt x
def ofL (t2 t3 r ib:Nat) (d:BitVec 32) (kv done:List (BitVec 32×PlV)) (cv:Value) (rows:List (List Value)) (es:List EntE):List Res :=
 [boxR t2 [nilS,u32 0#32],boxR t3 [cv,u32 d],itR ib r kv done,growR 2 cv rows]++es.map entER
theorem sortR_nonempty {m:Nat} (hSR:SortsR E m) {v:Value} {l:List RuleE} (g:Grow zH H 3 v (l.map RuleE.cells)) (hne:l≠[]) (hl:l.length<=m)
  (hQ:∀ H',Upd (growR 3 v (l.map RuleE.cells)) (growR 3 v ((ranked rkR l 4).map RuleE.cells)) H H'->Q (.tuple #[]) H') :
  E.call (E.fid i.f36) [v,.func (.func (E.fid i.f5)) #[] #[]] H Q:=by
 obtain ⟨b,c,tail,f,rfl,hg,up⟩:=g.arrE ruleE_ok hne
 have hs:(l.toArray).size=l.length:=by simp
 have:=hSR (Q:=Q) (c:=c) hg (by rw [hs]; exact hl) fun d' H' hd s =>?_
 ·rw [hs] at this; exact this
 ·have hd:d'.toList=ranked rkR l 4:=by simpa using hd
  have h:=up d' H' (by rw [<- Array.length_toList,hd,ranked_len]) s
  rw [hd] at h
  exact hQ H' h
noncomputable local instance:DecidableEq (BitVec 32×PlV):=fun a b=>Classical.propDecidable _
theorem eraseIdx_map2 {α β:Type} (f:α->β):∀ (l:List α) (i:Nat),(l.map f).eraseIdx i=(l.eraseIdx i).map f
 | [],_=>rfl
 | _ :: _,0=>rfl
 | a :: l,i+1=>by simp [eraseIdx_map2 f l i]
theorem getElem_map_some {α β:Type} (f:α->β) {l:List α} {i:Nat} (h:i<l.length):(l.map f)[i]? = some (f l[i]):=by simp [h]
theorem irof_l2 (hE:Fold E) {sm:Nat} (hsm:sm<=80) (hSC:SortsC E sm) (hSR:SortsR E sm) {H1:AH} {t2 t3 r ib:Nat} {d:BitVec 32} {al:List EntE} {pes:List RuleE} (gr:Grp pes al) (hpl:pes.length<=sm) (hca:∀ x∈pes,RuleAt H x.r x.cells/\x.r.conds.length<2 ^ 20)
  (g1:Has H Z H1 (ofL t2 t3 r ib d (al.map EntE.kv) [] nilS [] al)) (hQ:∀ ns cs H',Ext H H'->Nums ⟨d,pes.map RuleE.r⟩ ns->PlanAt H' (planOf ⟨d,pes.map RuleE.r⟩ ns) cs->Q (.agg cs.toArray) H') :
  LoopL (fun l H X0=>F.f4_l2 E Q (nth l 0) (nth l 1) (nth l 2) H X0) [ptr t2 0,ptr t3 0,ptr ib 0] H1:=by
 have hall:al.length<=sm:=by
  have h1:=nodup_le (al.map EntE.n) (pes.map fun x=>x.r.number) gr.nd fun n hn=>by
   obtain ⟨e,he,rfl⟩:=List.mem_map.1 hn
   obtain ⟨h1,h2⟩:=gr.all e he
   obtain ⟨x,hx⟩:=List.exists_mem_of_ne_nil _ h2
   rw [h1] at hx
   have:=List.mem_filter.1 hx
   exact List.mem_map.2 ⟨x,this.1,by simpa using this.2⟩
  simp only [List.length_map] at h1
  omega
 refine LoopL.ind (fun m ls H'=>∃ cv ces es done Z,ls=[ptr t2 0,ptr t3 0,ptr ib 0]/\Has H Z H' (ofL t2 t3 r ib d (al.map EntE.kv) done cv (ces.map CaseE.cells) es)/\(∀ x∈ces,SliceOf (BranchAt 0) Z 2 x.v.1 x.c.branches) /\
   (∀ e∈al,e.kv ∉ done->e∈es)/\ces.map CaseE.c=done.map (fun p=>caseOf ⟨d,pes.map RuleE.r⟩ p.1)/\(done=[]->cv=nilS)/\m=al.length - done.length) ?_ al.length
  ⟨nilS,[],al,[],Z,rfl,g1,by simp,fun e he _=>he,rfl,fun _=>rfl,by simp⟩
 rintro m _ H2 X ih ⟨cv,ces,es,done,Z,rfl,g,hces,hes,hcd,hnil,rfl⟩
 have it:IterAt u32 pv H2 ib r (al.map EntE.kv) done:=g.get (k:=2) rfl
 have hcl:ces.length=done.length:=by have:=congrArg List.length hcd; simpa using this
 simp only [F.f4_l2,stdZ]
 refine IterAt.next it (fun p ob hp hnd it' hen =>?_) fun hperm =>?_
 ·
  have hdl:done.length<al.length:=by
   have h1:=it'.nodup
   have:=nodup_le (done++[p]) (al.map EntE.kv) h1.1 h1.2
   simp at this
   omega
  obtain ⟨e,he,rfl⟩:=List.mem_map.1 hp
  have hee:=hes e he hnd
  obtain ⟨i,hi,hie⟩:=List.getElem_of_mem hee
  have g2:Has H Z (H2.put ib ob) (ofL t2 t3 r ib d (al.map EntE.kv) (done++[e.kv]) cv (ces.map CaseE.cells) es):=by
   refine g.step (k:=2) (r':=itR ib r (al.map EntE.kv) (done++[e.kv])) rfl ⟨(Only.refl _ _).put (.inl (by simp [itR])) _,it',fun b hb=>⟨.inl hb,?_⟩,?_⟩
   ·simp only [itR,List.mem_cons,List.not_mem_nil,or_false] at hb
    rcases hb with rfl | rfl
    ·exact it.map.lt
    ·exact it.lt
   ·have:=it.map.lt
    obtain ⟨es',clock,h1,h2,h3,h4,h5,ix,h6,h7,h8,h9⟩:=it
    simp only [itR,List.nodup_cons,List.mem_cons,List.not_mem_nil,or_false,not_false_eq_true,List.nodup_nil,and_true]
    rintro rfl
    rw [h1] at h9
    simp at h9
  generalize H2.put ib ob=H3 at *
  have hk:(ofL t2 t3 r ib d (al.map EntE.kv) (done++[e.kv]) cv (ces.map CaseE.cells) es)[4+i]? = some (growR 3 e.v.1 (e.l.map RuleE.cells)):=by
   simp only [ofL]
   rw [List.getElem?_append_right (by simp)]
   have:4+i - [boxR t2 [nilS,u32 0#32],boxR t3 [cv,u32 d],itR ib r (al.map EntE.kv) (done++[e.kv]),growR 2 cv (ces.map CaseE.cells)].length=i:=by simp
   rw [this,getElem_map_some entER hi,hie]
   rfl
  obtain ⟨hel,hene⟩:=gr.all e he
  have hell:e.l.length<=sm:=by rw [hel]; exact Nat.le_trans (List.length_filter_le _ _) hpl
  have x0:(EntE.kv e).1=e.n:=rfl
  have x1:pv (EntE.kv e).2=e.v.1:=rfl
  simp only [hen,x0,x1,stdZ]
  refine sortR_nonempty hSR (g2.slice hk) hene hell fun H4 u4 =>?_
  have g4:=g2.step hk u4
  have hk4:((ofL t2 t3 r ib d (al.map EntE.kv) (done++[e.kv]) cv (ces.map CaseE.cells) es).set (4+i) (growR 3 e.v.1 ((ranked rkR e.l 4).map RuleE.cells)))[4+i]? = some (growR 3 e.v.1 ((ranked rkR e.l 4).map RuleE.cells)):=by
   rw [List.getElem?_set_self]
   simp [ofL,hi]; omega
  have r4:=g4.rows hk4
  have hbx:H4.get t3 = .cells [cv,u32 d] none:=g4.box (k:=1) (b:=t3) (by
   rw [List.getElem?_set_ne (by omega)]; rfl)
  simp only [hbx,stdZ]
  have hsl:=rules_sliceOf r4 fun x hx=>by
   have hx:=ranked_mem e.l 4 hx
   rw [hel] at hx
   exact ((hca x (List.mem_filter.1 hx).1).1).mono (g4.ext)
  rw [ranked_sort,hel,ofNE_map] at hsl
  refine S.f9 hE hsl ?_ ?_ fun v' H5 e5 hbr hfr =>?_
  ·have hlen:=ranked_len e.l
   have:(sortS (ofNum (pes.map RuleE.r) e.n)).length=(ranked rkR e.l 4).length:=by
    rw [<- ofNE_map,<- hel,<- ranked_sort,List.length_map]
   omega
  ·intro x hx
   rw [<- ofNE_map,<- hel,<- ranked_sort] at hx
   obtain ⟨y,hy,rfl⟩:=List.mem_map.1 hx
   have hy:=ranked_mem e.l 4 hy
   rw [hel] at hy
   exact (hca y (List.mem_filter.1 hy).1).2
  ·have hk1:∀ {H'':AH},Ext H4 H''->H''.get t3 = .cells [cv,u32 d] none:=fun e=>e.cells hbx
   refine ⟨by rw [load1_ptr,load1_ptr,hk1 e5,hbx],?_⟩
   obtain ⟨Z5,fz,g5,keep⟩:=g4.callee e5
   have hbz:SliceOf (BranchAt 0) Z5 2 v' (branchesF (sortS (ofNum (pes.map RuleE.r) e.n))):=by
    obtain ⟨rows,h1,h2,h3⟩:=hbr
    refine ⟨rows,keep _ _ _ h1 hfr,h2,fun i a b =>?_⟩
    obtain ⟨q0,w,q1,q2,q3⟩:=h3 i a b
    exact ⟨q0,w,q1,keep _ _ _ q2 q3,FreshV.zero w⟩
   have hpv:plain1 v'=true:=by obtain ⟨rows,h1,_⟩:=hbr; exact h1.plain
   have hbv:buildV [(0,1),(1,1)] #[(.int .u32 0),(.slice none 0 0)] [(0,u32 e.n),(1,v')]=some (.agg [u32 e.n,v'].toArray):=by
    have hd:=plain_defd hpv
    have hvc:=plain_vcells hpv
    simp [hd,hvc,splice]
   have hbS:buildS 1 2 #[(.int .u32 0),(.slice none 0 0)] [(0,.agg [u32 e.n,v'].toArray)]=some (.cells [u32 e.n,v'] none,mkSlc 1 1):=buildS_one 2 [u32 0#32,nilS] _ rfl rfl
   have g6:=g5.drop (4+i)
   have hdr:((ofL t2 t3 r ib d (al.map EntE.kv) (done++[e.kv]) cv (ces.map CaseE.cells) es).set (4+i) (growR 3 e.v.1 ((ranked rkR e.l 4).map RuleE.cells))).eraseIdx (4+i)=ofL t2 t3 r ib d (al.map EntE.kv) (done++[e.kv]) cv (ces.map CaseE.cells) (es.eraseIdx i):=by
    simp only [ofL,List.cons_append,List.nil_append]
    rw [show 4+i=i+1+1+1+1 by omega]
    simp only [List.set_cons_succ,List.eraseIdx_cons_succ,List.eraseIdx_set_eq,eraseIdx_map2]
   rw [hdr] at g6
   obtain ⟨cv',H7,a1,a2,g7⟩:=g6.app1 (k:=3) (sz:=2) (v:=cv) (rows:=ces.map CaseE.cells) (bytes:=32) rfl [u32 e.n,v'] rfl (by simp [hpv]) (by decide) (by decide) (by rw [List.length_map]; omega)
   have hb7:=g7.box (k:=1) (b:=t3) (c:=[cv,u32 d]) rfl
   have st7:store1 (ptr t3 0) cv' H7=some (H7.put t3 (.cells [cv',u32 d] none)):=by
    rw [store1_ptr,if_pos a2,hb7]; rfl
   simp only [hbv,hbS,AM.mk_some,mkSlc_eq,a1,opt2_some,st7,stdZ]
   have g8:=g7.put (k:=1) (b:=t3) (c:=[cv,u32 d]) rfl [cv',u32 d]
   refine ih (al.length - (done++[e.kv]).length) (by simp; omega) _ _ ⟨cv',ces++[(⟨caseOf ⟨d,pes.map RuleE.r⟩ e.n,⟨v',hpv⟩⟩:CaseE)],es.eraseIdx i,done++[e.kv],Z5,rfl,?_,?_,?_,?_,by simp,rfl⟩
   ·have:(ofL t2 t3 r ib d (al.map EntE.kv) (done++[e.kv]) cv (ces.map CaseE.cells) (es.eraseIdx i)).set 3 (growR 2 cv' (ces.map CaseE.cells++[[u32 e.n,v']]))=[boxR t2 [nilS,u32 0#32],boxR t3 [cv,u32 d],itR ib r (al.map EntE.kv) (done++[e.kv]),growR 2 cv' (ces.map CaseE.cells++[[u32 e.n,v']])]++(es.eraseIdx i).map entER:=rfl
    rw [this] at g8
    have:([boxR t2 [nilS,u32 0#32],boxR t3 [cv,u32 d],itR ib r (al.map EntE.kv) (done++[e.kv]),growR 2 cv' (ces.map CaseE.cells++[[u32 e.n,v']])]++(es.eraseIdx i).map entER).set 1 (boxR t3 [cv',u32 d])=ofL t2 t3 r ib d (al.map EntE.kv) (done++[e.kv]) cv' ((ces++[(⟨caseOf ⟨d,pes.map RuleE.r⟩ e.n,⟨v',hpv⟩⟩:CaseE)]).map CaseE.cells) (es.eraseIdx i):=by
     rw [List.map_append]; rfl
    rw [this] at g8
    exact g8
   ·intro x hx
    rcases List.mem_append.1 hx with hx | hx
    ·exact (hces x hx).sub (fun _ _ _ _ h e=>BranchAt.sub h e) fz.1
    ·simp only [List.mem_singleton] at hx
     subst hx
     exact hbz
   ·intro e' he' hn'
    simp only [List.mem_append,List.mem_singleton,not_or] at hn'
    have h1:=hes e' he' hn'.1
    obtain ⟨j,hj,hje⟩:=List.getElem_of_mem h1
    refine List.mem_eraseIdx_iff_getElem?.2 ⟨j,?_,by rw [List.getElem?_eq_getElem hj,hje]⟩
    rintro rfl
    rw [hje] at hie
    exact hn'.2 (by rw [hie])
   ·rw [List.map_append,List.map_append,hcd]; rfl
 ·
  have hb2:=g.box (k:=1) (b:=t3) (c:=[cv,u32 d]) rfl
  have hex:ext (Value.tuple #[Value.bool false]) 0=some (.bool false):=rfl
  simp only [hex,hb2,stdZ]
  have hdm:∀ n,n∈done.map Prod.fst↔∃ x∈pes.map RuleE.r,x.number=n:=by
   intro n
   have h1:n∈done.map Prod.fst↔n∈al.map EntE.n:=by
    rw [(hperm.map Prod.fst).mem_iff,List.map_map]; rfl
   rw [h1]
   constructor
   ·intro h
    obtain ⟨e,he,rfl⟩:=List.mem_map.1 h
    obtain ⟨h1,h2⟩:=gr.all e he
    obtain ⟨x,hx⟩:=List.exists_mem_of_ne_nil _ h2
    rw [h1] at hx
    have:=List.mem_filter.1 hx
    exact ⟨x.r,List.mem_map.2 ⟨x,this.1,rfl⟩,by simpa using this.2⟩
   ·rintro ⟨x,hx,rfl⟩
    obtain ⟨y,hy,rfl⟩:=List.mem_map.1 hx
    exact gr.mem y hy
  have hdn:(done.map Prod.fst).Nodup:=by
   have h1:=(hperm.map Prod.fst).nodup_iff
   rw [h1,List.map_map]
   exact gr.nd
  have hcn:ces.map (fun x=>x.c.number)=done.map Prod.fst:=by
   have:=congrArg (List.map CaseD.number) hcd
   rw [List.map_map,List.map_map] at this
   exact this
  have hcase:∀ x∈ces,x.c=caseOf ⟨d,pes.map RuleE.r⟩ x.c.number:=by
   intro x hx
   have:x.c∈ces.map CaseE.c:=List.mem_map.2 ⟨x,hx,rfl⟩
   rw [hcd] at this
   obtain ⟨p,_,hp⟩:=List.mem_map.1 this
   rw [<- hp]; rfl
  have fin:∀ (l':List CaseE) (H':AH),l'.Perm ces->l'.Pairwise (fun x y=>x.c.number.toNat<y.c.number.toNat)->Has H Z H' (ofL t2 t3 r ib d (al.map EntE.kv) done cv (l'.map CaseE.cells) es) ->
    opt (loadN 2 (ptr t3 0) H') fun v17=>opt (storeN 2 (ptr t2 0) v17 H') fun H8=>opt (loadN 2 (ptr t2 0) H8) fun v18=>Q v18 H8:=by
   intro l' H' hp hs g'
   have hb3:=g'.box (k:=1) (b:=t3) (c:=[cv,u32 d]) rfl
   have hb2:=g'.box (k:=0) (b:=t2) (c:=[nilS,u32 0#32]) rfl
   have hr:=g'.rows (k:=3) (sz:=2) (v:=cv) (rows:=l'.map CaseE.cells) rfl
   have hpc:=hr.plain
   have lo3:loadN 2 (ptr t3 0) H'=some (.agg [cv,u32 d].toArray):=by rw [loadN_ptr,hb3]; rfl
   have st2:storeN 2 (ptr t2 0) (.agg [cv,u32 d].toArray) H'=some (H'.put t2 (.cells [cv,u32 d] none)):=by
    rw [storeN_ptr,hb2]
    have h3:AM.splice [nilS,u32 0#32] 0 [cv,u32 d]=[cv,u32 d]:=rfl
    have h4:[cv,u32 d].all plain1=true:=by simp [hpc]
    simp only [List.size_toArray,List.toList_toArray,h4,List.length_cons,List.length_nil,Nat.zero_add,Nat.le_refl,and_self,if_true,h3]
   have g8:=g'.put (k:=0) (b:=t2) (c:=[nilS,u32 0#32]) rfl [cv,u32 d]
   have hb8:=g8.box (k:=0) (b:=t2) (c:=[cv,u32 d]) rfl
   have lo2:loadN 2 (ptr t2 0) (H'.put t2 (.cells [cv,u32 d] none))=some (.agg [cv,u32 d].toArray):=by rw [loadN_ptr,hb8]; rfl
   simp only [lo3,st2,lo2,stdZ]
   have hr8:=g8.rows (k:=3) (sz:=2) (v:=cv) (rows:=l'.map CaseE.cells) rfl
   have hmem:∀ x∈l',x∈ces:=fun x hx=>hp.mem_iff.1 hx
   refine hQ (l'.map fun x=>x.c.number) [cv,u32 d] _ g8.ext ⟨?_,fun n =>?_⟩ ⟨cv,rfl,?_⟩
   ·rw [List.pairwise_map]; exact hs
   ·rw [(hp.map fun x:CaseE=>x.c.number).mem_iff,hcn]
    exact hdm n
   ·have hpl:(planOf ⟨d,pes.map RuleE.r⟩ (l'.map fun x=>x.c.number)).cases=l'.map CaseE.c:=by
     unfold planOf
     simp only [List.map_map]
     apply List.map_congr_left
     intro x hx
     exact (hcase x (hmem x hx)).symm
    rw [hpl]
    refine ⟨_,hr8,by simp,fun i h1 h2 =>?_⟩
    simp only [List.getElem_map]
    have hx:l'[i]'(by simpa using h1)∈l':=List.getElem_mem _
    exact ⟨_,rfl,(hces _ (hmem _ hx)).sub (fun _ _ _ _ h e=>BranchAt.sub h e) g8.sub⟩
  by_cases hce:ces=[]
  ·have hd0:done=[]:=List.length_eq_zero_iff.1 (by rw [<- hcl,hce]; rfl)
   have:=hnil hd0
   subst this
   subst hce
   refine S.slices_SortFunc_nil hE ?_
   exact fin [] H2 (List.Perm.refl _) List.Pairwise.nil g
  ·have g0:=g.slice (k:=3) (sz:=2) (v:=cv) (rows:=ces.map CaseE.cells) rfl
   obtain ⟨b,c,tail,f,hcv,hg,up⟩:=g0.arrE caseE_ok hce
   have hs:(ces.toArray).size=ces.length:=by simp
   have:=hSC (c:=c) (Q:=fun v16 H7=>opt (loadN 2 (ptr t3 0) H7) fun v17=>opt (storeN 2 (ptr t2 0) v17 H7) fun H8=>opt (loadN 2 (ptr t2 0) H8) fun v18=>Q v18 H8) hg (by rw [hs,hcl,hperm.length_eq,List.length_map]; exact hall) fun d' H' hp hso s =>?_
   ·rw [hs,<- hcv] at this
    exact this
   ·have hsz:d'.size=ces.length:=by rw [hp.1,hs]
    have hpm:d'.toList.Perm ces:=by
     have h1:=hp.2.2
     have e1:d'.extract 0 ces.toArray.size=d':=by rw [hs,<- hsz]; simp
     have e2:ces.toArray.extract 0 ces.toArray.size=ces.toArray:=by simp
     rw [e1,e2] at h1
     simpa using h1
    have g9:=g.step (k:=3) (r:=growR 2 cv (ces.map CaseE.cells)) rfl (up d' H' hsz s)
    refine fin d'.toList H' hpm ?_ g9
    rw [List.pairwise_iff_getElem]
    intro i j hi hj hij
    have hi':i<d'.size:=by simpa using hi
    have hj':j<d'.size:=by simpa using hj
    have h1:=hso i j (Nat.zero_le _) hij (by rw [hs,<- hsz]; exact hj')
    rw [getElem!_pos d' i hi',getElem!_pos d' j hj'] at h1
    unfold ltC at h1
    simp only [decide_eq_false_iff_not] at h1
    simp only [Array.getElem_toList]
    have hnd:(d'.toList.map fun x=>x.c.number).Nodup:=by
     rw [(hpm.map fun x:CaseE=>x.c.number).nodup_iff,hcn]
     exact hdn
    rcases Nat.lt_or_ge d'[i].c.number.toNat d'[j].c.number.toNat with h2 | h2
    ·exact h2
    ·have he:d'[i].c.number=d'[j].c.number:=BitVec.eq_of_toNat_eq (by omega)
     have:=(List.getElem_inj (xs:=d'.toList.map fun x=>x.c.number) (i:=i) (j:=j) (h₀:=by simpa using hi) (h₁:=by simpa using hj) hnd).1 (by simpa using he)
     omega
theorem irof_l1 (hE:Fold E) {H1:AH} {t2 t3 r:Nat} {c2 c3:List Value} {pes:List RuleE} (hpl:pes.length<=80) {v:Value} (hv:Rows H 3 v (pes.map RuleE.cells)) (g1:Has H zH H1 (ofBase t2 t3 r c2 c3 []))
  (next:∀ al H',Has H zH H' (ofBase t2 t3 r c2 c3 al)->Grp pes al->mk (rangeM (.map (some r)) H') H' fun v14 H6=>LoopL (fun l H X0=>F.f4_l2 E Q (nth l 0) (nth l 1) (nth l 2) H X0) [ptr t2 0,ptr t3 0,v14] H6) :
  LoopL (fun l H X0=>F.f4_l1 E Q (nth l 0) (nth l 1) (nth l 2) (nth l 3) (nth l 4) (nth l 5) H X0) [ptr t2 0,ptr t3 0,.map (some r),v,vi (pes.length:Int),(.int .i64 0)] H1:=by
 have i0:(.int .i64 0:Value)=vi ((0:Nat):Int):=rfl
 rw [i0]
 refine LoopL.count pes.length (fun j ls H'=>∃ al,ls=[ptr t2 0,ptr t3 0,.map (some r),v,vi (pes.length:Int),vi j]/\Has H zH H' (ofBase t2 t3 r c2 c3 al)/\Grp (pes.take j) al) ?_ ⟨[],rfl,g1,⟨by simp,by simp,by simp⟩⟩
 rintro j _ H2 X hj hX ⟨al,rfl,g,gr⟩
 by_cases hjl:j<pes.length
 rotate_left
 ·have hjl':¬ (j:Int)<pes.length:=by omega
  rw [List.take_of_length_le (by omega)] at gr
  simp only [F.f4_l1,i64_lss,hjl',decide_false,stdZ]
  exact next al H2 g gr
 have hX:=hX hjl
 have hjl':(j:Int)<pes.length:=by omega
 have hjj:=i64_inc (i:=j) (by omega)
 obtain ⟨b,o,f1,f2⟩:=(hv.mono g.ext).ix (i:=j) (by rw [List.length_map]; exact hjl)
 have htk:pes.take (j+1)=pes.take j++[pes[j]]:=List.take_succ_eq_append_getElem hjl
 rw [List.getElem_map] at f2
 rw [htk] at hX
 have htl:(pes.take j).length<1000:=by rw [List.length_take]; omega
 generalize pes[j]=x at *
 have lo1:loadN 3 (ptr b o) H2=some (.agg x.cells.toArray):=by rw [loadN_ptr,f2]; rfl
 have b4:=AH.get_new_self H2 (.cells x.cells none)
 have c0:x.cells[0]? = some (u32 x.r.number):=rfl
 have lo4:loadN 3 (ptr H2.next 0) (H2.new (.cells x.cells none))=some (.agg x.cells.toArray):=by rw [loadN_ptr,b4]; rfl
 have hbS:buildS 1 3 #[(.int .u32 0),(.int .u32 0),(.slice none 0 0)] [(0,.agg x.cells.toArray)]=some (.cells x.cells none,mkSlc 1 1):=buildS_one 3 [u32 0#32,u32 0#32,nilS] _ rfl rfl
 have:=of_step (R:=fun H5=>opt (binInt .add (vi j) (.int .i64 1)) fun v13=>X [ptr t2 0,ptr t3 0,.map (some r),v,vi (pes.length:Int),v13] H5) g gr htl x (fun al' H' g' gr'=>by
  simp only [hjj,stdZ]
  exact hX _ _ ⟨al',rfl,g',gr'⟩) rfl
 simp only [F.f4_l1,i64_lss,hjl',decide_true,f1,lo1,allocW_eq,three_new,b4,c0,lo4,hbS,AM.mk_some,mkSlc_eq,stdZ]
 cases hlk:look 0 (.slice none 0 0) false (.map (some r)) (u32 x.r.number) (H2.new (.cells x.cells none)) with
 | none=>rw [hlk] at this; exact this.elim
 | some w =>
  rw [hlk] at this
  simp only [lo4,hbS,AM.mk_some,mkSlc_eq,stdZ] at this ⊢
  exact this
theorem S.f4 (hE:Fold E) {sm:Nat} (hsm:sm<=80) (hSC:SortsC E sm) (hSR:SortsR E sm) (p:PolD) (cs:List Value) (hp:PolAt H p cs) (hpl:p.rules.length<=sm) (hc:∀ r∈p.rules,r.conds.length<2 ^ 20)
  (hQ:∀ ns cs' H',Ext H H'->Nums p ns->PlanAt H' (planOf p ns) cs'->Q (.agg cs'.toArray) H'):E.call (E.fid i.f4) [.agg cs.toArray] H Q:=by
 apply hE.f4
 obtain ⟨_,a,v,b,c,d,rfl,hv⟩:=hp
 obtain ⟨es,he1,he2,he3⟩:=sliceOf_rules hv
 have hel:es.length=p.rules.length:=by rw [<- he1,List.length_map]
 have g1:=(Has.begin (H0:=H) (Z:=zH) (Ext.refl H) ⟨Nat.zero_le _,fun b hb=>(hb (zH_get b)).elim⟩).newbox [a,u32 p.default,v,b,c,d]
 have hb1:=AH.get_new_self H (.cells [a,u32 p.default,v,b,c,d] none)
 simp only [F.f4,boxO_agg_z,AM.mk_some,mkPtr_eq_z,List.toList_toArray,stdZ]
 generalize H.new (.cells [a,u32 p.default,v,b,c,d] none)=H1 at *
 generalize H.next=bp at *
 have g2:=g1.newbox [nilS,u32 0#32]
 have x2:Ext H1 (H1.new (.cells [nilS,u32 0#32] none)):=(Ext.refl _).new _
 have hb2:=x2.cells hb1
 have hz:([(.slice none 0 0),(.int .u32 0)]:List Value)=[nilS,u32 0#32]:=rfl
 simp only [allocW_eq,hz,stdZ]
 generalize H1.new (.cells [nilS,u32 0#32] none)=H2 at *
 generalize H1.next=t2 at *
 have hbv:buildV [(0,1),(1,1)] [nilS,u32 0#32].toArray [(1,u32 p.default)]=some (.agg [nilS,u32 p.default].toArray):=rfl
 simp only [hb2,hz,hbv,stdZ]
 have g3:=g2.newbox [nilS,u32 p.default]
 have st3:storeN 2 (ptr H2.next 0) (.agg [nilS,u32 p.default].toArray) (H2.new (.cells [nilS,u32 0#32] none))=some (H2.new (.cells [nilS,u32 p.default] none)):=two_store rfl rfl rfl
 have x3:Ext H2 (H2.new (.cells [nilS,u32 p.default] none)):=(Ext.refl _).new _
 have hb3:=x3.cells hb2
 simp only [allocW_eq,hz,st3,stdZ]
 generalize H2.new (.cells [nilS,u32 p.default] none)=H3 at *
 generalize H2.next=t3 at *
 have g4:=g3.newmap u32 pv
 have x4:Ext H3 (H3.new (.map [] 0 true)):=(Ext.refl _).new _
 have hb4:=x4.cells hb3
 have hlv:=he2.lenSlc
 rw [List.length_map] at hlv
 have hmw:∀ K:Value->AH->Prop,mapW H3 K=K (.map (some H3.next)) (H3.new (.map [] 0 true)):=fun _=>rfl
 simp only [hmw,stdZ]
 generalize H3.new (.map [] 0 true)=H4 at *
 generalize H3.next=r at *
 simp only [hb4,hlv,stdZ]
 have g5:Has H zH H4 (ofBase t2 t3 r [nilS,u32 0#32] [nilS,u32 p.default] []):=g4.drop 0
 refine irof_l1 hE (by omega) he2 g5 fun al H5 g6 gr =>?_
 have hm:=g6.mapAt (k:=2) (fk:=u32) (fv:=pv) (r:=r) (l:=al.map EntE.kv) rfl
 obtain ⟨o,o1,o2⟩:=IterAt.start hm
 simp only [o1,AM.mk_some,mkPtr_eq_z,stdZ]
 have g7:=g6.step (k:=2) (r':=itR H5.next r (al.map EntE.kv) []) (H':=H5.new o) rfl ⟨((Ext.refl H5).new o).only,o2,fun b hb=>by
  simp only [itR,List.mem_cons,List.not_mem_nil,or_false] at hb
  rcases hb with rfl | rfl
  ·exact ⟨.inl (by simp [mapR]),o2.map.lt⟩
  ·exact ⟨.inr (Nat.le_refl _),o2.lt⟩,by
  have:=hm.lt
  simp only [itR,List.nodup_cons,List.mem_cons,List.not_mem_nil,or_false,not_false_eq_true,List.nodup_nil,and_true]
  omega⟩
 have g8:=g7.nils 2
 have g9:Has H zH (H5.new o) (ofL t2 t3 r H5.next p.default (al.map EntE.kv) [] nilS [] al):=by
  refine g8.perm ?_
  show List.Perm (([boxR t2 [nilS,u32 0#32],boxR t3 [nilS,u32 p.default],itR H5.next r (al.map EntE.kv) []]++al.map entER)++[growR 2 nilS []]) ([boxR t2 [nilS,u32 0#32],boxR t3 [nilS,u32 p.default],itR H5.next r (al.map EntE.kv) [],growR 2 nilS []]++al.map entER)
  rw [List.append_assoc]
  exact List.Perm.append_left [boxR t2 [nilS,u32 0#32],boxR t3 [nilS,u32 p.default],itR H5.next r (al.map EntE.kv) []] (List.perm_append_singleton _ _)
 obtain ⟨pd,pr⟩:=p
 simp only at he1
 subst he1
 refine irof_l2 hE hsm hSC hSR gr (by omega) (fun x hx=>⟨he3 x hx,hc _ (List.mem_map.2 ⟨x,hx,rfl⟩)⟩) g9 hQ
end
end Go.AM
end
section
namespace Go.AM
set_option maxRecDepth 20000
section
variable {E:Sy} {H H' H0 Z:AH} {Q:Value->AH->Prop}
theorem branchesF_le:∀ l:List RuleD,(branchesF l).length<=l.length
 | []=>Nat.le_refl _
 | r :: l=>by
  have:=branchesF_le l
  rw [branchesF]
  split
  ·simp; omega
  ·split
   ·simp
   ·simp; omega
theorem sortS_le (l:List RuleD):(sortS l).length<=4*l.length:=by
 have h:∀ k,(byRank l k).length<=l.length:=fun k=>List.length_filter_le _ _
 have h0:=h 0
 have h1:=h 1
 have h2:=h 2
 have h3:=h 3
 simp only [sortS,List.length_append]
 omega
theorem Nums.nodup {p:PolD} {ns:List (BitVec 32)} (h:Nums p ns):ns.Nodup:=h.up.imp fun {a b} hab e=>by subst e; omega
theorem Nums.len {p:PolD} {ns:List (BitVec 32)} (h:Nums p ns):ns.length<=p.rules.length:=by
 have:=nodup_le ns (p.rules.map RuleD.number) h.nodup fun n hn=>by
  obtain ⟨r,hr,rfl⟩:=(h.mem n).1 hn
  exact List.mem_map.2 ⟨r,hr,rfl⟩
 simpa using this
theorem plan_up {p:PolD} {ns:List (BitVec 32)} (h:Nums p ns):(planOf p ns).cases.Pairwise fun a b=>a.number.toNat<b.number.toNat:=by
 unfold planOf
 simp only
 rw [List.pairwise_map]
 exact h.up
theorem plan_branches {p:PolD} {ns:List (BitVec 32)}:∀ c∈(planOf p ns).cases,c.branches.length<=4*p.rules.length:=by
 intro c hc
 unfold planOf at hc
 obtain ⟨n,_,rfl⟩:=List.mem_map.1 hc
 have h1:=branchesF_le (sortS (ofNum p.rules n))
 have h2:=sortS_le (ofNum p.rules n)
 have h3:(ofNum p.rules n).length<=p.rules.length:=List.length_filter_le _ _
 show (branchesF (sortS (ofNum p.rules n))).length<=_
 omega
def awake12:PolD:=⟨0#32,[⟨2#32,2147418112#32,[]⟩,⟨2#32,2147483648#32,[⟨0,1#8,0#64,1#64⟩]⟩]⟩
theorem S.f23 (hE:Fold E) {sm:Nat} (h2:2<=sm) (hsm:sm<=80) (hSC:SortsC E sm) (hSR:SortsR E sm) (hQ:∀ H',Ext H H'->Q (vb true) H'):E.call (E.fid i.f23) [] H Q:=by
 apply hE.f23
 have hbv1:buildV [(0,1),(1,1),(2,1),(3,1)] #[(.int .i64 0),(.int .u8 0),(.int .u64 0),(.int .u64 0)] [(0,(.int .i64 0)),(1,(.int .u8 1)),(3,(.int .u64 1))]=some (CondD.v ⟨0,1#8,0#64,1#64⟩):=rfl
 have hbv2:buildV [(0,1),(1,1),(2,1)] #[(.int .u32 0),(.int .u32 0),(.slice none 0 0)] [(0,(.int .u32 2)),(1,(.int .u32 2147418112))]=some (.agg [u32 2#32,u32 2147418112#32,nilS].toArray):=rfl
 have x1:Ext H (H.new (.cells (CondD.cells ⟨0,1#8,0#64,1#64⟩) none)):=(Ext.refl _).new _
 have b1:=AH.get_new_self H (.cells (CondD.cells ⟨0,1#8,0#64,1#64⟩) none)
 have hbS:=buildS_one 4 [vi 0,u8 0#8,u64 0#64,u64 0#64] (CondD.cells ⟨0,1#8,0#64,1#64⟩) rfl rfl
 have hbS:buildS 1 4 #[(.int .i64 0),(.int .u8 0),(.int .u64 0),(.int .u64 0)] [(0,CondD.v ⟨0,1#8,0#64,1#64⟩)]=some (.cells (CondD.cells ⟨0,1#8,0#64,1#64⟩) none,mkSlc 1 1):=hbS
 simp only [F.f23,hbv1,allocW_eq,cond_new,cond_load b1,hbv2,hbS,AM.mk_some,mkSlc_eq,stdZ]
 have n1:H.next+1=(H.new (.cells (CondD.cells ⟨0,1#8,0#64,1#64⟩) none)).next:=rfl
 rw [n1]
 generalize H.new (.cells (CondD.cells ⟨0,1#8,0#64,1#64⟩) none)=H1 at *
 have x2:Ext H1 (H1.new (.cells (CondD.cells ⟨0,1#8,0#64,1#64⟩) none)):=(Ext.refl _).new _
 have b2:=AH.get_new_self H1 (.cells (CondD.cells ⟨0,1#8,0#64,1#64⟩) none)
 have hbv3:buildV [(0,1),(1,1),(2,1)] #[(.int .u32 0),(.int .u32 0),(.slice none 0 0)] [(0,(.int .u32 2)),(1,(.int .u32 2147483648)),(2,slc H1.next 0 1 1)]=some (.agg [u32 2#32,u32 2147483648#32,slc H1.next 0 1 1].toArray):=rfl
 have hbS2:=buildS_full 2 3 [u32 0#32,u32 0#32,nilS] [(0,.agg [u32 2#32,u32 2147418112#32,nilS].toArray),(1,.agg [u32 2#32,u32 2147483648#32,slc H1.next 0 1 1].toArray)] [.agg [u32 2#32,u32 2147418112#32,nilS].toArray,.agg [u32 2#32,u32 2147483648#32,slc H1.next 0 1 1].toArray] rfl rfl rfl rfl (by simp)
 have hbS2:buildS 2 3 #[(.int .u32 0),(.int .u32 0),(.slice none 0 0)] [(0,.agg [u32 2#32,u32 2147418112#32,nilS].toArray),(1,.agg [u32 2#32,u32 2147483648#32,slc H1.next 0 1 1].toArray)]=some (.cells [u32 2#32,u32 2147418112#32,nilS,u32 2#32,u32 2147483648#32,slc H1.next 0 1 1] none,mkSlc 2 2):=hbS2
 simp only [hbv3,hbS2,AM.mk_some,mkSlc_eq,stdZ]
 have n2:H1.next+1=(H1.new (.cells (CondD.cells ⟨0,1#8,0#64,1#64⟩) none)).next:=rfl
 rw [n2]
 generalize H1.new (.cells (CondD.cells ⟨0,1#8,0#64,1#64⟩) none)=H2 at *
 have x3:Ext H2 (H2.new (.cells [u32 2#32,u32 2147418112#32,nilS,u32 2#32,u32 2147483648#32,slc H1.next 0 1 1] none)):=(Ext.refl _).new _
 have b3:=AH.get_new_self H2 (.cells [u32 2#32,u32 2147418112#32,nilS,u32 2#32,u32 2147483648#32,slc H1.next 0 1 1] none)
 have hbv4:buildV [(0,1),(1,1),(2,1),(3,1),(4,1),(5,1)] #[(.string ⟨#[]⟩),(.int .u32 0),(.slice none 0 0),(.int .u16 0),(.slice none 0 0),(.slice none 0 0)] [(2,slc H2.next 0 2 2)]=some (.agg [str [],u32 0#32,slc H2.next 0 2 2,u16 0#16,nilS,nilS].toArray):=rfl
 simp only [hbv4,stdZ]
 have b23:=x3.cells b2
 generalize H2.new (.cells [u32 2#32,u32 2147418112#32,nilS,u32 2#32,u32 2147483648#32,slc H1.next 0 1 1] none)=H3 at *
 have hcr:Rows H3 4 (slc H1.next 0 1 1) (condR [⟨0,1#8,0#64,1#64⟩]):=Rows.made (f:=none) (by rw [b23]; rfl) (.inl rfl) rfl (by simp [condR,CondD.cells])
 have hrr:Rows H3 3 (slc H2.next 0 2 2) [[u32 2#32,u32 2147418112#32,nilS],[u32 2#32,u32 2147483648#32,slc H1.next 0 1 1]]:=Rows.made (f:=none) (by rw [b3]; rfl) (.inl rfl) rfl (by simp)
 have hpa:PolAt H3 awake12 [str [],u32 0#32,slc H2.next 0 2 2,u16 0#16,nilS,nilS]:=by
  refine ⟨by decide,_,_,_,_,_,rfl,_,hrr,rfl,fun i h1 h2 =>?_⟩
  match i,h1 with
  | 0,_=>exact ⟨(by decide:(0:Nat)<2 ^ 63),nilS,rfl,Rows.nil _ 4 none⟩
  | 1,_=>exact ⟨(by decide:(1:Nat)<2 ^ 63),_,rfl,hcr⟩
 refine S.f4 hE hsm hSC hSR awake12 _ hpa (by show 2<=sm; exact h2) (fun r hr =>?_) fun ns cs H4 e4 hns hpl =>?_
 ·simp only [awake12,List.mem_cons,List.not_mem_nil,or_false] at hr
  rcases hr with rfl | rfl <;> decide
 have hn1:ns=[2#32]:=by
  have hm:∀ n,n∈ns↔n=2#32:=by
   intro n
   rw [hns.mem]
   simp only [awake12,List.mem_cons,List.not_mem_nil,or_false]
   constructor
   ·rintro ⟨r,hr,rfl⟩
    rcases hr with rfl | rfl <;> rfl
   ·rintro rfl
    exact ⟨_,.inl rfl,rfl⟩
  have hl:=hns.nodup
  match ns,hm,hl with
  | [],hm,_=>exact ((List.not_mem_nil) ((hm 2#32).2 rfl)).elim
  | [a],hm,_=>rw [(hm a).1 (by simp)]
  | a :: b :: t,hm,hl =>
   have h1:=(hm a).1 (by simp)
   have h2:=(hm b).1 (by simp)
   rw [List.nodup_cons] at hl
   exact (hl.1 (by rw [h1,h2]; simp)).elim
 subst hn1
 obtain ⟨v,rfl,hv⟩:=hpl
 have hpv:plain1 v=true:=by obtain ⟨rows,h1,_⟩:=hv; exact h1.plain
 have hst:storeN 2 (ptr H4.next 0) (.agg [v,u32 awake12.default].toArray) (H4.new (.cells [(.slice none 0 0),(.int .u32 0)] none))=some (H4.new (.cells [v,u32 awake12.default] none)):=two_store rfl rfl (by simp [hpv])
 have hdf:(planOf awake12 [2#32]).default=awake12.default:=rfl
 have x5:Ext H4 (H4.new (.cells [v,u32 awake12.default] none)):=(Ext.refl _).new _
 have b5:=AH.get_new_self H4 (.cells [v,u32 awake12.default] none)
 have hlv:=hv.lenSlc
 have hcl:(planOf awake12 [2#32]).cases.length=1:=rfl
 rw [hcl] at hlv
 have hv5:=hv.sub (fun _ _ _ _ h e=>CaseAt.sub h e) x5.sub
 obtain ⟨b,o,c,q1,q2,q3⟩:=hv5.ix (i:=0) (by rw [hcl]; omega)
 obtain ⟨bv,rfl,hbv⟩:=q3
 have q4:((H4.new (.cells [v,u32 awake12.default] none)).get b).cell (o+1)=some bv:=by have:=row_at q2 (j:=1) (by omega); simpa using this
 have hlb:=hbv.lenSlc
 have hbl:((planOf awake12 [2#32]).cases[0]'(by decide +kernel)).branches.length=2:=by decide +kernel
 rw [hbl] at hlb
 obtain ⟨b',o',c',w1,w2,w3⟩:=hbv.ix (i:=0) (by rw [hbl]; omega)
 obtain ⟨_,cv,rfl,_⟩:=w3
 have hba:(((planOf awake12 [2#32]).cases[0]'(by decide +kernel)).branches[0]'(by decide +kernel)).action=2147483648#32:=by decide +kernel
 rw [hba] at w2
 have w4:((H4.new (.cells [v,u32 awake12.default] none)).get b').cell (o'+1)=some (u32 2147483648#32):=by have:=row_at w2 (j:=1) (by omega); simpa using this
 have kA:(.int .u32 2147483648:Value)=u32 2147483648#32:=rfl
 have q1:ixSlc 2 v (.int .i64 0)=some (ptr b o):=q1
 have w1:ixSlc 2 bv (.int .i64 0)=some (ptr b' o'):=w1
 have e11:binInt .eql (vi ((1:Nat):Int)) (.int .i64 1)=some (vb true):=by rw [i64_eql]; rfl
 have e22:binInt .eql (vi ((2:Nat):Int)) (.int .i64 2)=some (vb true):=by rw [i64_eql]; rfl
 rw [hdf]
 simp only [allocW_eq,hst,b5,hlv,e11,q1,q4,hlb,e22,w1,w4,kA,u32_eql,decide_true,stdZ]
 exact hQ _ ((((x1.trans x2).trans x3).trans e4).trans x5)
end
end Go.AM
end
section
namespace Go.AM
open Go.Sort (swp SWO PermIn SortedIn)
set_option maxRecDepth 20000
section
variable {α:Type} [Inhabited α] (rk:α->Nat)
def Rot (d:Array α) (a m e t:Nat):α:=if t<a then d[t]! else if t<a+(e - m) then d[t+(m - a)]! else if t<e then d[t - (e - m)]! else d[t]!
def SrtI (d:Array α) (a e:Nat):Prop:=∀ p q,a<=p->p<=q->q<e->rk d[p]! <= rk d[q]!
theorem SrtI.small (d:Array α) {a e:Nat} (h:e<=a+1):SrtI rk d a e:=fun p q h1 h2 h3=>by
 have:p=q:=by omega
 subst this
 exact Nat.le_refl _
theorem SrtI.of {d:Array α} {a e:Nat} (h:SortedIn (ltK rk) a e d):SrtI rk d a e:=fun p q q1 q2 q3=>by
 rcases Nat.lt_or_ge p q with hlt | hge
 ·have:=h p q q1 hlt q3
  simp only [ltK,decide_eq_false_iff_not] at this
  omega
 ·have:p=q:=by omega
  subst this
  exact Nat.le_refl _
theorem SrtI.congr {d d':Array α} {a e:Nat} (h:SrtI rk d a e) (hd:∀ t,a<=t->t<e->d'[t]! = d[t]!):SrtI rk d' a e:=fun p q q1 q2 q3=>by
 rw [hd p q1 (by omega),hd q (by omega) q3]
 exact h p q q1 q2 q3
structure Mrg (a e:Nat) (d d':Array α):Prop where
 size:d'.size=d.size
 out:∀ t,(t<a\/e<=t)->d'[t]! = d[t]!
 inn:∀ t,a<=t->t<e->∃ s,a<=s/\s<e/\d'[t]! = d[s]!
 same:SameK rk d.toList d'.toList
theorem Mrg.refl (a e:Nat) (d:Array α):Mrg rk a e d d:=⟨rfl,fun _ _=>rfl,fun t h1 h2=>⟨t,h1,h2,rfl⟩,SameK.refl rk _⟩
theorem Mrg.trans {a e:Nat} {d d' d'':Array α} (h:Mrg rk a e d d') (h':Mrg rk a e d' d''):Mrg rk a e d d'' :=
 ⟨h'.size.trans h.size,fun t ht=>(h'.out t ht).trans (h.out t ht),fun t h1 h2=>by
  obtain ⟨s,s1,s2,s3⟩:=h'.inn t h1 h2
  obtain ⟨r,r1,r2,r3⟩:=h.inn s s1 s2
  exact ⟨r,r1,r2,s3.trans r3⟩,SameK.trans rk h.same h'.same⟩
theorem Mrg.mono {a e a' e':Nat} {d d':Array α} (h:Mrg rk a e d d') (h1:a'<=a) (h2:e<=e'):Mrg rk a' e' d d' :=
 ⟨h.size,fun t ht=>h.out t (by omega),fun t q1 q2=>by
  by_cases hin:a<=t/\t<e
  ·obtain ⟨s,s1,s2,s3⟩:=h.inn t hin.1 hin.2
   exact ⟨s,by omega,by omega,s3⟩
  ·exact ⟨t,q1,q2,h.out t (by omega)⟩,h.same⟩
theorem SameK.swapL {u v:List α} (h:∀ x∈u,∀ y∈v,rk x≠rk y):SameK rk (u++v) (v++u):=fun k=>by
 rw [List.filter_append,List.filter_append]
 by_cases hu:u.filter (fun x=>decide (rk x=k))=[]
 ·rw [hu]; simp
 ·have hv:v.filter (fun x=>decide (rk x=k))=[]:=by
   rw [List.filter_eq_nil_iff]
   intro y hy
   simp only [decide_eq_true_eq]
   intro e
   obtain ⟨x,hx⟩:=List.exists_mem_of_ne_nil _ hu
   have hx:=List.mem_filter.1 hx
   simp only [decide_eq_true_eq] at hx
   exact h x hx.1 y hy (hx.2.trans e.symm)
  rw [hv]; simp
theorem rot_same {d d':Array α} {a m e:Nat} (ham:a<=m) (hme:m<=e) (he:e<=d.size) (hs:d'.size=d.size) (hd:∀ t,d'[t]! = Rot d a m e t) (hr:∀ p q,a<=p->p<m->m<=q->q<e->rk d[p]! ≠ rk d[q]!):SameK rk d.toList d'.toList:=by
 have hL:d.toList=d.toList.take a++(((d.toList.drop a).take (m - a)++(d.toList.drop m).take (e - m))++d.toList.drop e):=by
  have e1:d.toList.drop m=(d.toList.drop m).take (e - m)++d.toList.drop e:=by
   conv=>lhs; rw [<- List.take_append_drop (e - m) (d.toList.drop m)]
   rw [List.drop_drop,show m+(e - m)=e by omega]
  have e2:d.toList.drop a=(d.toList.drop a).take (m - a)++d.toList.drop m:=by
   conv=>lhs; rw [<- List.take_append_drop (m - a) (d.toList.drop a)]
   rw [List.drop_drop,show a+(m - a)=m by omega]
  rw [List.append_assoc,<- e1,<- e2,List.take_append_drop]
 have hlen:d.toList.length=d.size:=Array.length_toList
 have hL':d'.toList=d.toList.take a++(((d.toList.drop m).take (e - m)++(d.toList.drop a).take (m - a))++d.toList.drop e):=by
  apply List.ext_getElem?
  intro t
  rcases Nat.lt_or_ge t d.size with hlt | hge
  ·have h1:d'.toList[t]? = some (Rot d a m e t):=by
    rw [<- hd t,getElem!_pos d' t (by omega)]
    simp [show t<d'.size by omega]
   have hget:∀ s,s<d.size->d.toList[s]? = some d[s]! :=fun s hs=>by
    rw [getElem!_pos d s hs]; simp [hs]
   rw [h1]
   unfold Rot
   have l1:(d.toList.take a).length=a:=by rw [List.length_take]; omega
   have l2:((d.toList.drop m).take (e - m)).length=e - m:=by rw [List.length_take,List.length_drop]; omega
   have l3:((d.toList.drop a).take (m - a)).length=m - a:=by rw [List.length_take,List.length_drop]; omega
   split
   ·rename_i c
    rw [List.getElem?_append_left (by omega),List.getElem?_take_of_lt c,hget t hlt]
   ·rw [List.getElem?_append_right (by omega),l1]
    split
    ·rw [List.getElem?_append_left (by rw [List.length_append]; omega),List.getElem?_append_left (by omega),List.getElem?_take_of_lt (by omega),List.getElem?_drop,hget _ (by omega)]
     congr 2; omega
    ·split
     ·rw [List.getElem?_append_left (by rw [List.length_append]; omega),List.getElem?_append_right (by omega),l2,List.getElem?_take_of_lt (by omega),List.getElem?_drop,hget _ (by omega)]
      congr 2; omega
     ·rw [List.getElem?_append_right (by rw [List.length_append]; omega),List.length_append,l2,l3,List.getElem?_drop,hget _ (by omega)]
      congr 2; omega
  ·rw [List.getElem?_eq_none (by rw [Array.length_toList]; omega),List.getElem?_eq_none]
   simp only [List.length_append,List.length_take,List.length_drop,hlen]
   omega
 rw [hL',hL]
 rw [<- hL]
 have hmem:∀ (x:α) (s n:Nat),x∈(d.toList.drop s).take n->∃ p,s<=p/\p<s+n/\x=d[p]! :=fun x s n hx=>by
  obtain ⟨k,hk,rfl⟩:=List.getElem_of_mem hx
  rw [List.length_take,List.length_drop] at hk
  refine ⟨s+k,by omega,by omega,?_⟩
  rw [getElem!_pos d (s+k) (by omega)]
  simp
 conv=>lhs; rw [hL]
 refine (SameK.refl rk _).app rk ((SameK.swapL rk fun x hx y hy =>?_).app rk (SameK.refl rk _))
 obtain ⟨p,p1,p2,rfl⟩:=hmem _ _ _ hx
 obtain ⟨q,q1,q2,rfl⟩:=hmem _ _ _ hy
 exact hr p q p1 (by omega) q1 (by omega)
theorem rot_mrg {d d':Array α} {a m e:Nat} (ham:a<=m) (hme:m<=e) (he:e<=d.size) (hs:d'.size=d.size) (hd:∀ t,d'[t]! = Rot d a m e t) (hr:∀ p q,a<=p->p<m->m<=q->q<e->rk d[p]! ≠ rk d[q]!):Mrg rk a e d d':=by
 refine ⟨hs,fun t ht =>?_,fun t h1 h2 =>?_,rot_same rk ham hme he hs hd hr⟩
 ·rw [hd]; unfold Rot
  split
  ·rfl
  ·rw [if_neg (by omega),if_neg (by omega)]
 ·rw [hd]; unfold Rot
  rw [if_neg (by omega)]
  split
  ·exact ⟨_,by omega,by omega,rfl⟩
  ·first | (rw [if_pos h2]; exact ⟨_,by omega,by omega,rfl⟩) | exact ⟨_,by omega,by omega,rfl⟩
def Swr (d:Array α) (a m n t:Nat):α:=if a<=t/\t<a+n then d[t+(m - a)]! else if m<=t/\t<m+n then d[t - (m - a)]! else d[t]!
theorem swr_zero (d:Array α) (a m t:Nat):d[t]! = Swr d a m 0 t:=by
 unfold Swr
 rw [if_neg (by omega),if_neg (by omega)]
theorem swr_step {d d1:Array α} {a m k:Nat} (h:a+k<m) (hk:m+k<d.size) (hs:d1.size=d.size) (hd:∀ t,d1[t]! = Swr d a m k t) (t:Nat):(swp d1 (a+k) (m+k))[t]! = Swr d a m (k+1) t:=by
 rw [Go.Sort.swp_get d1 (by omega) (by omega) t,hd,hd,hd]
 unfold Swr
 repeat' split
 all_goals first | rfl | (exfalso; omega) | (congr 1; omega)
theorem rot_left {d d1:Array α} {m p q:Nat} (hp:p<=m) (hq:q<p) (hd:∀ t,d1[t]! = Swr d (m - p) m q t) (t:Nat):Rot d1 (m - (p - q)) m (m+q) t=Rot d (m - p) m (m+q) t:=by
 unfold Rot
 simp only [hd]
 unfold Swr
 repeat' split
 all_goals first | rfl | (exfalso; omega) | (congr 1; omega)
theorem rot_right {d d1:Array α} {m p q:Nat} (hp:p<=m) (hq:p<q) (hd:∀ t,d1[t]! = Swr d (m - p) (m+q - p) p t) (t:Nat):Rot d1 (m - p) m (m+(q - p)) t=Rot d (m - p) m (m+q) t:=by
 unfold Rot
 simp only [hd]
 unfold Swr
 repeat' split
 all_goals first | rfl | (exfalso; omega) | (congr 1; omega)
theorem rot_even {d:Array α} {m p:Nat} (hp:p<=m) (t:Nat):Swr d (m - p) m p t=Rot d (m - p) m (m+p) t:=by
 unfold Rot Swr
 repeat' split
 all_goals first | rfl | (exfalso; omega) | (congr 1; omega)
theorem rot_none_l (d:Array α) (m e t:Nat) (h:m<=e):d[t]! = Rot d m m e t:=by
 unfold Rot
 repeat' split
 all_goals first | rfl | (exfalso; omega) | (congr 1; omega)
theorem rot_none_r (d:Array α) (a m t:Nat):d[t]! = Rot d a m m t:=by
 unfold Rot
 repeat' split
 all_goals first | rfl | (exfalso; omega) | (congr 1; omega)
theorem rot_up {d d1:Array α} {a k:Nat} (hk:a<=k) (hks:k+1<d.size) (hs:d1.size=d.size) (hd:∀ t,d1[t]! = Rot d a (a+1) (k+1) t) (t:Nat):(swp d1 k (k+1))[t]! = Rot d a (a+1) (k+1+1) t:=by
 rw [Go.Sort.swp_get d1 (by omega) (by omega) t,hd,hd,hd]
 unfold Rot
 repeat' split
 all_goals first | rfl | (exfalso; omega) | (congr 1; omega)
theorem rot_down {d d1:Array α} {m k:Nat} (hk:k<m) (hms:m<d.size) (hs:d1.size=d.size) (hd:∀ t,d1[t]! = Rot d (k+1) m (m+1) t) (t:Nat):(swp d1 (k+1) k)[t]! = Rot d k m (m+1) t:=by
 rw [Go.Sort.swp_get d1 (by omega) (by omega) t,hd,hd,hd]
 unfold Rot
 repeat' split
 all_goals first | rfl | (exfalso; omega) | (congr 1; omega)
theorem merged {d d1 d2 d3:Array α} {a m e s f mid:Nat} (hs:a<=s) (hsm:s<=m) (hmf:m<=f) (hf:f<=e) (he:e<=d.size) (hmid:s+(f - m)=mid) (u:SrtI rk d a m) (v:SrtI rk d m e)
  (x1:m<f->s<m->rk d[f - 1]! < rk d[s]!) (x2:a<s->f<e->rk d[s - 1]! <= rk d[f]!) (hz:d1.size=d.size) (hd:∀ t,d1[t]! = Rot d s m f t)
  (r1:Mrg rk a mid d1 d2) (o1:SrtI rk d2 a mid) (r2:Mrg rk mid e d2 d3) (o2:SrtI rk d3 mid e):Mrg rk a e d d3/\SrtI rk d3 a e:=by
 have vu:∀ p q,s<=p->p<m->m<=q->q<f->rk d[q]! < rk d[p]! :=fun p q p1 p2 q1 q2=>by
  have h1:=x1 (by omega) (by omega)
  have h2:=u s p hs p1 p2
  have h3:=v q (f - 1) q1 (by omega) (by omega)
  omega
 have m1:=rot_mrg rk hsm hmf (by omega) hz hd fun p q p1 p2 q1 q2=>by have:=vu p q p1 p2 q1 q2; omega
 have all:=((m1.mono rk hs hf).trans rk (r1.mono rk (Nat.le_refl _) (by omega))).trans rk (r2.mono rk (by omega) (Nat.le_refl _))
 refine ⟨all,fun p q p1 pq q1 =>?_⟩
 rcases Nat.lt_or_ge q mid with hq | hq
 ·rw [r2.out p (by omega),r2.out q (by omega)]
  exact o1 p q p1 pq hq
 rcases Nat.lt_or_ge p mid with hp | hp
 rotate_left
 ·exact o2 p q hp pq q1
 rw [r2.out p (by omega)]
 obtain ⟨i1,i2,i3,i4⟩:=r1.inn p p1 hp
 obtain ⟨j1,j2,j3,j4⟩:=r2.inn q hq q1
 rw [i4,j4,r1.out j1 (by omega),hd,hd]
 unfold Rot
 have left:∀ y,(f<=e->(∀ t,a<=t->t<s->rk d[t]! <= y)->(∀ t,m<=t->t<f->rk d[t]! <= y)->rk (if i1<s then d[i1]! else if i1<s+(f - m) then d[i1+(m - s)]! else if i1<f then d[i1 - (f - m)]! else d[i1]!)<=y):=fun y _ h1 h2=>by
  split
  ·exact h1 i1 i2 (by assumption)
  ·rw [if_pos (by omega)]
   exact h2 _ (by omega) (by omega)
 rw [if_neg (show ¬ j1<s by omega),if_neg (show ¬ j1<s+(f - m) by omega)]
 by_cases hj:j1<f
 ·rw [if_pos hj]
  refine left _ hf (fun t t1 t2=>u t _ t1 (by omega) (by omega)) fun t t1 t2=>Nat.le_of_lt (vu _ t (by omega) (by omega) t1 t2)
 ·rw [if_neg hj]
  refine left _ hf (fun t t1 t2 =>?_) fun t t1 t2=>v t _ t1 (by omega) j3
  have h1:=u t (s - 1) t1 (by omega) (by omega)
  have h2:=x2 (by omega) (by omega)
  have h3:=v f j1 (by omega) (by omega) j3
  omega
end
end Go.AM
end
section
namespace Go.AM
open Go.Sort (swp)
set_option maxRecDepth 20000
section
variable {α:Type} [Inhabited α] {E:Sy} {H H':AH} {Q:Value->AH->Prop} {b c n:Nat} {enc:α->List Value} {fv:Value} {d:Array α} {tail:List Value} {f:Option Nat}
theorem S.f54 (hE:Fold E) (he:EncOk 3 enc) (hg:H.get b=arrM enc d tail f) (hn:d.size=n) (hsz:n<2 ^ 60) (a m k:Nat) (ham:a+k<=m) (hmk:m+k<=n)
  (hQ:∀ d' H',d'.size=n->(∀ t,d'[t]! = Swr d a m k t)->SortMo H b enc tail f d' H'->Q (.tuple #[]) H'):E.call (E.fid i.f54) [slc b 0 n c,vi a,vi m,vi k,fv] H Q:=by
 apply hE.f54
 simp only [F.f54,stdZ]
 have i0:(.int .i64 0:Value)=vi ((0:Nat):Int):=rfl
 rw [i0]
 refine LoopL.count k (fun j ls H'=>ls=[slc b 0 n c,vi a,vi m,vi k,vi j]/\∃ d',d'.size=n/\(∀ t,d'[t]! = Swr d a m j t)/\SortMo H b enc tail f d' H') ?_ ⟨rfl,d,hn,swr_zero d a m,.refl hg⟩
 rintro j _ H1 X hj ih ⟨rfl,d1,n1,r1,s1⟩
 rcases Nat.lt_or_ge j k with hlt | hge
 ·have hlt':decide ((j:Int)<k)=true:=decide_eq_true (by omega)
  have a1:=i64_add_nat a j (by omega)
  have a2:=i64_add_nat m j (by omega)
  have a3:=i64_succ j (by omega)
  have f1:=mrr_ix (sz:=3) (b:=b) (c:=c) (n:=n) (i:=a+j) (by omega)
  have f2:=mrr_ix (sz:=3) (b:=b) (c:=c) (n:=n) (i:=m+j) (by omega)
  have g1:=mrr_load he s1.get (i:=a+j) (by omega)
  have g2:=mrr_load he s1.get (i:=m+j) (by omega)
  obtain ⟨w1,w2⟩:=mrr_swap he s1.get (i:=a+j) (j:=m+j) (by omega) (by omega)
  have hst:=swr_step (d:=d) (d1:=d1) (a:=a) (m:=m) (k:=j) (by omega) (by omega) (by omega) r1
  have s2:=s1.put (swp d1 (a+j) (m+j))
  have n2:(swp d1 (a+j) (m+j)).size=n:=by rw [Go.Sort.size_swp]; exact n1
  have ih:=fun H' s=>ih hlt [slc b 0 n c,vi a,vi m,vi k,vi ((j+1:Nat):Int)] H' ⟨rfl,_,n2,hst,s⟩
  generalize swp d1 (a+j) (m+j)=d2 at *
  generalize a+j=p at *
  generalize m+j=q at *
  simp only [F.f54_l1,i64_lss,hlt',a1,a2,a3,f1,f2,g1,g2,w1,w2,stdZ]
  exact ih _ s2
 ·have hje:j=k:=by omega
  subst hje
  have hlt':decide ((j:Int)<j)=false:=decide_eq_false (by omega)
  simp only [F.f54_l1,i64_lss,hlt',stdZ]
  exact hQ d1 H1 n1 r1 s1
theorem S.f51 (hE:Fold E) (he:EncOk 3 enc) (hg:H.get b=arrM enc d tail f) (hn:d.size=n) (hsz:n<2 ^ 60) (a m e:Nat) (ham:a<m) (hme:m<e) (hen:e<=n)
  (hQ:∀ d' H',d'.size=n->(∀ t,d'[t]! = Rot d a m e t)->SortMo H b enc tail f d' H'->Q (.tuple #[]) H'):E.call (E.fid i.f51) [slc b 0 n c,vi a,vi m,vi e,fv] H Q:=by
 apply hE.f51
 have a1:=i64_sub_nat m a (by omega) (by omega)
 have a2:=i64_sub_nat e m (by omega) (by omega)
 simp only [F.f51,a1,a2,stdZ]
 refine LoopL.ind (fun w ls H'=>∃ (p q:Nat) (d1:Array α),w=p+q/\ls=[slc b 0 n c,vi m,fv,vi p,vi q]/\0<p/\0<q/\p<=m/\m+q<=n/\d1.size=n/\(∀ t,Rot d1 (m - p) m (m+q) t=Rot d a m e t)/\SortMo H b enc tail f d1 H') ?_ (m - a+(e - m)) ⟨m - a,e - m,d,rfl,rfl,by omega,by omega,by omega,by omega,hn,fun t=>by rw [show m - (m - a)=a by omega,show m+(e - m)=e by omega],.refl hg⟩
 rintro w _ H1 X ih ⟨p,q,d1,rfl,rfl,hp,hq,hpm,hmq,n1,r1,s1⟩
 have b1:=i64_sub_nat m p (by omega) (by omega)
 by_cases hpq:p=q
 ·subst hpq
  have hne:decide ((p:Int)≠p)=false:=decide_eq_false (by simp)
  simp only [F.f51_l1,i64_neq,hne,b1,stdZ]
  refine S.f54 hE he s1.get n1 hsz (m - p) m p (by omega) (by omega) fun d2 H2 n2 r2 s2 =>?_
  exact hQ d2 H2 n2 (fun t=>by rw [r2,rot_even hpm,r1]) (s1.trans s2)
 have hne:decide ((p:Int)≠q)=true:=decide_eq_true (by omega)
 by_cases hlt:q<p
 ·have hgt:decide ((q:Int)<p)=true:=decide_eq_true (by omega)
  have b2:=i64_sub_nat p q (by omega) (by omega)
  simp only [F.f51_l1,i64_neq,hne,i64_gtr,hgt,b1,stdZ]
  refine S.f54 hE he s1.get n1 hsz (m - p) m q (by omega) (by omega) fun d2 H2 n2 r2 s2 =>?_
  simp only [b2,stdZ]
  exact ih (p - q+q) (by omega) _ _ ⟨p - q,q,d2,rfl,rfl,by omega,hq,by omega,hmq,n2,fun t=>by rw [rot_left hpm hlt r2,r1],s1.trans s2⟩
 ·have hgt:decide ((q:Int)<p)=false:=decide_eq_false (by omega)
  have b2:=i64_sub_nat q p (by omega) (by omega)
  have b3:=i64_add_nat m q (by omega)
  have b4:=i64_sub_nat (m+q) p (by omega) (by omega)
  simp only [F.f51_l1,i64_neq,hne,i64_gtr,hgt,b1,b3,b4,stdZ]
  refine S.f54 hE he s1.get n1 hsz (m - p) (m+q - p) p (by omega) (by omega) fun d2 H2 n2 r2 s2 =>?_
  simp only [b2,stdZ]
  exact ih (p+(q - p)) (by omega) _ _ ⟨p,q - p,d2,rfl,rfl,hp,by omega,hpm,by omega,n2,fun t=>by rw [rot_right hpm (by omega) r2,r1],s1.trans s2⟩
end
end Go.AM
end
section
namespace Go.AM
open Go.Sort (swp SWO PermIn SortedIn insertionSort)
set_option maxRecDepth 20000
section
variable {α:Type} [Inhabited α] (rk:α->Nat)
theorem rot_first {d d1:Array α} {a m e s f mid:Nat} (hs:a<=s) (hsm:s<=m) (hmf:m<=f) (hf:f<=e) (hmid:s+(f - m)=mid) (u:SrtI rk d a m) (v:SrtI rk d m e) (hd:∀ t,d1[t]! = Rot d s m f t)
  (h:∀ p q,a<=p->p<s->m<=q->q<f->rk d[p]! <= rk d[q]!):SrtI rk d1 a mid:=fun p q p1 pq q1=>by
 rw [hd,hd]
 unfold Rot
 by_cases hp:p<s
 ·rw [if_pos hp]
  by_cases hq:q<s
  ·rw [if_pos hq]; exact u p q p1 pq (by omega)
  ·rw [if_neg hq,if_pos (by omega)]; exact h p _ p1 hp (by omega) (by omega)
 ·rw [if_neg hp,if_pos (by omega),if_neg (by omega),if_pos (by omega)]
  exact v _ _ (by omega) (by omega) (by omega)
theorem rot_second {d d1:Array α} {a m e s f mid:Nat} (hs:a<=s) (hsm:s<=m) (hmf:m<=f) (hf:f<=e) (hmid:s+(f - m)=mid) (u:SrtI rk d a m) (v:SrtI rk d m e) (hd:∀ t,d1[t]! = Rot d s m f t)
  (h:∀ p q,s<=p->p<m->f<=q->q<e->rk d[p]! <= rk d[q]!):SrtI rk d1 mid e:=fun p q p1 pq q1=>by
 rw [hd,hd]
 unfold Rot
 rw [if_neg (show ¬ p<s by omega),if_neg (show ¬ p<s+(f - m) by omega),if_neg (show ¬ q<s by omega),if_neg (show ¬ q<s+(f - m) by omega)]
 by_cases hp:p<f
 ·rw [if_pos hp]
  by_cases hq:q<f
  ·rw [if_pos hq]; exact u _ _ (by omega) (by omega) (by omega)
  ·rw [if_neg hq]; exact h _ q (by omega) (by omega) (by omega) q1
 ·rw [if_neg hp,if_neg (by omega)]
  exact v _ _ (by omega) pq q1
theorem merged_now {d d1:Array α} {a m e s f:Nat} (hs:a<=s) (hsm:s<=m) (hmf:m<=f) (hf:f<=e) (he:e<=d.size) (u:SrtI rk d a m) (v:SrtI rk d m e)
  (x1:m<f->s<m->rk d[f - 1]! < rk d[s]!) (x2:a<s->f<e->rk d[s - 1]! <= rk d[f]!) (hz:d1.size=d.size) (hd:∀ t,d1[t]! = Rot d s m f t)
  (h1:∀ p q,a<=p->p<s->m<=q->q<f->rk d[p]! <= rk d[q]!) (h2:∀ p q,s<=p->p<m->f<=q->q<e->rk d[p]! <= rk d[q]!):Mrg rk a e d d1/\SrtI rk d1 a e :=
 merged rk hs hsm hmf hf he rfl u v x1 x2 hz hd (Mrg.refl rk _ _ _) (rot_first rk hs hsm hmf hf rfl u v hd h1) (Mrg.refl rk _ _ _) (rot_second rk hs hsm hmf hf rfl u v hd h2)
end
section
variable {α:Type} [Inhabited α] {rk:α->Nat} {E:Sy} {b c n:Nat} {enc:α->List Value} {fv:Value} {tail:List Value} {f:Option Nat}
theorem sym_one (hE:Fold E) (he:EncOk 3 enc) (hC:CmpOk E fv enc (ltK rk)) {H:AH} {Q:Value->AH->Prop} {d:Array α} (hg:H.get b=arrM enc d tail f) (hn:d.size=n) (hsz:n<2 ^ 40) {a m e:Nat} (ham:m=a+1) (hme:m<e) (hen:e<=n) (u:SrtI rk d a m) (v:SrtI rk d m e)
  (hQ:∀ d' H',Mrg rk a e d d'->SrtI rk d' a e->SortMo H b enc tail f d' H'->Q (.tuple #[]) H') :
  LoopL (fun l H X0=>F.f55_l1 E Q (nth l 0) (nth l 1) (nth l 2) (nth l 3) (nth l 4) H X0) [slc b 0 n c,vi a,fv,vi m,vi e] H:=by
 refine LoopL.ind (fun w ls H'=>∃ i j:Nat,w=j - i/\ls=[slc b 0 n c,vi a,fv,vi i,vi j]/\m<=i/\i<=j/\j<=e/\SortMo H b enc tail f d H'/\(∀ t,m<=t->t<i->rk d[t]! < rk d[a]!)/\(∀ t,j<=t->t<e->rk d[a]! <= rk d[t]!)) ?_ (e - m) ⟨m,e,rfl,rfl,Nat.le_refl _,by omega,Nat.le_refl _,.refl hg,fun t _ _=>by omega,fun t _ _=>by omega⟩
 rintro w _ H1 X ih ⟨i,j,rfl,rfl,hmi,hij,hje,s1,lo,hi⟩
 rcases Nat.lt_or_ge i j with hlt | hge
 ·have hlt':decide ((i:Int)<j)=true:=decide_eq_true (by omega)
  have hadd:=i64_add_nat i j (by omega)
  obtain ⟨y,y1,y2,y3⟩:=half i j (by omega)
  have hh:i<=(i+j) / 2/\(i+j) / 2<j:=by omega
  generalize (i+j) / 2=h at *
  have f1:=mrr_ix (sz:=3) (b:=b) (c:=c) (n:=n) (i:=h) (by omega)
  have f2:=mrr_ix (sz:=3) (b:=b) (c:=c) (n:=n) (i:=a) (by omega)
  have g1:=mrr_load he s1.get (i:=h) (by omega)
  have g2:=mrr_load he s1.get (i:=a) (by omega)
  have hinc:=i64_succ h (by omega)
  simp only [F.f55_l1,i64_lss,hlt',hadd,y1,y2,y3,f1,f2,g1,g2,stdZ]
  refine hC _ _ _ _ fun z H2 e2 hz =>?_
  have s2:=s1.ext e2
  by_cases hl:rk d[h]! < rk d[a]!
  ·have hd:ltK rk d[h]! d[a]! = true:=decide_eq_true hl
   simp only [i64_lss,hz,hd,hinc,stdZ]
   exact ih (j - (h+1)) (by omega) _ _ ⟨h+1,j,rfl,rfl,by omega,by omega,hje,s2,fun t t1 t2=>Nat.lt_of_le_of_lt (v t h t1 (by omega) (by omega)) hl,hi⟩
  ·have hd:ltK rk d[h]! d[a]! = false:=decide_eq_false hl
   simp only [i64_lss,hz,hd,stdZ]
   exact ih (h - i) (by omega) _ _ ⟨i,h,rfl,rfl,hmi,by omega,by omega,s2,lo,fun t t1 t2=>Nat.le_trans (by omega) (v h t (by omega) t1 t2)⟩
 have hje':i=j:=by omega
 subst hje'
 have hlt':decide ((i:Int)<i)=false:=decide_eq_false (by omega)
 simp only [F.f55_l1,i64_lss,hlt',stdZ]
 clear ih
 have hi1:binInt .sub (vi (i:Int)) (.int .i64 1)=some (vi ((i - 1:Nat):Int)):=i64_dec i (by omega) (by omega)
 refine LoopL.ind (fun w ls H'=>∃ (k:Nat) (d1:Array α),w=i - 1 - k/\ls=[slc b 0 n c,vi i,vi k]/\a<=k/\k<=i - 1/\d1.size=n/\(∀ t,d1[t]! = Rot d a (a+1) (k+1) t)/\SortMo H b enc tail f d1 H') ?_ (i - 1 - a) ⟨a,d,rfl,rfl,Nat.le_refl _,by omega,hn,rot_none_r d a (a+1),s1⟩
 rintro w _ H2 X2 ih ⟨k,d1,rfl,rfl,hak,hki,n1,r1,s2⟩
 rcases Nat.lt_or_ge k (i - 1) with hlt | hge
 ·have hlt2:decide ((k:Int)<((i - 1:Nat):Int))=true:=decide_eq_true (by omega)
  have a1:=i64_succ k (by omega)
  have f1:=mrr_ix (sz:=3) (b:=b) (c:=c) (n:=n) (i:=k) (by omega)
  have f2:=mrr_ix (sz:=3) (b:=b) (c:=c) (n:=n) (i:=k+1) (by omega)
  have g1:=mrr_load he s2.get (i:=k) (by omega)
  have g2:=mrr_load he s2.get (i:=k+1) (by omega)
  obtain ⟨w1,w2⟩:=mrr_swap he s2.get (i:=k) (j:=k+1) (by omega) (by omega)
  have hr:=rot_up hak (by omega) (by omega:d1.size=d.size) r1
  have n2:(swp d1 k (k+1)).size=n:=by rw [Go.Sort.size_swp]; exact n1
  have ih:=ih (i - 1 - (k+1)) (by omega) [slc b 0 n c,vi i,vi ((k+1:Nat):Int)] _ ⟨k+1,_,rfl,rfl,by omega,by omega,n2,hr,s2.put _⟩
  generalize swp d1 k (k+1)=d2 at *
  simp only [F.f55_l2,i64_lss,hi1,hlt2,a1,f1,f2,g1,g2,w1,w2,stdZ]
  exact ih
 ·have hke:k=i - 1:=by omega
  have hk1:k+1=i:=by omega
  have hlt2:decide ((k:Int)<((i - 1:Nat):Int))=false:=decide_eq_false (by omega)
  rw [hk1] at r1
  rw [<- ham] at r1
  obtain ⟨m1,m2⟩:=merged_now rk (Nat.le_refl a) (by omega) (by omega) hje (by omega) u v (fun h1 _=>lo (i - 1) (by omega) (by omega)) (fun h _=>by omega) (by omega) r1 (fun p q p1 p2 _ _=>by omega) (fun p q p1 p2 q1 q2=>by
   have:p=a:=by omega
   subst this
   exact hi q q1 q2)
  simp only [F.f55_l2,i64_lss,hi1,hlt2,stdZ]
  exact hQ d1 H2 m1 m2 s2
theorem sym_last (hE:Fold E) (he:EncOk 3 enc) (hC:CmpOk E fv enc (ltK rk)) {H:AH} {Q:Value->AH->Prop} {d:Array α} (hg:H.get b=arrM enc d tail f) (hn:d.size=n) (hsz:n<2 ^ 40) {a m e:Nat} (ham:a<m) (hme:e=m+1) (hen:e<=n) (u:SrtI rk d a m) (v:SrtI rk d m e)
  (hQ:∀ d' H',Mrg rk a e d d'->SrtI rk d' a e->SortMo H b enc tail f d' H'->Q (.tuple #[]) H') :
  LoopL (fun l H X0=>F.f55_l3 E Q (nth l 0) (nth l 1) (nth l 2) (nth l 3) (nth l 4) H X0) [slc b 0 n c,vi m,fv,vi a,vi m] H:=by
 refine LoopL.ind (fun w ls H'=>∃ i j:Nat,w=j - i/\ls=[slc b 0 n c,vi m,fv,vi i,vi j]/\a<=i/\i<=j/\j<=m/\SortMo H b enc tail f d H'/\(∀ t,a<=t->t<i->rk d[t]! <= rk d[m]!)/\(∀ t,j<=t->t<m->rk d[m]! < rk d[t]!)) ?_ (m - a) ⟨a,m,rfl,rfl,Nat.le_refl _,by omega,Nat.le_refl _,.refl hg,fun t _ _=>by omega,fun t _ _=>by omega⟩
 rintro w _ H1 X ih ⟨i,j,rfl,rfl,hmi,hij,hje,s1,lo,hi⟩
 rcases Nat.lt_or_ge i j with hlt | hge
 ·have hlt':decide ((i:Int)<j)=true:=decide_eq_true (by omega)
  have hadd:=i64_add_nat i j (by omega)
  obtain ⟨y,y1,y2,y3⟩:=half i j (by omega)
  have hh:i<=(i+j) / 2/\(i+j) / 2<j:=by omega
  generalize (i+j) / 2=h at *
  have f1:=mrr_ix (sz:=3) (b:=b) (c:=c) (n:=n) (i:=m) (by omega)
  have f2:=mrr_ix (sz:=3) (b:=b) (c:=c) (n:=n) (i:=h) (by omega)
  have g1:=mrr_load he s1.get (i:=m) (by omega)
  have g2:=mrr_load he s1.get (i:=h) (by omega)
  have hinc:=i64_succ h (by omega)
  simp only [F.f55_l3,i64_lss,hlt',hadd,y1,y2,y3,f1,f2,g1,g2,stdZ]
  refine hC _ _ _ _ fun z H2 e2 hz =>?_
  have s2:=s1.ext e2
  by_cases hl:rk d[m]! < rk d[h]!
  ·have hd:ltK rk d[m]! d[h]! = true:=decide_eq_true hl
   simp only [i64_lss,hz,hd,un_not_z,Bool.not_true,stdZ]
   exact ih (h - i) (by omega) _ _ ⟨i,h,rfl,rfl,hmi,by omega,by omega,s2,lo,fun t t1 t2=>Nat.lt_of_lt_of_le hl (u h t (by omega) t1 t2)⟩
  ·have hd:ltK rk d[m]! d[h]! = false:=decide_eq_false hl
   simp only [i64_lss,hz,hd,un_not_z,Bool.not_false,hinc,stdZ]
   exact ih (j - (h+1)) (by omega) _ _ ⟨h+1,j,rfl,rfl,by omega,by omega,hje,s2,fun t t1 t2=>Nat.le_trans (u t h t1 (by omega) (by omega)) (by omega),hi⟩
 have hje':i=j:=by omega
 subst hje'
 have hlt':decide ((i:Int)<i)=false:=decide_eq_false (by omega)
 simp only [F.f55_l3,i64_lss,hlt',stdZ]
 clear ih
 refine LoopL.ind (fun w ls H'=>∃ (k:Nat) (d1:Array α),w=k - i/\ls=[slc b 0 n c,vi i,vi k]/\i<=k/\k<=m/\d1.size=n/\(∀ t,d1[t]! = Rot d k m (m+1) t)/\SortMo H b enc tail f d1 H') ?_ (m - i) ⟨m,d,rfl,rfl,hje,Nat.le_refl _,hn,fun t=>rot_none_l d m (m+1) t (by omega),s1⟩
 rintro w _ H2 X2 ih ⟨k,d1,rfl,rfl,hak,hki,n1,r1,s2⟩
 rcases Nat.lt_or_ge i k with hlt | hge
 ·obtain ⟨k,rfl⟩:∃ k',k=k'+1:=⟨k - 1,by omega⟩
  have hlt2:decide ((i:Int)<((k+1:Nat):Int))=true:=decide_eq_true (by omega)
  have a1:binInt .sub (vi ((k+1:Nat):Int)) (.int .i64 1)=some (vi (k:Int)):=i64_dec (k+1) (by omega) (by omega)
  have f1:=mrr_ix (sz:=3) (b:=b) (c:=c) (n:=n) (i:=k) (by omega)
  have f2:=mrr_ix (sz:=3) (b:=b) (c:=c) (n:=n) (i:=k+1) (by omega)
  have g1:=mrr_load he s2.get (i:=k) (by omega)
  have g2:=mrr_load he s2.get (i:=k+1) (by omega)
  obtain ⟨w1,w2⟩:=mrr_swap he s2.get (i:=k+1) (j:=k) (by omega) (by omega)
  have hr:=rot_down (by omega) (by omega) (by omega:d1.size=d.size) r1
  have n2:(swp d1 (k+1) k).size=n:=by rw [Go.Sort.size_swp]; exact n1
  have ih:=ih (k - i) (by omega) [slc b 0 n c,vi i,vi (k:Int)] _ ⟨k,_,rfl,rfl,by omega,by omega,n2,hr,s2.put _⟩
  generalize swp d1 (k+1) k=d2 at *
  simp only [F.f55_l4,i64_gtr,hlt2,a1,f1,f2,g1,g2,w1,w2,stdZ]
  exact ih
 ·have hke:k=i:=by omega
  subst hke
  have hlt2:decide ((k:Int)<(k:Int))=false:=decide_eq_false (by omega)
  subst hme
  obtain ⟨m1,m2⟩:=merged_now rk hmi hje (by omega) (Nat.le_refl _) (by omega) u v (fun _ h2=>by rw [Nat.add_sub_cancel]; exact hi k (Nat.le_refl _) h2) (fun _ h=>by omega) (by omega) r1 (fun p q p1 p2 q1 q2=>by
   have:q=m:=by omega
   subst this
   exact lo p p1 p2) (fun p q p1 p2 q1 q2=>by omega)
  simp only [F.f55_l4,i64_gtr,hlt2,stdZ]
  exact hQ d1 H2 m1 m2 s2
theorem S.f55 (hE:Fold E) (he:EncOk 3 enc) (hC:CmpOk E fv enc (ltK rk)):∀ (w:Nat) {H:AH} {Q:Value->AH->Prop} {d:Array α} (_:H.get b=arrM enc d tail f) (_:d.size=n) (_:n<2 ^ 40) (a m e:Nat) (_:a<m) (_:m<e) (_:e<=n) (_:SrtI rk d a m) (_:SrtI rk d m e) (_:e - a<=w)
  (_:∀ d' H',Mrg rk a e d d'->SrtI rk d' a e->SortMo H b enc tail f d' H'->Q (.tuple #[]) H'),E.call (E.fid i.f55) [slc b 0 n c,vi a,vi m,vi e,fv] H Q:=by
 intro w
 induction w using Nat.strongRecOn with
 | _ w IH =>
 intro H Q d hg hn hsz a m e ham hme hen u v hw hQ
 apply hE.f55
 have b1:=i64_sub_nat m a (by omega) (by omega)
 have b2:=i64_sub_nat e m (by omega) (by omega)
 by_cases c1:m - a=1
 ·have d1:decide (((m - a:Nat):Int)=1)=true:=decide_eq_true (by omega)
  simp only [F.f55,b1,i64_eql,d1,stdZ]
  exact sym_one hE he hC hg hn hsz (by omega) hme hen u v hQ
 have d1:decide (((m - a:Nat):Int)=1)=false:=decide_eq_false (by omega)
 by_cases c2:e - m=1
 ·have d2:decide (((e - m:Nat):Int)=1)=true:=decide_eq_true (by omega)
  simp only [F.f55,b1,b2,i64_eql,d1,d2,stdZ]
  exact sym_last hE he hC hg hn hsz ham (by omega) hen u v hQ
 have d2:decide (((e - m:Nat):Int)=1)=false:=decide_eq_false (by omega)
 have b3:=i64_add_nat a e (by omega)
 obtain ⟨y,y1,y2,y3⟩:=half a e (by omega)
 have hmid:2*((a+e) / 2)<=a+e/\a+e<=2*((a+e) / 2)+1:=by omega
 generalize (a+e) / 2=mid at *
 have b4:=i64_add_nat mid m (by omega)
 have cut:∀ (s:Nat) (H1:AH),SortMo H b enc tail f d H1->a<=s->s<=m->s<=mid->m<=mid+m - s->mid+m - s<=e ->
   (m<mid+m - s->s<m->rk d[mid+m - s - 1]! < rk d[s]!)->(a<s->mid+m - s<e->rk d[s - 1]! <= rk d[mid+m - s]!)->∀ d1,d1.size=n->(∀ t,d1[t]! = Rot d s m (mid+m - s) t)->SortMo H b enc tail f d1 H1\/True->∀ H2,SortMo H b enc tail f d1 H2 ->
   F.f55_j2 E Q (slc b 0 n c) (vi a) (vi e) fv (vi mid) (vi s) (vi ((mid+m - s:Nat):Int)) H2:=by
  intro s H1 _ hs hsm hsmid hmf hfe x1 x2 d1 n1 r1 _ H2 s2
  generalize hf:mid+m - s=ff at *
  have hmm:s+(ff - m)=mid:=by omega
  have sec:∀ d2 H3,Mrg rk a mid d1 d2->SrtI rk d2 a mid->SortMo H b enc tail f d2 H3->F.f55_j3 E Q (slc b 0 n c) (vi e) fv (vi mid) (vi (ff:Int)) H3:=by
   intro d2 H3 m2 o2 s3
   have fin:∀ d3 H4,Mrg rk mid e d2 d3->SrtI rk d3 mid e->SortMo H b enc tail f d3 H4->Q (.tuple #[]) H4:=fun d3 H4 m3 o3 s4=>by
    obtain ⟨q1,q2⟩:=merged rk hs hsm hmf hfe (by omega) hmm u v x1 x2 (by omega) r1 m2 o2 m3 o3
    exact hQ d3 H4 q1 q2 s4
   have n2:d2.size=n:=by rw [m2.size]; exact n1
   have p1:SrtI rk d2 mid ff:=by
    refine SrtI.congr rk (d:=d1) (fun p q p1 pq q1 =>?_) fun t t1 t2=>m2.out t (by omega)
    rw [r1,r1]; unfold Rot
    rw [if_neg (by omega),if_neg (by omega),if_pos (by omega),if_neg (by omega),if_neg (by omega),if_pos (by omega)]
    exact u _ _ (by omega) (by omega) (by omega)
   have p2:SrtI rk d2 ff e:=by
    refine SrtI.congr rk (d:=d1) (fun p q p1 pq q1 =>?_) fun t t1 t2=>m2.out t (by omega)
    rw [r1,r1]; unfold Rot
    rw [if_neg (by omega),if_neg (by omega),if_neg (by omega),if_neg (by omega),if_neg (by omega),if_neg (by omega)]
    exact v _ _ (by omega) pq q1
   by_cases k1:mid<ff
   ·have e1:decide ((mid:Int)<(ff:Int))=true:=decide_eq_true (by omega)
    by_cases k2:ff<e
    ·have e2:decide ((ff:Int)<(e:Int))=true:=decide_eq_true (by omega)
     simp only [F.f55_j3,i64_lss,e1,e2,stdZ]
     refine IH (e - mid) (by omega) s3.get n2 hsz mid ff e k1 k2 hen p1 p2 (Nat.le_refl _) fun d3 H4 m3 o3 s4=>fin d3 H4 m3 o3 (s3.trans s4)
    ·have e2:decide ((ff:Int)<(e:Int))=false:=decide_eq_false (by omega)
     have:ff=e:=by omega
     simp only [F.f55_j3,i64_lss,e1,e2,stdZ]
     exact fin d2 H3 (Mrg.refl rk _ _ _) (this▸p1) s3
   ·have e1:decide ((mid:Int)<(ff:Int))=false:=decide_eq_false (by omega)
    have:mid=ff:=by omega
    simp only [F.f55_j3,i64_lss,e1,stdZ]
    exact fin d2 H3 (Mrg.refl rk _ _ _) (this▸p2) s3
  have p1:SrtI rk d1 a s:=fun p q p1 pq q1=>by
   rw [r1,r1]; unfold Rot
   rw [if_pos (by omega),if_pos (by omega)]
   exact u _ _ p1 pq (by omega)
  have p2:SrtI rk d1 s mid:=fun p q p1 pq q1=>by
   rw [r1,r1]; unfold Rot
   rw [if_neg (by omega),if_pos (by omega),if_neg (by omega),if_pos (by omega)]
   exact v _ _ (by omega) (by omega) (by omega)
  by_cases k1:a<s
  ·have e1:decide ((a:Int)<(s:Int))=true:=decide_eq_true (by omega)
   by_cases k2:s<mid
   ·have e2:decide ((s:Int)<(mid:Int))=true:=decide_eq_true (by omega)
    simp only [F.f55_j2,i64_lss,e1,e2,stdZ]
    refine IH (mid - a) (by omega) s2.get n1 hsz a s mid k1 k2 (by omega) p1 p2 (Nat.le_refl _) fun d3 H4 m3 o3 s4=>sec d3 H4 m3 o3 (s2.trans s4)
   ·have e2:decide ((s:Int)<(mid:Int))=false:=decide_eq_false (by omega)
    have:s=mid:=by omega
    simp only [F.f55_j2,i64_lss,e1,e2,stdZ]
    exact sec d1 H2 (Mrg.refl rk _ _ _) (this▸p1) s2
  ·have e1:decide ((a:Int)<(s:Int))=false:=decide_eq_false (by omega)
   have:a=s:=by omega
   simp only [F.f55_j2,i64_lss,e1,stdZ]
   exact sec d1 H2 (Mrg.refl rk _ _ _) (this▸p2) s2
 have search:∀ s0 r0:Nat,a<=s0->s0<=r0->r0<=m->r0<=mid->m<=mid+m - r0->mid+m - s0<=e->(s0=a\/mid+m - s0=e)->(r0=m\/r0=mid)->F.f55_j1 E Q (slc b 0 n c) (vi a) (vi m) (vi e) fv (vi mid) (vi ((mid+m:Nat):Int)) (vi s0) (vi r0) H:=by
  intro s0 r0 h1 h2 h3 h4 h5 h6 h7 h8
  have b5:=i64_dec (mid+m) (by omega) (by omega)
  simp only [F.f55_j1,b5,stdZ]
  refine LoopL.ind (fun w ls H'=>∃ s r:Nat,w=r - s/\ls=[slc b 0 n c,vi a,vi m,vi e,fv,vi mid,vi ((mid+m:Nat):Int),vi s,vi r,vi ((mid+m - 1:Nat):Int)]/\s0<=s/\s<=r/\r<=r0/\SortMo H b enc tail f d H'/\(s0<s->rk d[s - 1]! <= rk d[mid+m - s]!)/\(r<r0->rk d[mid+m - 1 - r]! < rk d[r]!)) ?_ (r0 - s0) ⟨s0,r0,rfl,rfl,Nat.le_refl _,h2,Nat.le_refl _,.refl hg,fun h=>by omega,fun h=>by omega⟩
  rintro w _ H1 X ih ⟨s,r,rfl,rfl,hs0,hsr,hr0,s1,lo,hi⟩
  rcases Nat.lt_or_ge s r with hlt | hge
  ·have hlt':decide ((s:Int)<r)=true:=decide_eq_true (by omega)
   have hadd:=i64_add_nat s r (by omega)
   obtain ⟨z',z1,z2,z3⟩:=half s r (by omega)
   have hh:s<=(s+r) / 2/\(s+r) / 2<r:=by omega
   generalize (s+r) / 2=h at *
   have b6:=i64_sub_nat (mid+m - 1) h (by omega) (by omega)
   have f1:=mrr_ix (sz:=3) (b:=b) (c:=c) (n:=n) (i:=mid+m - 1 - h) (by omega)
   have f2:=mrr_ix (sz:=3) (b:=b) (c:=c) (n:=n) (i:=h) (by omega)
   have g1:=mrr_load he s1.get (i:=mid+m - 1 - h) (by omega)
   have g2:=mrr_load he s1.get (i:=h) (by omega)
   have hinc:=i64_succ h (by omega)
   simp only [F.f55_l5,i64_lss,hlt',hadd,z1,z2,z3,b6,f1,f2,g1,g2,stdZ]
   refine hC _ _ _ _ fun z H2 e2 hz =>?_
   have s2:=s1.ext e2
   by_cases hl:rk d[mid+m - 1 - h]! < rk d[h]!
   ·have hd:ltK rk d[mid+m - 1 - h]! d[h]! = true:=decide_eq_true hl
    simp only [i64_lss,hz,hd,un_not_z,Bool.not_true,stdZ]
    exact ih (h - s) (by omega) _ _ ⟨s,h,rfl,rfl,hs0,by omega,by omega,s2,lo,fun _=>hl⟩
   ·have hd:ltK rk d[mid+m - 1 - h]! d[h]! = false:=decide_eq_false hl
    simp only [i64_lss,hz,hd,un_not_z,Bool.not_false,hinc,stdZ]
    exact ih (r - (h+1)) (by omega) _ _ ⟨h+1,r,rfl,rfl,by omega,by omega,hr0,s2,fun _=>by
     rw [Nat.add_sub_cancel,show mid+m - (h+1)=mid+m - 1 - h by omega]; omega,hi⟩
  have hje':s=r:=by omega
  subst hje'
  have hlt':decide ((s:Int)<s)=false:=decide_eq_false (by omega)
  have b6:=i64_sub_nat (mid+m) s (by omega) (by omega)
  have cut:=cut s H1 s1 (by omega) (by omega) (by omega) (by omega) (by omega) (fun k1 k2=>by
   have:=hi (by omega)
   rwa [show mid+m - 1 - s=mid+m - s - 1 by omega] at this) (fun k1 k2=>lo (by omega))
  by_cases k1:s<m
  ·have e1:decide ((s:Int)<(m:Int))=true:=decide_eq_true (by omega)
   by_cases k2:m<mid+m - s
   ·have e2:decide ((m:Int)<((mid+m - s:Nat):Int))=true:=decide_eq_true (by omega)
    simp only [F.f55_l5,i64_lss,hlt',b6,e1,e2,stdZ]
    refine S.f51 hE he s1.get hn (by omega) s m (mid+m - s) k1 k2 (by omega) fun d1 H2 n1 r1 s2 =>?_
    exact cut d1 n1 r1 (.inr trivial) H2 (s1.trans s2)
   ·have e2:decide ((m:Int)<((mid+m - s:Nat):Int))=false:=decide_eq_false (by omega)
    simp only [F.f55_l5,i64_lss,hlt',b6,e1,e2,stdZ]
    exact cut d hn (fun t=>by rw [show mid+m - s=m by omega]; exact rot_none_r d s m t) (.inr trivial) H1 s1
  ·have e1:decide ((s:Int)<(m:Int))=false:=decide_eq_false (by omega)
   simp only [F.f55_l5,i64_lss,hlt',b6,e1,stdZ]
   exact cut d hn (fun t=>by rw [show s=m by omega]; exact rot_none_l d m _ t (by omega)) (.inr trivial) H1 s1
 by_cases c3:mid<m
 ·have d3:decide ((mid:Int)<(m:Int))=true:=decide_eq_true (by omega)
  have b5:=i64_sub_nat (mid+m) e (by omega) (by omega)
  simp only [F.f55,b1,b2,i64_eql,d1,d2,b3,y1,y2,y3,b4,i64_gtr,d3,b5,stdZ]
  exact search (mid+m - e) mid (by omega) (by omega) (by omega) (Nat.le_refl _) (by omega) (by omega) (.inr (by omega)) (.inr rfl)
 ·have d3:decide ((mid:Int)<(m:Int))=false:=decide_eq_false (by omega)
  simp only [F.f55,b1,b2,i64_eql,d1,d2,b3,y1,y2,y3,b4,i64_gtr,d3,stdZ]
  exact search a m (Nat.le_refl _) (by omega) (Nat.le_refl _) (by omega) (by omega) (by omega) (.inl rfl) (.inl rfl)
end
end Go.AM
end
section
namespace Go.AM
open Go.Sort (swp SWO PermIn SortedIn insertionSort)
set_option maxRecDepth 20000
section
variable {α:Type} [Inhabited α] {rk:α->Nat} {E:Sy} {b c n:Nat} {enc:α->List Value} {fv:Value} {tail:List Value} {f:Option Nat}
theorem dvd_gap {k s a:Nat} (h1:k ∣ s) (h2:k ∣ a) (h:s<a):s+k<=a:=by
 obtain ⟨p,rfl⟩:=h1
 obtain ⟨q,rfl⟩:=h2
 have:p<q:=Nat.lt_of_mul_lt_mul_left h
 have:=Nat.mul_le_mul_left k this
 rw [Nat.mul_succ] at this
 exact this
def Blks (rk:α->Nat) (d:Array α) (B n:Nat):Prop:=∀ s,B ∣ s->SrtI rk d s (min (s+B) n)
theorem stable_l3 (hE:Fold E) (he:EncOk 3 enc) (hC:CmpOk E fv enc (ltK rk)) {H:AH} {Q:Value->AH->Prop} {d:Array α} (hg:H.get b=arrM enc d tail f) (hn:d.size=n) (hsz:n<2 ^ 40) {B:Nat} (hB:0<B) (hBn:B<n) (hb:Blks rk d B n) {X0:List Value->AH->Prop}
  (next:∀ d' H',d'.size=n->SameK rk d.toList d'.toList->Blks rk d' (2*B) n->SortMo H b enc tail f d' H'->X0 [slc b 0 n c,vi n,fv,vi ((2*B:Nat):Int)] H') :
  LoopL (fun l H X1=>F.f53_l3 E Q X0 (nth l 0) (nth l 1) (nth l 2) (nth l 3) (nth l 4) (nth l 5) H X1) [slc b 0 n c,vi n,fv,vi B,(.int .i64 0),vi ((2*B:Nat):Int)] H:=by
 refine LoopL.ind (fun w ls H'=>∃ (a:Nat) (d1:Array α),w=n - a/\ls=[slc b 0 n c,vi n,fv,vi B,vi a,vi ((a+2*B:Nat):Int)]/\a<=n/\2*B ∣ a/\d1.size=n/\SameK rk d.toList d1.toList/\(∀ s,2*B ∣ s->s<a->SrtI rk d1 s (s+2*B))/\(∀ s,B ∣ s->a<=s->SrtI rk d1 s (min (s+B) n))/\SortMo H b enc tail f d1 H') ?_ n
  ⟨0,d,rfl,by rw [Nat.zero_add]; rfl,Nat.zero_le _,⟨0,rfl⟩,hn,SameK.refl rk _,fun s _ h=>by omega,fun s h _=>hb s h,.refl hg⟩
 rintro w _ H1 X1 ih ⟨a,d1,rfl,rfl,han,hda,n1,sm,p1,p2,s1⟩
 have hBa:B ∣ a:=Nat.dvd_trans ⟨2,Nat.mul_comm 2 B⟩ hda
 have hBB:B ∣ a+B:=(Nat.dvd_add_right hBa).2 (Nat.dvd_refl B)
 have h2B:2*B ∣ a+2*B:=(Nat.dvd_add_right hda).2 (Nat.dvd_refl _)
 have u0:=p2 a hBa (Nat.le_refl _)
 have v0:=p2 (a+B) hBB (by omega)
 have a1:=i64_add_nat a B (by omega)
 have m1:binInt .mul (.int .i64 2) (vi (B:Int))=some (vi ((2*B:Nat):Int)):=by rw [i64_mul (by omega) (by omega)]; congr 2
 have m2:binInt .mul (vi (B:Int)) (.int .i64 2)=some (vi ((2*B:Nat):Int)):=by rw [i64_mul (by omega) (by omega)]; congr 2; omega
 have a2:=i64_add_nat (a+2*B) (2*B) (by omega)
 rcases Nat.lt_or_ge n (a+2*B) with hgt | hle
 ·have hle':decide (((a+2*B:Nat):Int)<=n)=false:=decide_eq_false (by omega)
  have fin:∀ d2 H2,d2.size=n->SameK rk d1.toList d2.toList->(∀ t,t<a->d2[t]! = d1[t]!)->SrtI rk d2 a n->SortMo H b enc tail f d2 H2->X0 [slc b 0 n c,vi n,fv,vi ((2*B:Nat):Int)] H2:=fun d2 H2 n2 sm2 out o2 s2=>by
   refine next d2 H2 n2 (SameK.trans rk sm sm2) (fun s hs =>?_) s2
   rcases Nat.lt_or_ge s a with h1 | h1
   ·have h2:=dvd_gap hs hda h1
    rw [Nat.min_eq_left (by omega)]
    exact SrtI.congr rk (p1 s hs h1) fun t t1 t2=>out t (by omega)
   ·rcases Nat.lt_or_ge a s with h2 | h2
    ·have h3:=dvd_gap hda hs h2
     exact SrtI.small rk _ (by omega)
    ·have:s=a:=by omega
     subst this
     rw [Nat.min_eq_right (by omega)]
     exact o2
  by_cases hm:a+B<n
  ·have hlt':decide (((a+B:Nat):Int)<n)=true:=decide_eq_true (by omega)
   simp only [F.f53_l3,i64_leq,hle',a1,i64_lss,hlt',stdZ]
   rw [Nat.min_eq_left (by omega)] at u0
   rw [Nat.min_eq_right (by omega)] at v0
   refine S.f55 hE he hC (n - a) s1.get n1 hsz a (a+B) n (by omega) hm (Nat.le_refl _) u0 v0 (Nat.le_refl _) fun d2 H2 g o s2 =>?_
   simp only [m2,stdZ]
   exact fin d2 H2 (by rw [g.size]; exact n1) g.same (fun t ht=>g.out t (.inl ht)) o (s1.trans s2)
  ·have hlt':decide (((a+B:Nat):Int)<n)=false:=decide_eq_false (by omega)
   rw [Nat.min_eq_right (by omega)] at u0
   simp only [F.f53_l3,i64_leq,hle',a1,i64_lss,hlt',m2,stdZ]
   exact fin d1 H1 n1 (SameK.refl rk _) (fun _ _=>rfl) u0 s1
 ·have hle':decide (((a+2*B:Nat):Int)<=n)=true:=decide_eq_true (by omega)
  rw [Nat.min_eq_left (by omega)] at u0 v0
  rw [show a+B+B=a+2*B by omega] at v0
  simp only [F.f53_l3,i64_leq,hle',a1,stdZ]
  refine S.f55 hE he hC (2*B) s1.get n1 hsz a (a+B) (a+2*B) (by omega) (by omega) hle u0 v0 (by omega) fun d2 H2 g o s2 =>?_
  simp only [m1,a2,stdZ]
  refine ih (n - (a+2*B)) (by omega) _ _ ⟨a+2*B,d2,rfl,rfl,hle,h2B,by rw [g.size]; exact n1,SameK.trans rk sm g.same,fun s hs h1 =>?_,fun s hs h1 =>?_,s1.trans s2⟩
  ·rcases Nat.lt_or_ge s a with h2 | h2
   ·have h3:=dvd_gap hs hda h2
    exact SrtI.congr rk (p1 s hs h2) fun t t1 t2=>g.out t (.inl (by omega))
   ·rcases Nat.lt_or_ge a s with h4 | h4
    ·have:=dvd_gap hda hs h4; omega
    ·have:s=a:=by omega
     subst this
     exact o
  ·exact SrtI.congr rk (p2 s hs (by omega)) fun t t1 t2=>g.out t (.inr (by omega))
theorem stable_l2 (hE:Fold E) (he:EncOk 3 enc) (hC:CmpOk E fv enc (ltK rk)) {H:AH} {Q:Value->AH->Prop} {d:Array α} (hg:H.get b=arrM enc d tail f) (hn:d.size=n) (hsz:n<2 ^ 40) (hb:Blks rk d 20 n)
  (hQ:∀ d' H',d'.size=n->SameK rk d.toList d'.toList->SrtI rk d' 0 n->SortMo H b enc tail f d' H'->Q (.tuple #[]) H') :
  LoopL (fun l H X0=>F.f53_l2 E Q (nth l 0) (nth l 1) (nth l 2) (nth l 3) H X0) [slc b 0 n c,vi n,fv,(.int .i64 20)] H:=by
 refine LoopL.ind (fun w ls H'=>∃ (B:Nat) (d1:Array α),w=n - B/\ls=[slc b 0 n c,vi n,fv,vi B]/\0<B/\d1.size=n/\SameK rk d.toList d1.toList/\Blks rk d1 B n/\SortMo H b enc tail f d1 H') ?_ (n - 20) ⟨20,d,rfl,rfl,by omega,hn,SameK.refl rk _,hb,.refl hg⟩
 rintro w _ H1 X0 ih ⟨B,d1,rfl,rfl,hB,n1,sm,p1,s1⟩
 rcases Nat.lt_or_ge B n with hlt | hge
 ·have hlt':decide ((B:Int)<n)=true:=decide_eq_true (by omega)
  have m1:binInt .mul (.int .i64 2) (vi (B:Int))=some (vi ((2*B:Nat):Int)):=by rw [i64_mul (by omega) (by omega)]; congr 2
  simp only [F.f53_l2,i64_lss,hlt',m1,stdZ]
  exact stable_l3 hE he hC s1.get n1 hsz hB hlt p1 fun d2 H2 n2 sm2 b2 s2=>ih (n - 2*B) (by omega) _ _ ⟨2*B,d2,rfl,rfl,by omega,n2,SameK.trans rk sm sm2,b2,s1.trans s2⟩
 ·have hlt':decide ((B:Int)<n)=false:=decide_eq_false (by omega)
  have o:=p1 0 ⟨0,rfl⟩
  rw [Nat.zero_add,Nat.min_eq_right hge] at o
  simp only [F.f53_l2,i64_lss,hlt',stdZ]
  exact hQ d1 H1 n1 sm o s1
theorem S.slices_SortStableFunc (hE:Fold E) (he:EncOk 3 enc) (hC:CmpOk E fv enc (ltK rk)) {H:AH} {Q:Value->AH->Prop} {d:Array α} (hg:H.get b=arrM enc d tail f) (hn:d.size=n) (hsz:n<2 ^ 40)
  (hQ:∀ d' H',d'.size=n->SameK rk d.toList d'.toList->SrtI rk d' 0 n->SortMo H b enc tail f d' H'->Q (.tuple #[]) H'):E.call (E.fid i.f36) [slc b 0 n c,fv] H Q:=by
 apply hE.f36
 simp only [F.f36,lenSlc_slc_z,stdZ]
 apply hE.f53
 simp only [F.f53,stdZ]
 refine LoopL.ind (fun w ls H'=>∃ (a:Nat) (d1:Array α),w=n - a/\ls=[slc b 0 n c,vi n,fv,vi 20,vi a,vi ((a+20:Nat):Int)]/\a<=n/\20 ∣ a/\d1.size=n/\SameK rk d.toList d1.toList/\(∀ s,20 ∣ s->s<a->SrtI rk d1 s (s+20))/\SortMo H b enc tail f d1 H') ?_ n
  ⟨0,d,rfl,rfl,Nat.zero_le _,⟨0,rfl⟩,hn,SameK.refl rk _,fun s _ h=>by omega,.refl hg⟩
 rintro w _ H1 X0 ih ⟨a,d1,rfl,rfl,han,hda,n1,sm,p1,s1⟩
 have ins:∀ e,a<=e->e<=n->Mrg rk a e d1 (insertionSort (ltK rk) d1 a e)/\SrtI rk (insertionSort (ltK rk) d1 a e) a e:=fun e h1 h2=>by
  obtain ⟨q1,q2⟩:=Go.Sort.insertionSort_holds (swo_ltK rk) d1 a e h1 (by omega)
  exact ⟨⟨q1.1,q1.2.1,fun t t1 t2=>Go.Sort.permIn_all d1 _ a e (fun x=>∃ s,a<=s/\s<e/\x=d1[s]!) (by omega) q1 (fun i i1 i2=>⟨i,i1,i2,rfl⟩) t t1 t2,insertionSort_same rk d1 a e (by omega)⟩,SrtI.of rk q2⟩
 rcases Nat.lt_or_ge n (a+20) with hgt | hle
 ·have hle':decide (((a+20:Nat):Int)<=n)=false:=decide_eq_false (by omega)
  obtain ⟨g,o⟩:=ins n han (Nat.le_refl _)
  simp only [F.f53_l1,i64_leq,hle',stdZ]
  refine S.f41 hE he hC s1.get n1 (by omega) a n han (Nat.le_refl _) fun H2 s2 =>?_
  refine stable_l2 hE he hC s2.get (by rw [g.size]; exact n1) hsz (fun s hs =>?_) fun d3 H3 n3 sm3 o3 s3=>hQ d3 H3 n3 (SameK.trans rk sm (SameK.trans rk g.same sm3)) o3 ((s1.trans s2).trans s3)
  rcases Nat.lt_or_ge s a with h1 | h1
  ·have h2:=dvd_gap hs hda h1
   rw [Nat.min_eq_left (by omega)]
   exact SrtI.congr rk (p1 s hs h1) fun t t1 t2=>g.out t (.inl (by omega))
  ·rcases Nat.lt_or_ge a s with h2 | h2
   ·have h3:=dvd_gap hda hs h2
    exact SrtI.small rk _ (by omega)
   ·have:s=a:=by omega
    subst this
    rw [Nat.min_eq_right (by omega)]
    exact o
 ·have hle':decide (((a+20:Nat):Int)<=n)=true:=decide_eq_true (by omega)
  obtain ⟨g,o⟩:=ins (a+20) (by omega) hle
  have a2:binInt .add (vi ((a+20:Nat):Int)) (vi 20)=some (vi ((a+20+20:Nat):Int)):=i64_add_nat (a+20) 20 (by omega)
  simp only [F.f53_l1,i64_leq,hle',stdZ]
  refine S.f41 hE he hC s1.get n1 (by omega) a (a+20) (by omega) hle fun H2 s2 =>?_
  simp only [a2,stdZ]
  refine ih (n - (a+20)) (by omega) _ _ ⟨a+20,_,rfl,rfl,hle,(Nat.dvd_add_right hda).2 (Nat.dvd_refl _),by rw [g.size]; exact n1,SameK.trans rk sm g.same,fun s hs h1 =>?_,s1.trans s2⟩
  rcases Nat.lt_or_ge s a with h2 | h2
  ·have h3:=dvd_gap hs hda h2
   exact SrtI.congr rk (p1 s hs h2) fun t t1 t2=>g.out t (.inl (by omega))
  ·have:s=a:=by
    rcases Nat.lt_or_ge a s with h4 | h4
    ·have:=dvd_gap hda hs h4; omega
    ·omega
   subst this
   exact o
theorem srt_pairwise {d:Array α} (h:SrtI rk d 0 d.size):d.toList.Pairwise fun x y=>rk x<=rk y:=by
 rw [List.pairwise_iff_getElem]
 intro i j hi hj hij
 have hi':i<d.size:=by simpa using hi
 have hj':j<d.size:=by simpa using hj
 have:=h i j (Nat.zero_le _) (Nat.le_of_lt hij) hj'
 rw [getElem!_pos d i hi',getElem!_pos d j hj'] at this
 simpa only [Array.getElem_toList] using this
end
theorem sortsR_any {E:Sy} (hE:Fold E) (m:Nat) (hm:m<2 ^ 40):SortsR E m:=fun {H Q b c d tail f} hg hmd hQ=>by
 refine S.slices_SortStableFunc hE ruleE_ok (cmp_rules hE) hg rfl (by omega) fun d' H' n1 sm o s=>hQ _ _ ?_ s
 rw [<- n1] at o
 exact stable_is rkR sm (srt_pairwise o) fun x _=>rk_lt x
end Go.AM
end
section
namespace Go.AM
instance:Inhabited RuleD:=⟨⟨0,0,[]⟩⟩
def szB (cs:List CaseD):Nat:=(cs.flatMap CaseD.branches).length
def szC (cs:List CaseD):Nat:=((cs.flatMap CaseD.branches).flatMap BranchD.conds).length
theorem branchesF_conds {k:Nat}:∀ l:List RuleD,(∀ r∈l,r.conds.length<=k)->∀ b∈branchesF l,b.conds.length<=k
 | [],_,b,hb=>by simp [branchesF] at hb
 | r :: l,h,b,hb=>by
  have ih:=branchesF_conds l fun x hx=>h x (by simp [hx])
  have hr:=h r (by simp)
  rw [branchesF] at hb
  split at hb
  ·exact ih b hb
  ·split at hb
   ·simp at hb; subst hb; simp
   ·rcases List.mem_cons.1 hb with rfl | hb
    ·have:=tidyFrom_le r.conds []
     show (tidyC r.conds).length<=k
     unfold tidyC
     simp at this
     omega
    ·exact ih b hb
theorem flat_len_le {α β:Type} (f:α->List β) (k:Nat):∀ l:List α,(∀ x∈l,(f x).length<=k)->(l.flatMap f).length<=k*l.length
 | [],_=>by simp
 | x :: l,h=>by
  have ih:=flat_len_le f k l fun y hy=>h y (by simp [hy])
  have hx:=h x (by simp)
  rw [List.flatMap_cons,List.length_append,List.length_cons,Nat.mul_succ]
  omega
theorem plan_sizes {p:PolD} {ns:List (BitVec 32)} (h:Nums p ns) {a k:Nat} (ha:p.rules.length<=a) (hk:∀ r∈p.rules,r.conds.length<=k):szB (planOf p ns).cases<=4*a*a/\szC (planOf p ns).cases<=k*(4*a*a)/\(planOf p ns).cases.length<=a/\∀ c∈(planOf p ns).cases,c.branches.length<=4*a/\∀ b∈c.branches,b.conds.length<=k:=by
 have hl:=h.len
 have hc:∀ c∈(planOf p ns).cases,c.branches.length<=4*a:=fun c hc=>Nat.le_trans (plan_branches c hc) (by omega)
 have hcl:(planOf p ns).cases.length<=a:=by show (ns.map (caseOf p)).length<=a; rw [List.length_map]; omega
 have hb:∀ c∈(planOf p ns).cases,∀ b∈c.branches,b.conds.length<=k:=fun c hc=>by
  obtain ⟨n,_,rfl⟩:=List.mem_map.1 (show c∈ns.map (caseOf p) from hc)
  refine branchesF_conds _ fun r hr=>hk r ?_
  have h1:∀ j,r∈byRank (ofNum p.rules n) j->r∈p.rules:=fun j hj=>(List.mem_filter.1 (List.mem_filter.1 hj).1).1
  unfold sortS at hr
  simp only [List.mem_append] at hr
  rcases hr with ((hr | hr) | hr) | hr <;> exact h1 _ hr
 have h1:=flat_len_le CaseD.branches (4*a) (planOf p ns).cases hc
 have h2:szB (planOf p ns).cases<=4*a*a:=Nat.le_trans h1 (Nat.mul_le_mul_left _ hcl)
 refine ⟨h2,?_,hcl,fun c h=>⟨hc c h,hb c h⟩⟩
 have h3:=flat_len_le BranchD.conds k ((planOf p ns).cases.flatMap CaseD.branches) fun b hbm=>by
  obtain ⟨c,hc1,hc2⟩:=List.mem_flatMap.1 hbm
  exact hb c hc1 b hc2
 exact Nat.le_trans h3 (Nat.mul_le_mul_left _ h2)
end Go.AM
end
section
namespace Go.AM
deriving instance DecidableEq for InsnD
structure PartD where
 kind:BitVec 8
 to:Int
 els:Int
 insn:InsnD
 deriving DecidableEq
structure LwD where
 parts:List PartD
 last:Nat
 other:Nat
 acts:List (BitVec 32×Nat)
 order:List (BitVec 32)
end Go.AM
end
section
namespace Go.AM
set_option maxRecDepth 20000
def partOk (p:PartD):Prop :=
 p.kind=1#8\/p.kind=4#8\/(p.kind=2#8/\((p.insn.code=32#16/\p.insn.k.toNat % 4=0/\p.insn.k.toNat<=60)\/p.insn.code=84#16\/p.insn.code=6#16)) \/
 (p.kind=3#8/\(p.insn.code=21#16\/p.insn.code=37#16\/p.insn.code=53#16))
end Go.AM
end
section
namespace Go.AM
set_option maxRecDepth 20000
def heres (l:List PartD):List Int:=l.filterMap fun p=>if p.kind=1#8 then some p.to else none
end Go.AM
end
section
namespace Go.AM
set_option maxRecDepth 20000
def castN (R:List Nat):List Int:=R.map fun (n:Nat)=>(n:Int)
structure LI (P:List PartD) (last:Nat) (R:List Nat):Prop where
 nd:(heres P++castN R).Nodup
 le:∀ n∈R,n<=last
 hle:∀ n∈heres P,n<=(last:Int)
 fw:∀ a p b,P=a++p :: b->(p.kind=4#8->p.to∈heres b++castN R)/\(p.kind=3#8->p.to∈heres b++castN R/\p.els∈heres b++castN R)
 ok:∀ p∈P,partOk p
def actN (s:LwD):List Nat:=s.acts.map Prod.snd
end Go.AM
end
section
namespace Go.AM
set_option maxRecDepth 20000
def LA (s:LwD):Prop:=s.order=s.acts.map Prod.fst/\(s.acts.map Prod.fst).Nodup
structure LT (s:LwD) (pend:List Nat):Prop where
 li:LI s.parts s.last (pend++actN s)
 la:LA s
end Go.AM
end
section
namespace Go.AM
set_option maxRecDepth 20000
section
variable {E:Sy} {H H' H0 Z:AH} {Q:Value->AH->Prop} {X:List Res} {fb:Nat} {c:List InsnD}
theorem fresh_store {H:AH} {z c:List Value} {n:Nat} (hz:z.length=n) (hc:c.length=n) (hp:c.all plain1=true):storeN n (ptr H.next 0) (.agg c.toArray) (H.new (.cells z none))=some (H.new (.cells c none)):=by
 rw [storeN_ptr,AH.get_new_self]
 have:AM.splice z 0 c=c:=by simp [splice,hz,hc]
 simp only [List.size_toArray,List.toList_toArray,hc,hz,hp,Nat.zero_add,Nat.le_refl,and_self,if_true,this,AH.new_put]
theorem fresh_load {H:AH} {c:List Value} {n:Nat} (hc:c.length=n):loadN n (ptr H.next 0) (H.new (.cells c none))=some (.agg c.toArray):=by rw [loadN_ptr,AH.get_new_self,row_all _ _ n hc]; rfl
end
end Go.AM
end
section
namespace Go.AM
set_option maxRecDepth 20000
section
variable {E:Sy} {H H' H0 Z:AH} {Q:Value->AH->Prop}
theorem flat_take {α β:Type} (f:α->List β) {l:List α} {k:Nat} (hk:k<l.length):(l.take (k+1)).flatMap f=(l.take k).flatMap f++f l[k]:=by
 rw [List.take_succ,List.getElem?_eq_getElem hk,List.flatMap_append]
 simp
theorem flat_take_le {α β:Type} (f:α->List β) (l:List α) (k:Nat):((l.take k).flatMap f).length<=(l.flatMap f).length:=by
 have h:l.flatMap f=(l.take k).flatMap f++(l.drop k).flatMap f:=by rw [<- List.flatMap_append,List.take_append_drop]
 rw [h,List.length_append]; omega
theorem branch_ix {v:Value} {l:List BranchD} (hs:SliceOf (BranchAt 0) H0 2 v l) {j:Nat} (hj:j<l.length):∃ b o cv,ixSlc 2 v (vi j)=some (ptr b o)/\(∀ H,Ext H0 H->loadN 2 (ptr b o) H=some (.agg [cv,u32 l[j].action].toArray))/\plain1 cv=true/\Rows H0 4 cv (condR l[j].conds)/\l[j].conds.length<2 ^ 30:=by
 obtain ⟨b,o,c,q1,q2,q3⟩:=hs.ix hj
 obtain ⟨h30,cv,rfl,hr,_⟩:=q3
 refine ⟨b,o,cv,q1,fun H e =>?_,hr.plain,hr,h30⟩
 rw [loadN_ptr,e.get (AH.lt_of_get (row_notdead q2)),q2]; rfl
theorem case_ix {v:Value} {l:List CaseD} (hs:SliceOf (CaseAt 0) H0 2 v l) {j:Nat} (hj:j<l.length):∃ b o bv,ixSlc 2 v (vi j)=some (ptr b o)/\(∀ H,Ext H0 H->loadN 2 (ptr b o) H=some (.agg [u32 l[j].number,bv].toArray)/\((H.get b).cell o=some (u32 l[j].number))/\(H.get b).cell (o+1)=some bv)/\plain1 bv=true/\SliceOf (BranchAt 0) H0 2 bv l[j].branches:=by
 obtain ⟨b,o,c,q1,q2,q3⟩:=hs.ix hj
 obtain ⟨bv,rfl,hr⟩:=q3
 refine ⟨b,o,bv,q1,fun H e =>?_,by obtain ⟨rows,h1,_⟩:=hr; exact h1.plain,hr⟩
 have he:=e.get (AH.lt_of_get (row_notdead q2))
 refine ⟨by rw [loadN_ptr,he,q2]; rfl,?_,?_⟩
 ·rw [he]; have:=row_at q2 (j:=0) (by omega); simpa using this
 ·rw [he]; have:=row_at q2 (j:=1) (by omega); simpa using this
theorem slice_empty_store2 {H:AH} {a b:Value} (ha:plain1 a=true) (hb:plain1 b=true) {z:List Value} (hz:z.length=2):storeN 2 (ptr H.next 0) (.agg [a,b].toArray) (H.new (.cells z none))=some (H.new (.cells [a,b] none)):=fresh_store (n:=2) hz rfl (by simp [ha,hb])
theorem S.f7 (hE:Fold E) (p:PlanD) (cs:List Value) (hp:PlanAt H p cs) (hl:p.cases.length<2 ^ 40) (hb:szB p.cases<2 ^ 40) (hc:szC p.cases<2 ^ 40) (hbc:∀ c∈p.cases,c.branches.length<2 ^ 40)
  (hQ:∀ H',Ext H H'->Q (.tuple #[vi (p.cases.length:Nat),vi (szB p.cases:Nat),vi (szC p.cases:Nat)]) H'):E.call (E.fid i.f7) [.agg cs.toArray] H Q:=by
 apply hE.f7
 obtain ⟨v,rfl,hv⟩:=hp
 have x1:Ext H (H.new (.cells [v,u32 p.default] none)):=(Ext.refl _).new _
 have b1:=AH.get_new_self H (.cells [v,u32 p.default] none)
 have q0:[v,u32 p.default][0]? = some v:=rfl
 have hlv:=SliceOf.lenSlc hv
 simp only [F.f7,boxO_agg_z,AM.mk_some,mkPtr_eq_z,List.toList_toArray,b1,q0,hlv,stdZ]
 have hv1:=hv.sub (fun _ _ _ _ h e=>CaseAt.sub h e) x1.sub
 generalize H.new (.cells [v,u32 p.default] none)=H1 at *
 generalize H.next=t1 at *
 refine LoopL.count p.cases.length (fun k ls H'=>ls=[ptr t1 0,vi (szB (p.cases.take k):Nat),vi (szC (p.cases.take k):Nat),v,vi p.cases.length,vi k]/\Ext H1 H') ?_ ⟨rfl,Ext.refl _⟩
 rintro k _ H2 X hk ih ⟨rfl,e2⟩
 rcases Nat.lt_or_ge k p.cases.length with hlt | hge
 rotate_left
 ·have hlt':decide ((k:Int)<p.cases.length)=false:=decide_eq_false (by omega)
  have hke:k=p.cases.length:=by omega
  subst hke
  rw [List.take_length]
  simp only [F.f7_l1,i64_lss,hlt',e2.cells b1,q0,hlv,stdZ]
  exact hQ _ (x1.trans e2)
 have hlt':decide ((k:Int)<p.cases.length)=true:=decide_eq_true (by omega)
 obtain ⟨b,o,bv,f1,f2,hbp,hbs⟩:=case_ix hv1 hlt
 obtain ⟨lo,_,_⟩:=f2 H2 e2
 have htb:szB (p.cases.take (k+1))=szB (p.cases.take k)+p.cases[k].branches.length:=by
  unfold szB; rw [flat_take CaseD.branches hlt,List.length_append]
 have htc:szC (p.cases.take (k+1))=szC (p.cases.take k)+(p.cases[k].branches.flatMap BranchD.conds).length:=by
  unfold szC; rw [flat_take CaseD.branches hlt,List.flatMap_append,List.length_append]
 have hlb:szB (p.cases.take (k+1))<=szB p.cases:=flat_take_le CaseD.branches p.cases (k+1)
 have hlc:szC (p.cases.take (k+1))<=szC p.cases:=by
  unfold szC
  have h:p.cases.flatMap CaseD.branches=(p.cases.take (k+1)).flatMap CaseD.branches++(p.cases.drop (k+1)).flatMap CaseD.branches:=by rw [<- List.flatMap_append,List.take_append_drop]
  rw [h,List.flatMap_append,List.length_append]; omega
 have hbk:=hbc p.cases[k] (List.getElem_mem hlt)
 have ih:=ih hlt
 rw [htb,htc] at ih
 rw [htb] at hlb
 rw [htc] at hlc
 have hinc:=i64_inc (i:=k) (by omega)
 generalize szB (p.cases.take k)=sb at *
 generalize szC (p.cases.take k)=sc at *
 generalize p.cases[k]=c at *
 have st:storeN 2 (ptr H2.next 0) (.agg [u32 c.number,bv].toArray) (H2.new (.cells [(.int .u32 0),(.slice none 0 0)] none))=some (H2.new (.cells [u32 c.number,bv] none)):=slice_empty_store2 rfl hbp rfl
 have bx:=AH.get_new_self H2 (.cells [u32 c.number,bv] none)
 have q1:[u32 c.number,bv][1]? = some bv:=rfl
 have hlb2:=SliceOf.lenSlc hbs
 have a1:=i64_add_nat sb c.branches.length (by omega)
 simp only [F.f7_l1,i64_lss,hlt',f1,lo,allocW_eq,st,bx,q1,hlb2,a1,stdZ]
 have e3:=e2.trans ((Ext.refl H2).new (.cells [u32 c.number,bv] none))
 generalize H2.new (.cells [u32 c.number,bv] none)=H3 at *
 refine LoopL.count c.branches.length (fun j ls H'=>ls=[ptr t1 0,vi ((sb+c.branches.length:Nat):Int),vi ((sc+((c.branches.take j).flatMap BranchD.conds).length:Nat):Int),v,vi p.cases.length,vi k,bv,vi c.branches.length,vi j]/\Ext H1 H') ?_ ⟨rfl,e3⟩
 rintro j _ H4 X1 hj ih1 ⟨rfl,e4⟩
 rcases Nat.lt_or_ge j c.branches.length with hlt1 | hge1
 rotate_left
 ·have hlt1':decide ((j:Int)<c.branches.length)=false:=decide_eq_false (by omega)
  have hje:j=c.branches.length:=by omega
  subst hje
  rw [List.take_length]
  simp only [F.f7_l2,i64_lss,hlt1',hinc,stdZ]
  exact ih _ _ ⟨rfl,e4⟩
 have hlt1':decide ((j:Int)<c.branches.length)=true:=decide_eq_true (by omega)
 obtain ⟨b',o',cv,g1,g2,hcp,hcr,hc30⟩:=branch_ix hbs hlt1
 have lo':=g2 H4 e4
 have hlcv:=(hcr.mono e4).lenSlc
 rw [condR_length] at hlcv
 have htj:((c.branches.take (j+1)).flatMap BranchD.conds).length=((c.branches.take j).flatMap BranchD.conds).length+c.branches[j].conds.length:=by rw [flat_take BranchD.conds hlt1,List.length_append]
 have hlj:=flat_take_le BranchD.conds c.branches (j+1)
 have ih1:=ih1 hlt1
 rw [htj,<- Nat.add_assoc] at ih1
 rw [htj] at hlj
 have hinc1:=i64_inc (i:=j) (by omega)
 generalize ((c.branches.take j).flatMap BranchD.conds).length=sj at *
 generalize c.branches[j]=br at *
 have st4:storeN 2 (ptr H4.next 0) (.agg [cv,u32 br.action].toArray) (H4.new (.cells [(.slice none 0 0),(.int .u32 0)] none))=some (H4.new (.cells [cv,u32 br.action] none)):=slice_empty_store2 hcp rfl rfl
 have bx4:=AH.get_new_self H4 (.cells [cv,u32 br.action] none)
 have q0':[cv,u32 br.action][0]? = some cv:=rfl
 have a2:=i64_add_nat (sc+sj) br.conds.length (by omega)
 simp only [F.f7_l2,i64_lss,hlt1',g1,lo',allocW_eq,st4,bx4,q0',hlcv,a2,hinc1,stdZ]
 exact ih1 _ _ ⟨rfl,e4.trans ((Ext.refl H4).new _)⟩
end
end Go.AM
end
