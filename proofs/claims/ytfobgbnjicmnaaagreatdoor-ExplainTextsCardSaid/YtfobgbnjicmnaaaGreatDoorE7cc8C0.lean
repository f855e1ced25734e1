/- CONTRACTS ON THE PRINTED FUNCTIONS. -/
import Derived.Test.YtfobgbnjicmnaaaGreatDoorE7cc8F
set_option linter.all false
section
namespace Go.AM
variable {E:Sy} {H:AH} {Q:Value->AH->Prop}
def akind (a:BitVec 32):BitVec 32 :=
 if a&&&4294901760#32=327680#32 then 327680#32 else if a&&&4294901760#32=2147221504#32 then 2147221504#32 else if a&&&4294901760#32=2147418112#32 then 2147418112#32 else 2147483648#32
theorem S.f19 (hE:Fold E) (a:BitVec 32) (hQ:Q (u32 (akind a)) H):E.call (E.fid i.f19) [u32 a] H Q:=by
 apply hE.f19
 simp [F.f19,F.f19_j1,ifB_dec]
 unfold akind at hQ
 repeat' split at hQ
 all_goals (first | (simp [*]; done) | (simp [*]; exact hQ))
def astrength (a:BitVec 32):Int :=
 if akind a=2147483648#32 then 3 else if akind a=327680#32 then 2 else if akind a=2147221504#32 then 1 else 0
theorem S.f21 (hE:Fold E) (a:BitVec 32) (hQ:Q (vi (astrength a)) H):E.call (E.fid i.f21) [u32 a] H Q:=by
 apply hE.f21
 apply S.f19 hE
 simp [ifB_dec]
 unfold astrength at hQ
 repeat' split at hQ
 all_goals (first | (simp [*]; done) | (simp [*]; exact hQ))
def astronger (a b:BitVec 32):BitVec 32:=if astrength a<astrength b then b else a
theorem S.f22 (hE:Fold E) (a b:BitVec 32) (hQ:Q (u32 (astronger a b)) H):E.call (E.fid i.f22) [u32 a,u32 b] H Q:=by
 apply hE.f22
 apply S.f21 hE
 apply S.f21 hE
 unfold astronger at hQ
 simp [ifB_dec]
 split at hQ <;> simp [*]
def anumber (a:BitVec 32):Int:=if akind a≠327680#32 then 0 else ((a&&&65535#32).toNat:Int)
theorem S.f20 (hE:Fold E) (a:BitVec 32) (hQ:Q (vi (anumber a)) H):E.call (E.fid i.f20) [u32 a] H Q:=by
 apply hE.f20
 apply S.f19 hE
 by_cases h:akind a=327680#32
 ·simpa [h,anumber] using hQ
 ·simpa [h,anumber] using hQ
def rstrength (a:BitVec 32):Int:=if a / 65536#32=5#32 then 2 else if a / 65536#32=32764#32 then 1 else if a / 65536#32=32767#32 then 0 else 3
theorem S.f18 (hE:Fold E) (a:BitVec 32) (hQ:Q (vi (rstrength a)) H):E.call (E.fid i.f18) [u32 a] H Q:=by
 apply hE.f18
 simp [F.f18,ifB_dec]
 unfold rstrength at hQ
 repeat' split at hQ
 all_goals (first | (simp [*]; done) | (simp [*]; exact hQ))
end Go.AM
end
section
namespace Go.AM
variable {E:Sy} {H:AH} {Q:Value->AH->Prop}
theorem land_high (x k w:Nat) (h:x<2 ^ w):x&&&((2 ^ (w - k) - 1) <<< k)=(x / 2 ^ k)*2 ^ k:=by
 rw [<- Nat.shiftLeft_eq,<- Nat.shiftRight_eq_div_pow]
 apply Nat.eq_of_testBit_eq
 intro i
 simp only [Nat.testBit_and,Nat.testBit_shiftLeft,Nat.testBit_shiftRight,Nat.testBit_two_pow_sub_one]
 by_cases hk:k<=i
 ·by_cases hw:i<w
  ·simp [hk,show i - k<w - k by omega,show k+(i - k)=i by omega]
  ·have:x.testBit i=false:=Nat.testBit_lt_two_pow (Nat.lt_of_lt_of_le h (Nat.pow_le_pow_right (by omega) (by omega)))
   simp [hk,this,show k+(i - k)=i by omega]
 ·simp [hk]
end Go.AM
end
section
namespace Go.AM
variable {E:Sy} {H:AH} {Q:Value->AH->Prop}
theorem kind_nat (a:BitVec 32):(a&&&4294901760#32).toNat=a.toNat / 65536*65536:=by
 rw [BitVec.toNat_and]
 exact land_high a.toNat 16 32 a.isLt
theorem kind_iff (a:BitVec 32) (k:Nat) (hk:k<65536):(a&&&4294901760#32=BitVec.ofNat 32 (k*65536))↔a / 65536#32=BitVec.ofNat 32 k:=by
 rw [<- BitVec.toNat_inj,<- BitVec.toNat_inj,kind_nat]
 simp only [BitVec.toNat_udiv,BitVec.toNat_ofNat]
 rw [Nat.mod_eq_of_lt (by omega:k*65536<2 ^ 32),Nat.mod_eq_of_lt (by omega:k<2 ^ 32),show (65536 % 2 ^ 32:Nat)=65536 from rfl]
 omega
theorem akind_r (a:BitVec 32):akind a=if a / 65536#32=5#32 then 327680#32 else if a / 65536#32=32764#32 then 2147221504#32 else if a / 65536#32=32767#32 then 2147418112#32 else 2147483648#32:=by
 unfold akind
 have h1:=kind_iff a 5 (by omega)
 have h2:=kind_iff a 32764 (by omega)
 have h3:=kind_iff a 32767 (by omega)
 simp only [Nat.reduceMul] at h1 h2 h3
 simp only [h1,h2,h3]
theorem rstrength_eq (a:BitVec 32):rstrength a=astrength a:=by
 unfold astrength rstrength
 rw [akind_r]
 split
 ·simp
 split
 ·simp
 split <;> simp
end Go.AM
end
section
namespace Go.AM
def BestV (f:Nat->BitVec 32) (lo hi:Nat) (at_:Int) (b:BitVec 32):Prop :=
 (at_ = -1/\b=2147418112#32/\∀ j,lo<=j->j<hi->rstrength (f j)=0) \/
 ∃ k:Nat,lo<=k/\k<hi/\at_=k/\b=f k/\0<rstrength (f k)/\(∀ j,lo<=j->j<hi->rstrength (f j)<=rstrength (f k))/\∀ j,k<j->j<hi->rstrength (f j)<rstrength (f k)
theorem rstrength_allow:rstrength 2147418112#32=0:=by decide
theorem rstrength_nn (a:BitVec 32):0<=rstrength a/\rstrength a<=3:=by
 unfold rstrength
 repeat' split
 all_goals omega
theorem BestV.nil (f:Nat->BitVec 32) (n:Nat):BestV f n n (-1) 2147418112#32 := .inl ⟨rfl,rfl,fun j h1 h2=>by omega⟩
theorem BestV.back {f:Nat->BitVec 32} {i hi:Nat} {at_:Int} {b:BitVec 32} (h:BestV f (i+1) hi at_ b) (hl:i<hi) :
  BestV f i hi (if rstrength b<rstrength (f i) then i else at_) (if rstrength b<rstrength (f i) then f i else b):=by
 have hn:=rstrength_nn (f i)
 rcases h with ⟨rfl,rfl,h0⟩ | ⟨k,k1,k2,rfl,rfl,k3,k4,k5⟩
 ·rw [rstrength_allow]
  by_cases hs:0<rstrength (f i)
  ·rw [if_pos hs,if_pos hs]
   refine .inr ⟨i,Nat.le_refl _,hl,rfl,rfl,hs,fun j h1 h2 =>?_,fun j h1 h2 =>?_⟩
   ·rcases Nat.eq_or_lt_of_le h1 with rfl | h1
    ·exact Int.le_refl _
    ·rw [h0 j h1 h2]; omega
   ·rw [h0 j h1 h2]; exact hs
  ·rw [if_neg hs,if_neg hs]
   refine .inl ⟨rfl,rfl,fun j h1 h2 =>?_⟩
   rcases Nat.eq_or_lt_of_le h1 with rfl | h1
   ·omega
   ·exact h0 j h1 h2
 ·by_cases hs:rstrength (f k)<rstrength (f i)
  ·rw [if_pos hs,if_pos hs]
   refine .inr ⟨i,Nat.le_refl _,hl,rfl,rfl,by omega,fun j h1 h2 =>?_,fun j h1 h2 =>?_⟩
   ·rcases Nat.eq_or_lt_of_le h1 with rfl | h1
    ·exact Int.le_refl _
    ·have:=k4 j h1 h2; omega
   ·have:=k4 j h1 h2; omega
  ·rw [if_neg hs,if_neg hs]
   refine .inr ⟨k,by omega,k2,rfl,rfl,k3,fun j h1 h2 =>?_,k5⟩
   rcases Nat.eq_or_lt_of_le h1 with rfl | h1
   ·omega
   ·exact k4 j h1 h2
theorem BestV.step {f:Nat->BitVec 32} {j:Nat} {at_:Int} {b:BitVec 32} (h:BestV f 0 j at_ b) :
  BestV f 0 (j+1) (if 0<rstrength (f j)/\rstrength b<=rstrength (f j) then j else at_) (if 0<rstrength (f j)/\rstrength b<=rstrength (f j) then f j else b):=by
 have hn:=rstrength_nn (f j)
 rcases h with ⟨rfl,rfl,h0⟩ | ⟨k,k1,k2,rfl,rfl,k3,k4,k5⟩
 ·rw [rstrength_allow]
  by_cases hs:0<rstrength (f j)
  ·have hs':0<rstrength (f j)/\0<=rstrength (f j):=⟨hs,by omega⟩
   rw [if_pos hs',if_pos hs']
   refine .inr ⟨j,Nat.zero_le _,by omega,rfl,rfl,hs,fun i h1 h2 =>?_,fun i h1 h2=>by omega⟩
   rcases Nat.eq_or_lt_of_le (Nat.le_of_lt_succ h2) with rfl | h2
   ·exact Int.le_refl _
   ·rw [h0 i h1 h2]; omega
  ·have hs':¬ (0<rstrength (f j)/\0<=rstrength (f j)):=fun h=>hs h.1
   rw [if_neg hs',if_neg hs']
   refine .inl ⟨rfl,rfl,fun i h1 h2 =>?_⟩
   rcases Nat.eq_or_lt_of_le (Nat.le_of_lt_succ h2) with rfl | h2
   ·omega
   ·exact h0 i h1 h2
 ·by_cases hs:0<rstrength (f j)/\rstrength (f k)<=rstrength (f j)
  ·rw [if_pos hs,if_pos hs]
   refine .inr ⟨j,Nat.zero_le _,by omega,rfl,rfl,hs.1,fun i h1 h2 =>?_,fun i h1 h2=>by omega⟩
   rcases Nat.eq_or_lt_of_le (Nat.le_of_lt_succ h2) with rfl | h2
   ·exact Int.le_refl _
   ·have:=k4 i h1 h2; omega
  ·rw [if_neg hs,if_neg hs]
   refine .inr ⟨k,k1,by omega,rfl,rfl,k3,fun i h1 h2 =>?_,fun i h1 h2 =>?_⟩
   ·rcases Nat.eq_or_lt_of_le (Nat.le_of_lt_succ h2) with rfl | h2
    ·omega
    ·exact k4 i h1 h2
   ·rcases Nat.eq_or_lt_of_le (Nat.le_of_lt_succ h2) with rfl | h2
    ·omega
    ·exact k5 i h1 h2
theorem BestV.same {f:Nat->BitVec 32} {lo hi:Nat} {at_ at':Int} {b b':BitVec 32} (h:BestV f lo hi at_ b) (h':BestV f lo hi at' b'):at_=at'/\b=b'/\(at_ = -1\/0<=at_):=by
 rcases h with ⟨rfl,rfl,h0⟩ | ⟨k,k1,k2,rfl,rfl,k3,k4,k5⟩
 ·rcases h' with ⟨rfl,rfl,_⟩ | ⟨k,k1,k2,rfl,rfl,k3,_,_⟩
  ·exact ⟨rfl,rfl,.inl rfl⟩
  ·rw [h0 k k1 k2] at k3; omega
 ·rcases h' with ⟨rfl,rfl,h0⟩ | ⟨m,m1,m2,rfl,rfl,m3,m4,m5⟩
  ·rw [h0 k k1 k2] at k3; omega
  ·have:k=m:=by
    rcases Nat.lt_trichotomy k m with h | h | h
    ·have a:=k5 m h m2; have b:=m4 k k1 k2; omega
    ·exact h
    ·have a:=m5 k h k2; have b:=k4 m m1 m2; omega
   subst this
   exact ⟨rfl,rfl,.inr (by omega)⟩
theorem akind_cases (a:BitVec 32):(akind a=327680#32/\rstrength a=2)\/(akind a=2147221504#32/\rstrength a=1)\/(akind a=2147418112#32/\rstrength a=0)\/(akind a=2147483648#32/\rstrength a=3):=by
 unfold rstrength
 rw [akind_r]
 by_cases h1:a / 65536#32=5#32
 ·exact .inl ⟨by rw [if_pos h1],by rw [if_pos h1]⟩
 ·by_cases h2:a / 65536#32=32764#32
  ·exact .inr (.inl ⟨by rw [if_neg h1,if_pos h2],by rw [if_neg h1,if_pos h2]⟩)
  ·by_cases h3:a / 65536#32=32767#32
   ·exact .inr (.inr (.inl ⟨by rw [if_neg h1,if_neg h2,if_pos h3],by rw [if_neg h1,if_neg h2,if_pos h3]⟩))
   ·exact .inr (.inr (.inr ⟨by rw [if_neg h1,if_neg h2,if_neg h3],by rw [if_neg h1,if_neg h2,if_neg h3]⟩))
end Go.AM
end
section
namespace Go.AM
def Only (F:List Nat) (H H':AH):Prop:=H.next<=H'.next/\∀ b,b<H.next->b ∉ F->H'.get b=H.get b
theorem Only.refl (F:List Nat) (H:AH):Only F H H:=⟨Nat.le_refl _,fun _ _ _=>rfl⟩
theorem Only.new {F:List Nat} {H H':AH} (h:Only F H H') (o:AObj):Only F H (H'.new o) :=
 ⟨Nat.le_succ_of_le h.1,fun b hb hf=>by rw [AH.get_new_lt _ _ (Nat.lt_of_lt_of_le hb h.1)]; exact h.2 b hb hf⟩
theorem Only.put {F:List Nat} {H H':AH} (h:Only F H H') {b:Nat} (hb:b∈F\/H.next<=b) (o:AObj):Only F H (H'.put b o) :=
 ⟨h.1,fun x hx hf=>by rw [AH.get_put_ne _ _ (by rintro rfl; exact hb.elim hf (fun k=>by omega))]; exact h.2 x hx hf⟩
theorem Only.ext {F:List Nat} {H0 H H':AH} (h:Only F H H') (e:Ext H0 H) (hs:∀ b∈F,H0.next<=b):Ext H0 H' :=
 ⟨Nat.le_trans e.1 h.1,fun b hb=>by rw [h.2 b (Nat.lt_of_lt_of_le hb e.1) (fun k=>by have:=hs b k; omega)]; exact e.2 b hb⟩
theorem AH.get_ge (H:AH) {b:Nat} (h:H.next<=b):H.get b = .dead:=by simp [AH.get,Nat.not_lt.2 h]
def Grow (Z H:AH) (sz:Nat) (v:Value) (rows:List (List Value)):Prop :=
 (∀ r∈rows,r.length=sz/\r.all plain1=true)/\((rows=[]/\v=nilS)\/∃ b f c cs,Z.get b = .dead/\v=slc b 0 rows.length c/\H.get b = .cells cs f/\rows.length<=c/\cs.length=c*sz/\cs.take (rows.length*sz)=rows.flatten /\
  (f=none\/f=some sz))
section
variable {Z H H':AH} {sz:Nat} {v:Value} {rows:List (List Value)}
theorem Grow.nil (Z H:AH) (sz:Nat):Grow Z H sz nilS []:=⟨by simp,.inl ⟨rfl,rfl⟩⟩
theorem Grow.made {b n:Nat} {f:Option Nat} (hb:Z.get b = .dead) (hg:H.get b = .cells rows.flatten f) (hf:f=none\/f=some sz) (hn:rows.length=n) (hr:∀ r∈rows,r.length=sz/\r.all plain1=true):Grow Z H sz (slc b 0 n n) rows:=by
 subst hn
 have hfl:=flatten_length rows fun r h=>(hr r h).1
 exact ⟨hr,.inr ⟨b,f,rows.length,rows.flatten,hb,rfl,hg,Nat.le_refl _,hfl,by rw [<- hfl,List.take_length],hf⟩⟩
theorem Grow.toRows (h:Grow Z H sz v rows):Rows H sz v rows:=by
 rcases h.2 with ⟨rfl,rfl⟩ | ⟨b,f,c,cs,h1,rfl,h3,h4,h5,h6,h7⟩
 ·exact Rows.nil _ _ none
 ·refine ⟨fun r hr=>(h.1 r hr).1,.inr ⟨b,0,c,rfl,h4,?_,?_⟩⟩
  ·rw [h3]; rcases h7 with rfl | rfl <;> simp [fits]
  ·have:rows.length*sz<=c*sz:=Nat.mul_le_mul_right _ h4
   rw [h3,row_cells,if_pos (by omega),List.drop_zero,h6]
theorem Grow.keep (h:Grow Z H sz v rows) (e:∀ b,blk v=some b->b<H.next->H'.get b=H.get b):Grow Z H' sz v rows:=by
 refine ⟨h.1,?_⟩
 rcases h.2 with h | ⟨b,f,c,cs,h1,rfl,h3,h4⟩
 ·exact .inl h
 ·exact .inr ⟨b,f,c,cs,h1,rfl,by rw [e b rfl (AH.lt_cells h3)]; exact h3,h4⟩
theorem Grow.ext (h:Grow Z H sz v rows) (e:Ext H H'):Grow Z H' sz v rows:=h.keep fun b _ hb=>e.get hb
def blkL (v:Value):List Nat:=match blk v with | some b=>[b] | none=>[]
theorem mem_blkL {v:Value} {b:Nat}:b∈blkL v↔blk v=some b:=by
 unfold blkL
 cases blk v <;> simp [eq_comm]
def Grew' (H H':AH) (v v':Value):Prop:=Only (blkL v) H H'/\∀ b,blk v'=some b->blk v=some b\/H.next<=b
theorem Grow.app (h:Grow Z H sz v rows) (hZ:Z.next<=H.next) {bytes:Nat} {x:Value} {new:List (List Value)} (hx:Rows H sz x new) (hp:∀ r∈new,r.all plain1=true)
  (hs:sz≠0) (hb:bytes≠0) (h1:(rows.length+new.length)*bytes<=2 ^ 46) (h2:rows.length+new.length<2 ^ 62) :
  ∃ v' H',AM.app sz bytes v x H=some (v',H')/\Grow Z H' sz v' (rows++new)/\Grew' H H' v v':=by
 have hrows:=h.toRows
 have hall:∀ r∈rows++new,r.length=sz/\r.all plain1=true:=by
  intro r hr
  rcases List.mem_append.1 hr with hr | hr
  ·exact h.1 r hr
  ·exact ⟨hx.len r hr,hp r hr⟩
 have hpn:new.flatten.all plain1=true:=all_flatten hp
 have hpo:rows.flatten.all plain1=true:=all_flatten fun r hr=>(h.1 r hr).2
 have hfn:=flatten_length new hx.len
 have hfo:=flatten_length rows fun r hr=>(h.1 r hr).1
 have hnew:srcRow sz new.length x H=some new.flatten:=firstRow_rows hx
 rcases h.2 with ⟨rfl,rfl⟩ | ⟨b,f,c,cs,g1,rfl,g3,g4,g5,g6,g7⟩
 ·by_cases hn:new=[]
  ·subst hn
   refine ⟨nilS,H,?_,⟨by simp,.inl ⟨rfl,rfl⟩⟩,Only.refl _ _,fun b hb => .inl hb⟩
   have e:=lenO_rows hx
   simp at e hnew
   simp [AM.app,e,hnew]
  ·have hpos:0<new.length:=List.length_pos_iff.2 hn
   refine ⟨slc H.next 0 new.length new.length,H.new (.cells new.flatten (some sz)),?_,Grow.made (AH.get_ge _ hZ) (AH.get_new_self _ _) (.inr rfl) (by simp) (by simpa using hall),(Only.refl _ _).new _,fun b hb => .inr (by simp [blk] at hb; omega)⟩
   simp only [AM.app,lenO_rows hx,hnew,Option.bind_some,hpn,Bool.not_true,Bool.false_eq_true,if_false]
   simp at h1 h2
   rw [if_neg (by omega),if_neg (by simp; omega)]
   simp [firstRow]
 ·have hlt:=AH.lt_cells g3
  have hbl:blkL (slc b 0 rows.length c)=[b]:=rfl
  have hmul:(rows.length+new.length)*sz=rows.length*sz+new.length*sz:=Nat.add_mul _ _ _
  by_cases hcap:rows.length+new.length<=c
  ·have hle:(rows.length+new.length)*sz<=c*sz:=Nat.mul_le_mul_right _ hcap
   refine ⟨slc b 0 (rows.length+new.length) c,H.put b (.cells (splice cs (rows.length*sz) new.flatten) f),?_,⟨hall,.inr ⟨b,f,c,_,g1,by simp,AH.get_put_self _ _ hlt,by simpa using hcap,?_,?_,?_⟩⟩,(Only.refl _ _).put (.inl (by simp [hbl])) _,fun b' hb' => .inl (by simpa [blk] using hb')⟩
   ·simp only [AM.app,lenO_rows hx,hnew,Option.bind_some,hpn,Bool.not_true,Bool.false_eq_true,if_false]
    rw [if_pos hcap]
    simp only [Option.isSome_none,Bool.false_eq_true,if_false,g3]
    rw [if_pos (by omega),Nat.zero_add]
   ·rw [splice_length (by omega)]; exact g5
   ·simp only [List.length_append,List.flatten_append,hmul,splice]
    rw [List.take_append_of_le_length (by rw [List.length_append,List.length_take,hfn]; omega),List.take_of_length_le (by rw [List.length_append,List.length_take,hfn]; omega),g6]
   ·exact g7
  ·have hold:firstRow sz rows.length (slc b 0 rows.length c) H=some rows.flatten:=by
    have:rows.length*sz<=c*sz:=Nat.mul_le_mul_right _ g4
    simp only [firstRow,Option.isSome_none,Bool.false_eq_true,if_false,g3,row_cells]
    rw [if_pos (by omega),List.drop_zero,g6]
   have hfin:∀ H1:AH,H1.next=H.next->AM.app sz bytes (slc b 0 rows.length c) x H=some (mkSlc (rows.length+new.length) (rows.length+new.length) H.next,H1.new (.cells (rows.flatten++new.flatten) (some sz))) ->
     Only [b] H H1 ->
     ∃ v' H',AM.app sz bytes (slc b 0 rows.length c) x H=some (v',H')/\Grow Z H' sz v' (rows++new)/\Grew' H H' (slc b 0 rows.length c) v':=by
    intro H1 e1 e2 e3
    exact ⟨_,_,e2,Grow.made (AH.get_ge _ hZ) (by rw [<- e1,AH.get_new_self,List.flatten_append]) (.inr rfl) (by simp) hall,by rw [hbl]; exact e3.new _,fun b' hb' => .inr (by simp [blk] at hb'; omega)⟩
   have pre:AM.app sz bytes (slc b 0 rows.length c) x H=(match f with
     | none=>some (mkSlc (rows.length+new.length) (rows.length+new.length) H.next,H.new (.cells (rows.flatten++new.flatten) (some sz)))
     | some e=>if e=sz then some (mkSlc (rows.length+new.length) (rows.length+new.length) H.next,(H.put b .dead).new (.cells (rows.flatten++new.flatten) (some sz))) else none):=by
    simp only [AM.app,lenO_rows hx,hnew,Option.bind_some,hpn,Bool.not_true,Bool.false_eq_true,if_false]
    rw [if_neg hcap,if_neg (by omega),hold]
    simp only [Option.bind_some,hpo,Bool.not_true,Bool.false_eq_true,if_false,g3]
    cases f <;> rfl
   rcases g7 with rfl | rfl
   ·exact hfin H rfl pre (Only.refl _ _)
   ·exact hfin (H.put b .dead) rfl (by rw [pre]; simp) ((Only.refl _ _).put (.inl (by simp)) _)
theorem Grow.app1 (h:Grow Z H sz v rows) (hZ:Z.next<=H.next) {bytes:Nat} (new:List Value) (hl:new.length=sz) (hp:new.all plain1=true) (hs:sz≠0) (hb:bytes≠0) (h1:(rows.length+1)*bytes<=2 ^ 46) :
  ∃ v' H',AM.app sz bytes v (slc H.next 0 1 1) (H.new (.cells new none))=some (v',H')/\Grow Z H' sz v' (rows++[new])/\Grew' H H' v v':=by
 have hb1:1<=bytes:=by omega
 have h2:(rows.length+1)*1<=(rows.length+1)*bytes:=Nat.mul_le_mul_left _ hb1
 obtain ⟨v',H',a1,a2,a3,a4⟩:=(h.ext ((Ext.refl H).new (.cells new none))).app (Nat.le_succ_of_le hZ) (bytes:=bytes) (x:=slc H.next 0 1 1) (new:=[new]) (Rows.made (f:=none) (by rw [AH.get_new_self]; simp) (.inl rfl) rfl (by simpa using hl)) (by simpa using hp) hs hb h1 (by simp at *; omega)
 refine ⟨v',H',a1,a2,⟨by have:=a3.1; simp at this; omega,fun b hb hf =>?_⟩,fun b hb=>(a4 b hb).imp id fun k=>by simp at k; omega⟩
 rw [a3.2 b (by simp; omega) hf,AH.get_new_lt _ _ hb]
end
theorem row_all (c:List Value) (f:Option Nat) (n:Nat) (h:c.length=n):(AObj.cells c f).row 0 n=some c:=by
 rw [row_cells,if_pos (by omega),List.drop_zero,List.take_of_length_le (by omega)]
theorem splice_mid (a b c v:List Value) (h:b.length=v.length):splice (a++b++c) a.length v=a++v++c:=by
 have h1:(a++b++c).take a.length=a:=by rw [List.append_assoc,List.take_left' rfl]
 have h2:(a++b++c).drop (a.length+v.length)=c:=by rw [<- h,<- List.length_append,List.drop_left' rfl]
 simp only [splice,h1,h2]
theorem fillL_full (size:Nat):∀ (vs:List Value) (k:Nat) (pre post:List Value),pre.length=k*size->post.length=vs.length*size->(∀ v∈vs,(vcells v).length=size) ->
  fillL (fun i=>some (i*size,size)) (pre++post) ((List.range' k vs.length).zip vs)=some (pre++vs.flatMap vcells)
 | [],k,pre,post,_,h2,_=>by
  simp at h2
  simp [h2]
 | v :: vs,k,pre,post,h1,h2,h3=>by
  have hv:=h3 v (by simp)
  have e:post=post.take size++post.drop size:=(List.take_append_drop _ _).symm
  have hl:(post.take size).length=size:=by rw [List.length_take,h2,List.length_cons,Nat.succ_mul]; omega
  have hs:splice (pre++post) (k*size) (vcells v)=(pre++vcells v)++post.drop size:=by
   conv=>lhs; rw [e]
   rw [<- h1,<- List.append_assoc,splice_mid _ _ _ _ (by omega)]
  simp only [List.length_cons,List.range'_succ,List.zip_cons_cons,fillL_cons]
  rw [hv,hs]
  have ih:=fillL_full size vs (k+1) (pre++vcells v) (post.drop size) (by rw [List.length_append,h1,hv,Nat.succ_mul]) (by rw [List.length_drop,h2,List.length_cons,Nat.succ_mul]; omega) (fun x hx=>h3 x (by simp [hx]))
  rw [ih]
  have hle:k*size+size<=pre.length+post.length:=by rw [h1,h2,List.length_cons,Nat.succ_mul]; omega
  simp [hle]
theorem buildS_full (len size:Nat) (zero:List Value) (parts:List (Nat×Value)) (vs:List Value) (hz:zero.length=size) (hp:parts=(List.range' 0 vs.length).zip vs) (hn:vs.length=len) (hd:vs.all defd=true) (hl:∀ v∈vs,(vcells v).length=size) :
  buildS len size zero.toArray parts=some (.cells (vs.flatMap vcells) none,mkSlc len len):=by
 subst hp hn
 rw [buildS_eq _ _ _ _ hz]
 have h1:((List.range' 0 vs.length).zip vs).all (fun p=>defd p.2)=true:=by
  rw [List.all_eq_true] at hd ⊢
  intro p hp
  exact hd _ (List.of_mem_zip hp).2
 have:=fillL_full size vs 0 [] (List.replicate vs.length zero).flatten (by simp) (by simp [hz]) hl
 simp only [List.nil_append] at this
 simp [h1,this]
 rfl
theorem buildS_one (size:Nat) (zero cs:List Value) (hz:zero.length=size) (h:cs.length=size):buildS 1 size zero.toArray [(0,.agg cs.toArray)]=some (.cells cs none,mkSlc 1 1):=by
 have:=buildS_full 1 size zero [(0,.agg cs.toArray)] [.agg cs.toArray] hz rfl rfl rfl (by simpa using h)
 simpa using this
theorem i64_rem_nat (a b:Nat) (hb:b≠0):binInt .rem (vi a) (vi b)=some (vi ((a % b:Nat):Int)):=by
 rw [binInt_rem _ _ _ (by omega)]
 simp [Int.tmod]
theorem i64_quo_nat (a b:Nat) (hb:b≠0) (ha:a<2 ^ 63):binInt .quo (vi a) (vi b)=some (vi ((a / b:Nat):Int)):=by
 have h1:a / b<=a:=Nat.div_le_self _ _
 rw [binInt_quo _ _ _ (by omega)]
 have e:(a:Int).tdiv b=((a / b:Nat):Int):=by simp [Int.tdiv]
 rw [e]
 generalize a / b=q at *
 rw [wrap_i64 (by omega) (by omega)]
end Go.AM
end
section
namespace Go.AM
def zH:AH:=⟨0,fun _ => .dead⟩
end Go.AM
end
section
namespace Go.AM
abbrev NameL:=List UInt8
end Go.AM
end
section
namespace Go.AM
def FreshV (n:Nat) (v:Value):Prop:=∀ b,blk v=some b->n<=b
theorem grew_ext {H0 H H':AH} {v v':Value} (g:Grew' H H' v v') (e:Ext H0 H) (hf:FreshV H0.next v):Ext H0 H'/\FreshV H0.next v' :=
 ⟨g.1.ext e fun b hb=>hf b (mem_blkL.1 hb),fun b hb=>(g.2 b hb).elim (hf b) fun k=>Nat.le_trans e.1 k⟩
end Go.AM
end
section
namespace Go.AM
variable {E:Sy} {H:AH} {Q:Value->AH->Prop}
structure PlaceD where
 m:Int
 i:BitVec 16
 deriving DecidableEq
def PlaceD.cells (p:PlaceD):List Value:=[vi p.m,u16 p.i]
structure MntD where
 id:Int
 at_:PlaceD
 root:BitVec 16
 held:Int
 deriving DecidableEq
def MntD.cells (m:MntD):List Value:=[vi m.id,vi m.at_.m,u16 m.at_.i,u16 m.root,vi m.held]
@[simp] theorem nilp_some (a:Addr):binNil eqPtr .eql (.pointer (some a)) (.pointer none)=some (.bool false):=rfl
@[simp] theorem nilp_none:binNil eqPtr .eql (.pointer none) (.pointer none)=some (.bool true):=rfl
@[simp] theorem nilp_some' (a:Addr):binNil eqPtr .neq (.pointer (some a)) (.pointer none)=some (.bool true):=rfl
@[simp] theorem nilp_none':binNil eqPtr .neq (.pointer none) (.pointer none)=some (.bool false):=rfl
@[simp] theorem nilCk_ptr (a:Addr):nilCk (.pointer (some a))=some (.pointer (some a)):=rfl
end Go.AM
end
section
namespace Go.AM
variable {E:Sy} {H:AH} {Q:Value->AH->Prop}
def standsAt (p:PlaceD) (m:MntD):Bool:=decide (m.id≠0)&&decide (m.at_=p)
def seenN (T:List MntD):Nat->PlaceD->PlaceD
 | 0,p=>p
 | n+1,p=>match T.find? (standsAt p) with
  | none=>p
  | some m=>seenN T n ⟨m.id,m.root⟩
def seen (T:List MntD) (p:PlaceD):PlaceD:=seenN T T.length p
end Go.AM
end
section
namespace Go.AM
variable {E:Sy} {H0 Z H:AH} {Q:Value->AH->Prop}
@[simp] theorem PlaceD.cells_length (p:PlaceD):p.cells.length=2:=rfl
@[simp] theorem MntD.cells_length (m:MntD):m.cells.length=5:=rfl
@[simp] theorem place_plain (p:PlaceD):p.cells.all plain1=true:=rfl
@[simp] theorem place_splice (a b:Value) (p:PlaceD):splice [a,b] 0 p.cells=p.cells:=rfl
@[simp] theorem place_splice' (q p:PlaceD):splice q.cells 0 p.cells=p.cells:=rfl
@[simp] theorem place_take (p:PlaceD):p.cells.take 2=p.cells:=rfl
@[simp] theorem mnt_plain (p:MntD):p.cells.all plain1=true:=rfl
@[simp] theorem mnt_splice (a b c d e:Value) (p:MntD):splice [a,b,c,d,e] 0 p.cells=p.cells:=rfl
@[simp] theorem mnt_take (p:MntD):p.cells.take 5=p.cells:=rfl
end Go.AM
end
section
namespace Go.AM
theorem nrf {α:Type} {a b:α} (h:a=b):a=b:=Eq.trans h rfl
def tk {α:Type} (x:α):α:=x
@[simp] theorem tk_eq {α:Type} (x:α):tk x=x:=Eq.trans (Eq.refl x) (Eq.refl x)
@[congr] theorem ifB_lazy {v v':Value} {A B:Prop} (h:tk v=v'):ifB v A B=ifB v' A B:=by rw [<- h,tk_eq]
@[congr] theorem opt_lazy {α:Type} {o o':Option α} {K:α->Prop} (h:tk o=o'):opt o K=opt o' K:=by rw [<- h,tk_eq]
@[congr] theorem opt2_lazy {α β:Type} {o o':Option (α×β)} {K:α->β->Prop} (h:tk o=o'):opt2 o K=opt2 o' K:=by rw [<- h,tk_eq]
@[congr] theorem mk_lazy {o o':Option (AObj×(Nat->Value))} {H:AH} {K:Value->AH->Prop} (h:tk o=o'):AM.mk o H K=AM.mk o' H K:=by rw [<- h,tk_eq]
@[congr] theorem call_lazy {E:Sy} {f f':FuncId} {a a':List Value} {H H':AH} {K:Value->AH->Prop} (h1:tk f=f') (h2:tk a=a') (h3:tk H=H'):E.call f a H K=E.call f' a' H' K:=by rw [<- h1,<- h2,<- h3]; rfl
@[congr] theorem gd_lazy {v v':Value} {b:Bool} {m:(Value->AH->Prop)->Prop} {H:AH} {K:Value->AH->Prop} (h:tk v=v'):gd v b m H K=gd v' b m H K:=by rw [<- h,tk_eq]
@[congr] theorem LoopL_lazy {B:List Value->AH->(List Value->AH->Prop)->Prop} {l l':List Value} {H H':AH} (h1:tk l=l') (h2:tk H=H'):LoopL B l H=LoopL B l' H':=by rw [<- h1,<- h2]; rfl
@[simp high] theorem mkPtr_eq_z (b:Nat):mkPtr b=ptr b 0:=nrf rfl
@[simp high] theorem cell_cells_z (c:List Value) (f:Option Nat) (i:Nat):(AObj.cells c f).cell i=c[i]? :=nrf rfl
@[simp high] theorem boxO_agg_z (a:Array Value):boxO (.agg a)=some (.cells a.toList none,mkPtr):=nrf rfl
@[simp high] theorem un_not_z (b:Bool):un .not (.bool b)=some (.bool !b):=nrf rfl
@[simp high] theorem pick_true_z (x y:Value):pick (.bool true) x y=some x:=nrf rfl
@[simp high] theorem pick_false_z (x y:Value):pick (.bool false) x y=some y:=nrf rfl
@[simp high] theorem AH.next_new_z (H:AH) (o:AObj):(H.new o).next=H.next+1:=nrf rfl
@[simp] theorem nilCk_p (a:Addr):nilCk (.pointer (some a))=some (.pointer (some a)):=nrf rfl
def stdZ:=And.intro @nth_0<|And.intro @nth_1<|And.intro @nth_2<|And.intro @nth_3<|And.intro @nth_4<|And.intro @nth_5<|And.intro @nth_6<|And.intro @nth_7<|And.intro @nth_8<|And.intro @nth_9<|And.intro @nth_10<|And.intro @nth_11<|And.intro @nth_12<|And.intro @nth_13<|And.intro @nth_14<|And.intro @nth_15<|And.intro @nilCk_p<|And.intro @addOff_ptr<|And.intro @load1_ptr<|And.intro @cell_cells_z<|And.intro @gd_tt<|And.intro @gd_tf<|And.intro @gd_ft<|And.intro @gd_ff<|And.intro @gd_skip<|And.intro @pick_true_z<|And.intro @pick_false_z<|And.intro @un_not_z<|And.intro @ext_tuple<|And.intro @boxO_agg_z<|And.intro @mkPtr_eq_z<|And.intro @AM.mk_some<|And.intro @mkSlc_eq<|And.intro @opt2_some<|And.intro @AH.next_new_z<|And.intro @tk_eq<|And.intro @opt_some<|And.intro @Nat.zero_add<|And.intro @Nat.add_zero<|And.intro @List.getElem?_cons_zero.{0}<|And.intro @List.getElem?_cons_succ.{0}<|And.intro Bool.not_true<|And.intro Bool.not_false<|And.intro @List.toList_toArray.{0}<|And.intro @ifB_true @ifB_false
end Go.AM
end
section
namespace Go.AM
def byteR (l:List (BitVec 8)):List (List Value):=l.map fun b=>[u8 b]
end Go.AM
end
section
namespace Go.AM
open Go.Sort (SWO PermIn SortedIn)
def strR (l:List NameL):List (List Value):=l.map fun s=>[str s]
theorem strR_length (l:List NameL):(strR l).length=l.length:=by simp [strR]
end Go.AM
end
section
namespace Go.AM
section
variable {E:Sy} {H H' H0 Z:AH} {Q:Value->AH->Prop} {t:Nat} {M:List MntD}
theorem strR_flatten:∀ ns:List NameL,(strR ns).flatten=ns.map str
 | []=>rfl
 | x :: ns=>by
  have ih:=strR_flatten ns
  unfold strR at ih ⊢
  simp only [List.map_cons,List.flatten_cons,ih,List.singleton_append]
end
end Go.AM
end
section
namespace Go.AM
section
variable {E:Sy} {H0 H H' H'':AH} {Q:Value->AH->Prop} {p m:Nat} {t:Nat} {nv nv' mv:Value} {nx:Int} {mr:List (List Value)}
theorem strOf_rows {v:Value} {l:List (BitVec 8)} (h:Rows H 1 v (byteR l)):strOf v H=some (str (l.map UInt8.ofBitVec)):=by
 refine strOf_vals (l:=l) ?_
 unfold Vals
 rw [List.map_map]
 exact h
end
end Go.AM
end
section
namespace Go.AM
set_option maxRecDepth 20000
def digit (n:Nat):UInt8:=UInt8.ofNat (48+n)
def printD (n:Nat):List UInt8:=if h:9<n then printD (n / 10)++[digit (n % 10)] else [digit n]
termination_by n
decreasing_by omega
theorem printD_small {n:Nat} (h:n<=9):printD n=[digit n]:=by
 rw [printD]; simp; omega
theorem printD_big {n:Nat} (h:9<n):printD n=printD (n / 10)++[digit (n % 10)]:=by
 rw [printD]; simp [h]
theorem printD_len:∀ (k n:Nat),n<10 ^ k->(printD n).length<=k+1
 | 0,n,h=>by rw [printD_small (by omega)]; simp
 | k+1,n,h=>by
  by_cases h9:9<n
  ·rw [printD_big h9,List.length_append]
   have:=printD_len k (n / 10) (by rw [Nat.pow_succ] at h; omega)
   simp; omega
  ·rw [printD_small (by omega)]; simp
section
variable {E:Sy} {H H' H0 Z:AH} {Q:Value->AH->Prop}
theorem digit_str {H:AH} (x:BitVec 64) (hx:x.toNat<=9):binInt .add (.int .u64 48) (u64 x)=some (u64 (48#64+x))/\convInt .u8 (u64 (48#64+x))=some (u8 ((48#64+x).setWidth 8))/\UInt8.ofBitVec ((48#64+x).setWidth 8)=digit x.toNat:=by
 refine ⟨u64_add 48#64 x,u64_to_u8 _,?_⟩
 unfold digit
 apply UInt8.toNat_inj.1
 simp
theorem byte_str (y:BitVec 8):∃ H',Ext H H'/\∀ (K:Value->AH->Prop),K (str [UInt8.ofBitVec y]) H'->AM.mk (buildS 1 1 #[(.int .u8 0)] [(0,u8 y)]) H fun v9 H3=>opt (strOf v9 H3) fun v10=>K v10 H3:=by
 have hb:buildS 1 1 #[(.int .u8 0)] [(0,u8 y)]=some (.cells [u8 y] none,mkSlc 1 1):=buildS_one 1 [u8 0#8] [u8 y] rfl rfl
 refine ⟨H.new (.cells [u8 y] none),(Ext.refl _).new _,fun K hK =>?_⟩
 have hr:Rows (H.new (.cells [u8 y] none)) 1 (slc H.next 0 1 1) (byteR [y]):=Rows.made (rows:=[[u8 y]]) (AH.get_new_self _ _) (.inl rfl) rfl (by simp)
 have hs:=strOf_rows hr
 simp only [hb,AM.mk_some,mkSlc_eq,hs,List.map_cons,List.map_nil,stdZ]
 exact hK
end
end Go.AM
end
section
namespace Go.AM
section
variable {E:Sy} {H H' H0 Z:AH} {Q:Value->AH->Prop}
theorem S.asm_Printed20 (hE:Fold E):∀ (n:Nat) (x:BitVec 64) (_:x.toNat=n) (_:n<10 ^ 20) (H:AH) (Q:Value->AH->Prop) (_:∀ H',Ext H H'->Q (str (printD n)) H'),E.call (E.fid i.f0) [u64 x] H Q:=by
 intro n
 induction n using Nat.strongRecOn with
 | _ n ih =>
 intro x hx hn H Q hQ
 apply hE.f0
 have n9:(.int .u64 9:Value)=u64 9#64:=rfl
 have n10:(.int .u64 10:Value)=u64 10#64:=rfl
 by_cases h9:9<n
 ·have h9':(9#64).toNat<x.toNat:=by simp; omega
  have hq:(x / 10#64).toNat=n / 10:=by rw [BitVec.toNat_udiv,hx]; rfl
  have hr:(x % 10#64).toNat=n % 10:=by rw [BitVec.toNat_umod,hx]; rfl
  have q1:binInt .quo (u64 x) (u64 10#64)=some (u64 (x / 10#64)):=u64_quo x 10#64 (by decide)
  have q2:binInt .rem (u64 x) (u64 10#64)=some (u64 (x % 10#64)):=u64_rem x 10#64 (by decide)
  simp only [F.f0,n9,n10,u64_gtr,h9',decide_true,q1,q2,stdZ]
  refine ih (n / 10) (by omega) _ hq (by omega) H _ fun H1 e1 =>?_
  refine ih (n % 10) (by omega) _ hr (by omega) H1 _ fun H2 e2 =>?_
  have l1:=printD_len 20 (n / 10) (by omega)
  rw [printD_small (show n % 10<=9 by omega)]
  have hadd:=binStr_add (printD (n / 10)) [digit (n % 10)] (by simp; omega)
  rw [printD_big h9] at hQ
  simp only [hadd,stdZ]
  exact hQ _ (e1.trans e2)
 ·have h9':¬ (9#64).toNat<x.toNat:=by simp; omega
  obtain ⟨d1,d2,d3⟩:=digit_str (H:=H) x (by omega)
  rw [printD_small (by omega)] at hQ
  simp only [F.f0,n9,u64_gtr,h9',decide_false,d1,d2,stdZ]
  obtain ⟨H',e,hk⟩:=byte_str (H:=H) ((48#64+x).setWidth 8)
  refine hk _ ?_
  rw [d3,hx]
  exact hQ _ e
theorem S.pinfoldref01_Printed20 (hE:Fold E) (n:Nat) (x:BitVec 64) (hx:x.toNat=n) (hn:n<10 ^ 20) (hQ:∀ H',Ext H H'->Q (str (printD n)) H'):E.call (E.fid i.f15) [u64 x] H Q:=by
 apply hE.f15
 have n10:(.int .u64 10:Value)=u64 10#64:=rfl
 have n0:(.int .u64 0:Value)=u64 0#64:=rfl
 have s0:(.string ⟨#[]⟩:Value)=str []:=rfl
 simp only [F.f15,s0]
 refine LoopL.ind (fun m ls H'=>∃ (x:BitVec 64) (s:List UInt8),m=x.toNat/\ls=[u64 x,str s]/\Ext H H'/\printD x.toNat++s=printD n/\m<10 ^ 20/\s.length<2 ^ 40) ?_ n ⟨x,[],hx.symm,rfl,Ext.refl _,by rw [hx]; simp,hn,by simp⟩
 rintro m _ H1 X ih ⟨x,s,rfl,rfl,e1,heq,hm,hsl⟩
 have hq:(x / 10#64).toNat=x.toNat / 10:=by rw [BitVec.toNat_udiv]; rfl
 have hr:(x % 10#64).toNat=x.toNat % 10:=by rw [BitVec.toNat_umod]; rfl
 have q1:binInt .quo (u64 x) (u64 10#64)=some (u64 (x / 10#64)):=u64_quo x 10#64 (by decide)
 have q2:binInt .rem (u64 x) (u64 10#64)=some (u64 (x % 10#64)):=u64_rem x 10#64 (by decide)
 obtain ⟨d1,d2,d3⟩:=digit_str (H:=H) (x % 10#64) (by omega)
 obtain ⟨H2,e2,hk⟩:=byte_str (H:=H1) ((48#64+x % 10#64).setWidth 8)
 have hadd:=binStr_add [digit (x.toNat % 10)] s (by simp; omega)
 simp only [F.f15_l1,nth_0,nth_1,n10,q2,d1,d2,stdZ]
 refine hk _ ?_
 rw [d3,hr]
 have hls:s.length+1<2 ^ 40:=by
  have h1:=congrArg List.length heq
  rw [List.length_append] at h1
  have h2:=printD_len 20 n hn
  have h3:0<(printD x.toNat).length:=by rw [printD]; split <;> simp
  omega
 simp only [hadd,n10,q1,n0,u64_eql,stdZ]
 by_cases h9:9<x.toNat
 ·have hne:¬ x / 10#64=0#64:=fun h=>by
   have:=congrArg BitVec.toNat h
   rw [hq] at this
   simp at this
   omega
  simp only [hne,decide_false,stdZ]
  refine ih _ (by rw [hq]; omega) _ _ ⟨x / 10#64,digit (x.toNat % 10) :: s,rfl,rfl,e1.trans e2,?_,by rw [hq]; omega,by simpa using hls⟩
  rw [hq,<- heq,printD_big h9]
  simp
 ·have hz:x / 10#64=0#64:=by
   apply BitVec.eq_of_toNat_eq
   rw [hq]; simp; omega
  simp only [hz,decide_true,stdZ]
  rw [printD_small (by omega)] at heq
  have:x.toNat % 10=x.toNat:=by omega
  rw [this]
  have:=hQ _ (e1.trans e2)
  rw [<- heq] at this
  exact this
end
end Go.AM
end
section
namespace Go.AM
def rwordsL:List NameL:=[[101,120,101,99],[119,114,105,116,101],[114,101,97,100],[108,105,115,116],[114,109,100,105,114],[114,109,102,105,108,101],[109,107,100,105,114],[109,107,102,105,108,101],[109,107,108,105,110,107],[114,101,102,101,114],[116,114,117,110,99,97,116,101],[],[],[],[98,105,110,100],[99,111,110,110,101,99,116]]
def rwords:List (NameL×Nat):=rwordsL.zipIdx
def rnames:List (NameL×Nat):=[([101,120,101,99],0),([119,114,105,116,101],1),([114,101,97,100],2),([108,105,115,116],3),([114,109,100,105,114],4),([114,109,102,105,108,101],5),([109,107,100,105,114],6),([109,107,102,105,108,101],7),([109,107,108,105,110,107],8),([114,101,102,101,114],9),([116,114,117,110,99,97,116,101],10),([98,105,110,100],14),([99,111,110,110,101,99,116],15)]
def bitP (s:BitVec 16) (p:NameL×Nat):Bool:=s.toNat.testBit p.2
def outC (s:BitVec 16) (i:Nat):List NameL:=((rwords.take i).filter fun p=>bitP s p&&decide (p.1≠[])).map (·.1)
def outR (s:BitVec 16) (i:Nat):List NameL:=((rnames.take i).filter (bitP s)).map (·.1)
def rightW (s:BitVec 16):List UInt8:=if outR s 13=[] then [45] else Lib.join (outR s 13) [44]
theorem rnames_eq:rwords.filter (fun p=>decide (p.1≠[]))=rnames:=by decide
theorem outC_outR (s:BitVec 16):outC s 16=outR s 13:=by
 unfold outC outR
 rw [List.take_of_length_le (show rwords.length<=16 by decide),List.take_of_length_le (show rnames.length<=13 by decide),<- rnames_eq,List.filter_filter]
theorem outC_succ (s:BitVec 16) {i:Nat} {x:NameL×Nat} (h:rwords[i]? = some x):outC s (i+1)=outC s i++if bitP s x=true/\x.1≠[] then [x.1] else []:=by
 unfold outC
 rw [List.take_add_one,h,List.filter_append,List.map_append]
 by_cases h1:bitP s x=true <;> by_cases h2:x.1=[] <;> simp [h1,h2]
theorem outR_succ (s:BitVec 16) {i:Nat} {x:NameL×Nat} (h:rnames[i]? = some x):outR s (i+1)=outR s i++if bitP s x=true then [x.1] else []:=by
 unfold outR
 rw [List.take_add_one,h,List.filter_append,List.map_append]
 by_cases h1:bitP s x=true <;> simp [h1]
theorem outR_mem {s:BitVec 16} {i:Nat} {x:NameL} (h:x∈outR s i):x≠[]/\x.length<=8:=by
 unfold outR at h
 rw [List.mem_map] at h
 obtain ⟨p,hp,rfl⟩:=h
 have hp:=List.mem_of_mem_take (List.mem_filter.1 hp).1
 have hall:∀ p∈rnames,p.1≠[]/\p.1.length<=8:=by decide
 exact hall p hp
theorem outR_len (s:BitVec 16) (i:Nat):(outR s i).length<=13:=by
 unfold outR
 rw [List.length_map]
 refine Nat.le_trans (List.length_filter_le _ _) ?_
 rw [List.length_take]
 exact Nat.le_trans (Nat.min_le_right _ _) (by decide)
theorem join_snoc (sep:List UInt8) (x:List UInt8):∀ l:List (List UInt8),Lib.join (l++[x]) sep=if l=[] then x else Lib.join l sep++sep++x
 | []=>by simp [Lib.join_one]
 | y :: l=>by
  rw [List.cons_append,Lib.join_cons,Lib.join_cons,if_neg (by simp)]
  simp [Lib.joinTail]
theorem join_le:∀ l:List (List UInt8),(∀ x∈l,x.length<=8)->(Lib.join l [44]).length<=9*l.length
 | [],_=>by simp [Lib.join_nil]
 | x :: l,h=>by
  have hl:∀ l:List (List UInt8),(∀ x∈l,x.length<=8)->(Lib.joinTail [44] l).length<=9*l.length:=by
   intro l
   induction l with
   | nil=>intro _; simp [Lib.joinTail]
   | cons y l ih =>
    intro h
    have h1:=ih fun z hz=>h z (List.mem_cons_of_mem _ hz)
    have h2:=h y List.mem_cons_self
    simp only [Lib.joinTail,List.map_cons,List.flatten_cons,List.length_append,List.length_cons,List.length_nil] at h1 ⊢
    omega
  have h1:=hl l fun z hz=>h z (List.mem_cons_of_mem _ hz)
  have h2:=h x List.mem_cons_self
  rw [Lib.join_cons,List.length_append,List.length_cons]
  omega
theorem join_ne {l:List (List UInt8)} (h:l≠[]) (hx:∀ x∈l,x≠[]):Lib.join l [44]≠[]:=by
 cases l with
 | nil=>exact absurd rfl h
 | cons x l =>
  rw [Lib.join_cons]
  intro e
  exact hx x List.mem_cons_self (List.append_eq_nil_iff.1 e).1
section
variable {E:Sy} {H H' H0 Z:AH} {Q:Value->AH->Prop}
theorem joins_by (hE:Fold E) (ns:List NameL) (sep:List UInt8) (h:ns.length<=100000) (hl:(Lib.join ns sep).length<=140737488355328) {v:Value} (hv:Rows H 1 v (strR ns)) (hR:Q (str (Lib.join ns sep)) H):E.call (E.fid i.f27) [v,str sep] H Q:=by
 apply hE.f27
 rcases hv.at_ with ⟨h0,a,rfl⟩ | ⟨b,o,c,rfl,h2,_,h4⟩
 ·have h0:ns=[]:=by simpa [strR] using h0
  subst h0
  exact ⟨[],rfl,Nat.le_refl _,by decide,hl,.inl rfl,hR⟩
 ·rw [strR_length] at h2
  refine ⟨ns,(strR_length ns).symm,by rw [strR_length]; exact h2,by rw [strR_length]; omega,hl,.inr ⟨b,o,rfl,fun j s hs =>?_⟩,hR⟩
  have hj:j<ns.length:=(List.getElem?_eq_some_iff.1 hs).1
  have hf:=strR_flatten ns
  have:=row_at h4 (j:=j) (by rw [strR_length]; omega)
  rw [this,hf,List.getElem?_map,hs]
  rfl
end
end Go.AM
end
section
namespace Go.AM
set_option maxRecDepth 20000
section
variable {E:Sy} {H0 H H' H'':AH} {Q:Value->AH->Prop} {w t s:Nat} {M M':List MntD} {nx nx' k l:Int}
theorem S.f14 (hE:Fold E) (n:Nat) (hn:n<=40) (hQ:Q (vi ((2 ^ n:Nat):Int)) H):E.call (E.fid i.f14) [vi n] H Q:=by
 apply hE.f14
 have i0:(.int .i64 0:Value)=vi ((0:Nat):Int):=rfl
 have i1:(.int .i64 1:Value)=vi ((2 ^ 0:Nat):Int):=rfl
 simp only [F.f14]
 rw [i0,i1]
 refine LoopL.count n (fun j ls H'=>ls=[vi n,vi ((2 ^ j:Nat):Int),vi j]/\H'=H) ?_ ⟨rfl,rfl⟩
 rintro j _ H1 X hj hX ⟨rfl,rfl⟩
 rcases Nat.lt_or_ge j n with hjl | hjl
 ·have hX:=hX hjl
  have hjl':(j:Int)<n:=by omega
  have hp:2 ^ j<=2 ^ 40:=Nat.pow_le_pow_right (by decide) (by omega)
  have hm:binInt .mul (vi ((2 ^ j:Nat):Int)) (.int .i64 2)=some (vi ((2 ^ (j+1):Nat):Int)):=by
   show binInt .mul (vi ((2 ^ j:Nat):Int)) (vi 2)=_
   rw [Nat.pow_succ]
   generalize 2 ^ j=P at *
   rw [i64_mul (by omega) (by omega)]
   congr 2
  have hjj:=i64_inc (i:=j) (by omega)
  simp only [F.f14_l1,nth_0,nth_1,nth_2,i64_lss,hjl',decide_true,hm,stdZ]
  rw [hjj]
  simp only [stdZ]
  exact hX _ _ ⟨rfl,rfl⟩
 ·have:j=n:=by omega
  subst this
  have hjl':¬ (j:Int)<j:=by omega
  simp only [F.f14_l1,nth_0,nth_1,nth_2,i64_lss,hjl',decide_false,stdZ]
  exact hQ
theorem S.f13 (hE:Fold E) (x n:Nat) (hx:x<2 ^ 63) (hn:n<=40) (hQ:Q (vb (x.testBit n)) H):E.call (E.fid i.f13) [vi x,vi n] H Q:=by
 apply hE.f13
 simp only [F.f13]
 refine S.f14 hE n hn ?_
 have h1:=i64_quo_nat x (2 ^ n) (by have:=Nat.two_pow_pos n; omega) hx
 have h2:binInt .rem (vi ((x / 2 ^ n:Nat):Int)) (.int .i64 2)=some (vi ((x / 2 ^ n % 2:Nat):Int)):=i64_rem_nat _ 2 (by decide)
 have h3:x.testBit n=decide (((x / 2 ^ n % 2:Nat):Int)=1):=by
  rw [Nat.testBit_eq_decide_div_mod_eq,decide_eq_decide]; omega
 rw [h3] at hQ
 simp only [h1,h2,i64_eql,stdZ]
 exact hQ
end
end Go.AM
end
section
namespace Go.AM
set_option maxRecDepth 20000
section
variable {E:Sy} {H H' H0 Z:AH} {Q:Value->AH->Prop}
def rwordsA:Value := .agg (rwordsL.map str).toArray
theorem S.f24 (hE:Fold E) (hQ:∀ H',Ext H H'->Q rwordsA H'):E.call (E.fid i.f24) [] H Q:=by
 apply hE.f24
 have hbA:buildA 1 (zs 16 (.string ⟨#[]⟩)).toArray [(0,(.string ⟨#[101,120,101,99]⟩)),(1,(.string ⟨#[119,114,105,116,101]⟩)),(2,(.string ⟨#[114,101,97,100]⟩)),(3,(.string ⟨#[108,105,115,116]⟩)),(4,(.string ⟨#[114,109,100,105,114]⟩)),(5,(.string ⟨#[114,109,102,105,108,101]⟩)),(6,(.string ⟨#[109,107,100,105,114]⟩)),(7,(.string ⟨#[109,107,102,105,108,101]⟩)),(8,(.string ⟨#[109,107,108,105,110,107]⟩)),(9,(.string ⟨#[114,101,102,101,114]⟩)),(10,(.string ⟨#[116,114,117,110,99,97,116,101]⟩)),(11,(.string ⟨#[]⟩)),(12,(.string ⟨#[]⟩)),(13,(.string ⟨#[]⟩)),(14,(.string ⟨#[98,105,110,100]⟩)),(15,(.string ⟨#[99,111,110,110,101,99,116]⟩))]=some rwordsA:=rfl
 have hst:storeN 16 (ptr H.next 0) rwordsA (H.new (.cells (zs 16 (.string ⟨#[]⟩)) none))=some (H.new (.cells (rwordsL.map str) none)):=by
  unfold rwordsA
  rw [storeN_ptr,AH.get_new_self]
  have h3:AM.splice (zs 16 (.string ⟨#[]⟩)) 0 (rwordsL.map str)=rwordsL.map str:=rfl
  have h4:(rwordsL.map str).all plain1=true:=rfl
  have h5:(rwordsL.map str).length=16:=rfl
  have h6:(zs 16 (.string ⟨#[]⟩)).length=16:=rfl
  simp only [List.size_toArray,List.toList_toArray,h5,h4,h6,Nat.zero_add,Nat.le_refl,and_self,if_true,h3,AH.new_put]
 have hld:loadN 16 (ptr H.next 0) (H.new (.cells (rwordsL.map str) none))=some rwordsA:=by
  rw [loadN_ptr,AH.get_new_self]; rfl
 simp only [F.f24,allocW_eq,hbA,hst,hld,stdZ]
 exact hQ _ ((Ext.refl _).new _)
theorem rwords_at {j:Nat} (hj:j<16):∃ x,rwords[j]? = some (x,j)/\ixAgg1 16 1 rwordsA (vi j)=some (str x):=by
 have hall:(List.range 16).all fun j=>(rwords[j]?).any fun p=>p.2 == j=true:=by decide
 have h1:=List.all_eq_true.1 hall j (List.mem_range.2 hj)
 obtain ⟨⟨x,k⟩,h2,h3⟩:=(Option.any_eq_true _ _).1 (of_decide_eq_true h1)
 simp only [beq_iff_eq,decide_eq_true_eq] at h3
 subst h3
 refine ⟨x,h2,?_⟩
 have h4:rwordsL[k]? = some x:=by
  unfold rwords at h2
  rw [List.getElem?_zipIdx,Option.map_eq_some_iff] at h2
  obtain ⟨y,hy,e⟩:=h2
  simp only [Prod.mk.injEq] at e
  rw [hy,e.1]
 have hk:(k:Int)<16:=by omega
 have h0:(0:Int)<=k:=by omega
 unfold rwordsA
 show (if (0:Int)<=k/\(k:Int)<(16:Nat) then part1 _ ((k:Int).toNat*1) else none)=_
 rw [if_pos ⟨h0,by omega⟩,Int.toNat_natCast,Nat.mul_one]
 show (List.map str rwordsL).toArray[k]? = some (str x)
 simp [h4]
theorem bit_one (s:BitVec 16) (j:Nat):decide ((s >>> j)&&&1#16=1#16)=s.toNat.testBit j:=by
 rw [Bool.eq_iff_iff,decide_eq_true_eq,<- BitVec.toNat_inj,BitVec.toNat_and,BitVec.toNat_ushiftRight,show (1#16:BitVec 16).toNat=1 from rfl,Nat.and_one_is_mod,Nat.testBit,Nat.shiftRight_eq_div_pow]
 simp only [Nat.one_and_eq_mod_two,bne_iff_ne,ne_eq]
 omega
theorem S.f23 (hE:Fold E) (s:BitVec 16) (hQ:∀ H',Ext H H'->Q (str (rightW s)) H'):E.call (E.fid i.f23) [u16 s] H Q:=by
 apply hE.f23
 simp only [F.f23]
 refine S.f24 hE fun H1 e1 =>?_
 refine LoopL.count 16 (fun j ls H'=>∃ v,ls=[u16 s,v,rwordsA,vi j]/\Ext H H'/\Grow zH H' 1 v (strR (outC s j))/\FreshV H.next v/\(outC s j).length<=j) ?_ ⟨nilS,rfl,e1,Grow.nil _ _ _,fun b hb=>by simp [blk] at hb,by simp [outC]⟩
 rintro j _ H2 X hj hX ⟨v,rfl,e2,g,f,hl⟩
 rcases Nat.lt_or_ge j 16 with hjl | hjl
 ·have hX:=hX hjl
  have hjl':(j:Int)<16:=by omega
  have hjj:=i64_inc (i:=j) (by omega)
  obtain ⟨x,h1,h2⟩:=rwords_at hjl
  have hsu:=outC_succ s h1
  have k1:(.int .u16 1:Value)=u16 1#16:=rfl
  have hb:bitP s (x,j)=s.toNat.testBit j:=rfl
  rw [hb] at hsu
  have hnx:binStr .neq (str x) (.string ⟨#[]⟩)=some (vb (decide (x≠[]))):=binStr_neq x []
  simp only [F.f23_l1,nth_0,nth_1,nth_2,i64_lss,hjl',decide_true,h2,k1,u16_shr,u16_and,u16_eql,bit_one,stdZ]
  by_cases hbit:s.toNat.testBit j=true
  ·by_cases hx:x=[]
   ·rw [if_neg (fun h=>h.2 hx),List.append_nil] at hsu
    have hn0:binStr .neq (str []) (.string ⟨#[]⟩)=some (vb false):=by rw [show (.string ⟨#[]⟩:Value)=str [] from rfl,binStr_neq]; simp
    simp only [hbit,hn0,hx,hjj,stdZ]
    exact hX _ _ ⟨v,rfl,e2,by rw [hsu]; exact g,f,by rw [hsu]; omega⟩
   ·rw [if_pos ⟨hbit,hx⟩] at hsu
    have hb1:buildS 1 1 #[(.string ⟨#[]⟩)] [(0,str x)]=some (.cells [str x] none,mkSlc 1 1):=buildS_one 1 [str []] [str x] rfl rfl
    obtain ⟨v',H3,a1,a2,a3⟩:=g.app1 (Nat.zero_le _) (bytes:=16) [str x] rfl rfl (by decide) (by decide) (by rw [strR_length]; omega)
    obtain ⟨e3,f3⟩:=grew_ext a3 e2 f
    simp only [hbit,hnx,hx,decide_true,ne_eq,not_false_eq_true,hb1,a1,hjj,stdZ]
    refine hX _ _ ⟨v',rfl,e3,?_,f3,?_⟩
    ·rw [hsu]
     have:strR (outC s j++[x])=strR (outC s j)++[[str x]]:=by simp [strR]
     rw [this]; exact a2
    ·rw [hsu,List.length_append]; simp; omega
  ·rw [if_neg (fun h=>hbit h.1),List.append_nil] at hsu
   have hbit:s.toNat.testBit j=false:=by simpa using hbit
   simp only [hbit,hjj,stdZ]
   exact hX _ _ ⟨v,rfl,e2,by rw [hsu]; exact g,f,by rw [hsu]; omega⟩
 ·have:j=16:=by omega
  subst this
  have hjl':¬ (((16:Nat):Int)<16):=by omega
  have hlen:=g.toRows.lenSlc
  rw [strR_length,outC_outR] at hlen
  have gr:=g.toRows
  rw [outC_outR] at gr
  unfold rightW at hQ
  have s44:(.string ⟨#[44]⟩:Value)=str [44]:=rfl
  simp only [F.f23_l1,nth_0,nth_1,nth_2,i64_lss,hjl',decide_false,hlen,i64_eql,s44,stdZ]
  by_cases hn:outR s 13=[]
  ·rw [if_pos hn] at hQ
   have h0:(((outR s 13).length:Nat):Int)=0:=by rw [hn]; rfl
   simp only [h0,decide_true,stdZ]
   exact hQ _ e2
  ·rw [if_neg hn] at hQ
   have h0:¬ (((outR s 13).length:Nat):Int)=0:=fun h=>hn (List.length_eq_zero_iff.1 (by omega))
   simp only [h0,decide_false,stdZ]
   have hle:=join_le (outR s 13) fun x hx=>(outR_mem hx).2
   have hl13:=outR_len s 13
   exact joins_by hE (outR s 13) [44] (by omega) (by omega) gr (hQ _ e2)
end
end Go.AM
end
section
namespace Go.AM
set_option maxRecDepth 20000
section
variable {E:Sy} {H H' H0 Z:AH} {Q:Value->AH->Prop}
def rightsR:List (List Value):=rnames.map fun p=>[vi p.2,str p.1]
theorem S.f16 (hE:Fold E) (hQ:∀ v H',Ext H H'->Rows H' 2 v rightsR->Q v H'):E.call (E.fid i.f16) [] H Q:=by
 apply hE.f16
 have hbv:∀ (n:Int) (d:Array UInt8),buildV [(0,1),(1,1)] #[(.int .i64 0),(.string ⟨#[]⟩)] [(0,(.int .i64 n)),(1,(.string ⟨d⟩))]=some (.agg #[.int .i64 n,.string ⟨d⟩]):=fun _ _=>rfl
 have hbs:=buildS_full 13 2 [.int .i64 0,.string ⟨#[]⟩] [(0,.agg #[.int .i64 0,(.string ⟨#[101,120,101,99]⟩)]),(1,.agg #[.int .i64 1,(.string ⟨#[119,114,105,116,101]⟩)]),(2,.agg #[.int .i64 2,(.string ⟨#[114,101,97,100]⟩)]),(3,.agg #[.int .i64 3,(.string ⟨#[108,105,115,116]⟩)]),(4,.agg #[.int .i64 4,(.string ⟨#[114,109,100,105,114]⟩)]),(5,.agg #[.int .i64 5,(.string ⟨#[114,109,102,105,108,101]⟩)]),(6,.agg #[.int .i64 6,(.string ⟨#[109,107,100,105,114]⟩)]),(7,.agg #[.int .i64 7,(.string ⟨#[109,107,102,105,108,101]⟩)]),(8,.agg #[.int .i64 8,(.string ⟨#[109,107,108,105,110,107]⟩)]),(9,.agg #[.int .i64 9,(.string ⟨#[114,101,102,101,114]⟩)]),(10,.agg #[.int .i64 10,(.string ⟨#[116,114,117,110,99,97,116,101]⟩)]),(11,.agg #[.int .i64 14,(.string ⟨#[98,105,110,100]⟩)]),(12,.agg #[.int .i64 15,(.string ⟨#[99,111,110,110,101,99,116]⟩)])] [.agg #[.int .i64 0,(.string ⟨#[101,120,101,99]⟩)],.agg #[.int .i64 1,(.string ⟨#[119,114,105,116,101]⟩)],.agg #[.int .i64 2,(.string ⟨#[114,101,97,100]⟩)],.agg #[.int .i64 3,(.string ⟨#[108,105,115,116]⟩)],.agg #[.int .i64 4,(.string ⟨#[114,109,100,105,114]⟩)],.agg #[.int .i64 5,(.string ⟨#[114,109,102,105,108,101]⟩)],.agg #[.int .i64 6,(.string ⟨#[109,107,100,105,114]⟩)],.agg #[.int .i64 7,(.string ⟨#[109,107,102,105,108,101]⟩)],.agg #[.int .i64 8,(.string ⟨#[109,107,108,105,110,107]⟩)],.agg #[.int .i64 9,(.string ⟨#[114,101,102,101,114]⟩)],.agg #[.int .i64 10,(.string ⟨#[116,114,117,110,99,97,116,101]⟩)],.agg #[.int .i64 14,(.string ⟨#[98,105,110,100]⟩)],.agg #[.int .i64 15,(.string ⟨#[99,111,110,110,101,99,116]⟩)]] rfl rfl rfl rfl (by decide +kernel)
 have hfl:List.flatMap vcells [.agg #[.int .i64 0,(.string ⟨#[101,120,101,99]⟩)],.agg #[.int .i64 1,(.string ⟨#[119,114,105,116,101]⟩)],.agg #[.int .i64 2,(.string ⟨#[114,101,97,100]⟩)],.agg #[.int .i64 3,(.string ⟨#[108,105,115,116]⟩)],.agg #[.int .i64 4,(.string ⟨#[114,109,100,105,114]⟩)],.agg #[.int .i64 5,(.string ⟨#[114,109,102,105,108,101]⟩)],.agg #[.int .i64 6,(.string ⟨#[109,107,100,105,114]⟩)],.agg #[.int .i64 7,(.string ⟨#[109,107,102,105,108,101]⟩)],.agg #[.int .i64 8,(.string ⟨#[109,107,108,105,110,107]⟩)],.agg #[.int .i64 9,(.string ⟨#[114,101,102,101,114]⟩)],.agg #[.int .i64 10,(.string ⟨#[116,114,117,110,99,97,116,101]⟩)],.agg #[.int .i64 14,(.string ⟨#[98,105,110,100]⟩)],.agg #[.int .i64 15,(.string ⟨#[99,111,110,110,101,99,116]⟩)]]=rightsR.flatten:=by rfl
 rw [hfl] at hbs
 simp only [F.f16,hbv,hbs,stdZ]
 exact hQ _ _ ((Ext.refl _).new _) (Rows.made (f:=none) (AH.get_new_self _ _) (.inl rfl) rfl (by decide +kernel))
theorem rnames_at {j:Nat} (hj:j<13):∃ x:NameL×Nat,rnames[j]? = some x/\x.2<=40/\x.1.length<=8:=by
 have hl:j<rnames.length:=hj
 have hall:∀ p∈rnames,p.2<=40/\p.1.length<=8:=by decide
 exact ⟨_,List.getElem?_eq_getElem hl,hall _ (List.getElem_mem hl)⟩
theorem join_nil_iff (s:BitVec 16) (j:Nat):(Lib.join (outR s j) [44]=[])↔outR s j=[]:=by
 constructor
 ·intro h
  apply Classical.byContradiction
  intro hn
  exact join_ne hn (fun x hx=>(outR_mem hx).1) h
 ·intro h; rw [h]; rfl
theorem S.f17 (hE:Fold E) (s:BitVec 16) (hQ:∀ H',Ext H H'->Q (str (rightW s)) H'):E.call (E.fid i.f17) [vi (s.toNat:Int)] H Q:=by
 apply hE.f17
 simp only [F.f17]
 refine S.f16 hE fun v H1 e1 r1 =>?_
 have hlen:=r1.lenSlc
 have h13:rightsR.length=13:=rfl
 rw [h13] at hlen
 have s0:(.string ⟨#[]⟩:Value)=str []:=rfl
 have s44:(.string ⟨#[44]⟩:Value)=str [44]:=rfl
 have s45:(.string ⟨#[45]⟩:Value)=str [45]:=rfl
 rw [s0]
 refine LoopL.count 13 (fun j ls H'=>ls=[vi (s.toNat:Int),v,str (Lib.join (outR s j) [44]),vi j]/\Ext H1 H') ?_ ⟨rfl,Ext.refl _⟩
 rintro j _ H2 X hj hX ⟨rfl,e2⟩
 have hle:=join_le (outR s j) fun x hx=>(outR_mem hx).2
 have hl13:(outR s j).length<=13:=outR_len s j
 rcases Nat.lt_or_ge j 13 with hjl | hjl
 ·have hX:=hX hjl
  have hjl':(j:Int)<(13:Nat):=by omega
  have hjj:=i64_inc (i:=j) (by omega)
  obtain ⟨x,h1,h2,h3⟩:=rnames_at hjl
  have hsu:=outR_succ s h1
  have hb:bitP s x=s.toNat.testBit x.2:=rfl
  obtain ⟨b,o,p1,p2⟩:=(r1.mono e2).ix (i:=j) (by rw [h13]; exact hjl)
  have hrow:rightsR[j]'(by rw [h13]; exact hjl)=[vi x.2,str x.1]:=by
   have h4:rightsR[j]? = some [vi x.2,str x.1]:=by
    unfold rightsR; rw [List.getElem?_map,h1]; rfl
   rw [List.getElem?_eq_getElem (by rw [h13]; exact hjl)] at h4
   exact Option.some.inj h4
  rw [hrow] at p2
  have c0:(H2.get b).cell o=some (vi x.2):=row_at p2 (j:=0) (by omega)
  have c1:(H2.get b).cell (o+1)=some (str x.1):=row_at p2 (j:=1) (by omega)
  simp only [F.f17_l1,nth_0,nth_1,nth_2,hlen,i64_lss,hjl',decide_true,p1,c0,stdZ]
  refine S.f13 hE s.toNat x.2 (by have:=s.isLt; omega) h2 ?_
  rw [<- hb]
  cases hbit:bitP s x with
  | false =>
   rw [hbit,if_neg (by simp),List.append_nil] at hsu
   simp only [hjj,stdZ]
   exact hX _ _ ⟨by rw [hsu],e2⟩
  | true =>
   rw [hbit,if_pos rfl] at hsu
   have hsn:=join_snoc [44] x.1 (outR s j)
   rw [<- hsu] at hsn
   by_cases hn:outR s j=[]
   ·rw [if_pos hn] at hsn
    have hj0:Lib.join (outR s j) [44]=[]:=(join_nil_iff s j).2 hn
    have a1:=binStr_add [] x.1 (by simp; omega)
    have n1:binStr .neq (str []) (str [])=some (vb false):=by rw [binStr_neq]; simp
    simp only [s0,hj0,n1,F.f17_j1,p1,c1,a1,hjj,stdZ]
    exact hX _ _ ⟨by rw [hsn]; rfl,e2⟩
   ·rw [if_neg hn] at hsn
    have hj0:¬ Lib.join (outR s j) [44]=[]:=fun h=>hn ((join_nil_iff s j).1 h)
    have a0:=binStr_add (Lib.join (outR s j) [44]) [44] (by simp; omega)
    have a1:=binStr_add (Lib.join (outR s j) [44]++[44]) x.1 (by simp; omega)
    have n1:binStr .neq (str (Lib.join (outR s j) [44])) (str [])=some (vb true):=by rw [binStr_neq]; simp [hj0]
    simp only [s0,s44,n1,a0,F.f17_j1,p1,c1,a1,hjj,stdZ]
    exact hX _ _ ⟨by rw [hsn],e2⟩
 ·have:j=13:=by omega
  subst this
  have hjl':¬ (((13:Nat):Int)<(13:Nat)):=by omega
  unfold rightW at hQ
  simp only [F.f17_l1,nth_0,nth_1,nth_2,hlen,i64_lss,hjl',decide_false,s0,s45,stdZ]
  by_cases hn:outR s 13=[]
  ·rw [if_pos hn] at hQ
   have n1:binStr .eql (str (Lib.join (outR s 13) [44])) (str [])=some (vb true):=by rw [binStr_eql,(join_nil_iff s 13).2 hn]; simp
   simp only [n1,stdZ]
   exact hQ _ (e1.trans e2)
  ·rw [if_neg hn] at hQ
   have n1:binStr .eql (str (Lib.join (outR s 13) [44])) (str [])=some (vb false):=by rw [binStr_eql,decide_eq_false (fun h=>hn ((join_nil_iff s 13).1 h))]
   simp only [n1,stdZ]
   exact hQ _ (e1.trans e2)
def actW (a:BitVec 32):List UInt8:=if rstrength a=0 then [97,108,108,111,119] else if rstrength a=1 then [108,111,103] else if rstrength a=2 then [101,114,114,110,111,32]++printD (a.toNat % 65536) else [107,105,108,108]
def verdW (n:Int) (a:BitVec 32):List UInt8:=(([102,105,108,116,101,114,32]++printD (if (0:Int) > n then 0 else n).toNat)++[32])++actW a
def missW (n:Int) (r:BitVec 16):List UInt8:=(([115,101,116,32]++printD (if (0:Int) > n then 0 else n).toNat)++[32,100,101,110,105,101,115,32])++rightW r
theorem ofInt64 {n:Int} (h0:0<=n) (h:n<9223372036854775808):(BitVec.ofInt 64 n).toNat=n.toNat/\n.toNat<10 ^ 20:=by
 obtain ⟨m,rfl⟩:=Int.eq_ofNat_of_zero_le h0
 rw [BitVec.ofInt_natCast,BitVec.toNat_ofNat]
 refine ⟨?_,by simp; omega⟩
 simp only [Int.toNat_natCast]
 exact Nat.mod_eq_of_lt (by omega)
theorem max0 {n:Int} (h:n<9223372036854775808):0<=(if (0:Int) > n then 0 else n)/\(if (0:Int) > n then 0 else n)<9223372036854775808:=by split <;> omega
theorem S.f8 (hE:Fold E) (n:Int) (hn:n<9223372036854775808) (a:BitVec 32) (hQ:∀ H',Ext H H'->Q (str (verdW n a)) H'):E.call (E.fid i.f8) [.agg #[vi n,u32 a]] H Q:=by
 apply hE.f8
 have hb0:=AH.get_new_self H (.cells [vi n,u32 a] none)
 have x1:Ext H (H.new (.cells [vi n,u32 a] none)):=(Ext.refl _).new _
 have i0:(.int .i64 0:Value)=vi 0:=rfl
 obtain ⟨m1,m2⟩:=max0 hn
 obtain ⟨m3,m4⟩:=ofInt64 m1 m2
 have hbo:boxO (.agg #[vi n,u32 a])=some (.cells [vi n,u32 a] none,mkPtr):=rfl
 simp only [F.f8,hbo,AM.mk_some,mkPtr_eq_z,hb0,i0,i64_max,i64_to_u64,stdZ]
 refine S.asm_Printed20 hE _ _ m3 m4 _ _ fun H2 e2 =>?_
 have hl:=printD_len 20 _ m4
 generalize hp:printD (if (0:Int) > n then 0 else n).toNat=p at hl ⊢
 unfold verdW at hQ
 rw [hp] at hQ
 have hb2:=e2.cells hb0
 have a1:=binStr_add [102,105,108,116,101,114,32] p (by simp; omega)
 have a2:=binStr_add ([102,105,108,116,101,114,32]++p) [32] (by simp; omega)
 have s1:(.string ⟨#[102,105,108,116,101,114,32]⟩:Value)=str [102,105,108,116,101,114,32]:=rfl
 have s2:(.string ⟨#[32]⟩:Value)=str [32]:=rfl
 have s3:(.string ⟨#[101,114,114,110,111,32]⟩:Value)=str [101,114,114,110,111,32]:=rfl
 have s4:(.string ⟨#[108,111,103]⟩:Value)=str [108,111,103]:=rfl
 have s5:(.string ⟨#[97,108,108,111,119]⟩:Value)=str [97,108,108,111,119]:=rfl
 have s6:(.string ⟨#[107,105,108,108]⟩:Value)=str [107,105,108,108]:=rfl
 have k1:(.int .u32 327680:Value)=u32 327680#32:=rfl
 have k2:(.int .u32 2147221504:Value)=u32 2147221504#32:=rfl
 have k3:(.int .u32 2147418112:Value)=u32 2147418112#32:=rfl
 have hlen:(([102,105,108,116,101,114,32]++p)++[32]:List UInt8).length<=40:=by simp; omega
 simp only [s1,s2,a1,a2,hb2,stdZ]
 generalize (([102,105,108,116,101,114,32]++p)++[32]:List UInt8)=w at hQ hlen ⊢
 refine S.f19 hE a ?_
 have b3:=binStr_add w [101,114,114,110,111,32] (by simp; omega)
 have b4:=binStr_add w [108,111,103] (by simp; omega)
 have b5:=binStr_add w [97,108,108,111,119] (by simp; omega)
 have b6:=binStr_add w [107,105,108,108] (by simp; omega)
 unfold actW at hQ
 rcases akind_cases a with ⟨hk,hs⟩ | ⟨hk,hs⟩ | ⟨hk,hs⟩ | ⟨hk,hs⟩
 ·rw [hs,if_neg (by decide),if_neg (by decide),if_pos rfl] at hQ
  have hnum:anumber a=((a.toNat % 65536:Nat):Int):=by
   unfold anumber
   rw [if_neg (by rw [hk]; simp),BitVec.toNat_and,show (65535#32).toNat=2 ^ 16 - 1 from rfl,Nat.and_two_pow_sub_one_eq_mod]
  have hm:((a.toNat % 65536:Nat):Int)<9223372036854775808:=by omega
  obtain ⟨q1,q2⟩:=ofInt64 (Int.natCast_nonneg (a.toNat % 65536)) hm
  rw [Int.toNat_natCast] at q1 q2
  simp only [hk,k1,u32_eql,decide_true,s3,b3,hb2,stdZ]
  refine S.f20 hE a ?_
  rw [hnum]
  simp only [i64_to_u64,stdZ]
  refine S.asm_Printed20 hE _ _ q1 q2 _ _ fun H3 e3 =>?_
  have hl3:=printD_len 20 _ q2
  have b7:=binStr_add (w++[101,114,114,110,111,32]) (printD (a.toNat % 65536)) (by simp; omega)
  simp only [b7,stdZ]
  rw [List.append_assoc]
  exact hQ _ (x1.trans (e2.trans e3))
 ·rw [hs,if_neg (by decide),if_pos rfl] at hQ
  have d1:¬ (2147221504#32:BitVec 32)=327680#32:=by decide
  simp only [hk,k1,k2,k3,u32_eql,d1,decide_true,decide_false,s4,b4,stdZ]
  exact hQ _ (x1.trans e2)
 ·rw [hs,if_pos rfl] at hQ
  have d1:¬ (2147418112#32:BitVec 32)=327680#32:=by decide
  have d2:¬ (2147418112#32:BitVec 32)=2147221504#32:=by decide
  simp only [hk,k1,k2,k3,u32_eql,d1,d2,decide_true,decide_false,s5,b5,stdZ]
  exact hQ _ (x1.trans e2)
 ·rw [hs,if_neg (by decide),if_neg (by decide),if_neg (by decide)] at hQ
  have d1:¬ (2147483648#32:BitVec 32)=327680#32:=by decide
  have d2:¬ (2147483648#32:BitVec 32)=2147221504#32:=by decide
  have d3:¬ (2147483648#32:BitVec 32)=2147418112#32:=by decide
  simp only [hk,k1,k2,k3,u32_eql,d1,d2,d3,decide_false,s6,b6,stdZ]
  exact hQ _ (x1.trans e2)
theorem rightW_len (s:BitVec 16):(rightW s).length<=200:=by
 unfold rightW
 split
 ·simp
 ·have h1:=join_le (outR s 13) fun x hx=>(outR_mem hx).2
  have h2:=outR_len s 13
  omega
theorem S.f5 (hE:Fold E) (n:Int) (hn:n<9223372036854775808) (r:BitVec 16) (hQ:∀ H',Ext H H'->Q (str (missW n r)) H'):E.call (E.fid i.f5) [.agg #[vi n,u16 r]] H Q:=by
 apply hE.f5
 have hb0:=AH.get_new_self H (.cells [vi n,u16 r] none)
 have x1:Ext H (H.new (.cells [vi n,u16 r] none)):=(Ext.refl _).new _
 have i0:(.int .i64 0:Value)=vi 0:=rfl
 obtain ⟨m1,m2⟩:=max0 hn
 obtain ⟨m3,m4⟩:=ofInt64 m1 m2
 have hbo:boxO (.agg #[vi n,u16 r])=some (.cells [vi n,u16 r] none,mkPtr):=rfl
 simp only [F.f5,hbo,AM.mk_some,mkPtr_eq_z,hb0,i0,i64_max,i64_to_u64,stdZ]
 refine S.asm_Printed20 hE _ _ m3 m4 _ _ fun H2 e2 =>?_
 have hl:=printD_len 20 _ m4
 have hb2:=e2.cells hb0
 have hr:=rightW_len r
 unfold missW at hQ
 generalize hp:printD (if (0:Int) > n then 0 else n).toNat=p at hl hQ ⊢
 have a1:=binStr_add [115,101,116,32] p (by simp; omega)
 have a2:=binStr_add ([115,101,116,32]++p) [32,100,101,110,105,101,115,32] (by simp; omega)
 have a3:=binStr_add (([115,101,116,32]++p)++[32,100,101,110,105,101,115,32]) (rightW r) (by simp; omega)
 have s1:(.string ⟨#[115,101,116,32]⟩:Value)=str [115,101,116,32]:=rfl
 have s2:(.string ⟨#[32,100,101,110,105,101,115,32]⟩:Value)=str [32,100,101,110,105,101,115,32]:=rfl
 refine ⟨by simp only [hb0,hb2,stdZ],?_⟩
 simp only [s1,s2,a1,a2,stdZ]
 refine S.f23 hE r fun H3 e3 =>?_
 simp only [a3,stdZ]
 exact hQ _ (x1.trans (e2.trans e3))
end
end Go.AM
end
section
namespace Go.AM
set_option maxRecDepth 20000
section
variable {E:Sy} {H H' H0 Z:AH} {Q:Value->AH->Prop}
def verC (x:BitVec 32×Nat):List Value:=[vi x.2,u32 x.1]
def verR (l:List (BitVec 32)):List (List Value):=l.zipIdx.map verC
theorem verR_length (l:List (BitVec 32)):(verR l).length=l.length:=by simp [verR]
theorem verR_at (l:List (BitVec 32)) {k:Nat} (h:k<l.length):(verR l)[k]'(by rw [verR_length]; exact h)=[vi k,u32 (l.getD k 0#32)]:=by
 unfold verR
 rw [List.getElem_map,List.getElem_zipIdx,List.getD_eq_getElem?_getD,List.getElem?_eq_getElem h]
 simp [verC]
theorem verR_snoc (l:List (BitVec 32)) (a:BitVec 32):verR (l++[a])=verR l++[[vi l.length,u32 a]]:=by
 unfold verR
 rw [List.zipIdx_append,List.map_append]
 simp [verC]
theorem S.f4 (hE:Fold E) (l:List (BitVec 32)) {v:Value} (hv:Rows H 2 v (verR l)) (hl:l.length<=1000)
  (hQ:∀ at_ b H',Ext H H'->BestV (fun i=>l.getD i 0#32) 0 l.length at_ b->Q (.tuple #[.agg #[vi at_,u32 b],vb (decide (0<=at_))]) H'):E.call (E.fid i.f4) [v] H Q:=by
 apply hE.f4
 generalize hz:([(.int .i64 0),(.int .u32 0)]:List Value)=z0
 have hbv:buildV [(0,1),(1,1)] z0.toArray [(0,(.int .i64 (-1))),(1,(.int .u32 2147418112))]=some (.agg #[vi (-1),u32 2147418112#32]):=by subst hz; rfl
 have x1:Ext H (H.new (.cells z0 none)):=(Ext.refl _).new _
 have gA:=AH.get_new_self H (.cells z0 none)
 have hn1:(H.new (.cells z0 none)).next=H.next+1:=rfl
 have l0:=hv.lenSlc
 rw [verR_length] at l0
 simp only [F.f4]
 have hz':(#[(.int .i64 0),(.int .u32 0)]:Array Value)=z0.toArray:=by subst hz; rfl
 simp only [hz,hz',hbv,l0,allocW_eq,stdZ]
 generalize hA:H.next=A at *
 generalize H.new (.cells z0 none)=H1 at *
 have x2:Ext H1 (H1.new (.cells z0 none)):=(Ext.refl _).new _
 have gB:=AH.get_new_self H1 (.cells z0 none)
 have gA2:=x2.cells gA
 have hz2:z0.length=2:=by subst hz; rfl
 have hst:storeN 2 (ptr H1.next 0) (.agg #[vi (-1),u32 2147418112#32]) (H1.new (.cells z0 none))=some ((H1.new (.cells z0 none)).put H1.next (.cells [vi (-1),u32 2147418112#32] none)):=by
  subst hz
  rw [storeN_ptr,gB]; rfl
 have x3:Ext H1 ((H1.new (.cells z0 none)).put H1.next (.cells [vi (-1),u32 2147418112#32] none)):=x2.put (Nat.le_refl _) _
 have lB:H1.next<(H1.new (.cells z0 none)).next:=Nat.lt_succ_self _
 have gB3:((H1.new (.cells z0 none)).put H1.next (.cells [vi (-1),u32 2147418112#32] none)).get H1.next = .cells [vi (-1),u32 2147418112#32] none:=AH.get_put_self _ _ lB
 have gA3:=x3.cells gA
 have hsub:binInt .sub (vi (l.length:Int)) (.int .i64 1)=some (vi ((l.length:Int) - 1)):=i64_sub (by omega) (by omega)
 rw [hn1] at gB3 gA3 x3 hst
 simp only [hst,l0,hsub,hn1,stdZ]
 generalize hB:A+1=B at *
 generalize (H1.new (.cells z0 none)).put B (.cells [vi (-1),u32 2147418112#32] none)=H3 at *
 have hAB:A≠B:=by omega
 refine LoopL.ind (fun m ls H'=>∃ at_ b,ls=[v,ptr A 0,ptr B 0,vi ((m:Int) - 1)]/\Ext H H'/\H'.get B = .cells [vi at_,u32 b] none/\H'.get A = .cells z0 none/\BestV (fun i=>l.getD i 0#32) m l.length at_ b/\m<=l.length) ?_ l.length
  ⟨-1,2147418112#32,rfl,x1.trans x3,gB3,gA3,BestV.nil _ _,Nat.le_refl _⟩
 rintro m _ H4 X ih ⟨at_,b,rfl,e4,g4,a4,hb,hm⟩
 cases m with
 | zero =>
  have i0:(.int .i64 0:Value)=vi 0:=rfl
  have hge:¬ (0:Int)<=((0:Nat):Int) - 1:=by omega
  have hld:loadN 2 (ptr B 0) H4=some (.agg #[vi at_,u32 b]):=by rw [loadN_ptr,g4]; rfl
  have hst4:storeN 2 (ptr A 0) (.agg #[vi at_,u32 b]) H4=some (H4.put A (.cells [vi at_,u32 b] none)):=by
   subst hz
   rw [storeN_ptr,a4]; rfl
  have lA:A<H4.next:=AH.lt_cells a4
  have gA5:(H4.put A (.cells [vi at_,u32 b] none)).get A = .cells [vi at_,u32 b] none:=AH.get_put_self _ _ lA
  have gB5:(H4.put A (.cells [vi at_,u32 b] none)).get B = .cells [vi at_,u32 b] none:=by rw [AH.get_put_ne _ _ (Ne.symm hAB)]; exact g4
  have hld5:loadN 2 (ptr A 0) (H4.put A (.cells [vi at_,u32 b] none))=some (.agg #[vi at_,u32 b]):=by rw [loadN_ptr,gA5]; rfl
  simp only [F.f4_l1,nth_0,nth_1,nth_2,nth_3,i0,i64_geq,hge,decide_false,hld,g4,hst4,gB5,hld5,stdZ]
  exact ⟨trivial,hQ at_ b _ (e4.put (Nat.le_of_eq hA) _) hb⟩
 | succ k =>
  have i0:(.int .i64 0:Value)=vi 0:=rfl
  have hk:((k+1:Nat):Int) - 1=(k:Int):=by omega
  have hge:(0:Int)<=(k:Int):=by omega
  obtain ⟨rb,ro,p1,p2⟩:=(hv.mono e4).ix (i:=k) (by rw [verR_length]; omega)
  rw [verR_at l (by omega)] at p2
  have c1:(H4.get rb).cell (ro+1)=some (u32 (l.getD k 0#32)):=row_at p2 (j:=1) (by omega)
  have hldr:loadN 2 (ptr rb ro) H4=some (.agg #[vi (k:Int),u32 (l.getD k 0#32)]):=by rw [loadN_ptr,p2]; rfl
  have lB4:B<H4.next:=AH.lt_cells g4
  have hstB:storeN 2 (ptr B 0) (.agg #[vi (k:Int),u32 (l.getD k 0#32)]) H4=some (H4.put B (.cells [vi (k:Int),u32 (l.getD k 0#32)] none)):=by
   rw [storeN_ptr,g4]; rfl
  have hdec:binInt .sub (vi (k:Int)) (.int .i64 1)=some (vi ((k:Int) - 1)):=i64_sub (by omega) (by omega)
  have hbk:=hb.back (by omega)
  simp only [F.f4_l1,nth_0,nth_1,nth_2,nth_3,hk,i0,i64_geq,hge,decide_true,p1,g4,c1,stdZ]
  refine S.f22 hE b _ ?_
  simp only [g4,u32_neq,stdZ]
  by_cases hs:rstrength b<rstrength (l.getD k 0#32)
  ·have hst:astronger b (l.getD k 0#32)=l.getD k 0#32:=by
    unfold astronger
    rw [<- rstrength_eq,<- rstrength_eq,if_pos hs]
   have hne:l.getD k 0#32≠b:=fun h=>by rw [h] at hs; omega
   rw [if_pos hs,if_pos hs] at hbk
   simp only [hst,hne,ne_eq,not_false_eq_true,decide_true,nth_0,nth_1,nth_2,nth_3,hk,p1,hldr,hstB,hdec,stdZ]
   refine ih k (by omega) _ _ ⟨k,l.getD k 0#32,rfl,e4.put (by omega) _,AH.get_put_self _ _ lB4,by rw [AH.get_put_ne _ _ hAB]; exact a4,hbk,by omega⟩
  ·have hst:astronger b (l.getD k 0#32)=b:=by
    unfold astronger
    rw [<- rstrength_eq,<- rstrength_eq,if_neg hs]
   rw [if_neg hs,if_neg hs] at hbk
   simp only [hst,ne_eq,not_true,decide_false,nth_0,nth_1,nth_2,nth_3,hk,hdec,stdZ]
   refine ih k (by omega) _ _ ⟨at_,b,rfl,e4,g4,a4,hbk,by omega⟩
theorem S.explain_Path_nil (hE:Fold E) {x1 x2 x3:Value} (hQ:Q (.tuple #[nilS,vi 201]) H):E.call (E.fid i.f6) [.pointer none,x1,x2,x3] H Q:=by
 apply hE.f6
 have h1:binNil eqPtr .eql (.pointer none) (.pointer none)=some (vb true):=rfl
 simp only [F.f6,h1,stdZ]
 exact hQ
theorem S.explain_Filters_nil (hE:Fold E) (c:List Value) (hQ:∀ H',Ext H H'->Q nilS H'):E.call (E.fid i.f3) [.pointer none,.agg c.toArray] H Q:=by
 apply hE.f3
 have h1:binNil eqPtr .eql (.pointer none) (.pointer none)=some (vb true):=rfl
 have hbo:boxO (.agg c.toArray)=some (.cells c none,mkPtr):=rfl
 simp only [F.f3,h1,hbo,AM.mk_some,mkPtr_eq_z,stdZ]
 exact hQ _ ((Ext.refl _).new _)
theorem S.explain_Port_nil (hE:Fold E) {x1 x2:Value} (hQ:Q nilS H):E.call (E.fid i.f7) [.pointer none,x1,x2] H Q:=by
 apply hE.f7
 have h1:binNil eqPtr .eql (.pointer none) (.pointer none)=some (vb true):=rfl
 simp only [F.f7,h1,stdZ]
 exact hQ
end
end Go.AM
end
section
namespace Go.AM
set_option maxRecDepth 20000
section
variable {E:Sy} {H H' H0 Z:AH} {Q:Value->AH->Prop}
def wordsV (p:List UInt8):List (List UInt8):=[[97,108,108,111,119],[108,111,103],[101,114,114,110,111,32]++p,[107,105,108,108]]
theorem rs_nat (a:BitVec 32):∃ t:Nat,t<4/\rstrength a=(t:Int)/\(wordsV (printD (a.toNat % 65536)))[t]? = some (actW a):=by
 unfold actW
 rcases akind_cases a with ⟨_,hs⟩ | ⟨_,hs⟩ | ⟨_,hs⟩ | ⟨_,hs⟩ <;> rw [hs]
 ·exact ⟨2,by omega,rfl,rfl⟩
 ·exact ⟨1,by omega,rfl,rfl⟩
 ·exact ⟨0,by omega,rfl,rfl⟩
 ·exact ⟨3,by omega,rfl,rfl⟩
theorem ExplainTexts_j1 (hE:Fold E) {X0:List Value->AH->Prop} (n:Int) (hn:n<9223372036854775808) (a:BitVec 32) (t2 t3 t9 t11 t12 t13 t29 t30:Value) (j:Nat) (hj:j<1000)
  (hX:∀ H',Ext H H'->X0 [vi n,t2,t3,t9,t11,t12,t13,t29,t30,vi ((j+1:Nat):Int)] H') :
  F.f12_j1 E Q X0 (vi n) t2 t3 t9 t11 t12 t13 (u32 a) t29 t30 (vi j) H:=by
 have k1:(.int .u32 65536:Value)=u32 65536#32:=rfl
 have r1:binInt .rem (u32 a) (u32 65536#32)=some (u32 (a % 65536#32)):=u32_rem a _ (by decide)
 have hm:(a % 65536#32).toNat=a.toNat % 65536:=by rw [BitVec.toNat_umod]; rfl
 have q1:((a % 65536#32).setWidth 64).toNat=a.toNat % 65536:=by simp [hm]; omega
 have q2:a.toNat % 65536<10 ^ 20:=by omega
 simp only [F.f12_j1,k1,r1,u32_to_u64,stdZ]
 refine S.pinfoldref01_Printed20 hE _ _ q1 q2 fun H1 e1 =>?_
 have hp:=printD_len 20 _ q2
 obtain ⟨t,ht,hrs,hw⟩:=rs_nat a
 generalize printD (a.toNat % 65536)=p at *
 have s1:(.string ⟨#[101,114,114,110,111,32]⟩:Value)=str [101,114,114,110,111,32]:=rfl
 have a1:=binStr_add [101,114,114,110,111,32] p (by simp; omega)
 have hbs:buildS 4 1 #[(.string ⟨#[]⟩)] [(0,(.string ⟨#[97,108,108,111,119]⟩)),(1,(.string ⟨#[108,111,103]⟩)),(2,str ([101,114,114,110,111,32]++p)),(3,(.string ⟨#[107,105,108,108]⟩))]=some (.cells ((wordsV p).map str) none,mkSlc 4 4) :=
  buildS_full 4 1 [str []] _ [str [97,108,108,111,119],str [108,111,103],str ([101,114,114,110,111,32]++p),str [107,105,108,108]] rfl rfl rfl rfl (by intro v hv; simp only [List.mem_cons,List.not_mem_nil,or_false] at hv; rcases hv with rfl | rfl | rfl | rfl <;> rfl)
 simp only [s1,a1,hbs,AM.mk_some,mkSlc_eq,stdZ]
 have hr:Rows (H1.new (.cells ((wordsV p).map str) none)) 1 (slc H1.next 0 4 4) (strR (wordsV p)):=Rows.made (f:=none) (by rw [AH.get_new_self,strR_flatten]) (.inl rfl) rfl (by intro r hr; obtain ⟨x,_,rfl⟩:=List.mem_map.1 hr; rfl)
 have e2:Ext H (H1.new (.cells ((wordsV p).map str) none)):=e1.new _
 generalize H1.new (.cells ((wordsV p).map str) none)=H2 at *
 have hbv:buildV [(0,1),(1,1)] #[(.int .i64 0),(.int .u32 0)] [(0,vi n),(1,u32 a)]=some (.agg #[vi n,u32 a]):=rfl
 have x3:Ext H2 (H2.new (.cells [(.int .i64 0),(.int .u32 0)] none)):=(Ext.refl _).new _
 have g3:=AH.get_new_self H2 (.cells [(.int .i64 0),(.int .u32 0)] none)
 have l3:H2.next<(H2.new (.cells [(.int .i64 0),(.int .u32 0)] none)).next:=Nat.lt_succ_self _
 have hst:storeN 2 (ptr H2.next 0) (.agg #[vi n,u32 a]) (H2.new (.cells [(.int .i64 0),(.int .u32 0)] none))=some ((H2.new (.cells [(.int .i64 0),(.int .u32 0)] none)).put H2.next (.cells [vi n,u32 a] none)):=by
  rw [storeN_ptr,g3]; rfl
 have x4:Ext H2 ((H2.new (.cells [(.int .i64 0),(.int .u32 0)] none)).put H2.next (.cells [vi n,u32 a] none)):=x3.put (Nat.le_refl _) _
 have hld:loadN 2 (ptr H2.next 0) ((H2.new (.cells [(.int .i64 0),(.int .u32 0)] none)).put H2.next (.cells [vi n,u32 a] none))=some (.agg #[vi n,u32 a]):=by
  rw [loadN_ptr,AH.get_put_self _ _ l3]; rfl
 simp only [hbv,allocW_eq,hst,hld,stdZ]
 generalize (H2.new (.cells [(.int .i64 0),(.int .u32 0)] none)).put H2.next (.cells [vi n,u32 a] none)=H4 at *
 refine S.f8 hE n hn a fun H5 e5 =>?_
 have i0:(.int .i64 0:Value)=vi 0:=rfl
 obtain ⟨m1,m2⟩:=max0 hn
 obtain ⟨m3,m4⟩:=ofInt64 m1 m2
 simp only [i0,i64_max,i64_to_u64,stdZ]
 refine S.pinfoldref01_Printed20 hE _ _ m3 m4 fun H6 e6 =>?_
 have hl:=printD_len 20 _ m4
 have hal:(actW a).length<=40:=by
  have:∀ x∈wordsV p,x.length<=40:=by
   intro x hx
   simp only [wordsV,List.mem_cons,List.not_mem_nil,or_false] at hx
   rcases hx with rfl | rfl | rfl | rfl <;> simp <;> omega
  exact this _ (List.mem_of_getElem? hw)
 unfold verdW
 generalize printD (if (0:Int) > n then 0 else n).toNat=q at hl ⊢
 have s2:(.string ⟨#[102,105,108,116,101,114,32]⟩:Value)=str [102,105,108,116,101,114,32]:=rfl
 have s3:(.string ⟨#[32]⟩:Value)=str [32]:=rfl
 have b1:=binStr_add [102,105,108,116,101,114,32] q (by simp; omega)
 have b2:=binStr_add ([102,105,108,116,101,114,32]++q) [32] (by simp; omega)
 have b3:=binStr_add (([102,105,108,116,101,114,32]++q)++[32]) (actW a) (by simp; omega)
 simp only [s2,s3,b1,b2,stdZ]
 refine S.f18 hE a ?_
 obtain ⟨wb,wo,p1,p2⟩:=(hr.mono (x4.trans (e5.trans e6))).ix (i:=t) (by rw [strR_length]; exact ht)
 have hrow:(strR (wordsV p))[t]'(by rw [strR_length]; exact ht)=[str (actW a)]:=by
  have h4:(strR (wordsV p))[t]? = some [str (actW a)]:=by
   unfold strR; rw [List.getElem?_map,hw]; rfl
  rw [List.getElem?_eq_getElem (by rw [strR_length]; exact ht)] at h4
  exact Option.some.inj h4
 rw [hrow] at p2
 have c0:(H6.get wb).cell wo=some (str (actW a)):=row_at p2 (j:=0) (by omega)
 have hjj:=i64_inc (i:=j) (by omega)
 have hne:binStr .neq (str ((([102,105,108,116,101,114,32]++q)++[32])++actW a)) (str ((([102,105,108,116,101,114,32]++q)++[32])++actW a))=some (vb false):=by rw [binStr_neq]; simp
 simp only [hrs,p1,c0,b3,hne,hjj,stdZ]
 exact hX _ (e2.trans (x4.trans (e5.trans e6)))
theorem S.ExplainTexts_ (hE:Fold E) (l:List (BitVec 32)) {v:Value} (hv:Vals H v (l.map u32)) (hl:l.length<2 ^ 63) (n:Int) (hn:n<9223372036854775808) (set:Int) (hs:set<9223372036854775808) (r:BitVec 16) (c:List Value) (hc:c.length=7) (hQ:∀ H',Q (vb true) H') :
  E.call (E.fid i.f12) [v,vi n,vi set,u16 r,.agg c.toArray] H Q:=by
 apply hE.f12
 have hbo:boxO (.agg c.toArray)=some (.cells c none,mkPtr):=rfl
 have x1:Ext H (H.new (.cells c none)):=(Ext.refl _).new _
 have gC:=AH.get_new_self H (.cells c none)
 simp only [F.f12,hbo,AM.mk_some,mkPtr_eq_z,stdZ]
 apply hE.f11
 have l0:=(hv.mono x1).lenSlc
 rw [List.length_map] at l0
 simp only [l0,i64_gtr,stdZ]
 by_cases h30:(30:Int)<(l.length:Int)
 ·simp only [gt_iff_lt,h30,decide_true,stdZ]
  exact hQ _
 have h30':¬ (l.length:Int) > 30:=h30
 simp only [h30',decide_false,l0,stdZ]
 have hv1:=hv.mono x1
 generalize hA:H.next=A at *
 generalize H.new (.cells c none)=H1 at *
 generalize hf:(fun i=>l.getD i 0#32)=f
 refine LoopL.count l.length (fun j ls H'=>∃ lv at_ b,ls=[vi n,vi set,u16 r,ptr A 0,lv,u32 b,vi at_,v,vi l.length,vi j]/\Ext H1 H'/\Grow zH H' 2 lv (verR (l.take j))/\FreshV H1.next lv/\BestV f 0 j at_ b) ?_
  ⟨nilS,-1,2147418112#32,rfl,Ext.refl _,Grow.nil _ _ _,fun b hb=>by simp [blk] at hb,BestV.nil _ _⟩
 rintro j _ H2 X hj hX ⟨lv,at_,b,rfl,e2,g,fr,hb⟩
 rcases Nat.lt_or_ge j l.length with hjl | hjl
 ·have hX:=hX hjl
  have hjl':(j:Int)<(l.length:Int):=by omega
  have htk:l.take (j+1)=l.take j++[l.getD j 0#32]:=by
   rw [List.take_succ_eq_append_getElem hjl,List.getD_eq_getElem?_getD,List.getElem?_eq_getElem hjl]; rfl
  have hvr:=verR_snoc (l.take j) (l.getD j 0#32)
  rw [<- htk,List.length_take,Nat.min_eq_left (by omega)] at hvr
  obtain ⟨eb,eo,p1,p2⟩:=(hv1.mono e2).elem (i:=j) (by rw [List.length_map]; exact hjl)
  have hel:(l.map u32)[j]'(by rw [List.length_map]; exact hjl)=u32 (l.getD j 0#32):=by
   rw [List.getElem_map,List.getD_eq_getElem?_getD,List.getElem?_eq_getElem hjl]; rfl
  rw [hel] at p2
  have hfj:f j=l.getD j 0#32:=by rw [<- hf]
  have hstep:=hb.step
  rw [hfj] at hstep
  generalize l.getD j 0#32=a at *
  have hbv:buildV [(0,1),(1,1)] #[(.int .i64 0),(.int .u32 0)] [(0,vi j),(1,u32 a)]=some (.agg #[vi j,u32 a]):=rfl
  have hb1:buildS 1 2 #[(.int .i64 0),(.int .u32 0)] [(0,.agg #[vi j,u32 a])]=some (.cells [vi j,u32 a] none,mkSlc 1 1):=buildS_one 2 [.int .i64 0,.int .u32 0] [vi j,u32 a] rfl rfl
  obtain ⟨lv',H3,a1,a2,a3⟩:=g.app1 (Nat.zero_le _) (bytes:=16) [vi j,u32 a] rfl rfl (by decide) (by decide) (by rw [verR_length,List.length_take]; omega)
  obtain ⟨e3,f3⟩:=grew_ext a3 e2 fr
  rw [<- hvr] at a2
  have i0:(.int .i64 0:Value)=vi 0:=rfl
  simp only [F.f12_l1,nth_0,nth_1,nth_2,nth_3,nth_4,nth_5,nth_6,nth_7,nth_8,nth_9,i64_lss,hjl',decide_true,p1,p2,hbv,hb1,AM.mk_some,mkSlc_eq,a1,stdZ]
  refine S.f18 hE a ?_
  have k:=fun (ti:Int) (bb:BitVec 32) (hB:BestV f 0 (j+1) ti bb)=>ExplainTexts_j1 (H:=H3) (Q:=Q) hE (X0:=X) n hn a (vi set) (u16 r) (ptr A 0) lv' (u32 bb) (vi ti) v (vi l.length) j (by omega) fun H' e'=>hX _ _ ⟨lv',ti,bb,rfl,e3.trans e',a2.ext e',f3,hB⟩
  by_cases hs0:0<rstrength a
  ·simp only [i0,i64_gtr,gt_iff_lt,hs0,decide_true,stdZ]
   refine S.f18 hE b ?_
   by_cases hs1:rstrength b<=rstrength a
   ·rw [if_pos ⟨hs0,hs1⟩,if_pos ⟨hs0,hs1⟩] at hstep
    simp only [i64_geq,ge_iff_le,hs1,decide_true,stdZ]
    exact k j a hstep
   ·rw [if_neg (fun h=>hs1 h.2),if_neg (fun h=>hs1 h.2)] at hstep
    simp only [i64_geq,ge_iff_le,hs1,decide_false,stdZ]
    exact k at_ b hstep
  ·rw [if_neg (fun h=>hs0 h.1),if_neg (fun h=>hs0 h.1)] at hstep
   simp only [i0,i64_gtr,gt_iff_lt,hs0,decide_false,stdZ]
   exact k at_ b hstep
 ·have hje:j=l.length:=by omega
  subst hje
  have hjl':¬ ((l.length:Int)<(l.length:Int)):=by omega
  rw [List.take_length] at g
  simp only [F.f12_l1,nth_0,nth_1,nth_2,nth_3,nth_4,nth_5,nth_6,nth_7,nth_8,nth_9,i64_lss,hjl',decide_false,stdZ]
  refine S.f4 hE l g.toRows (by omega) fun at' b' H3 e3 hb' =>?_
  rw [hf] at hb'
  obtain ⟨rfl,rfl,hat⟩:=hb'.same hb
  have x3:Ext H3 (H3.new (.cells [(.int .i64 0),(.int .u32 0)] none)):=(Ext.refl _).new _
  have g3:=AH.get_new_self H3 (.cells [(.int .i64 0),(.int .u32 0)] none)
  have l3:H3.next<(H3.new (.cells [(.int .i64 0),(.int .u32 0)] none)).next:=Nat.lt_succ_self _
  have hst:storeN 2 (ptr H3.next 0) (.agg #[vi at',u32 b']) (H3.new (.cells [(.int .i64 0),(.int .u32 0)] none))=some ((H3.new (.cells [(.int .i64 0),(.int .u32 0)] none)).put H3.next (.cells [vi at',u32 b'] none)):=by
   rw [storeN_ptr,g3]; rfl
  have x4:Ext H3 ((H3.new (.cells [(.int .i64 0),(.int .u32 0)] none)).put H3.next (.cells [vi at',u32 b'] none)):=x3.put (Nat.le_refl _) _
  have g4:=AH.get_put_self _ (.cells [vi at',u32 b'] none) l3
  simp only [ext_tuple,List.getElem?_cons_zero,List.getElem?_cons_succ,allocW_eq,hst,stdZ]
  generalize hB:H3.next=B at *
  generalize (H3.new (.cells [(.int .i64 0),(.int .u32 0)] none)).put B (.cells [vi at',u32 b'] none)=H4 at *
  refine S.explain_Path_nil hE ?_
  have i0:(.int .i64 0:Value)=vi 0:=rfl
  have i201:(.int .i64 201:Value)=vi 201:=rfl
  have heq:binBool .eql (vb (decide (0<=at'))) (vb (decide (0<=at')))=some (vb true):=by cases decide (0<=at') <;> rfl
  have hl9:loadN 7 (ptr A 0) H4=some (.agg c.toArray):=by
   have:=(e2.trans (e3.trans x4)).cells gC
   rw [loadN_ptr,this,row_all _ _ _ hc]; rfl
  have q1:binInt .eql (vi at') (vi at')=some (vb true):=by rw [i64_eql]; simp
  have q2:binInt .eql (u32 b') (u32 b')=some (vb true):=by rw [u32_eql]; simp
  have ln:AM.lenSlc nilS=some (vi 0):=rfl
  have q3:binInt .eql (vi 0) (vi 0)=some (vb true):=by rw [i64_eql]; simp
  have q4:binInt .eql (vi 201) (vi 201)=some (vb true):=by rw [i64_eql]; simp
  simp only [ext_tuple,List.getElem?_cons_zero,List.getElem?_cons_succ,i0,i201,i64_geq,ge_iff_le,heq,g4,q1,q2,hl9,stdZ]
  refine S.explain_Filters_nil hE c fun H5 e5 =>?_
  simp only [ln,q3,stdZ]
  refine S.explain_Port_nil hE ?_
  have hbv:buildV [(0,1),(1,1)] #[vi 0,(.int .u16 0)] [(0,vi set),(1,u16 r)]=some (.agg #[vi set,u16 r]):=rfl
  simp only [ln,q3,q4,hbv,stdZ]
  refine S.f5 hE set hs r fun H6 e6 =>?_
  obtain ⟨m1,m2⟩:=max0 hs
  obtain ⟨m3,m4⟩:=ofInt64 m1 m2
  simp only [i0,i64_max,i64_to_u64,stdZ]
  refine S.pinfoldref01_Printed20 hE _ _ m3 m4 fun H7 e7 =>?_
  have hpl:=printD_len 20 _ m4
  have hr:=rightW_len r
  unfold missW
  generalize printD (if (0:Int) > set then 0 else set).toNat=p at hpl ⊢
  have a1:=binStr_add [115,101,116,32] p (by simp; omega)
  have a2:=binStr_add ([115,101,116,32]++p) [32,100,101,110,105,101,115,32] (by simp; omega)
  have a3:=binStr_add (([115,101,116,32]++p)++[32,100,101,110,105,101,115,32]) (rightW r) (by simp; omega)
  have s1:(.string ⟨#[115,101,116,32]⟩:Value)=str [115,101,116,32]:=rfl
  have s2:(.string ⟨#[32,100,101,110,105,101,115,32]⟩:Value)=str [32,100,101,110,105,101,115,32]:=rfl
  simp only [s1,s2,a1,a2,u16_to_i64,stdZ]
  refine S.f17 hE r fun H8 e8 =>?_
  have hfin:binStr .eql (str ((([115,101,116,32]++p)++[32,100,101,110,105,101,115,32])++rightW r)) (str ((([115,101,116,32]++p)++[32,100,101,110,105,101,115,32])++rightW r))=some (vb true):=by rw [binStr_eql]; simp
  simp only [a3,hfin,stdZ]
  exact hQ _
end
end Go.AM
end
section
namespace Go.AM
section
variable {E:Sy} {H:AH} {Q:Value->AH->Prop}
theorem SV.two {e:Sh} {cs:List Value} (h1:∀ r,SV H e r->r.length=1) (h:SV H (.arr 2 e) cs):cs.length=2:=by
 obtain ⟨rows,hl,rfl,ha⟩:=h
 match rows,hl with
 | [a,b],_ =>
  have h2:=h1 a (ha a (by simp))
  have h3:=h1 b (ha b (by simp))
  simp [h2,h3]
theorem S.law_ExplainTexts (hE:Fold E) (args:List Value) (ha:ArgsSV H [.slice 1 (.int .u32),.int .i64,.int .i64,.int .u16,.struct [.int .u8,.bool,.int .u32,.arr 2 (.int .u64),.arr 2 (.str)]] args) (hQ:∀ H',Q (vb true) H'):E.call (E.fid i.f12) args H Q:=by
 obtain ⟨v1,_,rfl,h1,ha⟩:=ha.cons_inv
 obtain ⟨v2,_,rfl,h2,ha⟩:=ha.cons_inv
 obtain ⟨v3,_,rfl,h3,ha⟩:=ha.cons_inv
 obtain ⟨v4,_,rfl,h4,ha⟩:=ha.cons_inv
 obtain ⟨v5,_,rfl,h5,ha⟩:=ha.cons_inv
 obtain rfl:=ha.nil_inv
 obtain ⟨v,l,e,hv,hl⟩:=SV.vals (f:=u32) (fun r hr=>hr.u32) (show SV H (.slice 1 (.int .u32)) [v1] from h1)
 obtain rfl:v1=v:=by simpa using e
 obtain ⟨n,rfl,_,hn⟩:=h2.i64
 obtain ⟨s,rfl,_,hs⟩:=h3.i64
 obtain ⟨r,rfl⟩:=h4.u16
 obtain ⟨cs,rfl,h5⟩:=h5
 obtain ⟨c1,c2,rfl,k1,c3,c4,rfl,k2,c5,c6,rfl,k3,c7,c8,rfl,k4,c9,c10,rfl,k5,rfl⟩:=h5
 have l1:c1.length=1:=by obtain ⟨x,rfl⟩:=k1.u8; rfl
 have l2:c3.length=1:=by obtain ⟨x,rfl⟩:=k2; rfl
 have l3:c5.length=1:=by obtain ⟨x,rfl⟩:=k3.u32; rfl
 have l4:c7.length=2:=SV.two (fun r hr=>by obtain ⟨x,rfl⟩:=hr.u64; rfl) k4
 have l5:c9.length=2:=SV.two (fun r hr=>by obtain ⟨x,rfl,_⟩:=hr; rfl) k5
 exact S.ExplainTexts_ hE l hv (by omega) n hn s hs r _ (by simp; omega) hQ
end
end Go.AM
end
