/- CONTRACTS ON THE PRINTED FUNCTIONS. -/
import Derived.Test.YtfobgbnjicmnaaaGreatDoorKa406F
set_option linter.all false
section
namespace Go.AM
def aAi (n:BitVec 64):BitVec 32:=n.setWidth 32
def wU (n:BitVec 64):BitVec 32:=(n >>> 32).setWidth 32
end Go.AM
end
section
namespace Go.AM
variable {E:Sy} {H:AH} {Q:Value->AH->Prop}
def oL (a:BitVec 32):BitVec 32 :=
 if a&&&4294901760#32=327680#32 then 327680#32 else if a&&&4294901760#32=2147221504#32 then 2147221504#32 else if a&&&4294901760#32=2147418112#32 then 2147418112#32 else 2147483648#32
theorem S.f134 (hE:aU E) (a:BitVec 32) (hQ:Q (u32 (oL a)) H):E.call (E.fid i.f134) [u32 a] H Q:=by
 apply hE.f134;simp [F.f134,F.f134_j1,aFL];unfold oL at hQ
 repeat' split at hQ
 all_goals (first | (simp [*]; done) | (simp [*]; exact hQ))
def lI (a:BitVec 32):Int :=
 if oL a=2147483648#32 then 3 else if oL a=327680#32 then 2 else if oL a=2147221504#32 then 1 else 0
end Go.AM
end
section
namespace Go.AM
variable {E:Sy} {H:AH} {Q:Value->AH->Prop}
def dD (c:BitVec 16):BitVec 16:=c&&&7#16
theorem S.f29 (hE:aU E) (c:BitVec 16) (hQ:Q (u16 (dD c)) H):E.call (E.fid i.f29) [u16 c] H Q:=by
 apply hE.f29;simp [F.f29];exact hQ
def aEI:List (BitVec 16):=[32,0,96,128,1,97,129,2,3,6,22,7,135,5,132]
theorem S.f31_j3 (hE:aU E) (c:BitVec 16) (t:Bool) (hQ:Q (vb (t&&decide (dD c=5#16))) H):F.f31_j3 E Q (u16 c) (vb t) H:=by
 unfold F.f31_j3;cases t with
 | false=>simpa using hQ
 | true =>
  simp only [gH];apply S.f29 hE;simp
  simpa using hQ
def xB (c:BitVec 16):Bool:=[16,32,48,64].contains (c &&& ~~~((c&&&8#16)|||7#16))&&decide (dD c=5#16)
theorem S.f31_j2 (hE:aU E) (c:BitVec 16) (hQ:Q (vb (xB c)) H):F.f31_j2 E Q (u16 c) (u16 (c&&&8#16)) H:=by
 simp [F.f31_j2];unfold xB at hQ
 iterate 3
  refine nG (fun h=>S.f31_j3 hE c (decide _) (by simpa [h] using hQ)) (fun h =>?_)
  try simp
 exact S.f31_j3 hE c (decide _) (by simpa [*] using hQ)
theorem S.f31_j4 (hE:aU E) (c:BitVec 16) (t:Bool) (hQ:Q (vb ((t&&decide (dD c=4#16))||xB c)) H):F.f31_j4 E Q (u16 c) (u16 (c&&&8#16)) (vb t) H:=by
 unfold F.f31_j4;cases t with
 | false=>exact S.f31_j2 hE c (by simpa using hQ)
 | true =>
  simp only [gH];apply S.f29 hE;simp;refine nG (fun h=>by simpa [h] using hQ) (fun h=>S.f31_j2 hE c (by simpa [h] using hQ))
def xG (c:BitVec 16):Bool:=([0,16,32,48,64,80,96,112,160].contains (c &&& ~~~((c&&&8#16)|||7#16))&&decide (dD c=4#16))||xB c
theorem S.f31_j1 (hE:aU E) (c:BitVec 16) (t:Bool) (hQ:Q (vb (t||xG c)) H):F.f31_j1 E Q (u16 c) (vb t) H:=by
 unfold F.f31_j1;cases t with
 | true=>simpa using hQ
 | false =>
  simp;unfold xG at hQ
  iterate 8
   refine nG (fun h=>S.f31_j4 hE c (decide _) (by simpa [h] using hQ)) (fun h =>?_)
   try simp
  exact S.f31_j4 hE c (decide _) (by simpa [*] using hQ)
theorem S.f31 (hE:aU E) (c:BitVec 16) (hQ:Q (vb (aEI.contains c||xG c)) H):E.call (E.fid i.f31) [u16 c] H Q:=by
 apply hE.f31;simp [F.f31];unfold aEI at hQ
 iterate 14
  refine nG (fun h=>S.f31_j1 hE c (decide _) (by simpa [h] using hQ)) (fun h =>?_)
  try simp
 exact S.f31_j1 hE c (decide _) (by simpa [*] using hQ)
end Go.AM
end
section
namespace Go.AM
variable {E:Sy} {H:AH} {Q:Value->AH->Prop}
abbrev oN (c:BitVec 16) (jt jf:BitVec 8) (k:BitVec 32):Value := .agg #[u16 c,u8 jt,u8 jf,u32 k]
theorem S.f32 (hE:aU E) (k:BitVec 32) (hQ:∀ H',Ext H H'->Q (oN 32 0 0 k) H'):E.call (E.fid i.f32) [u32 k] H Q:=by
 apply hE.f32;simp [F.f32,bF,AH.get_new];exact hQ _ ((Ext.refl H).new _)
theorem S.f34 (hE:aU E) (k:BitVec 32) (hQ:∀ H',Ext H H'->Q (oN 6 0 0 k) H'):E.call (E.fid i.f34) [u32 k] H Q:=by
 apply hE.f34;simp [F.f34,bF,AH.get_new];exact hQ _ ((Ext.refl H).new _)
theorem S.f35 (hE:aU E) (k:BitVec 32) (hQ:∀ H',Ext H H'->Q (oN 5 0 0 k) H'):E.call (E.fid i.f35) [u32 k] H Q:=by
 apply hE.f35;simp [F.f35,bF,AH.get_new];exact hQ _ ((Ext.refl H).new _)
theorem S.f33 (hE:aU E) (k:BitVec 32) (hQ:∀ H',Ext H H'->Q (oN 84 0 0 k) H'):E.call (E.fid i.f33) [u32 k] H Q:=by
 apply hE.f33;simp [F.f33,bF,AH.get_new];exact hQ _ ((Ext.refl H).new _)
theorem S.f30 (hE:aU E) (c:BitVec 16) (k:BitVec 32) (jt jf:BitVec 8) (hQ:∀ H',Ext H H'->Q (oN (5#16|||c|||0#16) jt jf k) H'):E.call (E.fid i.f30) [u16 c,u32 k,u8 jt,u8 jf] H Q:=by
 apply hE.f30;simp [F.f30,bF,AH.get_new]
 simpa using hQ _ ((Ext.refl H).new _)
end Go.AM
end
section
namespace Go.AM
variable {E:Sy} {H:AH} {Q:Value->AH->Prop}
def iL (n:Int):Nat:=(if 5<(if 0 > n then 0 else n) then 5 else (if 0 > n then 0 else n)).toNat
theorem aCN (n:Int):iL n<6:=by unfold iL; split <;> split <;> omega
theorem aCR (n:Int):(if 5<(if 0 > n then 0 else n) then 5 else (if 0 > n then 0 else n))=(iL n:Int):=by unfold iL; split <;> split <;> omega
theorem S.f136 (hE:aU E) (n:Int) (b:Bool) (hQ:Q (u32 (BitVec.ofNat 32 (16+8*iL n+(if b then 4 else 0)))) H):E.call (E.fid i.f136) [vi n,vb b] H Q:=by
 apply hE.f136;have hc:=aCN n;simp only [F.f136,aMe,bE,aLK,aCR];rw [pW (by omega) (by omega),bE,iQ (by omega) (by omega),bE]
 have e:(16:Int)+8*(iL n:Int)=((16+8*iL n:Nat):Int):=by omega
 simp only [e,aAn,bE,BitVec.ofInt_natCast];cases b with
 | false=>simpa using hQ
 | true =>
  simp
  have:BitVec.ofNat 32 (16+8*iL n)+4#32=BitVec.ofNat 32 (16+8*iL n+4):=by
   rw [<- BitVec.ofNat_add]
  rw [this]; simpa using hQ
end Go.AM
end
section
namespace Go.AM
variable {E:Sy} {H:AH} {Q:Value->AH->Prop}
structure cO where
 arg:Int
 op:BitVec 8
 mask:BitVec 64
 value:BitVec 64
def cO.cells (c:cO):List Value:=[vi c.arg,u8 c.op,u64 c.mask,u64 c.value]
abbrev cO.v (c:cO):Value := .agg c.cells.toArray
def aLD (op:Nat) (mask value a:BitVec 64):Bool :=
 if op=1 then decide (a=value) else if op=2 then decide (a≠value) else if op=3 then decide (a.toNat<value.toNat) else if op=4 then decide (a.toNat<=value.toNat)
 else if op=5 then decide (value.toNat<a.toNat) else if op=6 then decide (value.toNat<=a.toNat) else if op=7 then decide (a&&&mask=value) else false
def aOA (l:List (BitVec 64)) (n:Nat):BitVec 64:=l.getD n 0
def holds (c:cO) (args:List (BitVec 64)):Bool:=if c.arg<0\/5<c.arg then false else aLD c.op.toNat c.mask c.value (aOA args c.arg.toNat)
end Go.AM
end
section
namespace Go.AM
def dT (F:List Nat) (H H':AH):Prop:=H.next<=H'.next/\∀ b,b<H.next->b ∉ F->H'.get b=H.get b
theorem dT.refl (F:List Nat) (H:AH):dT F H H:=⟨Nat.le_refl _,fun _ _ _=>rfl⟩
theorem dT.trans {F F':List Nat} {H H' H'':AH} (h:dT F H H') (h':dT F' H' H'') (hs:∀ b∈F',b∈F\/H.next<=b):dT F H H'' :=
 ⟨Nat.le_trans h.1 h'.1,fun b hb hf=>by
  rw [h'.2 b (Nat.lt_of_lt_of_le hb h.1) (fun k=>(hs b k).elim hf (fun k=>by omega)),h.2 b hb hf]⟩
theorem dT.trans' {F:List Nat} {H H' H'':AH} (h:dT F H H') (h':dT F H' H''):dT F H H'':=h.trans h' fun _ k => .inl k
theorem dT.new {F:List Nat} {H H':AH} (h:dT F H H') (o:cH):dT F H (H'.new o) :=
 ⟨Nat.le_succ_of_le h.1,fun b hb hf=>by rw [AH.get_new_lt _ _ (Nat.lt_of_lt_of_le hb h.1)]; exact h.2 b hb hf⟩
theorem dT.put {F:List Nat} {H H':AH} (h:dT F H H') {b:Nat} (hb:b∈F\/H.next<=b) (o:cH):dT F H (H'.put b o) :=
 ⟨h.1,fun x hx hf=>by rw [AH.get_put_ne _ _ (by rintro rfl; exact hb.elim hf (fun k=>by omega))]; exact h.2 x hx hf⟩
theorem Ext.only {F:List Nat} {H H':AH} (h:Ext H H'):dT F H H':=⟨h.1,fun b hb _=>h.2 b hb⟩
theorem dT.get {F:List Nat} {H H':AH} (h:dT F H H') {b:Nat} (hb:b<H.next) (hf:b ∉ F):H'.get b=H.get b:=h.2 b hb hf
theorem dT.obj {F:List Nat} {H H':AH} (h:dT F H H') {b:Nat} {o:cH} (ho:o ≠ .dead) (hg:H.get b=o) (hf:b ∉ F):H'.get b=o:=by
 rw [h.2 b (AH.lt_of_get (by rw [hg]; exact ho)) hf,hg]
theorem dT.cells {F:List Nat} {H H':AH} (h:dT F H H') {b:Nat} {c:List Value} {f:Option Nat} (hg:H.get b = .cells c f) (hf:b ∉ F):H'.get b = .cells c f:=h.obj (by simp) hg hf
theorem dT.mono {F F':List Nat} {H H':AH} (h:dT F H H') (hs:∀ b∈F,b∈F'\/H.next<=b):dT F' H H' :=
 ⟨h.1,fun b hb hf=>h.2 b hb fun k=>(hs b k).elim hf (fun k=>by omega)⟩
theorem dT.ext {F:List Nat} {H0 H H':AH} (h:dT F H H') (e:Ext H0 H) (hs:∀ b∈F,H0.next<=b):Ext H0 H' :=
 ⟨Nat.le_trans e.1 h.1,fun b hb=>by rw [h.2 b (Nat.lt_of_lt_of_le hb e.1) (fun k=>by have:=hs b k; omega)]; exact e.2 b hb⟩
def Sub (Z H:AH):Prop:=Z.next<=H.next/\∀ b,Z.get b ≠ .dead->H.get b=Z.get b
theorem Sub.refl (H:AH):Sub H H:=⟨Nat.le_refl _,fun _ _=>rfl⟩
theorem Ext.sub {H H':AH} (e:Ext H H'):Sub H H':=⟨e.1,fun _ hb=>e.get (AH.lt_of_get hb)⟩
theorem Sub.trans {A B C:AH} (h:Sub A B) (h':Sub B C):Sub A C:=⟨Nat.le_trans h.1 h'.1,fun b hb=>by rw [h'.2 b (by rw [h.2 b hb]; exact hb),h.2 b hb]⟩
theorem Sub.ext {Z H H':AH} (h:Sub Z H) (e:Ext H H'):Sub Z H':=h.trans e.sub
theorem Sub.only {Z H H':AH} {F:List Nat} (h:Sub Z H) (o:dT F H H') (hF:∀ b∈F,Z.get b = .dead):Sub Z H' :=
 ⟨Nat.le_trans h.1 o.1,fun b hb=>by
  have h1:=h.2 b hb;rw [o.2 b (AH.lt_of_get (by rw [h1]; exact hb)) (fun k=>hb (hF b k)),h1]⟩
theorem AH.get_ge (H:AH) {b:Nat} (h:H.next<=b):H.get b = .dead:=by simp [AH.get,Nat.not_lt.2 h]
theorem Rows.sub {Z H:AH} {sz:Nat} {v:Value} {rows:List (List Value)} (h:Rows Z sz v rows) (e:Sub Z H):Rows H sz v rows:=by
 refine ⟨h.len,?_⟩;rcases h.at_ with h | ⟨b,o,c,h1,h2,h3,h4⟩
 ·exact .inl h
 ·have:=e.2 b (pR h4)
  exact .inr ⟨b,o,c,h1,h2,by rw [this]; exact h3,by rw [this]; exact h4⟩
def AH.freeze (Z:AH) (n b:Nat) (o:cH):AH:={ next:=n,raw:=fun x=>if x=b then o else Z.get x }
theorem AH.get_freeze (Z:AH) (n b:Nat) (o:cH) (x:Nat) (hn:Z.next<=n) (hb:b<n):(Z.freeze n b o).get x=if x=b then o else Z.get x:=by
 by_cases h:x=b
 ·subst h; simp [AH.get,AH.freeze,hb]
 ·by_cases k:x<n
  ·simp [AH.get,AH.freeze,h,k]
  ·have:¬ x<Z.next:=by omega
   simp [AH.get,AH.freeze,h,k,this]
theorem Sub.freeze {Z H:AH} (h:Sub Z H) {b:Nat} (hb:b<H.next):Sub (Z.freeze H.next b (H.get b)) H :=
 ⟨Nat.le_refl _,fun x hx=>by
  rw [AH.get_freeze _ _ _ _ _ h.1 hb] at hx ⊢
  split
  ·rename_i e; rw [e]
  ·rename_i e; rw [if_neg e] at hx; exact h.2 x hx⟩
theorem Sub.to_freeze {Z H:AH} (h:Sub Z H) {b:Nat} (hb:b<H.next):Sub Z (Z.freeze H.next b (H.get b)) :=
 ⟨h.1,fun x hx=>by
  rw [AH.get_freeze _ _ _ _ _ h.1 hb]
  split
  ·rename_i e; rw [<- h.2 x hx,e]
  ·rfl⟩
def dO (Z H:AH) (sz:Nat) (v:Value) (rows:List (List Value)):Prop :=
 (∀ r∈rows,r.length=sz/\r.all plain1=true)/\((rows=[]/\v=bL)\/∃ b f c cs,Z.get b = .dead/\v=slc b 0 rows.length c/\H.get b = .cells cs f/\rows.length<=c/\cs.length=c*sz/\cs.take (rows.length*sz)=rows.flatten /\
  (f=none\/f=some sz))
section
variable {Z H H':AH} {sz:Nat} {v:Value} {rows:List (List Value)}
theorem dO.nil (Z H:AH) (sz:Nat):dO Z H sz bL []:=⟨by simp,.inl ⟨rfl,rfl⟩⟩
theorem dO.made {b n:Nat} {f:Option Nat} (hb:Z.get b = .dead) (hg:H.get b = .cells rows.flatten f) (hf:f=none\/f=some sz) (hn:rows.length=n) (hr:∀ r∈rows,r.length=sz/\r.all plain1=true):dO Z H sz (slc b 0 n n) rows:=by
 subst hn;have hfl:=fO rows fun r h=>(hr r h).1;exact ⟨hr,.inr ⟨b,f,rows.length,rows.flatten,hb,rfl,hg,Nat.le_refl _,hfl,by rw [<- hfl,List.take_length],hf⟩⟩
theorem dO.room {b c:Nat} {cs:List Value} (hb:Z.get b = .dead) (hg:H.get b = .cells cs none) (hc:cs.length=c*sz):dO Z H sz (slc b 0 0 c) [] :=
 ⟨by simp,.inr ⟨b,none,c,cs,hb,rfl,hg,Nat.zero_le _,hc,by simp,.inl rfl⟩⟩
theorem dO.toRows (h:dO Z H sz v rows):Rows H sz v rows:=by
 rcases h.2 with ⟨rfl,rfl⟩ | ⟨b,f,c,cs,h1,rfl,h3,h4,h5,h6,h7⟩
 ·exact Rows.nil _ _ none
 ·refine ⟨fun r hr=>(h.1 r hr).1,.inr ⟨b,0,c,rfl,h4,?_,?_⟩⟩
  ·rw [h3]; rcases h7 with rfl | rfl <;> simp [wV]
  ·have:rows.length*sz<=c*sz:=Nat.mul_le_mul_right _ h4
   rw [h3,jS,if_pos (by omega),List.drop_zero,h6]
theorem dO.plain (h:dO Z H sz v rows):plain1 v=true:=by
 rcases h.2 with ⟨_,rfl⟩ | ⟨b,f,c,cs,h1,rfl,_⟩ <;> rfl
theorem dO.keep (h:dO Z H sz v rows) (e:∀ b,blk v=some b->b<H.next->H'.get b=H.get b):dO Z H' sz v rows:=by
 refine ⟨h.1,?_⟩;rcases h.2 with h | ⟨b,f,c,cs,h1,rfl,h3,h4⟩
 ·exact .inl h
 ·exact .inr ⟨b,f,c,cs,h1,rfl,by rw [e b rfl (AH.lt_cells h3)]; exact h3,h4⟩
theorem dO.ext (h:dO Z H sz v rows) (e:Ext H H'):dO Z H' sz v rows:=h.keep fun b _ hb=>e.get hb
theorem dO.blk_lt (h:dO Z H sz v rows) {b:Nat} (hb:blk v=some b):b<H.next:=by
 rcases h.2 with ⟨_,rfl⟩ | ⟨b',f,c,cs,h1,rfl,h3,_⟩
 ·simp [blk] at hb
 ·simp [blk] at hb; subst hb; exact AH.lt_cells h3
def jM (v:Value):List Nat:=match blk v with | some b=>[b] | none=>[]
theorem fG {v:Value} {b:Nat}:b∈jM v↔blk v=some b:=by
 unfold jM;cases blk v <;> simp [eq_comm]
def aD1 (H H':AH) (v v':Value):Prop:=dT (jM v) H H'/\∀ b,blk v'=some b->blk v=some b\/H.next<=b
theorem dO.app (h:dO Z H sz v rows) (hZ:Z.next<=H.next) {bytes:Nat} {x:Value} {new:List (List Value)} (hx:Rows H sz x new) (hp:∀ r∈new,r.all plain1=true)
  (hs:sz≠0) (hb:bytes≠0) (h1:(rows.length+new.length)*bytes<=2 ^ 46) (h2:rows.length+new.length<2 ^ 62) :
  ∃ v' H',AM.app sz bytes v x H=some (v',H')/\dO Z H' sz v' (rows++new)/\aD1 H H' v v':=by
 have hrows:=h.toRows
 have hall:∀ r∈rows++new,r.length=sz/\r.all plain1=true:=by
  intro r hr;rcases List.mem_append.1 hr with hr | hr
  ·exact h.1 r hr
  ·exact ⟨hx.len r hr,hp r hr⟩
 have hpn:new.flatten.all plain1=true:=vV hp;have hpo:rows.flatten.all plain1=true:=vV fun r hr=>(h.1 r hr).2;have hfn:=fO new hx.len;have hfo:=fO rows fun r hr=>(h.1 r hr).1;have hnew:gA sz new.length x H=some new.flatten:=aAv hx;rcases h.2 with ⟨rfl,rfl⟩ | ⟨b,f,c,cs,g1,rfl,g3,g4,g5,g6,g7⟩
 ·by_cases hn:new=[]
  ·subst hn
   refine ⟨bL,H,?_,⟨by simp,.inl ⟨rfl,rfl⟩⟩,dT.refl _ _,fun b hb => .inl hb⟩
   have e:=qF hx;simp at e hnew;simp [AM.app,e,hnew]
  ·have hpos:0<new.length:=List.length_pos_iff.2 hn
   refine ⟨slc H.next 0 new.length new.length,H.new (.cells new.flatten (some sz)),?_,dO.made (AH.get_ge _ hZ) (AH.get_new_self _ _) (.inr rfl) (by simp) (by simpa using hall),(dT.refl _ _).new _,fun b hb => .inr (by simp [blk] at hb; omega)⟩
   simp only [AM.app,qF hx,hnew,Option.bind_some,hpn,Bool.not_true,Bool.false_eq_true,if_false];simp at h1 h2;rw [if_neg (by omega),if_neg (by simp; omega)]
   simp [dS]
 ·have hlt:=AH.lt_cells g3
  have hbl:jM (slc b 0 rows.length c)=[b]:=rfl;have hmul:(rows.length+new.length)*sz=rows.length*sz+new.length*sz:=Nat.add_mul _ _ _
  by_cases hcap:rows.length+new.length<=c
  ·have hle:(rows.length+new.length)*sz<=c*sz:=Nat.mul_le_mul_right _ hcap
   refine ⟨slc b 0 (rows.length+new.length) c,H.put b (.cells (bF cs (rows.length*sz) new.flatten) f),?_,⟨hall,.inr ⟨b,f,c,_,g1,by simp,AH.get_put_self _ _ hlt,by simpa using hcap,?_,?_,?_⟩⟩,(dT.refl _ _).put (.inl (by simp [hbl])) _,fun b' hb' => .inl (by simpa [blk] using hb')⟩
   ·simp only [AM.app,qF hx,hnew,Option.bind_some,hpn,Bool.not_true,Bool.false_eq_true,if_false]
    rw [if_pos hcap];simp only [Option.isSome_none,Bool.false_eq_true,if_false,g3];rw [if_pos (by omega),Nat.zero_add]
   ·rw [kH (by omega)]; exact g5
   ·simp only [List.length_append,List.flatten_append,hmul,bF]
    rw [List.take_append_of_le_length (by rw [List.length_append,List.length_take,hfn]; omega),List.take_of_length_le (by rw [List.length_append,List.length_take,hfn]; omega),g6]
   ·exact g7
  ·have hold:dS sz rows.length (slc b 0 rows.length c) H=some rows.flatten:=by
    have:rows.length*sz<=c*sz:=Nat.mul_le_mul_right _ g4;simp only [dS,Option.isSome_none,Bool.false_eq_true,if_false,g3,jS];rw [if_pos (by omega),List.drop_zero,g6]
   have hfin:∀ H1:AH,H1.next=H.next->AM.app sz bytes (slc b 0 rows.length c) x H=some (dN (rows.length+new.length) (rows.length+new.length) H.next,H1.new (.cells (rows.flatten++new.flatten) (some sz))) ->
     dT [b] H H1 ->
     ∃ v' H',AM.app sz bytes (slc b 0 rows.length c) x H=some (v',H')/\dO Z H' sz v' (rows++new)/\aD1 H H' (slc b 0 rows.length c) v':=by
    intro H1 e1 e2 e3;exact ⟨_,_,e2,dO.made (AH.get_ge _ hZ) (by rw [<- e1,AH.get_new_self,List.flatten_append]) (.inr rfl) (by simp) hall,by rw [hbl]; exact e3.new _,fun b' hb' => .inr (by simp [blk] at hb'; omega)⟩
   have pre:AM.app sz bytes (slc b 0 rows.length c) x H=(match f with
     | none=>some (dN (rows.length+new.length) (rows.length+new.length) H.next,H.new (.cells (rows.flatten++new.flatten) (some sz)))
     | some e=>if e=sz then some (dN (rows.length+new.length) (rows.length+new.length) H.next,(H.put b .dead).new (.cells (rows.flatten++new.flatten) (some sz))) else none):=by
    simp only [AM.app,qF hx,hnew,Option.bind_some,hpn,Bool.not_true,Bool.false_eq_true,if_false];rw [if_neg hcap,if_neg (by omega),hold]
    simp only [Option.bind_some,hpo,Bool.not_true,Bool.false_eq_true,if_false,g3];cases f <;> rfl
   rcases g7 with rfl | rfl
   ·exact hfin H rfl pre (dT.refl _ _)
   ·exact hfin (H.put b .dead) rfl (by rw [pre]; simp) ((dT.refl _ _).put (.inl (by simp)) _)
theorem dO.app1 (h:dO Z H sz v rows) (hZ:Z.next<=H.next) {bytes:Nat} (new:List Value) (hl:new.length=sz) (hp:new.all plain1=true) (hs:sz≠0) (hb:bytes≠0) (h1:(rows.length+1)*bytes<=2 ^ 46) :
  ∃ v' H',AM.app sz bytes v (slc H.next 0 1 1) (H.new (.cells new none))=some (v',H')/\dO Z H' sz v' (rows++[new])/\aD1 H H' v v':=by
 have hb1:1<=bytes:=by omega
 have h2:(rows.length+1)*1<=(rows.length+1)*bytes:=Nat.mul_le_mul_left _ hb1;obtain ⟨v',H',a1,a2,a3,a4⟩:=(h.ext ((Ext.refl H).new (.cells new none))).app (Nat.le_succ_of_le hZ) (bytes:=bytes) (x:=slc H.next 0 1 1) (new:=[new]) (Rows.made (f:=none) (by rw [AH.get_new_self]; simp) (.inl rfl) rfl (by simpa using hl)) (by simpa using hp) hs hb h1 (by simp at *; omega)
 refine ⟨v',H',a1,a2,⟨by have:=a3.1; simp at this; omega,fun b hb hf =>?_⟩,fun b hb=>(a4 b hb).imp id fun k=>by simp at k; omega⟩
 rw [a3.2 b (by simp; omega) hf,AH.get_new_lt _ _ hb]
end
theorem fC (c:List Value) (f:Option Nat) (n:Nat) (h:c.length=n):(cH.cells c f).row 0 n=some c:=by
 rw [jS,if_pos (by omega),List.drop_zero,List.take_of_length_le (by omega)]
theorem aEr (a b c v:List Value) (h:b.length=v.length):bF (a++b++c) a.length v=a++v++c:=by
 have h1:(a++b++c).take a.length=a:=by rw [List.append_assoc,List.take_left' rfl]
 have h2:(a++b++c).drop (a.length+v.length)=c:=by rw [<- h,<- List.length_append,List.drop_left' rfl]
 simp only [bF,h1,h2]
theorem zO (size:Nat):∀ (vs:List Value) (k:Nat) (pre post:List Value),pre.length=k*size->post.length=vs.length*size->(∀ v∈vs,(cY v).length=size) ->
  pL (fun i=>some (i*size,size)) (pre++post) ((List.range' k vs.length).zip vs)=some (pre++vs.flatMap cY)
 | [],k,pre,post,_,h2,_=>by
  simp at h2;simp [h2]
 | v :: vs,k,pre,post,h1,h2,h3=>by
  have hv:=h3 v (by simp)
  have e:post=post.take size++post.drop size:=(List.take_append_drop _ _).symm;have hl:(post.take size).length=size:=by rw [List.length_take,h2,List.length_cons,Nat.succ_mul]; omega
  have hs:bF (pre++post) (k*size) (cY v)=(pre++cY v)++post.drop size:=by
   conv=>lhs; rw [e]
   rw [<- h1,<- List.append_assoc,aEr _ _ _ _ (by omega)]
  simp only [List.length_cons,List.range'_succ,List.zip_cons_cons,aE5];rw [hv,hs];have ih:=zO size vs (k+1) (pre++cY v) (post.drop size) (by rw [List.length_append,h1,hv,Nat.succ_mul]) (by rw [List.length_drop,h2,List.length_cons,Nat.succ_mul]; omega) (fun x hx=>h3 x (by simp [hx]))
  rw [ih];have hle:k*size+size<=pre.length+post.length:=by rw [h1,h2,List.length_cons,Nat.succ_mul]; omega
  simp [hle]
theorem vS (len size:Nat) (zero:List Value) (parts:List (Nat×Value)) (vs:List Value) (hz:zero.length=size) (hp:parts=(List.range' 0 vs.length).zip vs) (hn:vs.length=len) (hd:vs.all gQ=true) (hl:∀ v∈vs,(cY v).length=size) :
  bR len size zero.toArray parts=some (.cells (vs.flatMap cY) none,dN len len):=by
 subst hp hn;rw [uA _ _ _ _ hz]
 have h1:((List.range' 0 vs.length).zip vs).all (fun p=>gQ p.2)=true:=by
  rw [List.all_eq_true] at hd ⊢;intro p hp;exact hd _ (List.of_mem_zip hp).2
 have:=zO size vs 0 [] (List.replicate vs.length zero).flatten (by simp) (by simp [hz]) hl
 simp only [List.nil_append] at this;simp [h1,this]
 rfl
theorem cQ (size:Nat) (zero cs:List Value) (hz:zero.length=size) (h:cs.length=size):bR 1 size zero.toArray [(0,.agg cs.toArray)]=some (.cells cs none,dN 1 1):=by
 have:=vS 1 size zero [(0,.agg cs.toArray)] [.agg cs.toArray] hz rfl rfl rfl (by simpa using h)
 simpa using this
@[simp] theorem cG (c:bB) (g:FuncId) (a b:Array Value) (args:List Value) (H:AH) (K:Value->AH->Prop):eH c (.func (.func g) a b) args H K=c g (a.toList++args++b.toList) H K:=uR rfl
theorem pG {α:Type} [DecidableEq α]:∀ (l m:List α),l.Nodup->(∀ x∈l,x∈m)->l.length<=m.length
 | [],m,_,_=>Nat.zero_le _
 | x :: l,m,hn,hs=>by
  have hx:=hs x (by simp)
  rw [List.nodup_cons] at hn;have:=pG l (m.erase x) hn.2 fun y hy=>(List.mem_erase_of_ne (by rintro rfl; exact hn.1 hy)).2 (hs y (by simp [hy]))
  rw [List.length_erase_of_mem hx] at this;have:=List.length_pos_of_mem hx;simp only [List.length_cons];omega
theorem aDx (a b:Nat) (hb:b≠0) (ha:a<2 ^ 63):aA .quo (vi a) (vi b)=some (vi ((a / b:Nat):Int)):=by
 have h1:a / b<=a:=Nat.div_le_self _ _;rw [yA _ _ _ (by omega)]
 have e:(a:Int).tdiv b=((a / b:Nat):Int):=by simp [Int.tdiv]
 rw [e];generalize a / b=q at *;rw [iJ (by omega) (by omega)]
theorem dV (a b:Nat) (h:a+b<2 ^ 63):aA .add (vi a) (vi b)=some (vi ((a+b:Nat):Int)):=by
 rw [iQ (by omega) (by omega)]; simp
theorem kV (a n:Nat) (hn:n≠0) (ha:a<2 ^ 63):aA .quo (vi a) (vi (no_index (OfNat.ofNat n)))=some (vi ((a / n:Nat):Int)):=aDx a n hn ha
def dP {K V:Type} (fk:K->Value) (fv:V->Value) (H:AH) (r:Nat) (l:List (K×V)):Prop :=
 ∃ es clock,H.get r = .map es clock true/\es.map (fun e=>(e.key,e.val))=(l.map fun p=>(fk p.1,fv p.2))/\(es.map (·.born)).Nodup/\(∀ e∈es,e.born<clock)/\(l.map Prod.fst).Nodup
def dQ {K V:Type} [DecidableEq K] (k:K) (v:V):List (K×V)->List (K×V)
 | []=>[(k,v)]
 | p :: l=>if p.1=k then (k,v) :: l else p :: dQ k v l
section
variable {K V:Type} [DecidableEq K] {fk:K->Value} {fv:V->Value} {H:AH} {r kd:Nat}
theorem dP.lt {l:List (K×V)} (h:dP fk fv H r l):r<H.next:=by
 obtain ⟨es,clock,h1,_⟩:=h;exact AH.lt_of_get (by rw [h1]; simp)
theorem dP.keep {H':AH} {l:List (K×V)} (h:dP fk fv H r l) (e:H'.get r=H.get r):dP fk fv H' r l:=by
 obtain ⟨es,clock,h1,h2⟩:=h;exact ⟨es,clock,by rw [e]; exact h1,h2⟩
theorem dP.new (H:AH):dP fk fv (H.new (.map [] 0 true)) H.next ([]:List (K×V)):=⟨[],0,AH.get_new_self _ _,rfl,by simp,by simp,by simp⟩
theorem nZ (hk:∀ a b,cB kd (fk a) (fk b)=some (decide (a=b))) (k:K):∀ (es:List MapEntry) (l:List (K×V)),es.map (fun e=>(e.key,e.val))=l.map (fun p=>(fk p.1,fv p.2)) ->
  iZ kd (fk k) es=some ((l.findIdx? fun p=>decide (k=p.1)).bind fun i=>(l[i]?).map fun p=>(i,fv p.2))
 | [],[],_=>rfl
 | [],_ :: _,h=>by simp at h
 | _ :: _,[],h=>by simp at h
 | e :: es,p :: l,h=>by
  simp only [List.map_cons,List.cons.injEq,Prod.mk.injEq] at h;obtain ⟨⟨h1,h2⟩,h3⟩:=h;have ih:=nZ hk k es l h3;simp only [iZ,h1,hk,Option.bind_some]
  by_cases e:k=p.1
  ·simp [e,h2,List.findIdx?_cons]
  ·simp only [e,decide_false,ih,Option.map_some,List.findIdx?_cons,if_false,Bool.false_eq_true]
   congr 1
   cases l.findIdx? fun p=>decide (k=p.1) <;> simp
   rename_i i;cases l[i]? <;> rfl
theorem pT (k:K):∀ l:List (K×V),(l.findIdx? fun p=>decide (k=p.1)).bind (fun i=>(l[i]?).map fun p=>(i,fv p.2))=(l.findIdx? fun p=>decide (k=p.1)).bind (fun i=>(l.lookup k).map fun v=>(i,fv v))
 | []=>rfl
 | p :: l=>by
  have ih:=pT k l
  by_cases e:k=p.1
  ·subst e
   simp [List.findIdx?_cons,List.lookup]
  ·have e':(k == p.1)=false:=by simpa using e
   simp only [List.findIdx?_cons,e,decide_false,Bool.false_eq_true,if_false,List.lookup,e'];cases hf:l.findIdx? fun p=>decide (k=p.1) with
   | none=>simp
   | some i =>
    rw [hf] at ih;simp at ih ⊢;cases h1:l[i]? <;> cases h2:l.lookup k <;> simp [h1,h2] at ih ⊢
    exact ih
theorem oT (k:K):∀ l:List (K×V),(l.findIdx? fun p=>decide (k=p.1))=none↔l.lookup k=none
 | []=>by simp
 | p :: l=>by
  have ih:=oT k l
  by_cases e:k=p.1
  ·subst e; simp [List.findIdx?_cons,List.lookup]
  ·have e':(k == p.1)=false:=by simpa using e
   simp only [List.findIdx?_cons,e,decide_false,Bool.false_eq_true,if_false,List.lookup,e'];rw [Option.map_eq_none_iff];exact ih
theorem dP.look {l:List (K×V)} (h:dP fk fv H r l) (hk:∀ a b,cB kd (fk a) (fk b)=some (decide (a=b))) (k:K) (zero:Value) (ok:Bool) :
  AM.look kd zero ok (.map (some r)) (fk k) H=some (match l.lookup k with | some v=>(if ok then .tuple #[fv v,.bool true] else fv v) | none=>(if ok then .tuple #[zero,.bool false] else zero)):=by
 obtain ⟨es,clock,h1,h2,_⟩:=h;simp only [AM.look,lJ,h1,Option.bind_some];rw [nZ hk k es l h2,pT];have:=oT k l;cases hf:l.findIdx? fun p=>decide (k=p.1) with
 | none =>
  have this:=this.1 hf;simp only [this,Option.bind_none,Option.map_some]
 | some i =>
  rw [hf] at this;cases hl:l.lookup k with
  | none=>rw [hl] at this; simp at this
  | some v=>simp
theorem yW (k:K) (v:V):∀ (l:List (K×V)) (i:Nat),(l.findIdx? fun p=>decide (k=p.1))=some i->dQ k v l=l.set i (k,v)
 | [],i,h=>by simp at h
 | p :: l,i,h=>by
  by_cases e:k=p.1
  ·subst e
   simp [List.findIdx?_cons] at h;subst h;simp [dQ]
  ·have e':¬ p.1=k:=fun x=>e x.symm
   simp only [List.findIdx?_cons,e,decide_false,Bool.false_eq_true,if_false,Option.map_eq_some_iff] at h;obtain ⟨j,h1,rfl⟩:=h;simp [dQ,e',yW k v l j h1]
theorem aBf (k:K) (v:V):∀ (l:List (K×V)),(l.findIdx? fun p=>decide (k=p.1))=none->dQ k v l=l++[(k,v)]
 | [],_=>rfl
 | p :: l,h=>by
  by_cases e:k=p.1
  ·subst e; simp [List.findIdx?_cons] at h
  ·have e':¬ p.1=k:=fun x=>e x.symm
   simp only [List.findIdx?_cons,e,decide_false,Bool.false_eq_true,if_false,Option.map_eq_none_iff] at h;simp [dQ,e',aBf k v l h]
theorem aAO (k:K) (v:V):∀ (l:List (K×V)),(dQ k v l).map Prod.fst=if k∈l.map Prod.fst then l.map Prod.fst else l.map Prod.fst++[k]
 | []=>by simp [dQ]
 | p :: l=>by
  by_cases e:p.1=k
  ·subst e; simp [dQ]
  ·have e':¬ k=p.1:=fun x=>e x.symm
   simp only [dQ,e,if_false,List.map_cons,aAO k v l,List.mem_cons,e',false_or]
   split <;> simp
theorem zP (k:K) (v:V) (l:List (K×V)) (h:(l.map Prod.fst).Nodup):((dQ k v l).map Prod.fst).Nodup:=by
 rw [aAO]
 split
 ·exact h
 ·rename_i hk
  rw [List.nodup_append];exact ⟨h,by simp,fun a ha b hb=>by simp at hb; subst hb; rintro rfl; exact hk ha⟩
theorem dP.set {l:List (K×V)} (h:dP fk fv H r l) (hk:∀ a b,cB kd (fk a) (fk b)=some (decide (a=b))) (k:K) (v:V) :
  ∃ o,o ≠ .dead/\cN kd (.map (some r)) (fk k) (fv v) H=some (H.put r o)/\dP fk fv (H.put r o) r (dQ k v l):=by
 have hlt:=h.lt;obtain ⟨es,clock,h1,h2,h3,h4,h5⟩:=h;have hlen:es.length=l.length:=by simpa using congrArg List.length h2
 simp only [cN,h1];rw [nZ hk k es l h2];cases hf:l.findIdx? fun p=>decide (k=p.1) with
 | none =>
  refine ⟨.map (es++[{ key:=fk k,val:=fv v,born:=clock }]) (clock+1) true,by simp,by simp,_,_,AH.get_put_self _ _ hlt,?_,?_,?_,zP k v l h5⟩
  ·rw [aBf k v l hf,List.map_append,List.map_append,h2]
   rfl
  ·rw [List.map_append,List.nodup_append]
   refine ⟨h3,by simp,fun a ha b hb =>?_⟩
   obtain ⟨e,he,rfl⟩:=List.mem_map.1 ha;have:=h4 e he;simp at hb;omega
  ·intro e he
   rcases List.mem_append.1 he with he | he
   ·exact Nat.lt_succ_of_lt (h4 e he)
   ·simp at he; subst he; exact Nat.lt_succ_self _
 | some i =>
  have hi:i<l.length:=by
   have:=List.findIdx?_eq_some_iff_getElem.1 hf;exact this.1
  refine ⟨.map (es.modify i fun e=>{ e with key:=fk k,val:=fv v }) clock true,by simp,by simp [hi],_,_,AH.get_put_self _ _ hlt,?_,?_,?_,zP k v l h5⟩
  rotate_left
  ·have:(es.modify i fun e=>{ e with key:=fk k,val:=fv v }).map (·.born)=es.map (·.born):=by
    apply List.ext_getElem?;intro j;simp only [List.getElem?_map,List.getElem?_modify];cases es[j]? <;> simp
    split <;> rfl
   rw [this]; exact h3
  ·intro e he
   obtain ⟨j,hj⟩:=List.mem_iff_getElem?.1 he;rw [List.getElem?_modify] at hj;cases hx:es[j]? with
   | none=>rw [hx] at hj; simp at hj
   | some x =>
    have hm:=h4 x (List.mem_of_getElem? hx);rw [hx] at hj;simp at hj;subst hj
    split <;> exact hm
  rw [yW k v l i hf];apply List.ext_getElem?;intro j;have:=congrArg (fun x=>x[j]?) h2;simp only [List.getElem?_map] at this;simp only [List.getElem?_map,List.getElem?_modify,List.getElem?_set]
  by_cases e:i=j
  ·subst e
   simp [hi];have:i<es.length:=by omega
   simp [this]
  ·simp [e,this]
end
theorem lD {A B:Type} (f:A->B):∀ {l:List A},(l.map f).Nodup->l.Nodup
 | [],_=>by simp
 | x :: l,h=>by
  rw [List.map_cons,List.nodup_cons] at h;rw [List.nodup_cons];exact ⟨fun hm=>h.1 (List.mem_map.2 ⟨x,hm,rfl⟩),lD f h.2⟩
theorem jZ {A B:Type} (f:A->B):∀ (l:List A) (i:Nat),(l.eraseIdx i).map f=(l.map f).eraseIdx i
 | [],_=>by simp
 | _ :: _,0=>by simp
 | x :: l,i+1=>by simp [jZ f l i]
def tH {K V:Type} [DecidableEq K] (k:K):List (K×V)->List (K×V)
 | []=>[]
 | p :: l=>if p.1=k then l else p :: tH k l
section
variable {K V:Type} [DecidableEq K] {fk:K->Value} {fv:V->Value} {H:AH} {r kd:Nat}
theorem rZ (k:K):∀ (l:List (K×V)) (i:Nat),(l.findIdx? fun p=>decide (k=p.1))=some i->tH k l=l.eraseIdx i
 | [],i,h=>by simp at h
 | p :: l,i,h=>by
  by_cases e:k=p.1
  ·subst e
   simp [List.findIdx?_cons] at h;subst h;simp [tH]
  ·have e':¬ p.1=k:=fun x=>e x.symm
   simp only [List.findIdx?_cons,e,decide_false,Bool.false_eq_true,if_false,Option.map_eq_some_iff] at h;obtain ⟨j,h1,rfl⟩:=h;simp [tH,e',rZ k l j h1]
theorem aA7 (k:K):∀ (l:List (K×V)),(l.findIdx? fun p=>decide (k=p.1))=none->tH k l=l
 | [],_=>rfl
 | p :: l,h=>by
  by_cases e:k=p.1
  ·subst e; simp [List.findIdx?_cons] at h
  ·have e':¬ p.1=k:=fun x=>e x.symm
   simp only [List.findIdx?_cons,e,decide_false,Bool.false_eq_true,if_false,Option.map_eq_none_iff] at h;simp [tH,e',aA7 k l h]
theorem aC0 (k:K):∀ (l:List (K×V)),List.Sublist (tH k l) l
 | []=>List.Sublist.slnil
 | p :: l=>by
  simp only [tH]
  split
  ·exact List.sublist_cons_self _ _
  ·exact (aC0 k l).cons₂ _
theorem dP.del {l:List (K×V)} (h:dP fk fv H r l) (hk:∀ a b,cB kd (fk a) (fk b)=some (decide (a=b))) (k:K) :
  ∃ H',jV kd (.map (some r)) (fk k) H=some H'/\dP fk fv H' r (tH k l)/\(H'=H\/∃ o,o ≠ .dead/\H'=H.put r o):=by
 have hlt:=h.lt;have h0:=h;obtain ⟨es,clock,h1,h2,h3,h4,h5⟩:=h;have hlen:es.length=l.length:=by simpa using congrArg List.length h2
 simp only [jV,h1];rw [nZ hk k es l h2];cases hf:l.findIdx? fun p=>decide (k=p.1) with
 | none=>exact ⟨H,rfl,by rw [aA7 k l hf]; exact h0,.inl rfl⟩
 | some i =>
  have hi:i<l.length:=(List.findIdx?_eq_some_iff_getElem.1 hf).1;refine ⟨H.put r (.map (es.eraseIdx i) clock true),by simp [hi],⟨_,_,AH.get_put_self _ _ hlt,?_,?_,?_,?_⟩,.inr ⟨_,by simp,rfl⟩⟩
  ·rw [rZ k l i hf,jZ,jZ,h2]
  ·rw [jZ]; exact h3.sublist (List.eraseIdx_sublist _ _)
  ·exact fun e he=>h4 e (List.mem_of_mem_eraseIdx he)
  ·exact h5.sublist ((aC0 k l).map _)
theorem dP.len {l:List (K×V)} (h:dP fk fv H r l):rJ (.map (some r)) H=some (vi l.length):=by
 obtain ⟨es,clock,h1,h2,_⟩:=h;have hlen:es.length=l.length:=by simpa using congrArg List.length h2
 simp [rJ,h1,hlen]
def fL (fk:K->Value) (fv:V->Value) (H:AH) (ib r:Nat) (l done:List (K×V)):Prop :=
 ∃ es clock,H.get r = .map es clock true/\es.map (fun e=>(e.key,e.val))=(l.map fun p=>(fk p.1,fv p.2))/\(es.map (·.born)).Nodup/\(∀ e∈es,e.born<clock)/\(l.map Prod.fst).Nodup /\
  ∃ ix:List Nat,ix.Nodup/\(∀ i∈ix,i<l.length)/\ix.filterMap (l[·]?)=done/\H.get ib = .miter (some r) clock (ix.filterMap fun i=>(es[i]?).map (·.born)) clock
theorem fL.start {l:List (K×V)} (h:dP fk fv H r l):∃ o,mS (.map (some r)) H=some (o,kR)/\fL fk fv (H.new o) H.next r l []:=by
 have hlt:=h.lt;obtain ⟨es,clock,h1,h2,h3,h4,h5⟩:=h;exact ⟨.miter (some r) clock [] clock,by simp [mS,h1],es,clock,by rw [AH.get_new_lt _ _ hlt]; exact h1,h2,h3,h4,h5,[],by simp,by simp,rfl,AH.get_new_self _ _⟩
theorem fL.map {ib:Nat} {l done:List (K×V)} (h:fL fk fv H ib r l done):dP fk fv H r l:=by
 obtain ⟨es,clock,h1,h2,h3,h4,h5,_⟩:=h;exact ⟨es,clock,h1,h2,h3,h4,h5⟩
theorem fL.keep {H':AH} {ib:Nat} {l done:List (K×V)} (h:fL fk fv H ib r l done) (e1:H'.get r=H.get r) (e2:H'.get ib=H.get ib):fL fk fv H' ib r l done:=by
 obtain ⟨es,clock,h1,h2,h3,h4,h5,ix,h6,h7,h8,h9⟩:=h;exact ⟨es,clock,by rw [e1]; exact h1,h2,h3,h4,h5,ix,h6,h7,h8,by rw [e2]; exact h9⟩
theorem fL.lt {ib:Nat} {l done:List (K×V)} (h:fL fk fv H ib r l done):ib<H.next:=by
 obtain ⟨es,clock,h1,h2,h3,h4,h5,ix,h6,h7,h8,h9⟩:=h;exact AH.lt_of_get (by rw [h9]; simp)
theorem oY {es:List MapEntry}:∀ {ix:List Nat},(∀ i∈ix,i<es.length)->ix.filterMap (fun i=>(es[i]?).map (·.born))=ix.map fun i=>(es[i]?.map (·.born)).getD 0
 | [],_=>rfl
 | i :: ix,h=>by
  have hi:=h i (by simp)
  rw [List.filterMap_cons,List.map_cons,oY fun j hj=>h j (by simp [hj])]
  simp [hi]
theorem aA8 {es:List MapEntry} (h:(es.map (·.born)).Nodup) {i j:Nat} (hi:i<es.length) (hj:j<es.length) (e:es[i].born=es[j].born):i=j:=by
 have:=(List.getElem_inj (h₀:=by simpa using hi) (h₁:=by simpa using hj) h).1 (by simpa using e)
 exact this
theorem sD {A:Type} {l:List A} (h:l.Nodup):∀ {ix:List Nat},ix.Nodup->(ix.filterMap (l[·]?)).Nodup
 | [],_=>by simp
 | i :: ix,hn=>by
  rw [List.nodup_cons] at hn;rw [List.filterMap_cons];cases hi:l[i]? with
  | none=>exact sD h hn.2
  | some x =>
   simp only [List.nodup_cons];refine ⟨fun hm =>?_,sD h hn.2⟩;obtain ⟨j,hj,hx⟩:=List.mem_filterMap.1 hm;have hil:=(List.getElem?_eq_some_iff.1 hi).1;have:=(List.getElem?_inj hil h).1 (hi.trans hx.symm);subst this;exact hn.1 hj
theorem fL.nodup {ib:Nat} {l done:List (K×V)} (h:fL fk fv H ib r l done):done.Nodup/\∀ p∈done,p∈l:=by
 obtain ⟨es,clock,h1,h2,h3,h4,h5,ix,h6,h7,rfl,h9⟩:=h;refine ⟨sD (lD _ h5) h6,fun p hp =>?_⟩;obtain ⟨i,_,hi⟩:=List.mem_filterMap.1 hp;exact List.mem_of_getElem? hi
theorem List.perm_of_nodup_nodup_toFinset_eq' {A:Type} {l m:List A} (h1:l.Nodup) (h2:m.Nodup) (h3:∀ x∈l,x∈m) (h4:∀ x∈m,x∈l):l.Perm m:=by
 classical
 rw [List.perm_iff_count];intro a
 by_cases ha:a∈l
 ·rw [List.Nodup.count h1,List.Nodup.count h2,if_pos ha,if_pos (h3 a ha)]
 ·rw [List.count_eq_zero_of_not_mem ha,List.count_eq_zero_of_not_mem fun k=>ha (h4 a k)]
theorem fL.next {ib:Nat} {l done:List (K×V)} (h:fL fk fv H ib r l done) {Q:Value->AH->Prop}
  (more:∀ p o,p∈l->p ∉ done->fL fk fv (H.put ib o) ib r l (done++[p])->oW (ptr ib 0) (H.put ib o)=some (.tuple #[fk p.1,fv p.2])->Q (.tuple #[.bool true,fk p.1,fv p.2]) (H.put ib o))
  (fin:done.Perm l->Q (.tuple #[.bool false]) H):mJ (ptr ib 0) H Q:=by
 have hlt:=h.lt;have hnd:=h.nodup;obtain ⟨es,clock,h1,h2,h3,h4,h5,ix,h6,h7,h8,h9⟩:=h;have hlen:es.length=l.length:=by simpa using congrArg List.length h2
 have hne:r≠ib:=by rintro rfl; rw [h1] at h9; simp at h9
 have hat:∀ i (hi:i<es.length),es[i].key=fk (l[i]'(by omega)).1/\es[i].val=fv (l[i]'(by omega)).2:=by
  intro i hi;have:=congrArg (fun x=>x[i]?) h2;simp only [List.getElem?_map,List.getElem?_eq_getElem hi,List.getElem?_eq_getElem (show i<l.length by omega),Option.map_some,Option.some.injEq,Prod.mk.injEq] at this
  exact this
 have hb:=oY (es:=es) (ix:=ix) fun i hi=>by rw [hlen]; exact h7 i hi
 simp only [mJ,h9,h1];refine ⟨fun ⟨_,k2,k3⟩ =>?_,fun e he hn =>?_,fun hall =>?_⟩
 ·obtain ⟨e,he⟩:=List.exists_mem_of_ne_nil _ k2
  have a:=List.all_eq_true.1 k3 e he;have b:=h4 e he;simp at a;omega
 ·obtain ⟨i,hi,rfl⟩:=List.getElem_of_mem he
  have hil:i<l.length:=by omega
  have hni:i ∉ ix:=fun hm=>hn (List.mem_filterMap.2 ⟨i,hm,by simp [hi]⟩)
  obtain ⟨g1,g2⟩:=hat i hi;rw [g1,g2]
  have hs:(ix.filterMap fun i=>(es[i]?).map (·.born))++[es[i].born]=(ix++[i]).filterMap fun i=>(es[i]?).map (·.born):=by
   rw [List.filterMap_append]; simp [hi]
  refine more l[i] _ (List.getElem_mem hil) ?_ ⟨es,clock,by rw [AH.get_put_ne _ _ hne]; exact h1,h2,h3,h4,h5,ix++[i],?_,?_,?_,?_⟩ ?_
  ·rw [<- h8]
   intro hm;obtain ⟨j,hj,hx⟩:=List.mem_filterMap.1 hm;have:=(List.getElem?_inj hil (lD _ h5)).1 ((List.getElem?_eq_getElem hil).trans hx.symm);subst this;exact hni hj
  ·rw [List.nodup_append]
   exact ⟨h6,by simp,fun a ha b hb=>by simp at hb; subst hb; rintro rfl; exact hni ha⟩
  ·intro j hj
   rcases List.mem_append.1 hj with hj | hj
   ·exact h7 j hj
   ·simp at hj; subst hj; exact hil
  ·rw [List.filterMap_append,h8]; simp [hil]
  ·rw [AH.get_put_self _ _ hlt,hs]
  ·simp only [oW,AH.get_put_self _ _ hlt,List.getLast?_append,List.getLast?_singleton,Option.some_or,AH.get_put_ne _ _ hne,h1,if_true]
   have:es.find? (fun e=>e.born == es[i].born)=some es[i]:=by
    rw [List.find?_eq_some_iff_getElem];refine ⟨by simp,i,hi,rfl,fun j hj =>?_⟩
    simp only [Bool.not_eq_true',beq_eq_false_iff_ne,ne_eq];intro e;have:=aA8 h3 (by omega) hi e
    omega
   rw [this];simp [g1,g2]
 ·refine fin ?_
  refine List.perm_of_nodup_nodup_toFinset_eq' hnd.1 (lD _ h5) hnd.2 fun p hp =>?_;obtain ⟨i,hi,rfl⟩:=List.getElem_of_mem hp;have hie:i<es.length:=by omega
  have:=hall es[i] (List.getElem_mem hie) (h4 _ (List.getElem_mem hie));obtain ⟨j,hj,hx⟩:=List.mem_filterMap.1 this;have hjl:j<es.length:=by rw [hlen]; exact h7 j hj
  simp [hjl] at hx;have:=aA8 h3 hjl hie hx;subst this;rw [<- h8];exact List.mem_filterMap.2 ⟨j,hj,by simp [hi]⟩
end
theorem aCU {K:Type} [DecidableEq K] {V W:Type} (k:K) (w:W) (f:V->W):∀ (l:List (K×V)),k ∉ l.map Prod.fst->dQ k w (l.map fun p=>(p.1,f p.2))=(l.map fun p=>(p.1,f p.2))++[(k,w)]
 | [],_=>rfl
 | p :: l,h=>by
  simp only [List.map_cons,List.mem_cons,not_or] at h;have e:¬ p.1=k:=fun x=>h.1 x.symm;simp only [List.map_cons,dQ,e,if_false,aCU k w f l h.2,List.cons_append]
end Go.AM
end
section
namespace Go.AM
variable {E:Sy} {H:AH} {Q:Value->AH->Prop}
structure lK where
 number:BitVec 32
 action:BitVec 32
 conds:List cO
def jT (H:AH) (r:lK) (cs:List Value):Prop:=r.conds.length<2 ^ 63/\∃ v,cs=[u32 r.number,u32 r.action,v]/\Rows H 4 v (r.conds.map cO.cells)
theorem jT.mono {H H':AH} {r:lK} {cs:List Value} (h:jT H r cs) (e:Ext H H'):jT H' r cs:=⟨h.1,h.2.choose,h.2.choose_spec.1,h.2.choose_spec.2.mono e⟩
end Go.AM
end
section
namespace Go.AM
variable {E:Sy} {H:AH} {Q:Value->AH->Prop}
def dH {α:Type} (R:AH->α->List Value->Prop) (H:AH) (sz:Nat) (v:Value) (l:List α):Prop :=
 ∃ rows,Rows H sz v rows/\rows.length=l.length/\∀ i (h1:i<l.length) (h2:i<rows.length),R H l[i] rows[i]
theorem Rows.plain {H:AH} {sz:Nat} {v:Value} {rows:List (List Value)} (h:Rows H sz v rows):plain1 v=true:=by
 rcases h.at_ with ⟨_,c,rfl⟩ | ⟨b,o,c,rfl,_⟩ <;> rfl
section
variable {α:Type} {R:AH->α->List Value->Prop} {sz:Nat} {v:Value} {l:List α}
theorem dH.mono (h:dH R H sz v l) (hm:∀ (H H':AH) (a:α) (c:List Value),R H a c->Ext H H'->R H' a c) {H':AH} (e:Ext H H'):dH R H' sz v l:=by
 obtain ⟨rows,h1,h2,h3⟩:=h;exact ⟨rows,h1.mono e,h2,fun i a b=>hm _ _ _ _ (h3 i a b) e⟩
theorem dH.lenSlc (h:dH R H sz v l):AM.lenSlc v=some (vi l.length):=by
 obtain ⟨rows,h1,h2,h3⟩:=h;rw [h1.lenSlc,h2]
theorem dH.ix (h:dH R H sz v l) {i:Nat} (hi:i<l.length):∃ b o cs,aK sz v (vi i)=some (ptr b o)/\(H.get b).row o sz=some cs/\R H l[i] cs:=by
 obtain ⟨rows,h1,h2,h3⟩:=h;obtain ⟨b,o,f1,f2⟩:=h1.ix (i:=i) (by omega)
 exact ⟨b,o,_,f1,f2,h3 i hi (by omega)⟩
end
structure aEL where
 default:BitVec 32
 rules:List lK
def aJS (H:AH) (p:aEL) (cs:List Value):Prop:=p.rules.length<2 ^ 63/\∃ a v b c d,cs=[a,u32 p.default,v,b,c,d]/\dH jT H 3 v p.rules
end Go.AM
end
section
namespace Go.AM
variable {E:Sy} {H:AH} {Q:Value->AH->Prop}
theorem wT (a:BitVec 32):0<=lI a/\lI a<=3:=by
 unfold lI
 split
 ·omega
 split
 ·omega
 split <;> omega
end Go.AM
end
section
namespace Go.AM
deriving instance DecidableEq for cO
structure iF where
 conds:List cO
 action:BitVec 32
structure iG where
 number:BitVec 32
 branches:List iF
structure sM where
 cases:List iG
 default:BitVec 32
def aMr (c:cO):Bool:=decide (0<=c.arg)&&decide (c.arg<=5)
def tS (c:cO):Bool:=aMr c&&(decide (c.op=6#8)&&decide (c.value=0#64)||decide (c.op=4#8)&&decide (c.value=18446744073709551615#64))
def rY (c:cO):Bool:=decide (c.op=3#8)&&decide (c.value=0#64)||decide (c.op=5#8)&&decide (c.value=18446744073709551615#64)
def jL (c d:cO):Bool:=decide (c.arg=d.arg)&&decide (c.op=1#8)&&decide (d.op=1#8)&&decide (c.value≠d.value)
def kL:List cO->List cO->List cO
 | out,[]=>out
 | out,c :: l=>kL (if tS c=false/\c ∉ out then out++[c] else out) l
def nD (l:List cO):List cO:=kL [] l
def nI:List cO->List cO->Bool
 | _,[]=>false
 | pre,c :: l=>rY c||pre.any (jL c)||nI (pre++[c]) l
def aB8 (l:List cO):Bool:=nI [] l
def gM:List lK->List iF
 | []=>[]
 | r :: l=>if aB8 (nD r.conds)=true then gM l else if nD r.conds=[] then [⟨[],r.action⟩] else ⟨nD r.conds,r.action⟩ :: gM l
def tT (a:BitVec 32):Nat:=(3 - lI a).toNat
def uV (l:List lK) (k:Nat):List lK:=l.filter fun x=>decide (tT x.action=k)
def aDV (l:List lK):List lK:=uV l 0++uV l 1++uV l 2++uV l 3
def aCy (l:List lK) (n:BitVec 32):List lK:=l.filter fun x=>decide (x.number=n)
def xQ (p:aEL) (n:BitVec 32):iG:=⟨n,gM (aDV (aCy p.rules n))⟩
structure aLS (p:aEL) (ns:List (BitVec 32)):Prop where
 up:ns.Pairwise fun a b=>a.toNat<b.toNat
 mem:∀ n,n∈ns↔∃ r∈p.rules,r.number=n
def yO (p:aEL) (ns:List (BitVec 32)):sM:=⟨ns.map (xQ p),p.default⟩
theorem aC4 (a:BitVec 32):tT a<=3/\(tT a:Int)=3 - lI a:=by
 have:=wT a;unfold tT;omega
end Go.AM
end
section
namespace Go.AM
structure Res where
 fp:List Nat
 P:AH->Prop
 keep:∀ {H H':AH},P H->(∀ b∈fp,H'.get b=H.get b)->P H'
structure Has (H0 Z H:AH) (L:List Res):Prop where
 ext:Ext H0 H
 sub:Sub Z H
 all:∀ r∈L,r.P H/\∀ b∈r.fp,H0.next<=b/\b<H.next/\Z.get b = .dead
 nd:(L.flatMap Res.fp).Nodup
structure Upd (r r':Res) (H H':AH):Prop where
 only:dT r.fp H H'
 holds:r'.P H'
 fp:∀ b∈r'.fp,(b∈r.fp\/H.next<=b)/\b<H'.next
 nd:r'.fp.Nodup
theorem Upd.trans {r r' r'':Res} {H H' H'':AH} (h:Upd r r' H H') (h':Upd r' r'' H' H''):Upd r r'' H H'' :=
 ⟨h.only.trans h'.only fun b hb=>(h.fp b hb).1,h'.holds,fun b hb=>⟨by
  rcases (h'.fp b hb).1 with k | k
  ·exact (h.fp b k).1
  ·exact .inr (Nat.le_trans h.only.1 k),(h'.fp b hb).2⟩,h'.nd⟩
theorem Upd.ext {r r':Res} {H H' H'':AH} (h:Upd r r' H H') (e:Ext H' H''):Upd r r' H H'' :=
 ⟨h.only.trans (e.only (F:=[])) (by simp),r'.keep h.holds fun b hb=>e.get (h.fp b hb).2,fun b hb=>⟨(h.fp b hb).1,Nat.lt_of_lt_of_le (h.fp b hb).2 e.1⟩,h.nd⟩
theorem Upd.after {r r':Res} {H H' H'':AH} (e:Ext H H') (h:Upd r r' H' H''):Upd r r' H H'' :=
 ⟨(e.only (F:=r.fp)).trans' h.only,h.holds,fun b hb=>⟨(h.fp b hb).1.imp id fun k=>Nat.le_trans e.1 k,(h.fp b hb).2⟩,h.nd⟩
theorem Upd.refl {r:Res} {H:AH} (h:r.P H) (hf:∀ b∈r.fp,b<H.next) (hn:r.fp.Nodup):Upd r r H H:=⟨dT.refl _ _,h,fun b hb=>⟨.inl hb,hf b hb⟩,hn⟩
def Fz (n:Nat) (Z Z':AH):Prop:=Sub Z Z'/\∀ b,b<n->Z'.get b=Z.get b
theorem Fz.dead {n:Nat} {Z Z':AH} (h:Fz n Z Z') {b:Nat} (hb:b<n) (hd:Z.get b = .dead):Z'.get b = .dead:=by rw [h.2 b hb,hd]
section
variable {H0 Z H H':AH} {L:List Res}
theorem Has.begin (e:Ext H0 H) (s:Sub Z H):Has H0 Z H []:=⟨e,s,by simp,by simp⟩
theorem Has.refreeze (h:Has H0 Z H L) {Z':AH} (e:Ext H H') (f:Fz H.next Z Z') (s:Sub Z' H'):Has H0 Z' H' L :=
 ⟨h.ext.trans e,s,fun r hr=>by
  obtain ⟨h1,h2⟩:=h.all r hr;exact ⟨r.keep h1 fun b hb=>e.get (h2 b hb).2.1,fun b hb=>⟨(h2 b hb).1,Nat.lt_of_lt_of_le (h2 b hb).2.1 e.1,f.dead (h2 b hb).2.1 (h2 b hb).2.2⟩⟩,h.nd⟩
theorem Has.start (e:Ext H0 H):Has H0 H H []:=⟨e,Sub.refl _,by simp,by simp⟩
theorem Has.get (h:Has H0 Z H L) {k:Nat} {r:Res} (hk:L[k]? = some r):r.P H:=(h.all r (List.mem_of_getElem? hk)).1
theorem Has.grow (h:Has H0 Z H L) (e:Ext H H'):Has H0 Z H' L :=
 ⟨h.ext.trans e,h.sub.ext e,fun r hr=>by
  obtain ⟨h1,h2⟩:=h.all r hr;exact ⟨r.keep h1 fun b hb=>e.get (h2 b hb).2.1,fun b hb=>⟨(h2 b hb).1,Nat.lt_of_lt_of_le (h2 b hb).2.1 e.1,(h2 b hb).2.2⟩⟩,h.nd⟩
theorem Has.new (h:Has H0 Z H L) (o:cH):Has H0 Z (H.new o) L:=h.grow ((Ext.refl H).new o)
theorem Has.add (h:Has H0 Z H L) (r:Res) (e:Ext H H') (hp:r.P H') (hf:∀ b∈r.fp,H.next<=b/\b<H'.next) (hn:r.fp.Nodup):Has H0 Z H' (L++[r]):=by
 have g:=h.grow e;refine ⟨g.ext,g.sub,fun x hx =>?_,?_⟩
 ·rcases List.mem_append.1 hx with hx | hx
  ·exact g.all x hx
  ·simp only [List.mem_singleton] at hx; subst hx
   exact ⟨hp,fun b hb=>⟨Nat.le_trans h.ext.1 (hf b hb).1,(hf b hb).2,AH.get_ge _ (Nat.le_trans h.sub.1 (hf b hb).1)⟩⟩
 ·rw [List.flatMap_append,List.nodup_append]
  refine ⟨h.nd,by simpa using hn,fun a ha b hb =>?_⟩
  simp only [List.mem_flatMap] at ha;obtain ⟨y,hy,ha⟩:=ha;have:=((h.all y hy).2 a ha).2.1;have:=(hf b (by simpa using hb)).1
  omega
theorem nS:∀ {L:List Res} (_:(L.flatMap Res.fp).Nodup) {i j:Nat} {r s:Res} (_:L[i]? = some r) (_:L[j]? = some s) (_:i≠j) {b:Nat} (_:b∈r.fp),b ∉ s.fp
 | [],_,i,j,r,s,hi,_,_,b,_=>by simp at hi
 | x :: L,hn,i,j,r,s,hi,hj,hij,b,hb=>by
  rw [List.flatMap_cons,List.nodup_append] at hn;obtain ⟨_,h2,h3⟩:=hn;intro hs;cases i with
  | zero =>
   cases j with
   | zero=>exact hij rfl
   | succ j =>
    simp at hi; subst hi;exact h3 b hb b (List.mem_flatMap.2 ⟨s,List.mem_of_getElem? (by simpa using hj),hs⟩) rfl
  | succ i =>
   cases j with
   | zero =>
    simp at hj; subst hj;exact h3 b hs b (List.mem_flatMap.2 ⟨r,List.mem_of_getElem? (by simpa using hi),hb⟩) rfl
   | succ j=>exact nS h2 (by simpa using hi) (by simpa using hj) (by omega) hb hs
theorem uI:∀ {L:List Res} (_:(L.flatMap Res.fp).Nodup) {n:Nat} (_:∀ r∈L,∀ b∈r.fp,b<n) {k:Nat} {r r':Res} (_:L[k]? = some r) (_:∀ b∈r'.fp,b∈r.fp\/n<=b) (_:r'.fp.Nodup),((L.set k r').flatMap Res.fp).Nodup
 | [],_,n,_,k,r,r',hk,_,_=>by simp at hk
 | x :: L,hn,n,hlt,k,r,r',hk,hf,hr=>by
  rw [List.flatMap_cons,List.nodup_append] at hn;obtain ⟨h1,h2,h3⟩:=hn;cases k with
  | zero =>
   simp at hk; subst hk;rw [List.set_cons_zero,List.flatMap_cons,List.nodup_append];refine ⟨hr,h2,fun a ha b hb =>?_⟩;rcases hf a ha with h | h
   ·exact h3 a h b hb
   ·obtain ⟨y,hy,hb⟩:=List.mem_flatMap.1 hb
    have:=hlt y (by simp [hy]) b hb
    omega
  | succ k =>
   rw [List.set_cons_succ,List.flatMap_cons,List.nodup_append];refine ⟨h1,uI h2 (fun r hr=>hlt r (by simp [hr])) (by simpa using hk) hf hr,fun a ha b hb =>?_⟩
   obtain ⟨y,hy,hb⟩:=List.mem_flatMap.1 hb;rcases List.mem_or_eq_of_mem_set hy with hy | e
   ·exact h3 a ha b (List.mem_flatMap.2 ⟨y,hy,hb⟩)
   ·subst e
    rcases hf b ‹b∈y.fp› with h | h
    ·exact h3 a ha b (List.mem_flatMap.2 ⟨r,List.mem_of_getElem? (by simpa using hk),h⟩)
    ·have:=hlt x (by simp) a ha
     omega
theorem Has.step (h:Has H0 Z H L) {k:Nat} {r r':Res} (hk:L[k]? = some r) (u:Upd r r' H H'):Has H0 Z H' (L.set k r'):=by
 have hr:=h.all r (List.mem_of_getElem? hk);refine ⟨u.only.ext h.ext fun b hb=>(hr.2 b hb).1,h.sub.only u.only fun b hb=>(hr.2 b hb).2.2,fun x hx =>?_,uI h.nd (fun r hr b hb=>((h.all r hr).2 b hb).2.1) hk (fun b hb=>(u.fp b hb).1) u.nd⟩;obtain ⟨j,hj,hjx⟩:=List.getElem_of_mem hx
 by_cases e:k=j
 ·subst e
  rw [List.getElem_set_self] at hjx;subst hjx;refine ⟨u.holds,fun b hb=>⟨?_,(u.fp b hb).2,?_⟩⟩
  ·rcases (u.fp b hb).1 with g | g
   ·exact (hr.2 b g).1
   ·exact Nat.le_trans h.ext.1 g
  ·rcases (u.fp b hb).1 with g | g
   ·exact (hr.2 b g).2.2
   ·exact AH.get_ge _ (Nat.le_trans h.sub.1 g)
 ·rw [List.getElem_set_ne e] at hjx
  have hj':j<L.length:=by simpa using hj
  have hjx':L[j]? = some x:=by rw [List.getElem?_eq_getElem hj',hjx]
  obtain ⟨h1,h2⟩:=h.all x (List.mem_of_getElem? hjx');refine ⟨x.keep h1 fun b hb=>u.only.get (h2 b hb).2.1 (nS h.nd hjx' hk (Ne.symm e) hb),fun b hb=>⟨(h2 b hb).1,Nat.lt_of_lt_of_le (h2 b hb).2.1 u.only.1,(h2 b hb).2.2⟩⟩
theorem mH:∀ {L:List Res} (_:(L.flatMap Res.fp).Nodup) (k:Nat),((L.eraseIdx k).flatMap Res.fp).Nodup
 | [],_,_=>by simp
 | x :: L,hn,0=>by
  rw [List.flatMap_cons,List.nodup_append] at hn;exact hn.2.1
 | x :: L,hn,k+1=>by
  rw [List.flatMap_cons,List.nodup_append] at hn;rw [List.eraseIdx_cons_succ,List.flatMap_cons,List.nodup_append];refine ⟨hn.1,mH hn.2.1 k,fun a ha b hb =>?_⟩;obtain ⟨y,hy,hb⟩:=List.mem_flatMap.1 hb;exact hn.2.2 a ha b (List.mem_flatMap.2 ⟨y,List.mem_of_mem_eraseIdx hy,hb⟩)
theorem Has.drop (h:Has H0 Z H L) (k:Nat):Has H0 Z H (L.eraseIdx k) :=
 ⟨h.ext,h.sub,fun r hr=>h.all r (List.mem_of_mem_eraseIdx hr),mH h.nd k⟩
theorem zA (h:Sub Z H):∀ (l:List Nat),(∀ b∈l,b<H.next)->∃ Z',Sub Z Z'/\Sub Z' H/\(∀ b∈l,Z'.get b=H.get b)/\∀ b,b ∉ l->Z'.get b=Z.get b
 | [],_=>⟨Z,Sub.refl _,h,by simp,fun _ _=>rfl⟩
 | b :: l,hl=>by
  obtain ⟨Z',h1,h2,h3,h4⟩:=zA h l fun x hx=>hl x (by simp [hx])
  have hb:=hl b (by simp)
  have hg:∀ x,(Z'.freeze H.next b (H.get b)).get x=if x=b then H.get b else Z'.get x:=fun x=>AH.get_freeze _ _ _ _ _ h2.1 hb;refine ⟨_,h1.trans (h2.to_freeze hb),h2.freeze hb,fun x hx =>?_,fun x hx =>?_⟩
  ·rw [hg]
   split
   ·rename_i e; rw [e]
   ·rename_i e; exact h3 x (by simpa [e] using hx)
  ·simp only [List.mem_cons,not_or] at hx
   rw [hg,if_neg hx.1,h4 x hx.2]
theorem Has.freeze (h:Has H0 Z H L) {k:Nat} {r:Res} (hk:L[k]? = some r):∃ Z',Fz H0.next Z Z'/\r.P Z'/\Has H0 Z' H (L.eraseIdx k):=by
 have hr:=h.all r (List.mem_of_getElem? hk);obtain ⟨Z',h1,h2,h3,h4⟩:=zA h.sub r.fp fun b hb=>(hr.2 b hb).2.1;refine ⟨Z',⟨h1,fun b hb=>h4 b fun hm =>?_⟩,r.keep hr.1 h3,h.ext,h2,fun x hx =>?_,mH h.nd k⟩
 ·have:=(hr.2 b hm).1
  omega
 obtain ⟨j,hjk,hj⟩:=List.mem_eraseIdx_iff_getElem?.1 hx;obtain ⟨g1,g2⟩:=h.all x (List.mem_of_getElem? hj);exact ⟨g1,fun b hb=>⟨(g2 b hb).1,(g2 b hb).2.1,by rw [h4 b (nS h.nd hj hk hjk hb)]; exact (g2 b hb).2.2⟩⟩
end
def aF (b:Nat) (c:List Value):Res:=⟨[b],fun H=>H.get b = .cells c none,fun h e=>by rw [e _ (by simp)]; exact h⟩
def zH:AH:=⟨0,fun _ => .dead⟩
theorem nR (b:Nat):zH.get b = .dead:=by simp [AH.get,zH]
def bP (sz:Nat) (v:Value) (rows:List (List Value)):Res:=⟨jM v,fun H=>dO zH H sz v rows,fun h e=>h.keep fun b hb _=>e b (fG.2 hb)⟩
def cF {K V:Type} [DecidableEq K] (fk:K->Value) (fv:V->Value) (r:Nat) (l:List (K×V)):Res:=⟨[r],fun H=>dP fk fv H r l,fun h e=>h.keep (e _ (by simp))⟩
section
variable {H0 Z H H':AH} {L:List Res}
theorem xX (v:Value):(jM v).Nodup:=by unfold jM; split <;> simp
theorem Has.box (h:Has H0 Z H L) {k b:Nat} {c:List Value} (hk:L[k]? = some (aF b c)):H.get b = .cells c none:=h.get hk
theorem Has.box_lt (h:Has H0 Z H L) {k b:Nat} {c:List Value} (hk:L[k]? = some (aF b c)):b<H.next:=AH.lt_cells (h.box hk)
theorem Has.newbox (h:Has H0 Z H L) (c:List Value):Has H0 Z (H.new (.cells c none)) (L++[aF H.next c]) :=
 h.add _ ((Ext.refl H).new _) (AH.get_new_self _ _) (by simp [aF]) (by simp [aF])
theorem Has.put (h:Has H0 Z H L) {k b:Nat} {c:List Value} (hk:L[k]? = some (aF b c)) (c':List Value):Has H0 Z (H.put b (.cells c' none)) (L.set k (aF b c')) :=
 h.step hk ⟨(dT.refl _ _).put (.inl (by simp [aF])) _,AH.get_put_self _ _ (h.box_lt hk),fun x hx=>⟨.inl hx,by simp [aF] at hx; subst hx; exact h.box_lt hk⟩,by simp [aF]⟩
theorem Has.nils (h:Has H0 Z H L) (sz:Nat):Has H0 Z H (L++[bP sz bL []]) :=
 h.add _ (Ext.refl H) (dO.nil _ _ _) (by simp [bP,jM,blk]) (by simp [bP,jM,blk])
theorem Has.slice (h:Has H0 Z H L) {k sz:Nat} {v:Value} {rows:List (List Value)} (hk:L[k]? = some (bP sz v rows)):dO zH H sz v rows:=h.get hk
theorem Has.rows (h:Has H0 Z H L) {k sz:Nat} {v:Value} {rows:List (List Value)} (hk:L[k]? = some (bP sz v rows)):Rows H sz v rows:=(h.slice hk).toRows
theorem dO.upd {sz:Nat} {v v':Value} {rows rows':List (List Value)} (g:aD1 H H' v v') (h':dO zH H' sz v' rows'):Upd (bP sz v rows) (bP sz v' rows') H H' :=
 ⟨g.1,h',fun b hb=>⟨(g.2 b (fG.1 hb)).imp fG.2 id,h'.blk_lt (fG.1 hb)⟩,xX v'⟩
theorem Has.app1 (h:Has H0 Z H L) {k sz:Nat} {v:Value} {rows:List (List Value)} (hk:L[k]? = some (bP sz v rows)) {bytes:Nat} (new:List Value) (hl:new.length=sz) (hp:new.all plain1=true) (hs:sz≠0) (hb:bytes≠0) (h1:(rows.length+1)*bytes<=2 ^ 46) :
  ∃ v' H',AM.app sz bytes v (slc H.next 0 1 1) (H.new (.cells new none))=some (v',H')/\plain1 v'=true/\Has H0 Z H' (L.set k (bP sz v' (rows++[new]))):=by
 obtain ⟨v',H',a1,a2,a3⟩:=(h.slice hk).app1 (Nat.zero_le _) new hl hp hs hb h1;exact ⟨v',H',a1,a2.plain,h.step hk (dO.upd a3 a2)⟩
theorem Has.app (h:Has H0 Z H L) {k sz:Nat} {v x:Value} {rows new:List (List Value)} (hk:L[k]? = some (bP sz v rows)) {bytes:Nat} (hx:Rows H sz x new) (hp:∀ r∈new,r.all plain1=true) (hs:sz≠0) (hb:bytes≠0) (h1:(rows.length+new.length)*bytes<=2 ^ 46) (h2:rows.length+new.length<2 ^ 62) :
  ∃ v' H',AM.app sz bytes v x H=some (v',H')/\plain1 v'=true/\Has H0 Z H' (L.set k (bP sz v' (rows++new))):=by
 obtain ⟨v',H',a1,a2,a3⟩:=(h.slice hk).app (Nat.zero_le _) hx hp hs hb h1 h2;exact ⟨v',H',a1,a2.plain,h.step hk (dO.upd a3 a2)⟩
theorem Has.newroom (h:Has H0 Z H L) (sz:Nat):Has H0 Z (H.new (.cells [] none)) (L++[bP sz (slc H.next 0 0 0) []]) :=
 h.add _ ((Ext.refl H).new _) (dO.room (nR _) (AH.get_new_self _ _) (by simp)) (by simp [bP,jM,blk]) (by simp [bP,jM,blk])
theorem Has.mapAt {K V:Type} [DecidableEq K] {fk:K->Value} {fv:V->Value} (h:Has H0 Z H L) {k r:Nat} {l:List (K×V)} (hk:L[k]? = some (cF fk fv r l)):dP fk fv H r l:=h.get hk
theorem Has.newmap {K V:Type} [DecidableEq K] (fk:K->Value) (fv:V->Value) (h:Has H0 Z H L):Has H0 Z (H.new (.map [] 0 true)) (L++[cF fk fv H.next ([]:List (K×V))]) :=
 h.add _ ((Ext.refl H).new _) (dP.new H) (by simp [cF]) (by simp [cF])
theorem Has.mapset {K V:Type} [DecidableEq K] {fk:K->Value} {fv:V->Value} (h:Has H0 Z H L) {n r kd:Nat} {l:List (K×V)} (hn:L[n]? = some (cF fk fv r l)) (hk:∀ a b,cB kd (fk a) (fk b)=some (decide (a=b))) (k:K) (v:V) :
  ∃ H',cN kd (.map (some r)) (fk k) (fv v) H=some H'/\Has H0 Z H' (L.set n (cF fk fv r (dQ k v l))):=by
 have hm:=h.mapAt hn;obtain ⟨o,h1,h2,h3⟩:=hm.set hk k v;exact ⟨_,h2,h.step hn ⟨(dT.refl _ _).put (.inl (by simp [cF])) _,h3,fun x hx=>⟨.inl hx,by simp [cF] at hx; subst hx; exact hm.lt⟩,by simp [cF]⟩⟩
end
end Go.AM
end
section
namespace Go.AM
def eO (rs:List Res):Res:=⟨rs.flatMap Res.fp,fun H=>∀ r∈rs,r.P H,fun {H H'} h e r hr=>r.keep (h r hr) fun b hb=>e b (List.mem_flatMap.2 ⟨r,hr,hb⟩)⟩
section
variable {H H':AH} {rs:List Res} {r r':Res}
theorem yN:∀ {rs:List Res} {k:Nat},(rs.flatMap Res.fp).Nodup->rs[k]? = some r->r.fp.Nodup
 | [],k,_,hk=>by simp at hk
 | x :: rs,0,h,hk=>by
  simp at hk; subst hk;rw [List.flatMap_cons,List.nodup_append] at h;exact h.1
 | x :: rs,k+1,h,hk=>by
  rw [List.flatMap_cons,List.nodup_append] at h;exact yN h.2.1 (by simpa using hk)
structure Ow (r:Res) (H:AH):Prop where
 holds:r.P H
 lt:∀ b∈r.fp,b<H.next
 nd:r.fp.Nodup
theorem Ow.upd (h:Ow r H) (u:Upd r r' H H'):Ow r' H':=⟨u.holds,fun b hb=>(u.fp b hb).2,u.nd⟩
theorem Ow.refl (h:Ow r H):Upd r r H H:=Upd.refl h.holds h.lt h.nd
theorem Ow.ext (h:Ow r H) (e:Ext H H'):Upd r r H H':=h.refl.ext e
theorem Ow.part (h:Ow (eO rs) H) {k:Nat} (hk:rs[k]? = some r):Ow r H :=
 ⟨h.holds r (List.mem_of_getElem? hk),fun b hb=>h.lt b (List.mem_flatMap.2 ⟨r,List.mem_of_getElem? hk,hb⟩),yN h.nd hk⟩
theorem Ow.set (h:Ow (eO rs) H) {k:Nat} (hk:rs[k]? = some r) (u:Upd r r' H H'):Upd (eO rs) (eO (rs.set k r')) H H':=by
 have hlt:∀ r∈rs,∀ b∈r.fp,b<H.next:=fun r hr b hb=>h.lt b (List.mem_flatMap.2 ⟨r,hr,hb⟩);refine ⟨u.only.mono fun b hb => .inl (List.mem_flatMap.2 ⟨r,List.mem_of_getElem? hk,hb⟩),fun x hx =>?_,fun b hb =>?_,uI h.nd hlt hk (fun b hb=>(u.fp b hb).1) u.nd⟩
 ·obtain ⟨j,hj,hjx⟩:=List.getElem_of_mem hx
  by_cases e:k=j
  ·subst e
   rw [List.getElem_set_self] at hjx;subst hjx;exact u.holds
  ·rw [List.getElem_set_ne e] at hjx
   have hj':j<rs.length:=by simpa using hj
   have hjx':rs[j]? = some x:=by rw [List.getElem?_eq_getElem hj',hjx]
   exact x.keep (h.holds x (List.mem_of_getElem? hjx')) fun b hb=>u.only.get (hlt x (List.mem_of_getElem? hjx') b hb) (nS h.nd hjx' hk (Ne.symm e) hb)
 ·obtain ⟨x,hx,hb'⟩:=List.mem_flatMap.1 hb
  clear hb;have hb:=hb';rcases List.mem_or_eq_of_mem_set hx with hx | e
  ·exact ⟨.inl (List.mem_flatMap.2 ⟨x,hx,hb⟩),Nat.lt_of_lt_of_le (hlt x hx b hb) u.only.1⟩
  ·subst e
   exact ⟨(u.fp b hb).1.imp (fun k=>List.mem_flatMap.2 ⟨r,List.mem_of_getElem? hk,k⟩) id,(u.fp b hb).2⟩
theorem Ow.add (h:Ow (eO rs) H) (r:Res) (e:Ext H H') (hp:r.P H') (hf:∀ b∈r.fp,H.next<=b/\b<H'.next) (hn:r.fp.Nodup):Upd (eO rs) (eO (rs++[r])) H H':=by
 refine ⟨e.only,fun x hx =>?_,fun b hb =>?_,?_⟩
 ·rcases List.mem_append.1 hx with hx | hx
  ·exact x.keep (h.holds x hx) fun b hb=>e.get (h.lt b (List.mem_flatMap.2 ⟨x,hx,hb⟩))
  ·simp only [List.mem_singleton] at hx; subst hx; exact hp
 ·simp only [eO,List.flatMap_append,List.mem_append] at hb
  rcases hb with hb | hb
  ·exact ⟨.inl hb,Nat.lt_of_lt_of_le (h.lt b hb) e.1⟩
  ·have:=hf b (by simpa using hb)
   exact ⟨.inr this.1,this.2⟩
 ·simp only [eO,List.flatMap_append]
  rw [List.nodup_append];refine ⟨h.nd,by simpa using hn,fun a ha b hb =>?_⟩
  have:=h.lt a ha;have:=(hf b (by simpa using hb)).1
  omega
theorem Ow.erase (h:Ow (eO rs) H) (k:Nat):Upd (eO rs) (eO (rs.eraseIdx k)) H H :=
 ⟨dT.refl _ _,fun x hx=>h.holds x (List.mem_of_mem_eraseIdx hx),fun b hb=>by
  obtain ⟨x,hx,hb⟩:=List.mem_flatMap.1 hb;have:b∈(eO rs).fp:=List.mem_flatMap.2 ⟨x,List.mem_of_mem_eraseIdx hx,hb⟩;exact ⟨.inl this,h.lt b this⟩,mH h.nd k⟩
theorem aF.put {b:Nat} {c:List Value} (h:H.get b = .cells c none) (c':List Value):Upd (aF b c) (aF b c') H (H.put b (.cells c' none)) :=
 ⟨(dT.refl _ _).put (.inl (by simp [aF])) _,AH.get_put_self _ _ (AH.lt_cells h),fun x hx=>⟨.inl hx,by simp [aF] at hx; subst hx; simpa using AH.lt_cells h⟩,by simp [aF]⟩
section
variable {K V:Type} [DecidableEq K] {fk:K->Value} {fv:V->Value} {m:Nat} {l:List (K×V)} {kd:Nat}
theorem cF.set (h:dP fk fv H m l) (hk:∀ a b,cB kd (fk a) (fk b)=some (decide (a=b))) (k:K) (v:V) :
  ∃ H',cN kd (.map (some m)) (fk k) (fv v) H=some H'/\Upd (cF fk fv m l) (cF fk fv m (dQ k v l)) H H':=by
 obtain ⟨o,_,h2,h3⟩:=h.set hk k v;exact ⟨_,h2,(dT.refl _ _).put (.inl (by simp [cF])) _,h3,fun x hx=>⟨.inl hx,by simp [cF] at hx; subst hx; exact h.lt⟩,by simp [cF]⟩
theorem cF.del (h:dP fk fv H m l) (hk:∀ a b,cB kd (fk a) (fk b)=some (decide (a=b))) (k:K) :
  ∃ H',jV kd (.map (some m)) (fk k) H=some H'/\Upd (cF fk fv m l) (cF fk fv m (tH k l)) H H':=by
 obtain ⟨H',h2,h3,h4⟩:=h.del hk k;refine ⟨H',h2,?_,h3,fun x hx=>⟨.inl hx,by simp [cF] at hx; subst hx; exact h3.lt⟩,by simp [cF]⟩
 rcases h4 with rfl | ⟨o,_,rfl⟩
 ·exact dT.refl _ _
 ·exact (dT.refl _ _).put (.inl (by simp [cF])) _
end
end
end Go.AM
end
section
namespace Go.AM
abbrev aMp:=List UInt8
abbrev cE {K V:Type} [DecidableEq K] (k:K) (l:List (K×V)):Option V:=@List.lookup K V instBEqOfDecidableEq k l
theorem kE {K V:Type} [DecidableEq K] (k:K) (e:K×V) (l:List (K×V)):cE k (e :: l)=if k=e.1 then some e.2 else cE k l:=by
 by_cases h:k=e.1
 ·subst h; simp [cE,List.lookup]
 ·have:(k == e.1)=false:=by simpa using h
  simp [cE,List.lookup,this,h]
structure Nd where
 kind:BitVec 8
 data:List (BitVec 8)
 ents:List (aMp×BitVec 16)
 parent:BitVec 16
 text:List UInt8
 links:Int
 held:Int
 deriving DecidableEq
def Nd.none:Nd:=⟨0#8,[],[],0#16,[],0,0⟩
instance:Inhabited Nd:=⟨Nd.none⟩
structure Tr where
 N:List Nd
 limit:Int
 change:Int
 deriving DecidableEq
def Tr.node (T:Tr) (n:BitVec 16):Nd:=T.N.getD n.toNat Nd.none
def Tr.new (limit:Int):Tr:=⟨[Nd.none,{ Nd.none with kind:=2#8,parent:=1#16,links:=1 }],min (max limit 1) 256,0⟩
def Tr.upd (T:Tr) (n:BitVec 16) (f:Nd->Nd):Tr:={ T with N:=T.N.modify n.toNat f }
def Tr.put (T:Tr) (n:Nat) (x:Nd):Tr:={ T with N:=if n<T.N.length then T.N.set n x else T.N++[x] }
def Tr.bump (T:Tr):Tr:={ T with change:=T.change+1 }
def Nd.addH (k:Int) (x:Nd):Nd:={ x with held:=x.held+k }
def Tr.tidy (T:Tr) (n:BitVec 16):Tr:=if (T.node n).links=0/\(T.node n).held=0 then T.upd n (fun _=>Nd.none) else T
def Tr.hold (T:Tr) (n:BitVec 16) (more:Bool):Tr×Int :=
 if (T.node n).kind=0#8 then (T,2) else if more=true then (T.upd n (Nd.addH 1),0) else if (T.node n).held=0 then (T,22) else ((T.upd n (Nd.addH (-1))).tidy n,0)
end Go.AM
end
section
namespace Go.AM
def aCe {α:Type} (P:α->Bool) (l:List α):Int:=match l.findIdx? P with | some i=>(i:Int) | none => -1
theorem wI {α:Type} {sz:Nat}:∀ (rows:List (List α)),(∀ r∈rows,r.length=sz)->∀ (i k:Nat) (x:α) (h:i<rows.length),k<sz->(rows.set i (rows[i].set k x)).flatten=rows.flatten.set (i*sz+k) x
 | [],_,i,k,x,h,_=>by simp at h
 | r :: rows,hl,0,k,x,h,hk=>by
  have h1:=hl r (by simp)
  simp only [List.set_cons_zero,List.getElem_cons_zero,List.flatten_cons,Nat.zero_mul,Nat.zero_add];rw [List.set_append_left _ _ (by omega)]
 | r :: rows,hl,i+1,k,x,h,hk=>by
  have h1:=hl r (by simp)
  have ih:=wI rows (fun y hy=>hl y (by simp [hy])) i k x (by simpa using h) hk
  simp only [List.set_cons_succ,List.getElem_cons_succ,List.flatten_cons,ih,Nat.succ_mul];rw [List.set_append_right _ _ (by omega)]
  congr 2
  omega
theorem dO.store {Z H:AH} {sz:Nat} {v:Value} {rows:List (List Value)} (h:dO Z H sz v rows) {i k:Nat} (hi:i<rows.length) (hk:k<sz) (x:Value) (hx:plain1 x=true) :
  ∃ b o H',aK sz v (vi i)=some (ptr b o)/\(H.get b).row o sz=some rows[i]/\aQ (ptr b (o+k)) x H=some H'/\dO Z H' sz v (rows.set i (rows[i].set k x))/\dT (jM v) H H':=by
 have hr:=h.toRows;rcases h.2 with ⟨rfl,_⟩ | ⟨b,f,c,cs,g1,rfl,g3,g4,g5,g6,g7⟩
 ·simp at hi
 ·have hlt:=AH.lt_cells g3
  have hle:(i+1)*sz<=rows.length*sz:=Nat.mul_le_mul_right _ hi;have hle2:rows.length*sz<=c*sz:=Nat.mul_le_mul_right _ g4;rw [Nat.succ_mul] at hle;obtain ⟨b',o',e1,e2⟩:=hr.ix hi;have e3:=qE sz b 0 rows.length c i hi;rw [e3] at e1;simp only [Option.some.injEq,Value.pointer.injEq,Addr.mk.injEq,and_true] at e1;obtain ⟨rfl,rfl⟩:=e1;refine ⟨b,0+i*sz,H.put b (.cells (cs.set (i*sz+k) x) f),e3,e2,?_,⟨?_,.inr ⟨b,f,c,_,g1,by simp,AH.get_put_self _ _ hlt,by simpa using g4,by simpa using g5,?_,g7⟩⟩,(dT.refl _ _).put (.inl (by simp [jM,blk])) _⟩
  ·rw [aJ,if_pos hx,g3]
   simp only;rw [if_pos (by omega),Nat.zero_add]
  ·intro r hr'
   rcases List.mem_or_eq_of_mem_set hr' with hr' | rfl
   ·exact h.1 r hr'
   ·obtain ⟨q1,q2⟩:=h.1 _ (List.getElem_mem hi)
    refine ⟨by simpa using q1,?_⟩
    rw [List.all_eq_true] at q2 ⊢;intro y hy;rcases List.mem_or_eq_of_mem_set hy with hy | rfl
    ·exact q2 y hy
    ·exact hx
  ·rw [List.length_set,List.take_set,g6,wI rows (fun r hr=>(h.1 r hr).1) i k x hi hk]
def iA (n:Nat) (v:Value):Prop:=∀ b,blk v=some b->n<=b
theorem oX {H0 H H':AH} {v v':Value} (g:aD1 H H' v v') (e:Ext H0 H) (hf:iA H0.next v):Ext H0 H'/\iA H0.next v' :=
 ⟨g.1.ext e fun b hb=>hf b (fG.1 hb),fun b hb=>(g.2 b hb).elim (hf b) fun k=>Nat.le_trans e.1 k⟩
end Go.AM
end
section
namespace Go.AM
variable {E:Sy} {H:AH} {Q:Value->AH->Prop}
structure fQ where
 m:Int
 i:BitVec 16
 deriving DecidableEq
def fQ.cells (p:fQ):List Value:=[vi p.m,u16 p.i]
abbrev fQ.v (p:fQ):Value := .agg p.cells.toArray
structure eI where
 id:Int
 at_:fQ
 root:BitVec 16
 held:Int
 deriving DecidableEq
def eI.cells (m:eI):List Value:=[vi m.id,vi m.at_.m,u16 m.at_.i,u16 m.root,vi m.held]
abbrev eI.v (m:eI):Value := .agg m.cells.toArray
@[simp] theorem aOf (a:Addr):bW dB .eql (.pointer (some a)) (.pointer none)=some (.bool false):=rfl
@[simp] theorem aN7:bW dB .eql (.pointer none) (.pointer none)=some (.bool true):=rfl
@[simp] theorem aNq (a:Addr):bW dB .neq (.pointer (some a)) (.pointer none)=some (.bool true):=rfl
@[simp] theorem aNQ:bW dB .neq (.pointer none) (.pointer none)=some (.bool false):=rfl
@[simp] theorem aN1 (a:Addr):aI (.pointer (some a))=some (.pointer (some a)):=rfl
theorem S.f146 (hE:aU E) (T:List eI) (hT:T.length<2 ^ 63) (v f:Value) (hv:Rows H 5 v (T.map eI.cells)) (P:eI->Bool)
  (hf:∀ H' m (K:Value->AH->Prop),Ext H H'->m∈T->(∀ H'',Ext H' H''->K (vb (P m)) H'')->eH E.call f [eI.v m] H' K)
  (hQ:∀ H',Ext H H'->Q (vi (aCe P T)) H'):E.call (E.fid i.f146) [v,f] H Q:=by
 apply hE.f146;have hl:=hv.lenSlc;rw [List.length_map] at hl;simp [F.f146,hl];refine aM.count T.length (fun j s H'=>s=[v,f,vi T.length,vi j]/\Ext H H'/\∀ i (hi:i<T.length),i<j->P T[i]=false) ?_ ⟨rfl,Ext.refl _,fun i _ h=>by omega⟩
 rintro j _ H' X hj hX ⟨rfl,e1,hn⟩;simp only [F.f146_l1,fW,fV,gI,gJ,aV,bE];refine nG (fun h =>?_) (fun h =>?_)
 ·have hjl:j<T.length:=by omega
  obtain ⟨b,o,f1,f2⟩:=(hv.mono e1).ix (i:=j) (by simpa using hjl)
  simp only [List.getElem_map] at f2;simp only [f1,bE,aL,f2,Option.map_some];refine hf H' T[j] _ e1 (List.getElem_mem hjl) fun H2 e2 =>?_;cases hp:P T[j] with
  | true =>
   have:aCe P T=(j:Int):=by
    have:T.findIdx? P=some j:=List.findIdx?_eq_some_iff_getElem.2 ⟨hjl,hp,fun i hi=>by simpa using hn i (by omega) hi⟩
    simp [aCe,this]
   simp only [gH];rw [<- this];exact hQ _ (e1.trans e2)
  | false =>
   simp only [dX];rw [cU (by omega),bE]
   refine hX hjl _ _ ⟨rfl,e1.trans e2,fun i hi hij =>?_⟩
   by_cases e:i=j
   ·subst e; exact hp
   ·exact hn i hi (by omega)
 ·have:j=T.length:=by omega
  subst this
  have:aCe P T = -1:=by
   have:T.findIdx? P=none:=by
    rw [List.findIdx?_eq_none_iff];intro x hx;obtain ⟨i,hi,rfl⟩:=List.getElem_of_mem hx;exact hn i hi hi
   simp [aCe,this]
  rw [<- this];exact hQ _ e1
def aMD (H:AH) (p:Nat) (T:List eI) (nx:Int):Prop:=T.length<2 ^ 62/\∃ v,H.get p = .cells [v,vi nx] none/\Rows H 5 v (T.map eI.cells)
theorem S.f111 (hE:aU E) (m:eI) (b:Nat) (id:Int) (hb:H.get b = .cells [vi id] none) (hQ:∀ H',Ext H H'->Q (vb (decide (m.id=id))) H'):E.call (E.fid i.f111) [m.v,ptr b 0] H Q:=by
 apply hE.f111;have hlt:=AH.lt_cells hb;simp [F.f111,eI.cells,AH.get_new,Nat.ne_of_lt hlt,hb];exact hQ _ ((Ext.refl _).new _)
def aIP (T:List eI) (id:Int):Int:=aCe (fun m=>decide (m.id=id)) T
theorem S.f110 (hE:aU E) (p:Nat) (T:List eI) (nx id:Int) (hT:aMD H p T nx) (hQ:∀ H',Ext H H'->Q (vi (aIP T id)) H'):E.call (E.fid i.f110) [ptr p 0,vi id] H Q:=by
 apply hE.f110;obtain ⟨h0,v,h1,h2⟩:=hT;have hlt:=AH.lt_cells h1;have hb:eA (vi id)=some (.cells [vi id] none,kR):=rfl;have x1:Ext H (H.new (.cells [vi id] none)):=(Ext.refl H).new _;simp [F.f110,hb,AH.get_new,Nat.ne_of_lt hlt,h1];refine S.f146 hE T (by omega) v _ (h2.mono x1) (fun m=>decide (m.id=id)) (fun H' m K e _ hK =>?_) fun H' e=>hQ _ (x1.trans e)
 simp;exact S.f111 hE m H.next id (e.cells (AH.get_new_self _ _)) hK
end Go.AM
end
section
namespace Go.AM
variable {E:Sy} {H:AH} {Q:Value->AH->Prop}
theorem aEX {α:Type} (P:α->Bool) (l:List α):(l.find? P=none/\aCe P l = -1)\/∃ (i:Nat) (hi:i<l.length),aCe P l=i/\l.find? P=some l[i]/\P l[i]=true/\l.findIdx? P=some i:=by
 unfold aCe;cases h:l.findIdx? P with
 | none =>
  rw [List.findIdx?_eq_none_iff] at h;exact .inl ⟨List.find?_eq_none.2 fun x hx=>by simp [h x hx],rfl⟩
 | some i =>
  obtain ⟨hi,h2,h3⟩:=List.findIdx?_eq_some_iff_getElem.1 h;refine .inr ⟨i,hi,rfl,?_,h2,rfl⟩;rw [List.find?_eq_some_iff_getElem];exact ⟨h2,i,hi,rfl,fun j hj=>by simpa using h3 j hj⟩
def aFf:eI:=⟨0,⟨0,0#16⟩,0#16,0⟩
def aHU (p:fQ) (m:eI):Bool:=decide (m.id≠0)&&decide (m.at_=p)
def aMH (T:List eI):Nat->fQ->fQ
 | 0,p=>p
 | n+1,p=>match T.find? (aHU p) with
  | none=>p
  | some m=>aMH T n ⟨m.id,m.root⟩
def eS (T:List eI) (p:fQ):fQ:=aMH T T.length p
def aJ3 (T:List eI):Prop:=∀ m∈T,m.id≠0->m.at_.m<m.id
end Go.AM
end
section
namespace Go.AM
variable {E:Sy} {H:AH} {Q:Value->AH->Prop}
theorem S.f112 (hE:aU E) (hQ:∀ H',Ext H H'->Q (fQ.v ⟨0,1#16⟩) H'):E.call (E.fid i.f112) [] H Q:=by
 apply hE.f112;simp [F.f112,bF];exact hQ _ ((Ext.refl _).new _)
def jA (p:Nat) (v:Value) (T:List eI) (nx:Int):Res:=⟨p :: jM v,fun H=>H.get p = .cells [v,vi nx] none/\dO zH H 5 v (T.map eI.cells),
 fun h e=>⟨by rw [e _ (by simp)]; exact h.1,h.2.keep fun b hb _=>e b (by simp [fG.2 hb])⟩⟩
theorem jA.at_ {p:Nat} {v:Value} {T:List eI} {nx:Int} (h:(jA p v T nx).P H) (hn:T.length<2 ^ 62):aMD H p T nx:=⟨hn,v,h.1,h.2.toRows⟩
end Go.AM
end
section
namespace Go.AM
variable {E:Sy} {H:AH} {Q:Value->AH->Prop}
def aDt:List eI:=[⟨0,⟨0,0#16⟩,1#16,0⟩]
def zZ (r:Res) (H H':AH):Prop:=Ext H H'/\r.P H'/\(∀ b∈r.fp,H.next<=b/\b<H'.next)/\r.fp.Nodup
theorem S.f108 (hE:aU E) (hQ:∀ p v H',zZ (jA p v aDt 1) H H'->Q (ptr p 0) H'):E.call (E.fid i.f108) [] H Q:=by
 apply hE.f108;simp [-uA,F.f108,bF];rw [cQ 5 [_,_,_,_,_] [vi 0,vi 0,u16 0#16,u16 1#16,vi 0] rfl rfl,aW,cW];simp [bF];refine hQ (H.next+1) (slc H.next 0 1 1) _ ⟨((Ext.refl H).new _).new _,⟨by rw [<- AH.next_new,AH.get_new_self],dO.made (nR _) (by simp [AH.get_new]; rfl) (.inl rfl) rfl (by simp [aDt,eI.cells])⟩,?_,?_⟩
 ·simp [jA,jM,blk]; omega
 ·simp [jA,jM,blk]
structure aCz (T:List eI) (nx:Int):Prop where
 older:aJ3 T
 len:T.length<=16
 nx0:0<=nx
 nx1:nx<2 ^ 61
 held:∀ m∈T,0<=m.held/\m.held<2 ^ 61
end Go.AM
end
section
namespace Go.AM
variable {E:Sy} {H:AH} {Q:Value->AH->Prop}
theorem Upd.rows {p:Nat} {v:Value} {T T':List eI} {nx:Int} {H H1:AH} (h:(jA p v T nx).P H) (hnd:(jA p v T nx).fp.Nodup) (o:dT (jM v) H H1) (g:dO zH H1 5 v (T'.map eI.cells)) :
  Upd (jA p v T nx) (jA p v T' nx) H H1:=by
 have hlt:p<H.next:=AH.lt_cells h.1;have hp:p ∉ jM v:=by simp only [jA,List.nodup_cons] at hnd; exact hnd.1
 refine ⟨o.mono fun b hb => .inl (by simp [jA,hb]),⟨o.cells h.1 hp,g⟩,fun b hb=>⟨.inl hb,?_⟩,hnd⟩
 simp only [jA,List.mem_cons] at hb;rcases hb with rfl | hb
 ·exact Nat.lt_of_lt_of_le hlt o.1
 ·exact g.blk_lt (fG.1 hb)
def aBQ (k:Int) (m:eI):eI:={ m with held:=m.held+k }
theorem aFp (T:List eI) (i:Nat) (hi:i<T.length) (k:Int):(T.map eI.cells).set i ((T[i]).cells.set 4 (vi (T[i].held+k)))=(T.set i (aBQ k T[i])).map eI.cells:=by
 rw [List.map_set]; rfl
def aFJ (T:List eI) (id:Int) (more:Bool):List eI×Int :=
 match T.findIdx? (fun m=>decide (m.id=id)) with
 | none=>(T,2)
 | some i=>if more then (T.set i (aBQ 1 (T.getD i aFf)),0) else if (T.getD i aFf).held=0 then (T,22) else (T.set i (aBQ (-1) (T.getD i aFf)),0)
theorem jA.fp_lt {p:Nat} {v:Value} {T:List eI} {nx:Int} (hr:(jA p v T nx).P H):∀ b∈(jA p v T nx).fp,b<H.next:=by
 intro b hb;simp only [jA,List.mem_cons] at hb;rcases hb with rfl | hb
 ·exact AH.lt_cells hr.1
 ·exact hr.2.blk_lt (fG.1 hb)
theorem S.f109 (hE:aU E) (p:Nat) (v:Value) (T:List eI) (nx:Int) (hr:(jA p v T nx).P H) (hnd:(jA p v T nx).fp.Nodup) (ok:aCz T nx) (id:Int) (more:Bool)
  (hQ:∀ H',Upd (jA p v T nx) (jA p v (aFJ T id more).1 nx) H H'->Q (vi (aFJ T id more).2) H'):E.call (E.fid i.f109) [ptr p 0,vi id,vb more] H Q:=by
 apply hE.f109;have hlen:=ok.len;have hT:=jA.at_ hr (by omega)
 have same:∀ H',Ext H H'->Upd (jA p v T nx) (jA p v T nx) H H':=fun H' e=>(Upd.refl hr (jA.fp_lt hr) hnd).ext e;simp only [F.f109];refine S.f110 hE p T nx id hT fun H1 e1 =>?_;unfold aFJ at hQ;rcases aEX (fun m:eI=>decide (m.id=id)) T with ⟨h1,h2⟩ | ⟨j,hj,h1,h2,_,h3⟩
 ·have h2:aIP T id = -1:=h2
  have h3:T.findIdx? (fun m=>decide (m.id=id))=none:=by
   rw [List.findIdx?_eq_none_iff];intro x hx
   simpa using List.find?_eq_none.1 h1 x hx
  rw [h3] at hQ;simp [h2];exact hQ _ (same _ e1)
 ·have h1:aIP T id=j:=h1
  have hneg:¬ ((j:Int)<0):=by omega
  have k1:=e1.cells hr.1;have g1:=hr.2.ext e1;have hd:T.getD j aFf=T[j]:=by simp [hj]
  simp only [h3,hd] at hQ;have hj':j<(T.map eI.cells).length:=by simpa using hj
  have hh:=ok.held T[j] (List.getElem_mem hj)
  have hcell:∀ b o,(H1.get b).row o 5=some (T.map eI.cells)[j]->(H1.get b).cell (o+4)=some (vi T[j].held):=by
   intro b o f2;have:=mW f2 (j:=4) (by omega)
   rw [this]; simp [eI.cells]
  cases more with
  | true =>
   simp only [if_true] at hQ;obtain ⟨b,o,H2,s1,s2,s3,s4,s5⟩:=g1.store (i:=j) (k:=4) hj' (by omega) (vi (T[j].held+1)) rfl
   simp [-aJ,h1,hneg,k1,s1,hcell _ _ s2];rw [iQ (by omega) (by omega),bE,s3,bE]
   refine hQ _ (Upd.after e1 ?_);refine Upd.rows ⟨k1,g1⟩ hnd s5 ?_;rw [<- aFp]
   simpa using s4
  | false =>
   simp only [Bool.false_eq_true,if_false] at hQ;obtain ⟨b,o,H2,s1,s2,s3,s4,s5⟩:=g1.store (i:=j) (k:=4) hj' (by omega) (vi (T[j].held + -1)) rfl
   by_cases h0:T[j].held=0
   ·simp only [h0,if_true] at hQ
    have c:=hcell _ _ s2;rw [h0] at c;simp [h1,hneg,k1,s1,c];exact hQ _ (same _ e1)
   ·simp only [h0,if_false] at hQ
    simp [-aJ,h1,hneg,k1,s1,hcell _ _ s2,h0];rw [fE (by omega) (by omega),bE,show T[j].held - 1=T[j].held + -1 by omega,s3,bE]
    refine hQ _ (Upd.after e1 ?_);refine Upd.rows ⟨k1,g1⟩ hnd s5 ?_;rw [<- aFp]
    simpa using s4
end Go.AM
end
section
namespace Go.AM
variable {E:Sy} {H0 Z H:AH} {L:List Res} {Q:Value->AH->Prop}
@[simp] theorem fQ.cells_length (p:fQ):p.cells.length=2:=rfl
@[simp] theorem eI.cells_length (m:eI):m.cells.length=5:=rfl
@[simp] theorem aMw (p:fQ):p.cells.all plain1=true:=rfl
@[simp] theorem aLc (a b:Value) (p:fQ):bF [a,b] 0 p.cells=p.cells:=rfl
@[simp] theorem aKw (q p:fQ):bF q.cells 0 p.cells=p.cells:=rfl
@[simp] theorem aM8 (p:fQ):p.cells.take 2=p.cells:=rfl
@[simp] theorem aN3 (p:eI):p.cells.all plain1=true:=rfl
@[simp] theorem aNL (a b c d e:Value) (p:eI):bF [a,b,c,d,e] 0 p.cells=p.cells:=rfl
@[simp] theorem aOB (p:eI):p.cells.take 5=p.cells:=rfl
theorem aNn:aCz aDt 1:=⟨by unfold aJ3; simp [aDt],by simp [aDt],by omega,by omega,by simp [aDt]⟩
@[simp] theorem aMk (a:Int) (b:BitVec 16):aX [(0,1),(1,1)] #[.int .i64 0,.int .u16 0] [(0,vi a),(1,u16 b)]=some (fQ.v ⟨a,b⟩):=rfl
end Go.AM
end
section
namespace Go.AM
variable {E:Sy} {H:AH} {Q:Value->AH->Prop}
theorem dH.sub {α:Type} {R:AH->α->List Value->Prop} {sz:Nat} {v:Value} {l:List α} (h:dH R H sz v l) (hm:∀ (H H':AH) (a:α) (c:List Value),R H a c->Sub H H'->R H' a c) {H':AH} (e:Sub H H'):dH R H' sz v l:=by
 obtain ⟨rows,h1,h2,h3⟩:=h;exact ⟨rows,h1.sub e,h2,fun i a b=>hm _ _ _ _ (h3 i a b) e⟩
end Go.AM
end
section
namespace Go.AM
variable {E:Sy} {H:AH} {Q:Value->AH->Prop}
theorem vL.u8s' {v:Value} (h:vL H (.slice 1 (.int .u8)) v):∃ l:List (BitVec 8),yQ H v (l.map AM.u8)/\l.length<2 ^ 63:=by
 obtain ⟨w,l,e,g3,g4⟩:=SV.vals (fun r hr=>SV.u8 hr) (show SV H (.slice 1 (.int .u8)) [v] from h);obtain rfl:v=w:=by simpa using e
 exact ⟨l,g3,by omega⟩
end Go.AM
end
section
namespace Go.AM
variable {E:Sy} {H:AH} {Q:Value->AH->Prop}
structure dA where
 code:BitVec 16
 jt:BitVec 8
 jf:BitVec 8
 k:BitVec 32
def dA.cells (x:dA):List Value:=[u16 x.code,u8 x.jt,u8 x.jf,u32 x.k]
abbrev dA.v (x:dA):Value := .agg x.cells.toArray
theorem aE7 (size bytes n:Nat) (z:List Value) (hz:z.length=size) (h1:n*bytes<=2 ^ 47) (h2:n<2 ^ 62):qY size bytes z.toArray (vi 0) (vi n)=some (.cells (List.replicate n z).flatten none,fun b=>slc b 0 0 n):=by
 simp only [qY];rw [if_pos ⟨by omega,by omega,by exact_mod_cast h1,by exact_mod_cast h2⟩]
 simp only [Int.toNat_natCast,Int.toNat_zero];rw [aBy n size _ (by simpa using hz)]
 rfl
end Go.AM
end
section
namespace Go.AM
theorem nrf {α:Type} {a b:α} (h:a=b):a=b:=Eq.trans h rfl
def tk {α:Type} (x:α):α:=x
@[simp] theorem dG {α:Type} (x:α):tk x=x:=Eq.trans (Eq.refl x) (Eq.refl x)
@[congr] theorem aOP {v v':Value} {A B:Prop} (h:tk v=v'):ifB v A B=ifB v' A B:=by rw [<- h,dG]
@[congr] theorem aOU {α:Type} {o o':Option α} {K:α->Prop} (h:tk o=o'):opt o K=opt o' K:=by rw [<- h,dG]
@[congr] theorem aNV {α β:Type} {o o':Option (α×β)} {K:α->β->Prop} (h:tk o=o'):eK o K=eK o' K:=by rw [<- h,dG]
@[congr] theorem aPs {o o':Option (cH×(Nat->Value))} {H:AH} {K:Value->AH->Prop} (h:tk o=o'):AM.mk o H K=AM.mk o' H K:=by rw [<- h,dG]
@[congr] theorem aN8 {E:Sy} {f f':FuncId} {a a':List Value} {H H':AH} {K:Value->AH->Prop} (h1:tk f=f') (h2:tk a=a') (h3:tk H=H'):E.call f a H K=E.call f' a' H' K:=by rw [<- h1,<- h2,<- h3]; rfl
@[congr] theorem aNu {c:bB} {f f':Value} {a a':List Value} {H H':AH} {K:Value->AH->Prop} (h1:tk f=f') (h2:tk a=a') (h3:tk H=H'):eH c f a H K=eH c f' a' H' K:=by rw [<- h1,<- h2,<- h3]; rfl
@[congr] theorem aPl {v v':Value} {b:Bool} {m:(Value->AH->Prop)->Prop} {H:AH} {K:Value->AH->Prop} (h:tk v=v'):gd v b m H K=gd v' b m H K:=by rw [<- h,dG]
@[congr] theorem aNr {B:List Value->AH->(List Value->AH->Prop)->Prop} {l l':List Value} {H H':AH} (h1:tk l=l') (h2:tk H=H'):aM B l H=aM B l' H':=by rw [<- h1,<- h2]; rfl
@[simp high] theorem aS (b:Nat):kR b=ptr b 0:=nrf rfl
@[simp high] theorem sL (c:List Value) (f:Option Nat) (i:Nat):(cH.cells c f).cell i=c[i]? :=nrf rfl
@[simp high] theorem aZ (a:Array Value):eA (.agg a)=some (.cells a.toList none,kR):=nrf rfl
@[simp high] theorem oJ (o:Option Addr) (n c:Nat):lenSlc (.slice o n c)=some (.int .i64 n):=nrf rfl
@[simp high] theorem oU (b:Bool):un .not (.bool b)=some (.bool !b):=nrf rfl
@[simp high] theorem iX (x y:Value):pick (.bool true) x y=some x:=nrf rfl
@[simp high] theorem jC (x y:Value):pick (.bool false) x y=some y:=nrf rfl
@[simp high] theorem aOa (a b:Int):jH max2 [vi a,vi b]=some (vi (if b > a then b else a)):=nrf rfl
@[simp high] theorem aOb (a b:Int):jH min2 [vi a,vi b]=some (vi (if b<a then b else a)):=nrf rfl
@[simp high] theorem aN4:(.int .u8 0:Value)=u8 0#8:=nrf rfl
@[simp high] theorem aOh:(.int .u8 1:Value)=u8 1#8:=nrf rfl
@[simp high] theorem aOe (x:BitVec 8):gQ (u8 x)=true:=nrf rfl
@[simp high] theorem aMI (x:BitVec 8):plain1 (u8 x)=true:=nrf rfl
@[simp high] theorem aM1:(.int .u16 0:Value)=u16 0#16:=nrf rfl
@[simp high] theorem aNk:(.int .u16 1:Value)=u16 1#16:=nrf rfl
@[simp high] theorem aMT (x:BitVec 16):gQ (u16 x)=true:=nrf rfl
@[simp high] theorem aL8 (x:BitVec 16):plain1 (u16 x)=true:=nrf rfl
@[simp high] theorem aNg:(.int .u32 0:Value)=u32 0#32:=nrf rfl
@[simp high] theorem aMY (x:BitVec 32):gQ (u32 x)=true:=nrf rfl
@[simp high] theorem aLO (x:BitVec 32):plain1 (u32 x)=true:=nrf rfl
@[simp high] theorem aMM:(.int .u64 0:Value)=u64 0#64:=nrf rfl
@[simp high] theorem aNO:(.int .u64 1:Value)=u64 1#64:=nrf rfl
@[simp high] theorem aK6 (x:BitVec 64):plain1 (u64 x)=true:=nrf rfl
@[simp high] theorem aLw (a:Array Value):cY (.agg a)=a.toList:=nrf rfl
@[simp high] theorem aKX (k:IntKind) (n:Int):cY (.int k n)=[.int k n]:=nrf rfl
@[simp high] theorem aHv (o:Option Addr):cY (.pointer o)=[.pointer o]:=nrf rfl
@[simp high] theorem aLV (o:Option Nat):cY (.map o)=[.map o]:=nrf rfl
@[simp high] theorem aMj (x:BitVec 8):cY (u8 x)=[u8 x]:=nrf rfl
@[simp high] theorem aLX (x:BitVec 16):cY (u16 x)=[u16 x]:=nrf rfl
@[simp high] theorem aLC (x:BitVec 32):cY (u32 x)=[u32 x]:=nrf rfl
@[simp high] theorem aNo (a:Array Value):gQ (.agg a)=true:=nrf rfl
@[simp high] theorem aNF (k:IntKind) (n:Int):gQ (.int k n)=true:=nrf rfl
@[simp high] theorem aKf (o:Option Addr):gQ (.pointer o)=true:=nrf rfl
@[simp high] theorem aNJ (o:Option Nat):gQ (.map o)=true:=nrf rfl
@[simp high] theorem aLI (k:IntKind) (n:Int):plain1 (.int k n)=true:=nrf rfl
@[simp high] theorem aJg (o:Option Addr) (n c:Nat):plain1 (.slice o n c)=true:=nrf rfl
@[simp high] theorem aFS (o:Option Addr):plain1 (.pointer o)=true:=nrf rfl
@[simp high] theorem aMi (place:Nat->Option (Nat×Nat)) (cells:List Value):pL place cells []=some cells:=nrf rfl
@[simp high] theorem aN5 (l:List UInt8):(.string ⟨l.toArray⟩:Value)=str l:=nrf rfl
@[simp high] theorem aLj (l:List UInt8):plain1 (str l)=true:=nrf rfl
@[simp high] theorem aHR:bI [] [] []=some true:=nrf rfl
@[simp high] theorem aG7 (k:Nat) (ks:List Nat) (x y:Value) (xs ys:List Value):bI (k :: ks) (x :: xs) (y :: ys)=(cB k x y).bind fun b=>(bI ks xs ys).map (b && ·):=nrf rfl
@[simp high] theorem aMG (a:Addr):bW dB .eql (.pointer (some a)) (.pointer none)=some (.bool false):=nrf rfl
@[simp high] theorem aMn:bW dB .eql (.pointer none) (.pointer none)=some (.bool true):=nrf rfl
@[simp high] theorem aLM (a:Addr):bW dB .neq (.pointer (some a)) (.pointer none)=some (.bool true):=nrf rfl
@[simp high] theorem aMq (a:Addr):aI (.pointer (some a))=some (.pointer (some a)):=nrf rfl
@[simp high] theorem AH.next_new_z (H:AH) (o:cH):(H.new o).next=H.next+1:=nrf rfl
theorem zC {v:Value} (h:plain1 v=true):gQ v=true:=by cases v <;> first | rfl | simp [plain1] at h
theorem sN {v:Value} (h:plain1 v=true):cY v=[v]:=by cases v <;> first | rfl | simp [plain1] at h
@[simp] theorem AH.get_new1 (H:AH) (a b:cH):((H.new a).new b).get (H.next+1)=b:=AH.get_new_self (H.new a) b
@[simp] theorem aB2 (a:Addr):aI (.pointer (some a))=some (.pointer (some a)):=nrf rfl
def aD:=And.intro @fW<|And.intro @fV<|And.intro @gI<|And.intro @gJ<|And.intro @kI<|And.intro @nN<|And.intro @aMJ<|And.intro @aO0<|And.intro @aO7<|And.intro @aO3<|And.intro @aNe<|And.intro @aNf<|And.intro @aMQ<|And.intro @aNB<|And.intro @aNv<|And.intro @aNc<|And.intro @aB2<|And.intro @xN<|And.intro @aN<|And.intro @sL<|And.intro @aBd<|And.intro @aOi<|And.intro @aDA<|And.intro @aPe<|And.intro @aLf<|And.intro @iX<|And.intro @jC<|And.intro @oU<|And.intro @cZ<|And.intro @aZ<|And.intro @aS<|And.intro @AM.aW<|And.intro @cW<|And.intro @gN<|And.intro @AH.next_new_z<|And.intro @dG<|And.intro @bE<|And.intro @Nat.zero_add<|And.intro @Nat.add_zero<|And.intro @List.getElem?_cons_zero.{0}<|And.intro @List.getElem?_cons_succ.{0}<|And.intro Bool.not_true<|And.intro Bool.not_false<|And.intro @List.toList_toArray.{0}<|And.intro @gH @dX
end Go.AM
end
section
namespace Go.AM
structure Ly where
 blk:Nat
 data:Value
 nm:Option Nat
 ord:List (aMp×BitVec 16)
abbrev LyL:=List (BitVec 16×Ly)
def inC (n:BitVec 16) (x:Nd) (y:Ly):List Value:=[u16 n,u8 x.kind,y.data,.map y.nm,u16 x.parent,str x.text,vi x.links,vi x.held]
def aOR (l:List (BitVec 8)):List (List Value):=l.map fun b=>[u8 b]
def kX (n:BitVec 16) (x:Nd) (y:Ly):List Res:=[aF y.blk (inC n x y),bP 1 y.data (aOR x.data)]++y.nm.toList.map (fun r=>cF str u16 r y.ord)
def fH (n:BitVec 16) (x:Nd) (y:Ly):Res:=eO (kX n x y)
def gV (p m:Nat) (L:LyL) (T:Tr):List Res :=
 aF p [.map (some m),vi T.limit,vi T.change] :: cF u16 (fun b=>ptr b 0) m (L.map fun e=>(e.1,e.2.blk)) :: L.map fun e=>fH e.1 (T.node e.1) e.2
def uU (p m:Nat) (L:LyL) (T:Tr):Res:=eO (gV p m L T)
structure aEJ (x:Nd) (y:Ly):Prop where
 dir:x.kind=2#8->∃ r,y.nm=some r
 nodir:x.kind≠2#8->y.nm=none
 perm:y.ord.Perm x.ents
structure Cov (L:LyL) (T:Tr):Prop where
 nd:(L.map Prod.fst).Nodup
 mem:∀ n,n∈L.map Prod.fst↔(T.node n).kind≠0#8
 ok:∀ e∈L,aEJ (T.node e.1) e.2
structure Ino (H:AH) (p m:Nat) (L:LyL) (T:Tr):Prop where
 ow:Ow (uU p m L T) H
 cov:Cov L T
structure sZ (p m:Nat) (L:LyL) (T:Tr) (L':LyL) (T':Tr) (H H':AH):Prop where
 upd:Upd (uU p m L T) (uU p m L' T') H H'
 cov:Cov L' T'
section
variable {E:Sy} {H H' H'':AH} {Q:Value->AH->Prop} {p m:Nat} {L L' L'':LyL} {T T' T'':Tr}
theorem sZ.ino (u:sZ p m L T L' T' H H') (h:Ino H p m L T):Ino H' p m L' T':=⟨h.ow.upd u.upd,u.cov⟩
theorem sZ.trans (u:sZ p m L T L' T' H H') (u':sZ p m L' T' L'' T'' H' H''):sZ p m L T L'' T'' H H'':=⟨u.upd.trans u'.upd,u'.cov⟩
theorem Ino.same (h:Ino H p m L T) (e:Ext H H'):sZ p m L T L T H H':=⟨h.ow.ext e,h.cov⟩
theorem Ino.mono (h:Ino H p m L T) (e:Ext H H'):Ino H' p m L T:=(h.same e).ino h
theorem Ino.head (h:Ino H p m L T):H.get p = .cells [.map (some m),vi T.limit,vi T.change] none:=h.ow.holds (aF p [.map (some m),vi T.limit,vi T.change]) (by simp [gV])
theorem Ino.map (h:Ino H p m L T):dP u16 (fun b=>ptr b 0) H m (L.map fun e=>(e.1,e.2.blk)):=h.ow.holds (cF u16 (fun b=>ptr b 0) m (L.map fun e:BitVec 16×Ly=>(e.1,e.2.blk))) (by simp [gV])
theorem aAg {A B C:Type} [DecidableEq A] (f:B->C) (a:A):∀ l:List (A×B),(l.map fun e=>(e.1,f e.2)).lookup a=(l.lookup a).map f
 | []=>rfl
 | e :: l=>by
  simp only [List.map_cons,List.lookup];cases a == e.1
  ·exact aAg f a l
  ·rfl
theorem rO {A B:Type} [DecidableEq A] {a:A} {b:B}:∀ {l:List (A×B)},l.lookup a=some b->(a,b)∈l
 | [],h=>by simp at h
 | e :: l,h=>by
  simp only [List.lookup] at h
  by_cases k:a=e.1
  ·subst k; simp at h; subst h; simp
  ·have:(a == e.1)=false:=by simpa using k
   rw [this] at h;exact List.mem_cons_of_mem _ (rO h)
theorem kT {A B:Type} [DecidableEq A] {a:A}:∀ {l:List (A×B)},l.lookup a=none↔a ∉ l.map Prod.fst
 | []=>by simp
 | e :: l=>by
  by_cases k:a=e.1
  ·subst k; simp [List.lookup]
  ·have:(a == e.1)=false:=by simpa using k
   simp only [List.lookup,this,List.map_cons,List.mem_cons,k,false_or];exact kT
theorem mQ {A B:Type} [DecidableEq A] {a:A} {b:B}:∀ {l:List (A×B)},(l.map Prod.fst).Nodup->(a,b)∈l->l.lookup a=some b
 | [],_,h=>by simp at h
 | e :: l,hn,h=>by
  rw [List.map_cons,List.nodup_cons] at hn;rcases List.mem_cons.1 h with rfl | h
  ·simp [List.lookup]
  ·have k:a≠e.1:=by rintro rfl; exact hn.1 (List.mem_map.2 ⟨_,h,rfl⟩)
   have:(a == e.1)=false:=by simpa using k
   simp only [List.lookup,this];exact mQ hn.2 h
theorem Ino.node (h:Ino H p m L T) {k:Nat} {n:BitVec 16} {y:Ly} (hk:L[k]? = some (n,y)):Ow (fH n (T.node n) y) H :=
 h.ow.part (rs:=gV p m L T) (k:=k+2) (by simp [gV,hk])
theorem fH.box {n:BitVec 16} {x:Nd} {y:Ly} (h:Ow (fH n x y) H):H.get y.blk = .cells (inC n x y) none:=h.holds (aF y.blk (inC n x y)) (by simp [kX])
theorem Ino.get (h:Ino H p m L T) (n:BitVec 16):((T.node n).kind=0#8/\look 0 (.pointer none) false (.map (some m)) (u16 n) H=some (.pointer none)) \/
  ∃ (k:Nat) (y:Ly),(T.node n).kind≠0#8/\L[k]? = some (n,y)/\look 0 (.pointer none) false (.map (some m)) (u16 n) H=some (ptr y.blk 0)/\H.get y.blk = .cells (inC n (T.node n) y) none/\aEJ (T.node n) y:=by
 have hl:=h.map.look (kd:=0) (fun a b=>fP a b) n (.pointer none) false;rw [aAg] at hl;cases hy:L.lookup n with
 | none =>
  rw [hy] at hl;refine .inl ⟨Classical.byContradiction fun k=>kT.1 hy ((h.cov.mem n).2 k),?_⟩
  simpa using hl
 | some y =>
  rw [hy] at hl;have hm:=rO hy;obtain ⟨k,hk⟩:=List.mem_iff_getElem?.1 hm;exact .inr ⟨k,y,(h.cov.mem n).1 (List.mem_map.2 ⟨_,hm,rfl⟩),hk,by simpa using hl,fH.box (h.node hk),h.cov.ok _ hm⟩
def qS (L:LyL) (n:BitVec 16):Value:=match L.lookup n with | some y=>ptr y.blk 0 | none => .pointer none
theorem yF {k:Nat} {n:BitVec 16} {y:Ly} (hn:(L.map Prod.fst).Nodup) (hk:L[k]? = some (n,y)):qS L n=ptr y.blk 0:=by
 simp [qS,mQ hn (List.mem_of_getElem? hk)]
theorem yL {n:BitVec 16} (h:Cov L T) (hk:(T.node n).kind=0#8):qS L n = .pointer none:=by
 have:L.lookup n=none:=kT.2 fun hm=>(h.mem n).1 hm hk;simp [qS,this]
theorem S.f26 (hE:aU E) (h:Ino H p m L T) (n:BitVec 16) (hQ:Q (qS L n) H):E.call (E.fid i.f26) [ptr p 0,u16 n] H Q:=by
 apply hE.f26;have hh:=h.head;rcases h.get n with ⟨h1,h2⟩ | ⟨k,y,h1,h2,h3,h4,h5⟩
 ·rw [yL h.cov h1] at hQ
  simpa [F.f26,hh,h2] using hQ
 ·rw [yF h.cov.nd h2] at hQ
  simpa [F.f26,hh,h3] using hQ
end
end Go.AM
end
section
namespace Go.AM
section
variable {T:Tr}
theorem Tr.node_lt {n:BitVec 16} (h:(T.node n).kind≠0#8):n.toNat<T.N.length:=by
 apply Classical.byContradiction;intro k;apply h;unfold Tr.node;rw [List.getD_eq_getElem?_getD,List.getElem?_eq_none (by omega)]
 rfl
theorem Tr.node_upd {n:BitVec 16} (h:(T.node n).kind≠0#8) (f:Nd->Nd) (k:BitVec 16):(T.upd n f).node k=if k=n then f (T.node n) else T.node k:=by
 have hl:=Tr.node_lt h;unfold Tr.upd Tr.node;simp only [List.getD_eq_getElem?_getD,List.getElem?_modify]
 by_cases e:k=n
 ·subst e
  simp [hl]
 ·have:n.toNat≠k.toNat:=fun x=>e (BitVec.toNat_inj.1 x.symm)
  simp [e,this]
@[simp] theorem Tr.upd_limit (n:BitVec 16) (f:Nd->Nd):(T.upd n f).limit=T.limit:=rfl
@[simp] theorem Tr.upd_change (n:BitVec 16) (f:Nd->Nd):(T.upd n f).change=T.change:=rfl
@[simp] theorem Tr.bump_limit:T.bump.limit=T.limit:=rfl
@[simp] theorem Tr.bump_change:T.bump.change=T.change+1:=rfl
@[simp] theorem Tr.bump_node (n:BitVec 16):T.bump.node n=T.node n:=rfl
end
section
variable {E:Sy} {H H' H'':AH} {Q:Value->AH->Prop} {p m:Nat} {L L' L'':LyL} {T T' T'':Tr}
theorem aCj {A B:Type} {L:List (A×B)} (hn:(L.map Prod.fst).Nodup) {k i:Nat} {n:A} {y:B} {e:A×B} (hk:L[k]? = some (n,y)) (hi:L[i]? = some e) (h:i≠k):e.1≠n:=by
 intro he;have hkl:=(List.getElem?_eq_some_iff.1 hk).1;have hil:=(List.getElem?_eq_some_iff.1 hi).1;have:=(List.getElem?_inj (show i<(L.map Prod.fst).length by simpa using hil) hn).1 (show (L.map Prod.fst)[i]? = (L.map Prod.fst)[k]? by simp [hi,hk,he])
 exact h this
theorem tV {A B:Type} (f:A->B) {l:List A} {k:Nat} {a b:A} (hk:l[k]? = some a) (h:f b=f a):(l.set k b).map f=l.map f:=by
 rw [List.map_set,h];apply List.ext_getElem?;intro i;simp only [List.getElem?_set,List.getElem?_map]
 split
 ·rename_i e; subst e
  split
  ·simp [hk]
  ·rename_i h2; simp at h2; simp [List.getElem?_eq_none h2]
 ·rfl
theorem aGM (hn:(L.map Prod.fst).Nodup) {k:Nat} {n:BitVec 16} {y y':Ly} (hk:L[k]? = some (n,y)) (g:BitVec 16×Ly->Res) (g':BitVec 16×Ly->Res) (hg:∀ e∈L,e.1≠n->g' e=g e) :
  (L.set k (n,y')).map g'=(L.map g).set k (g' (n,y')):=by
 apply List.ext_getElem?;intro i;simp only [List.getElem?_map,List.getElem?_set,List.length_map]
 by_cases e:k=i
 ·subst e
  have:=(List.getElem?_eq_some_iff.1 hk).1;simp [this]
 ·simp only [e,if_false]
  cases hi:L[i]? with
  | none=>rfl
  | some x=>simp [hg x (List.mem_of_getElem? hi) (aCj hn hk hi (Ne.symm e))]
theorem aCF {k:Nat} {n:BitVec 16} {y y':Ly} (hk:L[k]? = some (n,y)):(L.set k (n,y')).map Prod.fst=L.map Prod.fst:=tV _ hk rfl
theorem Ino.set (h:Ino H p m L T) {k:Nat} {n:BitVec 16} {y y':Ly} (hk:L[k]? = some (n,y)) {f:Nd->Nd} (hb:y'.blk=y.blk) (hkind:(f (T.node n)).kind≠0#8) (ok:aEJ (f (T.node n)) y')
  (u:Upd (fH n (T.node n) y) (fH n (f (T.node n)) y') H H'):sZ p m L T (L.set k (n,y')) (T.upd n f) H H':=by
 have h0:(T.node n).kind≠0#8:=(h.cov.mem n).1 (List.mem_map.2 ⟨_,List.mem_of_getElem? hk,rfl⟩);have hnode:=fun j=>Tr.node_upd h0 f j;have hs:=h.ow.set (rs:=gV p m L T) (k:=k+2) (r:=fH n (T.node n) y) (by simp [gV,hk]) u
 have hl:(gV p m L T).set (k+2) (fH n (f (T.node n)) y')=gV p m (L.set k (n,y')) (T.upd n f):=by
  simp only [gV,List.set_cons_succ,Tr.upd_limit,Tr.upd_change]
  congr 2
  ·rw [tV _ hk]; simp [hb]
  ·rw [aGM h.cov.nd hk (fun e=>fH e.1 (T.node e.1) e.2) (fun e=>fH e.1 ((T.upd n f).node e.1) e.2) (fun e _ he=>by simp only [hnode,if_neg he])]
   simp only [hnode,if_true]
 refine ⟨by unfold uU; rw [<- hl]; exact hs,by rw [aCF hk]; exact h.cov.nd,fun j =>?_,fun e he =>?_⟩
 ·rw [aCF hk,h.cov.mem j,hnode]
  split
  ·rename_i e; subst e; simp [h0,hkind]
  ·rfl
 ·obtain ⟨i,hi⟩:=List.mem_iff_getElem?.1 he
  rw [List.getElem?_set] at hi;have hkl:=(List.getElem?_eq_some_iff.1 hk).1
  by_cases e':k=i
  ·subst e'
   simp [hkl] at hi;subst hi;rw [hnode,if_pos rfl];exact ok
  ·simp only [e',if_false] at hi
   rw [hnode,if_neg (aCj h.cov.nd hk hi (Ne.symm e'))];exact h.cov.ok e (List.mem_of_getElem? hi)
theorem fH.put {n:BitVec 16} {x x':Nd} {y:Ly} (h:Ow (fH n x y) H) (hd:x'.data=x.data):Upd (fH n x y) (fH n x' y) H (H.put y.blk (.cells (inC n x' y) none)):=by
 have:=h.set (k:=0) (r:=aF y.blk (inC n x y)) (by simp [kX]) (aF.put (fH.box h) (inC n x' y))
 have e:(kX n x y).set 0 (aF y.blk (inC n x' y))=kX n x' y:=by simp [kX,hd]
 rw [e] at this;exact this
theorem Ino.gone (h:Ino H p m L T) {k:Nat} {n:BitVec 16} {y:Ly} (hk:L[k]? = some (n,y)):∃ H',jV 0 (.map (some m)) (u16 n) H=some H'/\sZ p m L T (L.eraseIdx k) (T.upd n fun _=>Nd.none) H H':=by
 have h0:(T.node n).kind≠0#8:=(h.cov.mem n).1 (List.mem_map.2 ⟨_,List.mem_of_getElem? hk,rfl⟩);have hnode:=fun j=>Tr.node_upd h0 (fun _=>Nd.none) j;obtain ⟨H',g1,g2⟩:=cF.del h.map (kd:=0) (fun a b=>fP a b) n;have hkl:=(List.getElem?_eq_some_iff.1 hk).1
 have hfi:((L.map fun e=>(e.1,e.2.blk)).findIdx? fun p=>decide (n=p.1))=some k:=by
  rw [List.findIdx?_eq_some_iff_getElem];refine ⟨by simpa using hkl,?_,fun j hj =>?_⟩
  ·have:=(List.getElem?_eq_some_iff.1 hk).2
   simp [this]
  ·have hjl:j<L.length:=by omega
   have:=aCj h.cov.nd hk (List.getElem?_eq_getElem hjl) (by omega)
   simp only [List.getElem_map,decide_eq_true_eq];exact fun e=>this e.symm
 have hdel:tH n (L.map fun e=>(e.1,e.2.blk))=(L.eraseIdx k).map fun e=>(e.1,e.2.blk):=by rw [rZ n _ k hfi,jZ]
 have hs:=h.ow.set (rs:=gV p m L T) (k:=1) (by simp [gV]) g2
 have ho:=h.ow.upd hs;have he:=ho.erase (k+2)
 have hmem:∀ e∈L.eraseIdx k,e∈L/\e.1≠n:=by
  intro e hm;obtain ⟨i,hik,hi⟩:=List.mem_eraseIdx_iff_getElem?.1 hm;exact ⟨List.mem_of_getElem? hi,aCj h.cov.nd hk hi hik⟩
 have hl:((gV p m L T).set 1 (cF u16 (fun b=>ptr b 0) m (tH n (L.map fun e=>(e.1,e.2.blk))))).eraseIdx (k+2)=gV p m (L.eraseIdx k) (T.upd n fun _=>Nd.none):=by
  simp only [gV,List.set_cons_succ,List.set_cons_zero,List.eraseIdx_cons_succ,Tr.upd_limit,Tr.upd_change,hdel]
  congr 2
  rw [<- jZ];apply List.map_congr_left;intro e hm;rw [hnode,if_neg (hmem e hm).2]
 refine ⟨H',g1,?_,?_,fun j =>?_,fun e hm =>?_⟩
 ·have:=hs.trans he
  rw [hl] at this;exact this
 ·rw [jZ]; exact h.cov.nd.sublist (List.eraseIdx_sublist _ _)
 ·rw [hnode]
  constructor
  ·intro hj
   obtain ⟨e,hm,rfl⟩:=List.mem_map.1 hj;rw [if_neg (hmem e hm).2];exact (h.cov.mem _).1 (List.mem_map.2 ⟨e,(hmem e hm).1,rfl⟩)
  ·intro hj
   split at hj
   ·exact (hj rfl).elim
   ·rename_i hne
    obtain ⟨e,hm,rfl⟩:=List.mem_map.1 ((h.cov.mem j).2 hj);obtain ⟨i,hi⟩:=List.mem_iff_getElem?.1 hm;refine List.mem_map.2 ⟨e,List.mem_eraseIdx_iff_getElem?.2 ⟨i,?_,hi⟩,rfl⟩;rintro rfl;rw [hk] at hi;simp at hi; subst hi;exact hne rfl
 ·rw [hnode,if_neg (hmem e hm).2]
  exact h.cov.ok e (hmem e hm).1
def Shr (L L':LyL):Prop:=∀ k,qS L' k=qS L k\/qS L' k = .pointer none
theorem Shr.refl (L:LyL):Shr L L:=fun _ => .inl rfl
theorem Shr.erase (hn:(L.map Prod.fst).Nodup) (k:Nat):Shr L (L.eraseIdx k):=by
 intro j;cases h:(L.eraseIdx k).lookup j with
 | none=>exact .inr (by simp [qS,h])
 | some y =>
  left;have hm:=List.mem_of_mem_eraseIdx (rO h);simp [qS,h,mQ hn hm]
theorem S.f28 (hE:aU E) (h:Ino H p m L T) (n:BitVec 16) (hk:(T.node n).kind≠0#8) (hQ:∀ L' H',Shr L L'->sZ p m L T L' (T.tidy n) H H'->Q (.tuple #[]) H'):E.call (E.fid i.f28) [ptr p 0,u16 n] H Q:=by
 apply hE.f28;unfold Tr.tidy at hQ;have hh:=h.head;rcases h.get n with ⟨h1,h2⟩ | ⟨k,y,h1,h2,h3,h4,h5⟩
 ·exact (hk h1).elim
 by_cases g1:(T.node n).links=0
 ·by_cases g2:(T.node n).held=0
  ·obtain ⟨H',e1,e2⟩:=h.gone h2
   simp [F.f28,hh,h3,h4,inC,g1,g2,e1];exact hQ _ _ (Shr.erase h.cov.nd k) (by simpa [g1,g2] using e2)
  ·simp [F.f28,hh,h3,h4,inC,g1,g2]
   exact hQ L _ (Shr.refl L) (by simpa [g1,g2] using h.same (Ext.refl H))
 ·simp [F.f28,hh,h3,h4,inC,g1]
  exact hQ L _ (Shr.refl L) (by simpa [g1] using h.same (Ext.refl H))
end
end Go.AM
end
section
namespace Go.AM
section
variable {E:Sy} {H H' H'':AH} {Q:Value->AH->Prop} {p m:Nat} {L L' L'':LyL} {T T' T'':Tr}
theorem aEJ.same {x x':Nd} {y:Ly} (h:aEJ x y) (h1:x'.kind=x.kind) (h2:x'.ents=x.ents):aEJ x' y :=
 ⟨fun k=>h.dir (by rw [<- h1]; exact k),fun k=>h.nodir (by rw [<- h1]; exact k),by rw [h2]; exact h.perm⟩
theorem aKp (n:BitVec 16) (x:Nd) (y:Ly) (k:Int):(inC n x y).set 7 (vi (x.held+k))=inC n (x.addH k) y:=rfl
theorem Ino.held (h:Ino H p m L T) {k:Nat} {n:BitVec 16} {y:Ly} (hk:L[k]? = some (n,y)) (h1:(T.node n).kind≠0#8) (d:Int) :
  sZ p m L T (L.set k (n,y)) (T.upd n (Nd.addH d)) H (H.put y.blk (.cells ((inC n (T.node n) y).set 7 (vi ((T.node n).held+d))) none)):=by
 rw [aKp];exact h.set hk rfl h1 ((h.cov.ok _ (List.mem_of_getElem? hk)).same rfl rfl) (fH.put (h.node hk) rfl)
theorem S.f27 (hE:aU E) (h:Ino H p m L T) (n:BitVec 16) (more:Bool) (hb:0<=(T.node n).held/\(T.node n).held<9223372036854775807)
  (hQ:∀ L' H',sZ p m L T L' (T.hold n more).1 H H'->Q (vi (T.hold n more).2) H'):E.call (E.fid i.f27) [ptr p 0,u16 n,vb more] H Q:=by
 apply hE.f27;simp only [F.f27];refine S.f26 hE h n ?_;unfold Tr.hold at hQ;rcases h.get n with ⟨h1,h2⟩ | ⟨k,y,h1,h2,h3,h4,h5⟩
 ·rw [yL h.cov h1]
  simp [h1] at hQ;simp;exact hQ L _ (h.same (Ext.refl H))
 ·rw [yF h.cov.nd h2]
  cases more with
  | true =>
   simp [h1] at hQ;have hs:=h.held h2 h1 1;simp [h4,inC];simp [inC] at hs;rw [iQ (by omega) (by omega)]
   simp [h4,inC];exact hQ _ _ hs
  | false =>
   simp [h1] at hQ
   by_cases g:(T.node n).held=0
   ·simp [g] at hQ
    simp [h4,inC,g];exact hQ L _ (h.same (Ext.refl H))
   ·simp [g] at hQ
    have hs:=h.held h2 h1 (-1);simp [h4,inC,g];simp [inC] at hs;rw [fE (by omega) (by omega)]
    simp [h4,inC];rw [show (T.node n).held - 1=(T.node n).held + -1 by omega]
    refine S.f28 hE (hs.ino h) n ?_ fun L' H' _ u=>hQ _ _ (hs.trans u);rw [Tr.node_upd h1,if_pos rfl]; exact h1
end
end Go.AM
end
section
namespace Go.AM
theorem yB {K V:Type} [DecidableEq K] (k:K) (v:V):∀ (l:List (K×V)),k ∉ l.map Prod.fst->dQ k v l=l++[(k,v)]
 | [],_=>rfl
 | p :: l,h=>by
  simp only [List.map_cons,List.mem_cons,not_or] at h;have e:¬ p.1=k:=fun x=>h.1 x.symm;simp [dQ,e,yB k v l h.2]
structure Tr.Free (T:Tr) (n:Nat):Prop where
 pos:1<=n
 le:n<=T.N.length
 lt:n<65536
 zero:(T.node (BitVec.ofNat 16 n)).kind=0#8
 used:∀ k:Nat,1<=k->k<n->(T.node (BitVec.ofNat 16 k)).kind≠0#8
theorem Tr.node_put {T:Tr} {n:Nat} (h1:n<=T.N.length) (h2:n<65536) (x:Nd) (k:BitVec 16):(T.put n x).node k=if k=BitVec.ofNat 16 n then x else T.node k:=by
 have hk:(BitVec.ofNat 16 n).toNat=n:=by rw [BitVec.toNat_ofNat,Nat.mod_eq_of_lt (by omega)]
 unfold Tr.put Tr.node;simp only [List.getD_eq_getElem?_getD]
 by_cases e:k=BitVec.ofNat 16 n
 ·subst e
  rw [hk]
  split
  ·rename_i hlt; simp [hlt]
  ·have:n=T.N.length:=by omega
   subst this;simp
 ·have hne:n≠k.toNat:=fun x=>e (by rw [x]; simp)
  rw [if_neg e]
  split
  ·simp [hne]
  ·have:n=T.N.length:=by omega
   subst this;rw [List.getElem?_append]
   split
   ·rfl
   ·rename_i hlt
    rw [List.getElem?_eq_none (by simp; omega),List.getElem?_eq_none (by omega)]
@[simp] theorem Tr.put_limit {T:Tr} (n:Nat) (x:Nd):(T.put n x).limit=T.limit:=rfl
@[simp] theorem Tr.put_change {T:Tr} (n:Nat) (x:Nd):(T.put n x).change=T.change:=rfl
section
variable {E:Sy} {H H' H'':AH} {Q:Value->AH->Prop} {p m:Nat} {L L' L'':LyL} {T T' T'':Tr}
theorem Ino.born (h:Ino H p m L T) {n:Nat} (hn:T.Free n) {x:Nd} {y:Ly} (hx:x.kind≠0#8) (ok:aEJ x y) (e:Ext H H') (hr:Ow (fH (BitVec.ofNat 16 n) x y) H') (hf:∀ b∈(fH (BitVec.ofNat 16 n) x y).fp,H.next<=b) :
  ∃ H'',cN 0 (.map (some m)) (u16 (BitVec.ofNat 16 n)) (ptr y.blk 0) H'=some H''/\sZ p m L T (L++[(BitVec.ofNat 16 n,y)]) (T.put n x) H H'':=by
 have h1:=h.mono e;have hnode:=fun k=>Tr.node_put hn.le hn.lt x k;have hnk:BitVec.ofNat 16 n ∉ L.map Prod.fst:=fun hm=>(h.cov.mem _).1 hm hn.zero;obtain ⟨H'',g1,g2⟩:=cF.set h1.map (kd:=0) (fun a b=>fP a b) (BitVec.ofNat 16 n) y.blk;have ha:=h.ow.add (fH (BitVec.ofNat 16 n) x y) e hr.holds (fun b hb=>⟨hf b hb,hr.lt b hb⟩) hr.nd;have ho:=h.ow.upd ha;have hs:=ho.set (k:=1) (by simp [gV]) g2
 have hl:(gV p m L T++[fH (BitVec.ofNat 16 n) x y]).set 1 (cF u16 (fun b=>ptr b 0) m (dQ (BitVec.ofNat 16 n) y.blk (L.map fun e=>(e.1,e.2.blk))))=gV p m (L++[(BitVec.ofNat 16 n,y)]) (T.put n x):=by
  simp only [gV,List.cons_append,List.set_cons_succ,List.set_cons_zero,Tr.put_limit,Tr.put_change]
  congr 2
  ·rw [yB _ _ _ (by simpa using hnk)]; simp
  ·rw [List.map_append]
   congr 1
   ·apply List.map_congr_left
    intro a ha;rw [hnode,if_neg];intro e';exact hnk (e'▸List.mem_map.2 ⟨a,ha,rfl⟩)
   ·simp [hnode]
 refine ⟨H'',g1,⟨?_,?_,fun k =>?_,fun a ha =>?_⟩⟩
 ·have:=ha.trans hs
  rw [hl] at this;exact this
 ·rw [List.map_append,List.nodup_append]
  exact ⟨h.cov.nd,by simp,fun a ha b hb=>by simp at hb; subst hb; rintro rfl; exact hnk ha⟩
 ·rw [hnode,List.map_append,List.mem_append,h.cov.mem k]
  by_cases e:k=BitVec.ofNat 16 n
  ·subst e; simp [hx]
  ·simp [e]
 ·rcases List.mem_append.1 ha with ha | ha
  ·have:a.1≠BitVec.ofNat 16 n:=by rintro e; exact hnk (e▸List.mem_map.2 ⟨a,ha,rfl⟩)
   rw [hnode,if_neg this];exact h.cov.ok a ha
  ·simp only [List.mem_singleton] at ha
   subst ha;rw [hnode,if_pos rfl];exact ok
end
end Go.AM
end
section
namespace Go.AM
section
variable {E:Sy} {H H' H'':AH} {Q:Value->AH->Prop} {p m:Nat} {L L' L'':LyL} {T T' T'':Tr}
theorem fH.fresh {n:BitVec 16} {x:Nd} {b:Nat} {r:Option Nat} (hb:H.get b = .cells (inC n x ⟨b,bL,r,[]⟩) none) (hd:x.data=[]) (hr:∀ k,r=some k->H.get k = .map [] 0 true/\k≠b):Ow (fH n x ⟨b,bL,r,[]⟩) H:=by
 refine ⟨fun y hy =>?_,fun y hy =>?_,?_⟩
 ·simp only [kX,List.mem_append,List.mem_cons,List.not_mem_nil,or_false] at hy
  rcases hy with (rfl | rfl) | hy
  ·exact hb
  ·rw [hd]; exact dO.nil _ _ _
  ·cases r with
   | none=>simp at hy
   | some k =>
    simp at hy;subst hy;exact ⟨[],0,(hr k rfl).1,rfl,by simp,by simp,by simp⟩
 ·cases r with
  | none =>
   simp [fH,kX,eO,aF,bP,jM,blk] at hy;subst hy;exact AH.lt_cells hb
  | some k =>
   simp [fH,kX,eO,aF,bP,jM,blk,cF] at hy;rcases hy with rfl | rfl
   ·exact AH.lt_cells hb
   ·exact AH.lt_of_get (by rw [(hr _ rfl).1]; simp)
 ·cases r with
  | none=>simp [fH,kX,eO,aF,bP,jM,blk]
  | some k=>simp [fH,kX,eO,aF,bP,jM,blk,cF,Ne.symm (hr k rfl).2]
theorem S.f25 (hE:aU E) (limit:Int) (hQ:∀ p m L H',Ext H H'->Ino H' p m L (Tr.new limit)->(∀ b∈(uU p m L (Tr.new limit)).fp,H.next<=b)->Q (ptr p 0) H'):E.call (E.fid i.f25) [vi limit] H Q:=by
 apply hE.f25;have e1:(if (1:Int) > limit then 1 else limit)=max limit 1:=by omega
 have e2:∀ x:Int,(if (256:Int)<x then 256 else x)=min x 256:=fun x=>by omega
 simp [F.f25,e1,e2,bF];generalize hlim:min (max limit 1) 256=lim
 have h0:Ino ((H.new (.map [] 0 true)).new (.cells [.map (some H.next),.int .i64 lim,.int .i64 0] none)) (H.next+1) H.next [] ⟨[Nd.none],lim,0⟩:=by
  refine ⟨⟨fun r hr =>?_,fun b hb =>?_,?_⟩,?_⟩
  ·simp only [gV,List.map_nil,List.mem_cons,List.not_mem_nil,or_false] at hr
   rcases hr with rfl | rfl
   ·exact AH.get_new_self _ _
   ·refine ⟨[],0,?_,rfl,by simp,by simp,by simp⟩
    rw [AH.get_new_ne _ _ (by simp),AH.get_new_self]
  ·simp [uU,gV,eO,aF,cF] at hb
   simp; omega
  ·simp [uU,gV,eO,aF,cF]
  ·refine ⟨by simp,fun n =>?_,by simp⟩
   simp only [List.map_nil,List.not_mem_nil,false_iff,Classical.not_not];unfold Tr.node;cases hn:n.toNat <;> simp [Nd.none]
 have hf:(⟨[Nd.none],lim,0⟩:Tr).Free 1:=by
  refine ⟨by omega,by simp,by omega,?_,fun k k1 k2=>by omega⟩
  simp [Tr.node,Nd.none]
 have e3:=((Ext.refl ((H.new (.map [] 0 true)).new (.cells [.map (some H.next),.int .i64 lim,.int .i64 0] none))).new (.map [] 0 true)).new (.cells [u16 1#16,u8 2#8,.slice none 0 0,.map (some (H.next+1+1)),u16 1#16,str [],.int .i64 1,.int .i64 0] none)
 obtain ⟨H5,s1,s2⟩:=h0.born hf (x:={ Nd.none with kind:=2#8,parent:=1#16,links:=1 }) (y:=⟨H.next+1+1+1,bL,some (H.next+1+1),[]⟩) (by decide) ⟨fun _=>⟨_,rfl⟩,fun h=>(h rfl).elim,List.Perm.refl _⟩ e3
  (fH.fresh (by rw [show H.next+1+1+1=(((H.new (.map [] 0 true)).new (.cells [.map (some H.next),.int .i64 lim,.int .i64 0] none)).new (.map [] 0 true)).next from rfl,AH.get_new_self]; rfl) rfl (fun k hk=>by
   simp only [Option.some.injEq] at hk;subst hk;refine ⟨?_,by omega⟩
   rw [AH.get_new_ne _ _ (by simp)]
   exact AH.get_new_self _ _)) (fun b hb=>by simp [fH,kX,eO,aF,bP,jM,blk,cF] at hb; simp; omega)
 have s1':cN 0 (.map (some H.next)) (u16 1#16) (ptr (H.next+1+1+1) 0) _=some H5:=s1;rw [s1',bE]
 have hx:(⟨[Nd.none],lim,0⟩:Tr).put 1 { Nd.none with kind:=2#8,parent:=1#16,links:=1 }=Tr.new limit:=by
  simp [Tr.put,Tr.new,hlim]
 rw [hx] at s2;have s3:=s2.ino h0;have x0:Ext H ((H.new (.map [] 0 true)).new (.cells [.map (some H.next),.int .i64 lim,.int .i64 0] none)):=((Ext.refl H).new _).new _;refine hQ (H.next+1) H.next _ H5 (s2.upd.only.ext x0 fun b hb =>?_) s3 fun b hb =>?_
 ·simp [uU,gV,eO,aF,cF] at hb
  omega
 ·rcases (s2.upd.fp b hb).1 with k | k
  ·simp [uU,gV,eO,aF,cF] at k
   omega
  ·simp at k; omega
end
end Go.AM
end
section
namespace Go.AM
theorem aGX (size bytes n:Nat) (z:List Value) (hz:z.length=size) (h1:n*bytes<=2 ^ 47) (h2:n<2 ^ 62):qY size bytes z.toArray (vi n) (vi n)=some (.cells (List.replicate n z).flatten none,fun b=>slc b 0 n n):=by
 simp only [qY];rw [if_pos ⟨by omega,by omega,by exact_mod_cast h1,by exact_mod_cast h2⟩]
 simp only [Int.toNat_natCast];rw [aBy n size _ (by simpa using hz)]
 rfl
theorem aCr (n:Nat) (z:Value):(List.replicate n [z]).flatten=List.replicate n z:=by
 induction n with
 | zero=>rfl
 | succ n ih=>simp [List.replicate_succ,ih]
end Go.AM
end
section
namespace Go.AM
open Go.Sort (swp SWO PermIn SortedIn scanUp scanDown)
section
variable {α:Type} [Inhabited α] {enc:α->Value} {H H' H'':AH} {b c n:Nat} {d d':Array α} {tail:List Value} {f:Option Nat}
def gY (enc:α->Value) (d:Array α) (tail:List Value) (f:Option Nat):cH := .cells (d.toList.map enc++tail) f
theorem cK {i:Nat} (h:i<n):aK 1 (slc b 0 n c) (vi (i:Int))=some (ptr b i):=by
 rw [qE _ _ _ _ _ _ h]; simp
theorem bD (hg:H.get b=gY enc d tail f) {i:Nat} (hi:i<d.size):aC (ptr b i) H=some (enc d[i]!):=by
 simp only [aN,hg,gY,aED];rw [List.getElem?_append_left (by simpa using hi)]
 simp [hi]
theorem aLT (d:Array α) {i:Nat} (hi:i<d.size) (x:α):(d.toList.map enc++tail).set i (enc x)=(d.setIfInBounds i x).toList.map enc++tail:=by
 rw [List.set_append_left _ _ (by simpa using hi),Array.toList_setIfInBounds,List.map_set]
theorem aAL (hp:∀ x,plain1 (enc x)=true) (hg:H.get b=gY enc d tail f) {i:Nat} (hi:i<d.size) (x:α):aQ (ptr b i) (enc x) H=some (H.put b (gY enc (d.setIfInBounds i x) tail f)):=by
 simp only [aJ,hp,if_true,hg,gY];rw [if_pos (by simp; omega),aLT d hi]
theorem rI (hg:H.get b=gY enc d tail f):b<H.next:=AH.lt_cells hg
theorem fA (hp:∀ x,plain1 (enc x)=true) (hg:H.get b=gY enc d tail f) {i j:Nat} (hi:i<d.size) (hj:j<d.size) :
  aQ (ptr b i) (enc d[j]!) H=some (H.put b (gY enc (d.setIfInBounds i d[j]!) tail f)) /\
  aQ (ptr b j) (enc d[i]!) (H.put b (gY enc (d.setIfInBounds i d[j]!) tail f))=some (H.put b (gY enc (swp d i j) tail f)):=by
 refine ⟨aAL hp hg hi _,?_⟩;rw [aAL hp (AH.get_put_self _ _ (rI hg)) (by simpa using hj),AH.put_put]
 rfl
structure cS (H:AH) (b:Nat) (enc:α->Value) (tail:List Value) (f:Option Nat) (d':Array α) (H':AH):Prop where
 only:dT [b] H H'
 get:H'.get b=gY enc d' tail f
theorem cS.refl (hg:H.get b=gY enc d tail f):cS H b enc tail f d H:=⟨dT.refl _ _,hg⟩
theorem cS.trans (h:cS H b enc tail f d H') (h':cS H' b enc tail f d' H''):cS H b enc tail f d' H'':=⟨h.only.trans' h'.only,h'.get⟩
theorem cS.put (h:cS H b enc tail f d H') (d':Array α):cS H b enc tail f d' (H'.put b (gY enc d' tail f)) :=
 ⟨h.only.put (.inl (by simp)) _,AH.get_put_self _ _ (rI h.get)⟩
theorem cS.ext (h:cS H b enc tail f d H') (e:Ext H' H''):cS H b enc tail f d H'' :=
 ⟨h.only.trans' e.only,by rw [e.get (rI h.get)]; exact h.get⟩
end
theorem dW (a b:Nat) (h:b<=a) (ha:a<2 ^ 62):aA .sub (vi a) (vi b)=some (vi ((a - b:Nat):Int)):=by
 rw [fE (by omega) (by omega)]; congr 2; omega
theorem eC (a:Nat) (h:1<=a) (ha:a<2 ^ 62):aA .sub (vi a) (.int .i64 1)=some (vi ((a - 1:Nat):Int)):=dW a 1 h ha
theorem cL (a:Nat) (ha:a<2 ^ 62):aA .add (vi a) (.int .i64 1)=some (vi ((a+1:Nat):Int)):=dV a 1 (by omega)
theorem aLA (a:Nat) (ha:a<2 ^ 61):aA .mul (.int .i64 2) (vi a)=some (vi ((2*a:Nat):Int)):=by
 rw [pW (by omega) (by omega)]; congr 2
theorem aBL {α:Type} [Inhabited α] (p:α->Bool) (d:Array α) (j:Nat):∀ (m i:Nat),j+1 - i<=m->i<=scanUp p d j i/\(i<=j+1->scanUp p d j i<=j+1)
 | 0,i,h=>by
  rw [scanUp,if_neg (by simp; omega)]
  exact ⟨Nat.le_refl _,id⟩
 | m+1,i,h=>by
  rw [scanUp]
  split
  ·rename_i hc
   have:i<=j:=by simp at hc; exact hc.1
   have:=aBL p d j m (i+1) (by omega)
   exact ⟨by omega,fun _=>this.2 (by omega)⟩
  ·exact ⟨Nat.le_refl _,id⟩
theorem lL {α:Type} [Inhabited α] (p:α->Bool) (d:Array α) (i:Nat):∀ j,scanDown p d i j<=j/\(i<=j+1->i<=scanDown p d i j+1)
 | 0=>⟨Nat.le_refl _,id⟩
 | j+1=>by
  rw [scanDown]
  split
  ·have:=lL p d i j
   rename_i hc;have:i<=j+1:=by simp at hc; exact hc.1
   exact ⟨by omega,fun _=>by omega⟩
  ·exact ⟨Nat.le_refl _,id⟩
def bS (x y:BitVec 16):Bool:=decide (x.toNat<y.toNat)
theorem aDo:SWO bS:=⟨fun x=>by simp [bS],fun x y z=>by simp only [bS,decide_eq_true_eq]; omega,fun x y z=>by simp only [bS,decide_eq_false_iff_not]; omega⟩
end Go.AM
end
section
namespace Go.AM
open Go.Sort
section
variable {E:Sy} {H H':AH} {Q:Value->AH->Prop}
theorem qX (x k:Nat) (h:2 ^ k<=x):bitsLen x=bitsLen (x / 2 ^ k)+k:=by
 have hp:=Nat.two_pow_pos k;apply Nat.le_antisymm
 ·rw [bitsLen_le_iff,Nat.pow_add]
  have:=lt_two_pow_bitsLen (x / 2 ^ k);rw [Nat.div_lt_iff_lt_mul hp] at this;exact this
 ·have h1:k<=bitsLen x:=by
   apply Classical.byContradiction;intro hc;have:bitsLen x<=k:=by omega
   rw [bitsLen_le_iff] at this;omega
  have:bitsLen (x / 2 ^ k)<=bitsLen x - k:=by
   rw [bitsLen_le_iff,Nat.div_lt_iff_lt_mul hp,<- Nat.pow_add,Nat.sub_add_cancel h1];exact lt_two_pow_bitsLen x
  omega
def mA:List UInt8:=(List.range 256).map fun n=>UInt8.ofNat (bitsLen n)
theorem aEs:∀ n<256,mA[n]? = some (UInt8.ofNat (bitsLen n)):=by decide +kernel
theorem aD7:∀ n<256,bitsLen n<=8:=by decide +kernel
theorem aLk (x:BitVec 8):nF (str mA) (u8 x)=some (u8 (BitVec.ofNat 8 (bitsLen x.toNat))):=by
 rw [aJk];have hx:=x.isLt;have hl:mA.length=256:=by decide +kernel
 have hlt:x.toNat<mA.length:=by omega
 rw [aL1 mA x.toNat hlt];have:=aEs x.toNat (by omega)
 rw [List.getElem?_eq_getElem hlt] at this;simp only [Option.some.injEq] at this;rw [this]
 rfl
theorem aJb (l:List UInt8) (hl:l=mA) (x:BitVec 64) (hx:x.toNat<256) (k:Nat) (hk:k<1000) (hQ:Q (vi ((bitsLen x.toNat+k:Nat):Int)) H) :
  (opt (aR .u8 (u64 x)) fun v1=>opt (nF (.string ⟨l.toArray⟩) v1) fun v2=>opt (aR .i64 v2) fun v3=>opt (aA .add (vi k) v3) fun v4=>Q v4 H):=by
 subst hl;have e1:(x.setWidth 8).toNat=x.toNat:=by rw [BitVec.toNat_setWidth,Nat.mod_eq_of_lt (by omega)]
 have e2:=aD7 x.toNat hx;simp only [aHu,dG,bE];rw [show (Value.string ⟨mA.toArray⟩)=str mA from rfl,aLk,e1];simp only [bE,uS,dG,BitVec.toNat_ofNat];rw [Nat.mod_eq_of_lt (by omega),dV _ _ (by omega),bE,Nat.add_comm]
 exact hQ
set_option maxRecDepth 100000
theorem S.f105 (hE:aU E) (x:BitVec 64) (hx:x.toNat<2 ^ 32) (hQ:Q (vi (bitsLen x.toNat:Nat)) H):E.call (E.fid i.f105) [u64 x] H Q:=by
 apply hE.f105;simp only [F.f105,dX];apply hE.f107;have c0:¬ 4294967296<=x.toNat:=by omega
 have t3:∀ (y:BitVec 64) (k:Nat),y.toNat<256->k<1000->bitsLen x.toNat=bitsLen y.toNat+k->F.f107_j3 E Q (u64 y) (vi k) H:=by
  intro y k hy hk e;unfold F.f107_j3;refine aJb _ ?_ y hy k hk ?_
  ·decide +kernel
  ·rw [<- e]; exact hQ
 have t2:∀ (y:BitVec 64) (k:Nat),y.toNat<65536->k<900->bitsLen x.toNat=bitsLen y.toNat+k->F.f107_j2 E Q (u64 y) (vi k) H:=by
  intro y k hy hk e
  by_cases h:256<=y.toNat
  ·have h8:(y >>> 8).toNat=y.toNat / 256:=by rw [BitVec.toNat_ushiftRight,Nat.shiftRight_eq_div_pow]
   have hs:=qX y.toNat 8 (by omega)
   rw [show (2:Nat) ^ 8=256 from rfl] at hs;have hk8:aA .add (vi k) (.int .i64 8)=some (vi ((k+8:Nat):Int)):=dV k 8 (by omega)
   simp only [F.f107_j2,aFm 256 (by decide),wX,dG,bE]
   simp [h,hk8];have:=t3 (y >>> 8) (k+8) (by omega) (by omega) (by rw [e,hs,h8]; omega)
   simpa using this
  ·simp only [F.f107_j2,aFm 256 (by decide),wX,dG,bE]
   simp [h];exact t3 y k (by omega) (by omega) e
 by_cases h:65536<=x.toNat
 ·have h8:(x >>> 16).toNat=x.toNat / 65536:=by rw [BitVec.toNat_ushiftRight,Nat.shiftRight_eq_div_pow]
  have hs:=qX x.toNat 16 (by omega)
  rw [show (2:Nat) ^ 16=65536 from rfl] at hs;have hk8:aA .add (.int .i64 0) (.int .i64 16)=some (vi ((16:Nat):Int)):=dV 0 16 (by omega)
  simp [F.f107,F.f107_j1,c0,h,hk8];exact t2 (x >>> 16) 16 (by omega) (by omega) (by rw [hs,h8])
 ·simp [F.f107,F.f107_j1,c0,h]
  exact t2 x 0 (by omega) (by omega) rfl
theorem S.f163 (hE:aU E) (x:Nat) (hx:x<2 ^ 32) (hQ:Q (u64 (BitVec.ofNat 64 (2 ^ bitsLen x))) H):E.call (E.fid i.f163) [vi x] H Q:=by
 apply hE.f163;have e1:(BitVec.ofNat 64 x).toNat=x:=by rw [BitVec.toNat_ofNat,Nat.mod_eq_of_lt (by omega)]
 have hc:aR .u64 (vi x)=some (u64 (BitVec.ofNat 64 x)):=by
  rw [fZ,BitVec.ofInt_natCast]
 simp only [F.f163,hc,dG,bE];refine S.f105 hE _ (by rw [e1]; exact hx) ?_
 rw [e1];have:=aFO 1#64 .i64 (bitsLen x);have l1:(.int .u64 1:Value)=u64 1#64:=rfl
 have e2:(1#64 <<< bitsLen x)=BitVec.ofNat 64 (2 ^ bitsLen x):=by
  apply BitVec.eq_of_toNat_eq;rw [BitVec.toNat_shiftLeft,Nat.shiftLeft_eq];simp
 rw [l1,this,bE,e2];exact hQ
theorem S.f178 (hE:aU E) (r:Nat) (x:BitVec 64) (hr:H.get r = .cells [u64 x] none) (hQ:∀ y,Q (u64 y) (H.put r (.cells [u64 y] none))):E.call (E.fid i.f178) [ptr r 0] H Q:=by
 apply hE.f178;have hlt:=AH.lt_cells hr;have l1:(.int .u64 13:Value)=u64 13#64:=rfl;have l2:(.int .u64 7:Value)=u64 7#64:=rfl;have l3:(.int .u64 17:Value)=u64 17#64:=rfl;simp [F.f178,hr,l1,l2,l3,AH.get_put,hlt];exact hQ _
end
end Go.AM
end
section
namespace Go.AM
open Go.Sort
section
variable {E:Sy} {H H':AH} {Q:Value->AH->Prop} {b c n:Nat} {d:Array (BitVec 16)} {tail:List Value} {f:Option Nat}
theorem bH:∀ x:BitVec 16,plain1 (u16 x)=true:=fun _=>rfl
theorem S.f11 (hE:aU E) (x y:BitVec 16) (hQ:Q (vb (bS x y)) H):E.call (E.fid i.f11) [u16 x,u16 y] H Q:=by
 apply hE.f11;simp only [F.f11];apply hE.f12;simp [F.f12];exact hQ
theorem S.f160 (hE:aU E) (hg:H.get b=gY u16 d tail f) (hn:d.size=n) (hsz:n<2 ^ 60) (a e:Nat) (hae:a<=e) (he:e<=n)
  (hQ:∀ H',cS H b u16 tail f (insertionSort bS d a e) H'->Q (.tuple #[]) H'):E.call (E.fid i.f160) [slc b 0 n c,vi a,vi e] H Q:=by
 apply hE.f160;simp only [F.f160,dG];rw [cL a (by omega),bE]
 unfold insertionSort at hQ;obtain ⟨R,hR⟩:∃ R,R=insOuter bS a e (a+1) d:=⟨_,rfl⟩;rw [<- hR] at hQ;refine aM.ind (fun m l H'=>∃ (j:Nat) (d':Array (BitVec 16)),l=[slc b 0 n c,vi a,vi e,vi j]/\cS H b u16 tail f d' H'/\d'.size=n/\R=insOuter bS a e j d'/\a<j/\m=e - j) ?_ (e - (a+1)) ⟨a+1,d,rfl,.refl hg,hn,hR,by omega,rfl⟩
 rintro m _ H1 X hX ⟨j,d1,rfl,s1,n1,r1,haj,rfl⟩;unfold insOuter at r1
 by_cases hj:j<e
 ·rw [if_pos hj] at r1
  have hj':(j:Int)<e:=by omega
  simp [F.f160_l1,hj'];refine aM.ind (fun m l H2=>∃ (k:Nat) (d2:Array (BitVec 16)),l=[slc b 0 n c,vi a,vi e,vi j,vi k]/\cS H b u16 tail f d2 H2/\d2.size=n/\insInner bS a j d1=insInner bS a k d2/\k<=j/\m=k) ?_ j ⟨j,d1,rfl,s1,n1,rfl,Nat.le_refl _,rfl⟩;rintro m _ H2 X1 hX1 ⟨k,d2,rfl,s2,n2,r2,hkj,rfl⟩
  have done:insInner bS a m d2=d2->∀ l,l=[slc b 0 n c,vi a,vi e,vi ((j+1:Nat):Int)]->X l H2:=by
   rintro e2 l rfl;rw [e2] at r2;rw [r2] at r1;exact hX (e - (j+1)) (by omega) _ _ ⟨j+1,d2,rfl,s2,n2,r1,by omega,rfl⟩
  by_cases hka:a<m
  ·obtain ⟨k,rfl⟩:∃ k,m=k+1:=⟨m - 1,by omega⟩
   have hka':(a:Int)<((k+1:Nat):Int):=by omega
   have f1:=cK (b:=b) (c:=c) (n:=n) (i:=k+1) (by omega)
   have f2:=cK (b:=b) (c:=c) (n:=n) (i:=k) (by omega)
   have g1:=bD s2.get (i:=k+1) (by omega)
   have g2:=bD s2.get (i:=k) (by omega)
   have hd:aA .sub (vi ((k+1:Nat):Int)) (.int .i64 1)=some (vi (k:Int)):=eC (k+1) (by omega) (by omega)
   obtain ⟨w1,w2⟩:=fA bH s2.get (i:=k+1) (j:=k) (by omega) (by omega)
   have hjj:=cL j (by omega)
   simp only [insInner,hka,decide_true,Bool.true_and] at r2 done;generalize hk1:k+1=k1 at *;simp [-aJ,-aN,F.f160_l2,hka',f1,f2,g1,g2,hd];refine S.f11 hE _ _ ?_
   by_cases hl:bS d2[k1]! d2[k]! = true
   ·simp only [hl,if_true] at r2
    simp [-aJ,-aN,hl,f1,f2,g1,g2,hd,w1,w2];exact hX1 k (by omega) _ _ ⟨k,_,rfl,s2.put _,by rw [size_swp]; exact n2,r2,by omega,rfl⟩
   ·simp only [hl,if_false] at done
    simp [-aJ,-aN,hl,hjj];exact done rfl _ rfl
  ·have hka':¬ (a:Int)<(m:Int):=by omega
   have hjj:=cL j (by omega)
   simp [-aJ,-aN,F.f160_l2,hka',hjj];refine done ?_ _ rfl;cases m with
   | zero=>rfl
   | succ k=>simp [insInner,hka]
 ·rw [if_neg hj] at r1
  subst r1;have hj':¬ (j:Int)<e:=by omega
  simp [F.f160_l1,hj'];exact hQ _ s1
theorem S.f175 (hE:aU E) (hg:H.get b=gY u16 d tail f) (hn:d.size=n) (hsz:n<2 ^ 60) (lo hi first:Nat) (hlo:lo<=n) (hf:first+hi<=n)
  (hQ:∀ H',cS H b u16 tail f (siftDown bS hi first lo d) H'->Q (.tuple #[]) H'):E.call (E.fid i.f175) [slc b 0 n c,vi lo,vi hi,vi first] H Q:=by
 apply hE.f175;simp only [F.f175,dG];obtain ⟨R,hR⟩:∃ R,R=siftDown bS hi first lo d:=⟨_,rfl⟩
 rw [<- hR] at hQ;refine aM.ind (fun m l H'=>∃ (r:Nat) (d':Array (BitVec 16)),l=[slc b 0 n c,vi hi,vi first,vi r]/\cS H b u16 tail f d' H'/\d'.size=n/\R=siftDown bS hi first r d'/\r<=n/\m=hi - r) ?_ (hi - lo) ⟨lo,d,rfl,.refl hg,hn,hR,hlo,rfl⟩
 rintro m _ H1 X hX ⟨r,d1,rfl,s1,n1,r1,hr,rfl⟩;have a1:=aLA r (by omega)
 have a2:=cL (2*r) (by omega)
 have a3:=cL (2*r+1) (by omega)
 have step:∀ ch:Nat,r<ch->ch<hi->R=(if !bS d1[first+r]! d1[first+ch]! then d1 else siftDown bS hi first ch (swp d1 (first+r) (first+ch)))->F.f175_j1 E Q X (slc b 0 n c) (vi hi) (vi first) (vi r) (vi ch) H1:=by
  intro ch h1 h2 hR';have b1:=dV first r (by omega)
  have b2:=dV first ch (by omega)
  have f1:=cK (b:=b) (c:=c) (n:=n) (i:=first+r) (by omega)
  have f2:=cK (b:=b) (c:=c) (n:=n) (i:=first+ch) (by omega)
  have g1:=bD s1.get (i:=first+r) (by omega)
  have g2:=bD s1.get (i:=first+ch) (by omega)
  obtain ⟨w1,w2⟩:=fA bH s1.get (i:=first+r) (j:=first+ch) (by omega) (by omega)
  generalize hp:first+r=p at *
  generalize hq:first+ch=q at *
  simp [-aJ,-aN,F.f175_j1,b1,b2,f1,f2,g1,g2];refine S.f11 hE _ _ ?_
  by_cases hl:bS d1[p]! d1[q]! = true
  ·simp only [hl,Bool.not_true,Bool.false_eq_true,if_false] at hR'
   simp [-aJ,-aN,hl,b1,b2,f1,f2,g1,g2,w1,w2];exact hX (hi - ch) (by omega) _ _ ⟨ch,_,rfl,s1.put _,by rw [size_swp]; exact n1,hR',by omega,rfl⟩
  ·have hl:bS d1[p]! d1[q]! = false:=by simpa using hl
   simp only [hl,Bool.not_false,if_true] at hR';subst hR';simp [-aJ,-aN,hl];exact hQ _ s1
 rw [siftDown] at r1
 by_cases c1:2*r+1>=hi
 ·rw [dif_pos c1] at r1
  subst r1;have c1':(hi:Int)<=((2*r+1:Nat):Int):=by omega
  generalize 2*r+1=ch at *;generalize 2*r=rr at *;simp [F.f175_l1,a1,a2,c1'];exact hQ _ s1
 rw [dif_neg c1] at r1;have c1':¬ (hi:Int)<=((2*r+1:Nat):Int):=by omega
 have b1:=dV first (2*r+1) (by omega)
 have b2:=cL (first+(2*r+1)) (by omega)
 by_cases c2:2*r+1+1<hi
 ·have c2':((2*r+1+1:Nat):Int)<hi:=by omega
  have f1:=cK (b:=b) (c:=c) (n:=n) (i:=first+(2*r+1)) (by omega)
  have f2:=cK (b:=b) (c:=c) (n:=n) (i:=first+(2*r+1)+1) (by omega)
  have g1:=bD s1.get (i:=first+(2*r+1)) (by omega)
  have g2:=bD s1.get (i:=first+(2*r+1)+1) (by omega)
  have st1:=step (2*r+1) (by omega) (by omega)
  have st2:=step (2*r+1+1) (by omega) c2
  rw [dif_pos (by omega:2*r+2<hi)] at r1
  simp only [c2,decide_true,Bool.true_and] at r1;rw [show 2*r+2=2*r+1+1 by omega] at r1
  generalize hq2:first+(2*r+1)+1=q2 at *
  generalize hq:first+(2*r+1)=q at *
  generalize hc2:2*r+1+1=ch2 at *;generalize hc1:2*r+1=ch at *;generalize 2*r=rr at *;simp [-aJ,-aN,F.f175_l1,a1,a2,a3,c1',c2',b1,b2,f1,f2,g1,g2];refine S.f11 hE _ _ ?_
  by_cases hl:bS d1[q]! d1[q2]! = true
  ·simp only [hl,if_true] at r1
   simp [hl,a3];exact st2 r1
  ·simp only [hl,if_false] at r1
   simp [hl];exact st1 r1
 ·have c2':¬ ((2*r+1+1:Nat):Int)<hi:=by omega
  have st1:=step (2*r+1) (by omega) (by omega)
  simp only [c2,decide_false,Bool.false_and,Bool.false_eq_true,if_false] at r1;generalize hc2:2*r+1+1=ch2 at *;generalize hc1:2*r+1=ch at *;generalize 2*r=rr at *;simp [-aJ,-aN,F.f175_l1,a1,a2,a3,c1',c2'];exact st1 r1
theorem iB (hi first r:Nat) (d:Array (BitVec 16)):(siftDown bS hi first r d).size=d.size:=by
 obtain ⟨m,hm⟩:∃ m,hi - r<=m:=⟨_,Nat.le_refl _⟩
 induction m generalizing r d with
 | zero =>
  rw [siftDown,dif_pos (by omega)]
 | succ m ih =>
  rw [siftDown]
  split
  ·rfl
  ·split
   ·split
    ·rfl
    ·split
     ·rw [ih _ _ (by omega),size_swp]
     ·rfl
   ·split
    ·rfl
    ·rw [ih _ _ (by omega),size_swp]
theorem S.f157 (hE:aU E) (hg:H.get b=gY u16 d tail f) (hn:d.size=n) (hsz:n<2 ^ 60) (a e:Nat) (hae:a<e) (he:e<=n)
  (hQ:∀ H',cS H b u16 tail f (heapSort bS d a e) H'->Q (.tuple #[]) H'):E.call (E.fid i.f157) [slc b 0 n c,vi a,vi e] H Q:=by
 apply hE.f157;have a1:=dW e a (by omega) (by omega)
 have a2:=eC (e - a) (by omega) (by omega)
 have a3:=kV (e - a - 1) 2 (by decide) (by omega)
 unfold heapSort at hQ;have a1':aA .sub (vi e) (vi a)=some (vi ((e - a:Nat):Int)):=a1;generalize hw:e - a=w at *;have a3':aA .quo (vi ((w - 1:Nat):Int)) (.int .i64 2)=some (vi (((w - 1) / 2:Nat):Int)):=a3;generalize hw1:w - 1=w1 at *;generalize hh:w1 / 2=h2 at *;have hh2:h2<=w1:=by rw [<- hh]; exact Nat.div_le_self _ _
 simp only [F.f157,a1',a2,a3',dG,bE];obtain ⟨R,hR⟩:∃ R,R=heapPop bS a w (heapBuild bS w a (h2+1) d):=⟨_,rfl⟩;rw [<- hR] at hQ;refine aM.ind (fun m l H'=>∃ (k:Nat) (d':Array (BitVec 16)),l=[slc b 0 n c,vi a,vi 0,vi w,vi ((k:Int) - 1)]/\cS H b u16 tail f d' H'/\d'.size=n/\R=heapPop bS a w (heapBuild bS w a k d')/\k<=w/\m=k) ?_ (h2+1) ⟨h2+1,d,by simp,.refl hg,hn,hR,by omega,rfl⟩
 rintro m _ H1 X hX ⟨k,d1,rfl,s1,n1,r1,hk,rfl⟩;cases m with
 | succ k =>
  have e1:((k+1:Nat):Int) - 1=(k:Int):=by omega
  have hd:aA .sub (vi k) (.int .i64 1)=some (vi ((k:Int) - 1)):=fE (by omega) (by omega)
  rw [e1];simp [F.f157_l1];refine S.f175 hE s1.get n1 hsz k w a (by omega) (by omega) fun H2 s2 =>?_
  simp only [hd,dG,bE];exact hX k (by omega) _ _ ⟨k,_,rfl,s1.trans s2,by rw [iB]; exact n1,by rw [r1]; rfl,by omega,rfl⟩
 | zero =>
  have hd:aA .sub (vi w) (.int .i64 1)=some (vi ((w:Int) - 1)):=fE (by omega) (by omega)
  simp [F.f157_l1,hd];clear hX;refine aM.ind (fun m l H'=>∃ (k:Nat) (d':Array (BitVec 16)),l=[slc b 0 n c,vi a,vi 0,vi ((k:Int) - 1)]/\cS H b u16 tail f d' H'/\d'.size=n/\R=heapPop bS a k d'/\k<=w/\m=k) ?_ w ⟨w,d1,rfl,s1,n1,r1,Nat.le_refl _,rfl⟩;rintro m _ H2 X hX ⟨k,d2,rfl,s2,n2,r2,hk,rfl⟩;cases m with
  | succ k =>
   have e1:((k+1:Nat):Int) - 1=(k:Int):=by omega
   have hd:aA .sub (vi k) (.int .i64 1)=some (vi ((k:Int) - 1)):=fE (by omega) (by omega)
   have b1:=dV a k (by omega)
   have f1:=cK (b:=b) (c:=c) (n:=n) (i:=a) (by omega)
   have f2:=cK (b:=b) (c:=c) (n:=n) (i:=a+k) (by omega)
   have g1:=bD s2.get (i:=a) (by omega)
   have g2:=bD s2.get (i:=a+k) (by omega)
   obtain ⟨w1,w2⟩:=fA bH s2.get (i:=a) (j:=a+k) (by omega) (by omega)
   rw [e1];rw [heapPop] at r2;generalize hq:a+k=q at *;simp [-aJ,-aN,F.f157_l2,b1,f1,f2,g1,g2,w1,w2];have s3:=s2.put (swp d2 a q);refine S.f175 hE s3.get (by rw [size_swp]; exact n2) hsz 0 k a (by omega) (by omega) fun H3 s4 =>?_
   simp only [hd,dG,bE];exact hX k (by omega) _ _ ⟨k,_,rfl,s3.trans s4,by rw [iB,size_swp]; exact n2,r2,by omega,rfl⟩
  | zero =>
   simp [F.f157_l2];rw [heapPop] at r2;subst r2;exact hQ _ s2
theorem S.f174 (hE:aU E) (hg:H.get b=gY u16 d tail f) (hn:d.size=n) (hsz:n<2 ^ 60) (a e:Nat) (hae:a<e) (he:e<=n)
  (hQ:∀ H',cS H b u16 tail f (reverseRange d a e) H'->Q (.tuple #[]) H'):E.call (E.fid i.f174) [slc b 0 n c,vi a,vi e] H Q:=by
 apply hE.f174;have a1:=eC e (by omega) (by omega)
 unfold reverseRange at hQ;simp only [F.f174,a1,dG,bE];obtain ⟨R,hR⟩:∃ R,R=reverseLoop a (e - 1) d:=⟨_,rfl⟩;rw [<- hR] at hQ;refine aM.ind (fun m l H'=>∃ (p q:Nat) (d':Array (BitVec 16)),l=[slc b 0 n c,vi p,vi q]/\cS H b u16 tail f d' H'/\d'.size=n/\R=reverseLoop p q d'/\p<=n/\q<n/\m=q - p) ?_ (e - 1 - a) ⟨a,e - 1,d,rfl,.refl hg,hn,hR,by omega,by omega,rfl⟩
 rintro m _ H1 X hX ⟨p,q,d1,rfl,s1,n1,r1,hp,hq,rfl⟩;rw [reverseLoop] at r1
 by_cases h:p<q
 ·rw [if_pos h] at r1
  have h':(p:Int)<q:=by omega
  have f1:=cK (b:=b) (c:=c) (n:=n) (i:=p) (by omega)
  have f2:=cK (b:=b) (c:=c) (n:=n) (i:=q) (by omega)
  have g1:=bD s1.get (i:=p) (by omega)
  have g2:=bD s1.get (i:=q) (by omega)
  obtain ⟨w1,w2⟩:=fA bH s1.get (i:=p) (j:=q) (by omega) (by omega)
  have b1:=cL p (by omega)
  have b2:=eC q (by omega) (by omega)
  simp [-aJ,-aN,F.f174_l1,h',f1,f2,g1,g2,w1,w2,b1,b2];exact hX (q - 1 - (p+1)) (by omega) _ _ ⟨p+1,q - 1,_,rfl,s1.put _,by rw [size_swp]; exact n1,r1,by omega,by omega,rfl⟩
 ·rw [if_neg h] at r1
  subst r1;have h':¬ (p:Int)<q:=by omega
  simp [F.f174_l1,h'];exact hQ _ s1
theorem S.f170 (hE:aU E) (hg:H.get b=gY u16 d tail f) (hn:d.size=n) (hsz:n<2 ^ 60) (a e pivot:Nat) (h1:a<=pivot) (h2:pivot<e) (he:e<=n)
  (hQ:∀ H',cS H b u16 tail f (partition bS d a e pivot).2.2 H'->Q (.tuple #[vi (partition bS d a e pivot).1,vb (partition bS d a e pivot).2.1]) H'):E.call (E.fid i.f170) [slc b 0 n c,vi a,vi e,vi pivot] H Q:=by
 apply hE.f170;have f1:=cK (b:=b) (c:=c) (n:=n) (i:=a) (by omega)
 have f2:=cK (b:=b) (c:=c) (n:=n) (i:=pivot) (by omega)
 have g1:=bD hg (i:=a) (by omega)
 have g2:=bD hg (i:=pivot) (by omega)
 obtain ⟨w1,w2⟩:=fA bH hg (i:=a) (j:=pivot) (by omega) (by omega)
 have b1:=cL a (by omega)
 have b2:=eC e (by omega) (by omega)
 simp only [F.f170,f1,f2,g1,g2,w1,w2,b1,b2,dG,bE];have s0:=(cS.refl hg).put (swp d a pivot);have n0:(swp d a pivot).size=n:=by rw [size_swp]; exact hn
 unfold partition at hQ;generalize hd0:swp d a pivot=d0 at *;generalize hH0:H.put b (gY u16 d0 tail f)=H0 at *;simp only at hQ;obtain ⟨I,hI⟩:∃ I,I=scanUp (fun x=>bS x d0[a]!) d0 (e - 1) (a+1):=⟨_,rfl⟩;rw [<- hI] at hQ;obtain ⟨J,hJ⟩:∃ J,J=scanDown (fun x => !bS x d0[a]!) d0 I (e - 1):=⟨_,rfl⟩;rw [<- hJ] at hQ;have hIl:=aBL (fun x=>bS x d0[a]!) d0 (e - 1) _ (a+1) (Nat.le_refl _);rw [<- hI] at hIl;have hJl:=lL (fun x => !bS x d0[a]!) d0 I (e - 1);rw [<- hJ] at hJl;refine aM.ind (fun m l H'=>H0=H'/\∃ p:Nat,l=[slc b 0 n c,vi a,vi p,vi ((e - 1:Nat):Int)]/\I=scanUp (fun x=>bS x d0[a]!) d0 (e - 1) p/\a+1<=p/\p<=e/\m=e - p) ?_ (e - (a+1)) ⟨rfl,a+1,rfl,hI,Nat.le_refl _,by omega,rfl⟩
 rintro m _ _ X hX ⟨rfl,p,rfl,r1,hp1,hp2,rfl⟩;rw [scanUp] at r1
 have exit1:I=p->aM (fun l H X0=>F.f170_l2 E Q (nth l 0) (nth l 1) (nth l 2) (nth l 3) H X0) [slc b 0 n c,vi a,vi p,vi ((e - 1:Nat):Int)] H0:=by
  rintro rfl;clear hX r1;refine aM.ind (fun m l H'=>H0=H'/\∃ q:Nat,l=[slc b 0 n c,vi a,vi I,vi q]/\J=scanDown (fun x => !bS x d0[a]!) d0 I q/\q<=e - 1/\I<=q+1/\m=q) ?_ (e - 1) ⟨rfl,e - 1,rfl,hJ,Nat.le_refl _,by omega,rfl⟩
  rintro m _ _ X hX ⟨rfl,q,rfl,r1,hq1,hq2,rfl⟩
  have exit2:J=m->F.f170_l2 E Q (slc b 0 n c) (vi a) (vi I) (vi m) H0 X:=by
   rintro rfl;clear hX;have f1:=cK (b:=b) (c:=c) (n:=n) (i:=a) (by omega)
   have f2:=cK (b:=b) (c:=c) (n:=n) (i:=J) (by omega)
   have g1:=bD s0.get (i:=a) (by omega)
   have g2:=bD s0.get (i:=J) (by omega)
   obtain ⟨w1,w2⟩:=fA bH s0.get (i:=J) (j:=a) (by omega) (by omega)
   by_cases hij:I<=J
   ·have hij':(I:Int)<=J:=by omega
    have hij'':¬ (J:Int)<I:=by omega
    have hnl:bS d0[J]! d0[a]! = true:=by
     cases J with
     | zero=>omega
     | succ q =>
      rw [scanDown] at r1
      split at r1
      ·have:=lL (fun x => !bS x d0[a]!) d0 I q
       omega
      ·rename_i hc
       simp at hc;exact hc (by omega)
    have f3:=cK (b:=b) (c:=c) (n:=n) (i:=I) (by omega)
    have g3:=bD s0.get (i:=I) (by omega)
    obtain ⟨w3,w4⟩:=fA bH s0.get (i:=I) (j:=J) (by omega) (by omega)
    have b3:=cL I (by omega)
    have b4:=eC J (by omega) (by omega)
    simp [-aJ,-aN,F.f170_l2,hij',f1,f2,g1,g2];refine S.f11 hE _ _ ?_;simp [-aJ,-aN,hnl,hij'',f1,f2,f3,g1,g2,g3,w3,w4,b3,b4];rw [if_neg (by omega)] at hQ
    have s1:=s0.put (swp d0 I J);have n1:(swp d0 I J).size=n:=by rw [size_swp]; exact n0
    generalize hd1:swp d0 I J=d1 at *;simp only at hQ;obtain ⟨R,hR⟩:∃ R,R=partLoop bS a (I+1) (J - 1) d1:=⟨_,rfl⟩;rw [<- hR] at hQ;refine aM.ind (fun m l H'=>∃ (p q:Nat) (d2:Array (BitVec 16)),l=[slc b 0 n c,vi a,vi p,vi q]/\cS H b u16 tail f d2 H'/\d2.size=n/\R=partLoop bS a p q d2/\a+1<=p/\p<=q+1+1/\p<=e/\q<=e - 1/\a<=q/\m=q+1 - p) ?_ (J - 1+1 - (I+1)) ⟨I+1,J - 1,d1,rfl,s1,n1,hR,by omega,by omega,by omega,by omega,by omega,rfl⟩
    clear hR s1 n1 hd1 w1 w2 w3 w4;rintro m _ H2 X3 hX3 ⟨p,q,d2,rfl,s2,n2,r2,hp1,hp2,hpe,hq1,hqa,rfl⟩;rw [partLoop] at r2;simp only [F.f170_l3,fW,fV,gI,gJ];obtain ⟨I2,hI2⟩:∃ I,I=scanUp (fun x=>bS x d2[a]!) d2 q p:=⟨_,rfl⟩;obtain ⟨J2,hJ2⟩:∃ J,J=scanDown (fun x => !bS x d2[a]!) d2 I2 q:=⟨_,rfl⟩;rw [<- hI2] at r2
    try simp only at r2
    rw [<- hJ2] at r2;have hIl2:=aBL (fun x=>bS x d2[a]!) d2 q _ p (Nat.le_refl _);rw [<- hI2] at hIl2;have hJl2:=lL (fun x => !bS x d2[a]!) d2 I2 q;rw [<- hJ2] at hJl2
    have hI2e:I2<=q+1\/(I2=p/\q+1<p):=by
     by_cases h:p<=q+1
     ·exact .inl (hIl2.2 h)
     ·refine .inr ⟨?_,by omega⟩
      rw [hI2,scanUp,if_neg (by simp; omega)]
    have hJ2e:I2<=q+1\/J2=q:=by
     rcases hI2e with h | ⟨h,h'⟩
     ·exact .inl h
     ·right
      rw [hJ2];cases q with
      | zero=>rfl
      | succ q=>rw [scanDown,if_neg (by simp; omega)]
    refine aM.ind (fun m l H'=>H2=H'/\∃ p':Nat,l=[slc b 0 n c,vi a,vi p',vi q]/\I2=scanUp (fun x=>bS x d2[a]!) d2 q p'/\p<=p'/\p'<=e/\m=q+1 - p') ?_ (q+1 - p) ⟨rfl,p,rfl,hI2,Nat.le_refl _,by omega,rfl⟩
    rintro m _ _ X4 hX4 ⟨rfl,p',rfl,r4,hp3,hp4,rfl⟩;rw [scanUp] at r4
    have exit4:I2=p'->aM (fun l H X1=>F.f170_l5 E Q X3 (nth l 0) (nth l 1) (nth l 2) (nth l 3) H X1) [slc b 0 n c,vi a,vi p',vi q] H2:=by
     rintro rfl;clear hX4 r4;refine aM.ind (fun m l H'=>H2=H'/\∃ q':Nat,l=[slc b 0 n c,vi a,vi I2,vi q']/\J2=scanDown (fun x => !bS x d2[a]!) d2 I2 q'/\q'<=q/\m=q') ?_ q ⟨rfl,q,rfl,hJ2,Nat.le_refl _,rfl⟩;rintro m _ _ X5 hX5 ⟨rfl,q',rfl,r5,hq3,rfl⟩
     have exit5:J2=m->F.f170_l5 E Q X3 (slc b 0 n c) (vi a) (vi I2) (vi m) H2 X5:=by
      rintro rfl;clear hX5;have f2:=cK (b:=b) (c:=c) (n:=n) (i:=J2) (by omega)
      have g1:=bD s2.get (i:=a) (by omega)
      have g2:=bD s2.get (i:=J2) (by omega)
      by_cases hij:I2<=J2
      ·have hij':(I2:Int)<=J2:=by omega
       have hij'':¬ (J2:Int)<I2:=by omega
       have hnl:bS d2[J2]! d2[a]! = true:=by
        cases J2 with
        | zero=>omega
        | succ q' =>
         rw [scanDown] at r5
         split at r5
         ·have:=lL (fun x => !bS x d2[a]!) d2 I2 q'
          omega
         ·rename_i hc
          simp at hc;exact hc (by omega)
       have f3:=cK (b:=b) (c:=c) (n:=n) (i:=I2) (by omega)
       have g3:=bD s2.get (i:=I2) (by omega)
       obtain ⟨w3,w4⟩:=fA bH s2.get (i:=I2) (j:=J2) (by omega) (by omega)
       have b3:=cL I2 (by omega)
       have b4:=eC J2 (by omega) (by omega)
       simp [-aJ,-aN,F.f170_l5,hij',f1,f2,g1,g2];refine S.f11 hE _ _ ?_;simp [-aJ,-aN,hnl,hij'',f1,f2,f3,g1,g2,g3,w3,w4,b3,b4];rw [if_neg (by omega),dif_pos (by omega)] at r2
       exact hX3 (J2 - 1+1 - (I2+1)) (by omega) _ _ ⟨I2+1,J2 - 1,_,rfl,s2.put _,by rw [size_swp]; exact n2,r2,by omega,by omega,by omega,by omega,by omega,rfl⟩
      ·have hij':¬ (I2:Int)<=J2:=by omega
       have hij'':(J2:Int)<I2:=by omega
       rw [if_pos (by omega)] at r2
       subst r2;obtain ⟨w1,w2⟩:=fA bH s2.get (i:=J2) (j:=a) (by omega) (by omega)
       simp [-aJ,-aN,F.f170_l5,hij',hij'',f1,f2,g1,g2,w1,w2];exact hQ _ (s2.put _)
     cases m with
     | zero=>exact exit5 r5
     | succ q' =>
      by_cases hc:I2<=q'+1/\bS d2[q'+1]! d2[a]! = false
      ·rw [scanDown,if_pos (by simp [hc.1,hc.2])] at r5
       have hc':(I2:Int)<=((q'+1:Nat):Int):=by omega
       have f2:=cK (b:=b) (c:=c) (n:=n) (i:=q'+1) (by omega)
       have g1:=bD s2.get (i:=a) (by omega)
       have g2:=bD s2.get (i:=q'+1) (by omega)
       have b4:aA .sub (vi ((q'+1:Nat):Int)) (.int .i64 1)=some (vi (q':Int)):=eC (q'+1) (by omega) (by omega)
       have hlt:=hc.2;generalize hqq:q'+1=qq at *;simp [-aJ,-aN,F.f170_l5,hc',f1,f2,g1,g2];refine S.f11 hE _ _ ?_;simp [-aJ,-aN,hlt,b4];exact hX5 q' (by omega) _ _ ⟨rfl,q',rfl,r5,by omega,rfl⟩
      ·rw [scanDown,if_neg (by simpa using hc)] at r5
       exact exit5 r5
    by_cases hc:p'<=q/\bS d2[p']! d2[a]! = true
    ·rw [if_pos (by simp [hc.1,hc.2])] at r4
     have hc':(p':Int)<=q:=by omega
     have f2:=cK (b:=b) (c:=c) (n:=n) (i:=p') (by omega)
     have g1:=bD s2.get (i:=a) (by omega)
     have g2:=bD s2.get (i:=p') (by omega)
     have b3:=cL p' (by omega)
     simp [-aJ,-aN,F.f170_l4,hc',f1,f2,g1,g2];refine S.f11 hE _ _ ?_;simp [-aJ,-aN,hc.2,b3];exact hX4 (q+1 - (p'+1)) (by omega) _ _ ⟨rfl,p'+1,rfl,r4,by omega,by omega,rfl⟩
    ·rw [if_neg (by simpa using hc)] at r4
     by_cases hpq:p'<=q
     ·have hc':(p':Int)<=q:=by omega
      have hlt:bS d2[p']! d2[a]! = false:=by simpa using fun h=>hc ⟨hpq,h⟩
      have f2:=cK (b:=b) (c:=c) (n:=n) (i:=p') (by omega)
      have g1:=bD s2.get (i:=a) (by omega)
      have g2:=bD s2.get (i:=p') (by omega)
      simp [-aJ,-aN,F.f170_l4,hc',f1,f2,g1,g2];refine S.f11 hE _ _ ?_;simp [-aJ,-aN,hlt];exact exit4 r4
     ·have hc':¬ (p':Int)<=q:=by omega
      simp [-aJ,-aN,F.f170_l4,hc'];exact exit4 r4
   ·have hij':¬ (I:Int)<=J:=by omega
    have hij'':(J:Int)<I:=by omega
    simp [-aJ,-aN,F.f170_l2,hij',hij'',f1,f2,g1,g2,w1,w2];rw [if_pos (by omega)] at hQ
    exact hQ _ (s0.put _)
  cases m with
  | zero=>exact exit2 r1
  | succ q =>
   by_cases hc:I<=q+1/\bS d0[q+1]! d0[a]! = false
   ·rw [scanDown,if_pos (by simp [hc.1,hc.2])] at r1
    have hc':(I:Int)<=((q+1:Nat):Int):=by omega
    have f2:=cK (b:=b) (c:=c) (n:=n) (i:=q+1) (by omega)
    have g1:=bD s0.get (i:=a) (by omega)
    have g2:=bD s0.get (i:=q+1) (by omega)
    have b4:aA .sub (vi ((q+1:Nat):Int)) (.int .i64 1)=some (vi (q:Int)):=eC (q+1) (by omega) (by omega)
    have hlt:=hc.2;generalize hqq:q+1=qq at *;simp [-aJ,-aN,F.f170_l2,hc',f1,f2,g1,g2];refine S.f11 hE _ _ ?_;simp [-aJ,-aN,hlt,b4];exact hX q (by omega) _ _ ⟨rfl,q,rfl,r1,by omega,by omega,rfl⟩
   ·rw [scanDown,if_neg (by simpa using hc)] at r1
    exact exit2 r1
 by_cases hc:p<=e - 1/\bS d0[p]! d0[a]! = true
 ·rw [if_pos (by simp [hc.1,hc.2])] at r1
  have hc':(p:Int)<=((e - 1:Nat):Int):=by omega
  have f2:=cK (b:=b) (c:=c) (n:=n) (i:=p) (by omega)
  have g1:=bD s0.get (i:=a) (by omega)
  have g2:=bD s0.get (i:=p) (by omega)
  have b3:=cL p (by omega)
  generalize he1:e - 1=e1 at *;simp [-aJ,-aN,F.f170_l1,hc',f1,f2,g1,g2];refine S.f11 hE _ _ ?_;simp [-aJ,-aN,hc.2,b3];exact hX (e - (p+1)) (by omega) _ _ ⟨rfl,p+1,rfl,r1,by omega,by omega,rfl⟩
 ·rw [if_neg (by simpa using hc)] at r1
  have exit1:=exit1 r1
  by_cases hpq:p<=e - 1
  ·have hc':(p:Int)<=((e - 1:Nat):Int):=by omega
   have hlt:bS d0[p]! d0[a]! = false:=by simpa using fun h=>hc ⟨hpq,h⟩
   have f2:=cK (b:=b) (c:=c) (n:=n) (i:=p) (by omega)
   have g1:=bD s0.get (i:=a) (by omega)
   have g2:=bD s0.get (i:=p) (by omega)
   generalize he1:e - 1=e1 at *;simp [-aJ,-aN,F.f170_l1,hc',f1,f2,g1,g2];refine S.f11 hE _ _ ?_;simp [-aJ,-aN,hlt];exact exit1
  ·have hc':¬ (p:Int)<=((e - 1:Nat):Int):=by omega
   generalize he1:e - 1=e1 at *;simp [-aJ,-aN,F.f170_l1,hc'];exact exit1
theorem S.f169 (hE:aU E) (hg:H.get b=gY u16 d tail f) (hn:d.size=n) (hsz:n<2 ^ 60) (a e pivot:Nat) (h1:a<=pivot) (h2:pivot<e) (he:e<=n)
  (hQ:∀ H',cS H b u16 tail f (partitionEqual bS d a e pivot).2 H'->Q (vi (partitionEqual bS d a e pivot).1) H'):E.call (E.fid i.f169) [slc b 0 n c,vi a,vi e,vi pivot] H Q:=by
 apply hE.f169;have f1:=cK (b:=b) (c:=c) (n:=n) (i:=a) (by omega)
 have f2:=cK (b:=b) (c:=c) (n:=n) (i:=pivot) (by omega)
 have g1:=bD hg (i:=a) (by omega)
 have g2:=bD hg (i:=pivot) (by omega)
 obtain ⟨w1,w2⟩:=fA bH hg (i:=a) (j:=pivot) (by omega) (by omega)
 have b1:=cL a (by omega)
 have b2:=eC e (by omega) (by omega)
 simp only [F.f169,f1,f2,g1,g2,w1,w2,b1,b2,dG,bE];have s0:=(cS.refl hg).put (swp d a pivot);have n0:(swp d a pivot).size=n:=by rw [size_swp]; exact hn
 unfold partitionEqual at hQ;generalize hd0:swp d a pivot=d0 at *;generalize hH0:H.put b (gY u16 d0 tail f)=H0 at *;clear w1 w2 f2 g1 g2;obtain ⟨R,hR⟩:∃ R,R=partEqLoop bS a (a+1) (e - 1) d0:=⟨_,rfl⟩;rw [<- hR] at hQ;refine aM.ind (fun m l H'=>∃ (p q:Nat) (d2:Array (BitVec 16)),l=[slc b 0 n c,vi a,vi p,vi q]/\cS H b u16 tail f d2 H'/\d2.size=n/\R=partEqLoop bS a p q d2/\a+1<=p/\p<=q+1+1/\p<=e/\q<=e - 1/\a<=q/\m=q+1 - p) ?_ (e - 1+1 - (a+1)) ⟨a+1,e - 1,d0,rfl,s0,n0,hR,by omega,by omega,by omega,by omega,by omega,rfl⟩
 clear hR s0 n0 hd0;rintro m _ H2 X3 hX3 ⟨p,q,d2,rfl,s2,n2,r2,hp1,hp2,hpe,hq1,hqa,rfl⟩;rw [partEqLoop] at r2;simp only [F.f169_l1,fW,fV,gI,gJ];obtain ⟨I2,hI2⟩:∃ I,I=scanUp (fun x => !bS d2[a]! x) d2 q p:=⟨_,rfl⟩;obtain ⟨J2,hJ2⟩:∃ J,J=scanDown (fun x=>bS d2[a]! x) d2 I2 q:=⟨_,rfl⟩;rw [<- hI2] at r2
 try simp only at r2
 rw [<- hJ2] at r2;have hIl2:=aBL (fun x => !bS d2[a]! x) d2 q _ p (Nat.le_refl _);rw [<- hI2] at hIl2;have hJl2:=lL (fun x=>bS d2[a]! x) d2 I2 q;rw [<- hJ2] at hJl2
 have hI2e:I2<=q+1\/(I2=p/\q+1<p):=by
  by_cases h:p<=q+1
  ·exact .inl (hIl2.2 h)
  ·refine .inr ⟨?_,by omega⟩
   rw [hI2,scanUp,if_neg (by simp; omega)]
 have hJ2e:I2<=q+1\/J2=q:=by
  rcases hI2e with h | ⟨h,h'⟩
  ·exact .inl h
  ·right
   rw [hJ2];cases q with
   | zero=>rfl
   | succ q=>rw [scanDown,if_neg (by simp; omega)]
 refine aM.ind (fun m l H'=>H2=H'/\∃ p':Nat,l=[slc b 0 n c,vi a,vi p',vi q]/\I2=scanUp (fun x => !bS d2[a]! x) d2 q p'/\p<=p'/\p'<=e/\m=q+1 - p') ?_ (q+1 - p) ⟨rfl,p,rfl,hI2,Nat.le_refl _,by omega,rfl⟩
 rintro m _ _ X4 hX4 ⟨rfl,p',rfl,r4,hp3,hp4,rfl⟩;rw [scanUp] at r4
 have exit4:I2=p'->aM (fun l H X1=>F.f169_l3 E Q X3 (nth l 0) (nth l 1) (nth l 2) (nth l 3) H X1) [slc b 0 n c,vi a,vi p',vi q] H2:=by
  rintro rfl;clear hX4 r4;refine aM.ind (fun m l H'=>H2=H'/\∃ q':Nat,l=[slc b 0 n c,vi a,vi I2,vi q']/\J2=scanDown (fun x=>bS d2[a]! x) d2 I2 q'/\q'<=q/\m=q') ?_ q ⟨rfl,q,rfl,hJ2,Nat.le_refl _,rfl⟩;rintro m _ _ X5 hX5 ⟨rfl,q',rfl,r5,hq3,rfl⟩
  have exit5:J2=m->F.f169_l3 E Q X3 (slc b 0 n c) (vi a) (vi I2) (vi m) H2 X5:=by
   rintro rfl;clear hX5;have f2:=cK (b:=b) (c:=c) (n:=n) (i:=J2) (by omega)
   have g1:=bD s2.get (i:=a) (by omega)
   have g2:=bD s2.get (i:=J2) (by omega)
   by_cases hij:I2<=J2
   ·have hij':(I2:Int)<=J2:=by omega
    have hij'':¬ (J2:Int)<I2:=by omega
    have hnl:bS d2[a]! d2[J2]! = false:=by
     cases J2 with
     | zero=>omega
     | succ q' =>
      rw [scanDown] at r5
      split at r5
      ·have:=lL (fun x=>bS d2[a]! x) d2 I2 q'
       omega
      ·rename_i hc
       simp at hc;exact hc (by omega)
    have f3:=cK (b:=b) (c:=c) (n:=n) (i:=I2) (by omega)
    have g3:=bD s2.get (i:=I2) (by omega)
    obtain ⟨w3,w4⟩:=fA bH s2.get (i:=I2) (j:=J2) (by omega) (by omega)
    have b3:=cL I2 (by omega)
    have b4:=eC J2 (by omega) (by omega)
    simp [-aJ,-aN,F.f169_l3,hij',f1,f2,g1,g2];refine S.f11 hE _ _ ?_;simp [-aJ,-aN,hnl,hij'',f1,f2,f3,g1,g2,g3,w3,w4,b3,b4];rw [if_neg (by omega),dif_pos (by omega)] at r2
    exact hX3 (J2 - 1+1 - (I2+1)) (by omega) _ _ ⟨I2+1,J2 - 1,_,rfl,s2.put _,by rw [size_swp]; exact n2,r2,by omega,by omega,by omega,by omega,by omega,rfl⟩
   ·have hij':¬ (I2:Int)<=J2:=by omega
    have hij'':(J2:Int)<I2:=by omega
    rw [if_pos (by omega)] at r2
    subst r2;simp [-aJ,-aN,F.f169_l3,hij',hij''];exact hQ _ s2
  cases m with
  | zero=>exact exit5 r5
  | succ q' =>
   by_cases hc:I2<=q'+1/\bS d2[a]! d2[q'+1]! = true
   ·rw [scanDown,if_pos (by simp [hc.1,hc.2])] at r5
    have hc':(I2:Int)<=((q'+1:Nat):Int):=by omega
    have f2:=cK (b:=b) (c:=c) (n:=n) (i:=q'+1) (by omega)
    have g1:=bD s2.get (i:=a) (by omega)
    have g2:=bD s2.get (i:=q'+1) (by omega)
    have b4:aA .sub (vi ((q'+1:Nat):Int)) (.int .i64 1)=some (vi (q':Int)):=eC (q'+1) (by omega) (by omega)
    have hlt:=hc.2;generalize hqq:q'+1=qq at *;simp [-aJ,-aN,F.f169_l3,hc',f1,f2,g1,g2];refine S.f11 hE _ _ ?_;simp [-aJ,-aN,hlt,b4];exact hX5 q' (by omega) _ _ ⟨rfl,q',rfl,r5,by omega,rfl⟩
   ·rw [scanDown,if_neg (by simpa using hc)] at r5
    exact exit5 r5
 by_cases hc:p'<=q/\bS d2[a]! d2[p']! = false
 ·rw [if_pos (by simp [hc.1,hc.2])] at r4
  have hc':(p':Int)<=q:=by omega
  have f2:=cK (b:=b) (c:=c) (n:=n) (i:=p') (by omega)
  have g1:=bD s2.get (i:=a) (by omega)
  have g2:=bD s2.get (i:=p') (by omega)
  have b3:=cL p' (by omega)
  simp [-aJ,-aN,F.f169_l2,hc',f1,f2,g1,g2];refine S.f11 hE _ _ ?_;simp [-aJ,-aN,hc.2,b3];exact hX4 (q+1 - (p'+1)) (by omega) _ _ ⟨rfl,p'+1,rfl,r4,by omega,by omega,rfl⟩
 ·rw [if_neg (by simpa using hc)] at r4
  by_cases hpq:p'<=q
  ·have hc':(p':Int)<=q:=by omega
   have hlt:bS d2[a]! d2[p']! = true:=by simpa using fun h=>hc ⟨hpq,h⟩
   have f2:=cK (b:=b) (c:=c) (n:=n) (i:=p') (by omega)
   have g1:=bD s2.get (i:=a) (by omega)
   have g2:=bD s2.get (i:=p') (by omega)
   simp [-aJ,-aN,F.f169_l2,hc',f1,f2,g1,g2];refine S.f11 hE _ _ ?_;simp [-aJ,-aN,hlt];exact exit4 r4
  ·have hc':¬ (p':Int)<=q:=by omega
   simp [-aJ,-aN,F.f169_l2,hc'];exact exit4 r4
theorem S.f166 (hE:aU E) (hg:H.get b=gY u16 d tail f) (hn:d.size=n) (hsz:n<2 ^ 60) (a e:Nat) (hae:a<e) (he:e<=n)
    (hQ:∀ H',cS H b u16 tail f (partialInsertionSort bS d a e).1 H'->Q (vb (partialInsertionSort bS d a e).2) H'):E.call (E.fid i.f166) [slc b 0 n c,vi a,vi e] H Q:=by
  apply hE.f166;have b1:=cL a (by omega)
  simp only [F.f166,b1,dG,bE];unfold partialInsertionSort at hQ;obtain ⟨R,hR⟩:∃ R,R=partialIns bS a e 5 (a+1) d:=⟨_,rfl⟩;rw [<- hR] at hQ;refine aM.ind (fun m l H'=>∃ (i:Nat) (d1:Array (BitVec 16)),l=[slc b 0 n c,vi a,vi e,vi i,vi ((5 - m:Nat):Int)]/\cS H b u16 tail f d1 H'/\d1.size=n/\R=partialIns bS a e m i d1/\a+1<=i/\i<=e/\m<=5) ?_ 5 ⟨a+1,d,rfl,.refl hg,hn,hR,Nat.le_refl _,by omega,Nat.le_refl _⟩
  rintro m _ H1 X hX ⟨i0,d1,rfl,s1,n1,r1,hi1,hi2,hm⟩;cases m with
  | zero =>
    simp [F.f166_l1];rw [partialIns] at r1;subst r1;exact hQ _ s1
  | succ m =>
    have hms:((5 - (m+1):Nat):Int)<5:=by omega
    have hmi:aA .add (vi ((5 - (m+1):Nat):Int)) (.int .i64 1)=some (vi ((5 - m:Nat):Int)):=by
      rw [cL _ (by omega)]; congr 3; omega
    have hX:∀ (i:Nat) (d2:Array (BitVec 16)) H2,cS H b u16 tail f d2 H2->d2.size=n->R=partialIns bS a e m i d2->a+1<=i->i<=e->X [slc b 0 n c,vi a,vi e,vi i,vi ((5 - m:Nat):Int)] H2:=fun i d2 H2 q1 q2 q3 q4 q5=>hX m (by omega) _ _ ⟨i,d2,rfl,q1,q2,q3,q4,q5,by omega⟩
    generalize hk:5 - (m+1)=k at *;generalize hk':5 - m=k' at *;simp [F.f166_l1,hms];rw [partialIns_succ] at r1;obtain ⟨I,hI⟩:∃ I,I=scanSorted bS d1 e i0:=⟨_,rfl⟩;rw [<- hI] at r1;refine aM.ind (fun m l H'=>H1=H'/\∃ i':Nat,l=[slc b 0 n c,vi a,vi e,vi i',vi k]/\I=scanSorted bS d1 e i'/\a+1<=i'/\i'<=e/\m=e - i') ?_ (e - i0) ⟨rfl,i0,rfl,hI,hi1,hi2,rfl⟩;rintro mm _ _ X1 hX1 ⟨rfl,i',rfl,r2,hi3,hi4,rfl⟩;rw [scanSorted] at r2;have b2:=dW e a (by omega) (by omega)
    have b2':aA .sub (vi e) (vi a)=some (vi ((e - a:Nat):Int)):=b2
    have exit:I=i' ->
        (opt (aA .eql (vi i') (vi e)) fun v15 =>
         ifB v15 (Q (.bool true) H1) (
         opt (aA .sub (vi e) (vi a)) fun v16 =>
         opt (aA .lss v16 (.int .i64 50)) fun v17 =>
         ifB v17 (Q (.bool false) H1) (
         opt (aA .sub (vi i') (.int .i64 1)) fun v18 =>
         opt (aA .sub (vi i') (.int .i64 1)) fun v19 =>
         opt (aK 1 (slc b 0 n c) v19) fun v20 =>
         opt (aC v20 H1) fun v21 =>
         opt (aK 1 (slc b 0 n c) (vi i')) fun v22 =>
         opt (aC v22 H1) fun v23 =>
         opt (aK 1 (slc b 0 n c) (vi i')) fun v24 =>
         opt (aQ v24 v21 H1) fun H12 =>
         opt (aK 1 (slc b 0 n c) v18) fun v25 =>
         opt (aQ v25 v23 H12) fun H13 =>
         opt (aA .sub (vi i') (vi a)) fun v26 =>
         opt (aA .geq v26 (.int .i64 2)) fun v27 =>
         ifB v27 (
         opt (aA .sub (vi i') (.int .i64 1)) fun v28 =>
         aM (fun l H X1=>F.f166_l4 E Q X (nth l 0) (nth l 1) (nth l 2) (nth l 3) (nth l 4) (nth l 5) H X1) [slc b 0 n c,vi a,vi e,vi i',vi k,v28] H13) (
         F.f166_j1 E Q X (slc b 0 n c) (vi a) (vi e) (vi i') (vi k) H13)))):=by
      rintro rfl;clear hX1
      by_cases c1:I=e
      · rw [if_pos c1] at r1
        subst r1;simp [c1];exact hQ _ s1
      rw [if_neg c1] at r1;have c1':¬ (I:Int)=e:=by omega
      by_cases c2:e - a<50
      · rw [if_pos c2] at r1
        subst r1;have c2':((e - a:Nat):Int)<50:=by omega
        generalize e - a=w at *;simp [c1',b2',c2'];exact hQ _ s1
      rw [if_neg c2] at r1;have c2':¬ ((e - a:Nat):Int)<50:=by omega
      have b3:=eC I (by omega) (by omega)
      have b4:=dW I a (by omega) (by omega)
      have b4':aA .sub (vi I) (vi a)=some (vi ((I - a:Nat):Int)):=b4;have f1:=cK (b:=b) (c:=c) (n:=n) (i:=I) (by omega)
      have f2:=cK (b:=b) (c:=c) (n:=n) (i:=I - 1) (by omega)
      have g1:=bD s1.get (i:=I) (by omega)
      have g2:=bD s1.get (i:=I - 1) (by omega)
      obtain ⟨w1,w2⟩:=fA bH s1.get (i:=I) (j:=I - 1) (by omega) (by omega)
      have s2:=s1.put (swp d1 I (I - 1));have n2:(swp d1 I (I - 1)).size=n:=by rw [size_swp]; exact n1
      have hkk:aA .add (vi k) (.int .i64 1)=some (vi k'):=hmi
      have j1:∀ (d3:Array (BitVec 16)) H3,cS H b u16 tail f d3 H3->d3.size=n->R=partialIns bS a e m I (fixUp bS e I d3)->F.f166_j1 E Q X (slc b 0 n c) (vi a) (vi e) (vi I) (vi k) H3:=by
        intro d3 H3 s3 n3 r3;unfold fixUp at r3;have b5:=dW e I (by omega) (by omega)
        have b5':aA .sub (vi e) (vi I)=some (vi ((e - I:Nat):Int)):=b5
        by_cases c3:e - I>=2
        · rw [if_pos c3] at r3
          have c3':(2:Int)<=((e - I:Nat):Int):=by omega
          have b6:=cL I (by omega)
          generalize hw:e - I=w at *;simp [F.f166_j1,b5',c3',b6];obtain ⟨D,hD⟩:∃ D,D=shiftUp bS e (I+1) d3:=⟨_,rfl⟩;rw [<- hD] at r3;refine aM.ind (fun mm l H'=>∃ (q:Nat) (d4:Array (BitVec 16)),l=[slc b 0 n c,vi a,vi e,vi I,vi k,vi q]/\cS H b u16 tail f d4 H'/\d4.size=n/\D=shiftUp bS e q d4/\1<=q/\q<=e/\mm=e - q) ?_ (e - (I+1)) ⟨I+1,d3,by simp,s3,n3,hD,by omega,by omega,rfl⟩
          rintro mm _ H4 X5 hX5 ⟨q,d4,rfl,s4,n4,r4,hq1,hq2,rfl⟩;rw [shiftUp] at r4
          have done:D=d4->X [slc b 0 n c,vi a,vi e,vi I,vi k'] H4:=by
            rintro rfl;exact hX I D H4 s4 n4 r3 hi3 (by omega)
          by_cases c4:q<e
          · have c4':(q:Int)<e:=by omega
            rw [if_pos c4] at r4;have b7:=eC q (by omega) (by omega)
            have b8:=cL q (by omega)
            have f1:=cK (b:=b) (c:=c) (n:=n) (i:=q) (by omega)
            have f2:=cK (b:=b) (c:=c) (n:=n) (i:=q - 1) (by omega)
            have g1:=bD s4.get (i:=q) (by omega)
            have g2:=bD s4.get (i:=q - 1) (by omega)
            obtain ⟨w1,w2⟩:=fA bH s4.get (i:=q) (j:=q - 1) (by omega) (by omega)
            have hY:=fun (d5:Array (BitVec 16)) H5 q1 q2 q3=>hX5 (e - (q+1)) (by omega) [slc b 0 n c,vi a,vi e,vi I,vi k,vi ((q+1:Nat):Int)] H5 ⟨q+1,d5,rfl,q1,q2,q3,by omega,by omega,rfl⟩
            generalize hq':q - 1=q' at *;generalize hq'':q+1=q'' at *;simp [-aJ,-aN,F.f166_l3,c4',b7,f1,f2,g1,g2];refine S.f11 hE _ _ ?_
            by_cases hl:bS d4[q]! d4[q']! = true
            · simp only [hl,Bool.not_true,Bool.false_eq_true,if_false] at r4
              simp [-aJ,-aN,hl,b7,b8,f1,f2,g1,g2,w1,w2];exact hY _ _ (s4.put _) (by rw [size_swp]; exact n4) r4
            · have hl:bS d4[q]! d4[q']! = false:=by simpa using hl
              simp only [hl,Bool.not_false,if_true] at r4;simp [hl,hkk];exact done r4
          · have c4':¬ (q:Int)<e:=by omega
            rw [if_neg c4] at r4;simp [F.f166_l3,c4',hkk];exact done r4
        · rw [if_neg c3] at r3
          have c3':¬ (2:Int)<=((e - I:Nat):Int):=by omega
          generalize hw:e - I=w at *;simp [F.f166_j1,b5',c3',hkk];exact hX I d3 H3 s3 n3 r3 hi3 hi4
      unfold fixDown at r1
      by_cases c3:I - a>=2
      · rw [if_pos c3] at r1
        have c3':(2:Int)<=((I - a:Nat):Int):=by omega
        obtain ⟨D,hD⟩:∃ D,D=shiftDown bS (I - 1) (swp d1 I (I - 1)):=⟨_,rfl⟩;rw [<- hD] at r1
        have goal4:aM (fun l H X1=>F.f166_l4 E Q X (nth l 0) (nth l 1) (nth l 2) (nth l 3) (nth l 4) (nth l 5) H X1) [slc b 0 n c,vi a,vi e,vi I,vi k,vi ((I - 1:Nat):Int)] (H1.put b (gY u16 (swp d1 I (I - 1)) tail f)):=by
          refine aM.ind (fun mm l H'=>∃ (q:Nat) (d4:Array (BitVec 16)),l=[slc b 0 n c,vi a,vi e,vi I,vi k,vi q]/\cS H b u16 tail f d4 H'/\d4.size=n/\D=shiftDown bS q d4/\q<n/\mm=q) ?_ (I - 1) ⟨I - 1,_,rfl,s2,n2,hD,by omega,rfl⟩
          rintro mm _ H4 X5 hX5 ⟨q,d4,rfl,s4,n4,r4,hq1,rfl⟩;cases mm with
          | zero =>
            simp [F.f166_l4];rw [shiftDown] at r4;subst r4;exact j1 _ _ s4 n4 r1
          | succ q =>
            have c4':(1:Int)<=((q+1:Nat):Int):=by omega
            rw [shiftDown] at r4;have b7:aA .sub (vi ((q+1:Nat):Int)) (.int .i64 1)=some (vi (q:Int)):=eC (q+1) (by omega) (by omega)
            have f1:=cK (b:=b) (c:=c) (n:=n) (i:=q+1) (by omega)
            have f2:=cK (b:=b) (c:=c) (n:=n) (i:=q) (by omega)
            have g1:=bD s4.get (i:=q+1) (by omega)
            have g2:=bD s4.get (i:=q) (by omega)
            obtain ⟨w1,w2⟩:=fA bH s4.get (i:=q+1) (j:=q) (by omega) (by omega)
            have hY:=fun (d5:Array (BitVec 16)) H5 q1 q2 q3=>hX5 q (by omega) [slc b 0 n c,vi a,vi e,vi I,vi k,vi (q:Int)] H5 ⟨q,d5,rfl,q1,q2,q3,by omega,rfl⟩
            generalize hq':q+1=q' at *;simp [-aJ,-aN,F.f166_l4,c4',b7,f1,f2,g1,g2];refine S.f11 hE _ _ ?_
            by_cases hl:bS d4[q']! d4[q]! = true
            · simp only [hl,Bool.not_true,Bool.false_eq_true,if_false] at r4
              simp [-aJ,-aN,hl,b7,f1,f2,g1,g2,w1,w2];exact hY _ _ (s4.put _) (by rw [size_swp]; exact n4) r4
            · have hl:bS d4[q']! d4[q]! = false:=by simpa using hl
              simp only [hl,Bool.not_false,if_true] at r4;simp [hl];subst r4;exact j1 _ _ s4 n4 r1
        generalize hI':I - 1=I' at *;generalize hw:e - a=w at *;generalize hw2:I - a=w2' at *;simp [-aJ,-aN,c1',b2',c2',b3,b4',f1,f2,g1,g2,w1,w2,c3'];exact goal4
      · rw [if_neg c3] at r1
        have c3':¬ (2:Int)<=((I - a:Nat):Int):=by omega
        have:=j1 _ _ s2 n2 r1;generalize hI':I - 1=I' at *;generalize hw:e - a=w at *;generalize hw2:I - a=w2' at *;simp [-aJ,-aN,c1',b2',c2',b3,b4',f1,f2,g1,g2,w1,w2,c3'];exact this
    have b7:=cL i' (by omega)
    by_cases c4:i'<e
    · have c4':(i':Int)<e:=by omega
      have b6:=eC i' (by omega) (by omega)
      have f1:=cK (b:=b) (c:=c) (n:=n) (i:=i') (by omega)
      have f2:=cK (b:=b) (c:=c) (n:=n) (i:=i' - 1) (by omega)
      have g1:=bD s1.get (i:=i') (by omega)
      have g2:=bD s1.get (i:=i' - 1) (by omega)
      by_cases hl:bS d1[i']! d1[i' - 1]! = true
      · rw [if_neg (by simp [hl])] at r2
        have:=exit r2;clear exit hX1;generalize hI':i' - 1=I' at *;simp [-aJ,-aN,F.f166_l2,c4',b6,f1,f2,g1,g2];refine S.f11 hE _ _ ?_;simp only [hl];simp only [oU,Bool.not_true,dG,bE,aBd,iX,dX];exact this
      · have hl:bS d1[i']! d1[i' - 1]! = false:=by simpa using hl
        rw [if_pos (by simp [hl,c4])] at r2
        clear exit;have hX1:=hX1 (e - (i'+1)) (by omega) [slc b 0 n c,vi a,vi e,vi ((i'+1:Nat):Int),vi k] H1 ⟨rfl,i'+1,rfl,r2,by omega,by omega,rfl⟩
        generalize hI':i' - 1=I' at *;generalize hI'':i'+1=I'' at *;simp [-aJ,-aN,F.f166_l2,c4',b6,f1,f2,g1,g2];refine S.f11 hE _ _ ?_;simp [hl,b7];exact hX1
    · have c4':¬ (i':Int)<e:=by omega
      rw [if_neg (by simp [c4])] at r2
      have:=exit r2;clear exit hX1;simp only [F.f166_l2,fW,fV,gI,gJ,kI,aV,c4',decide_false,dG,bE,aDA,jC,dX];exact this
theorem S.f164 (hE:aU E) (hg:H.get b=gY u16 d tail f) (hn:d.size=n) (p q:Nat) (hp:p<n) (hq:q<n) (s k:Nat) (hs:H.get s = .cells [vi k] none) (hk:k<1000) (hsb:s≠b)
  (hQ:∀ r1 r2 k' H',((r1=p/\r2=q)\/(r1=q/\r2=p))->dT [s] H H'->H'.get s = .cells [vi (k':Nat)] none->k'<=k+1->Q (.tuple #[vi (r1:Nat),vi (r2:Nat)]) H') :
  E.call (E.fid i.f164) [slc b 0 n c,vi p,vi q,ptr s 0] H Q:=by
 apply hE.f164;have f1:=cK (b:=b) (c:=c) (n:=n) (i:=p) hp;have f2:=cK (b:=b) (c:=c) (n:=n) (i:=q) hq;have g1:=bD hg (i:=p) (by omega)
 have g2:=bD hg (i:=q) (by omega)
 have hlt:=AH.lt_cells hs;have b1:=cL k (by omega)
 simp [-aN,F.f164,f1,f2,g1,g2];refine S.f11 hE _ _ ?_
 by_cases hl:bS d[q]! d[p]! = true
 ·simp only [hl,gH,aB2,aN,hs,sL,List.getElem?_cons_zero,dG,bE,b1,aJ,aEQ,if_true,List.length_cons,List.length_nil,List.set_cons_zero]
  rw [if_pos (by omega),bE]
  exact hQ q p (k+1) _ (.inr ⟨rfl,rfl⟩) ((dT.refl _ _).put (.inl (by simp)) _) (AH.get_put_self _ _ hlt) (Nat.le_refl _)
 ·simp [hl]
  exact hQ p q k _ (.inl ⟨rfl,rfl⟩) (dT.refl _ _) hs (by omega)
theorem S.f162 (hE:aU E) (hg:H.get b=gY u16 d tail f) (hn:d.size=n) (p q r:Nat) (hp:p<n) (hq:q<n) (hr:r<n) (s k:Nat) (hs:H.get s = .cells [vi k] none) (hk:k<900) (hsb:s≠b)
  (hQ:∀ m k' H',(m=p\/m=q\/m=r)->dT [s] H H'->H'.get s = .cells [vi (k':Nat)] none->k'<=k+3->Q (vi (m:Nat)) H') :
  E.call (E.fid i.f162) [slc b 0 n c,vi p,vi q,vi r,ptr s 0] H Q:=by
 apply hE.f162;have keep:∀ {H'},dT [s] H H'->H'.get b=gY u16 d tail f:=fun o=>by rw [o.get (rI hg) (by simpa using Ne.symm hsb)]; exact hg
 simp only [F.f162];refine S.f164 hE hg hn p q hp hq s k hs (by omega) hsb fun a1 a2 k1 H1 e1 o1 s1 l1 =>?_
 simp;refine S.f164 hE (keep o1) hn a2 r (by omega) hr s k1 s1 (by omega) hsb fun a3 a4 k2 H2 e2 o2 s2 l2 =>?_
 have o12:=o1.trans' o2;simp;refine S.f164 hE (keep o12) hn a1 a3 (by omega) (by omega) s k2 s2 (by omega) hsb fun a5 a6 k3 H3 e3 o3 s3 l3 =>?_
 simp;exact hQ a6 k3 H3 (by omega) (o12.trans' o3) s3 (by omega)
theorem S.f161 (hE:aU E) (hg:H.get b=gY u16 d tail f) (hn:d.size=n) (hsz:n<2 ^ 60) (p:Nat) (hp0:1<=p) (hp:p+1<n) (s k:Nat) (hs:H.get s = .cells [vi k] none) (hk:k<900) (hsb:s≠b)
  (hQ:∀ m k' H',(p - 1<=m/\m<=p+1)->dT [s] H H'->H'.get s = .cells [vi (k':Nat)] none->k'<=k+3->Q (vi (m:Nat)) H') :
  E.call (E.fid i.f161) [slc b 0 n c,vi p,ptr s 0] H Q:=by
 apply hE.f161;have b1:=eC p hp0 (by omega)
 have b2:=cL p (by omega)
 simp only [F.f161,b1,b2,dG,bE];refine S.f162 hE hg hn (p - 1) p (p+1) (by omega) (by omega) hp s k hs hk hsb fun m k' H' e1 o1 s1 l1=>hQ m k' H' (by omega) o1 s1 l1
theorem S.f155 (hE:aU E) (hg:H.get b=gY u16 d tail f) (hn:d.size=n) (hsz:n<2 ^ 60) (a e:Nat) (hae:a+8<=e) (he:e<=n)
  (hQ:∀ (m:Nat) (h:Int) H',a<=m->m<e->Ext H H'->Q (.tuple #[vi m,vi h]) H'):E.call (E.fid i.f155) [slc b 0 n c,vi a,vi e] H Q:=by
 apply hE.f155;have a1:aA .sub (vi e) (vi a)=some (vi ((e - a:Nat):Int)):=dW e a (by omega) (by omega)
 have hbl:=rI hg;generalize hw:e - a=w at *;have a2:aA .quo (vi (w:Int)) (.int .i64 4)=some (vi ((w / 4:Nat):Int)):=kV w 4 (by decide) (by omega)
 have hq4:w / 4*4<=w:=Nat.div_mul_le_self _ _;have hq4':1<=w / 4:=by omega
 have hq50:50<=w->12<=w / 4:=fun h=>by omega
 generalize hq:w / 4=q at *;have m1:aA .mul (vi (q:Int)) (.int .i64 1)=some (vi ((q*1:Nat):Int)):=by rw [pW (by omega) (by omega)]; congr 2
 have m2:aA .mul (vi (q:Int)) (.int .i64 2)=some (vi ((q*2:Nat):Int)):=by rw [pW (by omega) (by omega)]; congr 2
 have m3:aA .mul (vi (q:Int)) (.int .i64 3)=some (vi ((q*3:Nat):Int)):=by rw [pW (by omega) (by omega)]; congr 2
 have p1:=dV a (q*1) (by omega)
 have p2:=dV a (q*2) (by omega)
 have p3:=dV a (q*3) (by omega)
 have c8:(8:Int)<=w:=by omega
 have hg1:(H.new (.cells [vi 0] none)).get b=gY u16 d tail f:=by rw [AH.get_new_lt _ _ hbl]; exact hg
 have hs1:(H.new (.cells [vi 0] none)).get H.next = .cells [vi ((0:Nat):Int)] none:=AH.get_new_self _ _;have hsb:H.next≠b:=by omega
 have x1:Ext H (H.new (.cells [vi 0] none)):=(Ext.refl H).new _;have ext_of:∀ {H'},dT [H.next] (H.new (.cells [vi 0] none)) H'->Ext H H':=fun o=>o.ext x1 (by simp)
 have keep:∀ {H'},dT [H.next] (H.new (.cells [vi 0] none)) H'->H'.get b=gY u16 d tail f:=fun o=>by rw [o.get (rI hg1) (by simpa using Ne.symm hsb)]; exact hg1
 have last:∀ (m k:Nat) H',a<=m->m<e->Ext H H'->H'.get H.next = .cells [vi (k:Nat)] none->F.f155_j1 E Q (ptr H.next 0) (vi m) H':=by
  intro m k H' h1 h2 e1 s1
  by_cases k0:(k:Int)=0
  ·simp [F.f155_j1,s1,k0]
   exact hQ m _ H' h1 h2 e1
  ·by_cases k12:(k:Int)=12
   ·simp [F.f155_j1,s1,k12]
    exact hQ m _ H' h1 h2 e1
   ·have k0':¬ k=0:=by omega
    simp [F.f155_j1,s1,k0',k12];exact hQ m _ H' h1 h2 e1
 have last2:∀ (x y z k:Nat) H',a<=x->x<e->a<=y->y<e->a<=z->z<e->dT [H.next] (H.new (.cells [vi 0] none)) H'->H'.get H.next = .cells [vi (k:Nat)] none->k<900->F.f155_j2 E Q (slc b 0 n c) (ptr H.next 0) (vi x) (vi y) (vi z) H':=by
  intro x y z k H' h1 h2 h3 h4 h5 h6 o1 s1 hk;simp only [F.f155_j2];refine S.f162 hE (keep o1) hn x y z (by omega) (by omega) (by omega) H.next k s1 hk hsb fun m k' H2 hm o2 s2 _ =>?_
  exact last m k' H2 (by omega) (by omega) (ext_of (o1.trans' o2)) s2
 by_cases c50:50<=w
 ·have c50':(50:Int)<=w:=by omega
  have hq50:=hq50 c50;have g1:a+1<=a+q*1/\a+q*1+1<e:=by omega
  have g2:a+1<=a+q*2/\a+q*2+1<e:=by omega
  have g3:a+1<=a+q*3/\a+q*3+1<e:=by omega
  generalize hx:a+q*1=x at *;generalize hy:a+q*2=y at *;generalize hz:a+q*3=z at *;generalize q*1=q1 at *;generalize q*2=q2 at *;generalize q*3=q3 at *;simp [F.f155,a1,a2,m1,m2,m3,p1,p2,p3,c8,c50'];refine S.f161 hE hg1 hn hsz x (by omega) (by omega) H.next 0 hs1 (by omega) hsb fun r1 k1 H1 e1 o1 s1 l1 =>?_
  refine S.f161 hE (keep o1) hn hsz y (by omega) (by omega) H.next k1 s1 (by omega) hsb fun r2 k2 H2 e2 o2 s2 l2 =>?_
  refine S.f161 hE (keep (o1.trans' o2)) hn hsz z (by omega) (by omega) H.next k2 s2 (by omega) hsb fun r3 k3 H3 e3 o3 s3 l3 =>?_
  exact last2 r1 r2 r3 k3 H3 (by omega) (by omega) (by omega) (by omega) (by omega) (by omega) ((o1.trans' o2).trans' o3) s3 (by omega)
 ·have c50':¬ (50:Int)<=w:=by omega
  have g1:a+q*1<e:=by omega
  have g2:a+q*2<e:=by omega
  have g3:a+q*3<e:=by omega
  have g0:a<=a+q*1/\a<=a+q*2/\a<=a+q*3:=by omega
  generalize hx:a+q*1=x at *;generalize hy:a+q*2=y at *;generalize hz:a+q*3=z at *;generalize q*1=q1 at *;generalize q*2=q2 at *;generalize q*3=q3 at *;simp [F.f155,a1,a2,m1,m2,m3,p1,p2,p3,c8,c50'];exact last2 x y z 0 _ g0.1 g1 g0.2.1 g2 g0.2.2 g3 (dT.refl _ _) hs1 (by omega)
theorem S.f153 (hE:aU E) (hg:H.get b=gY u16 d tail f) (hn:d.size=n) (hsz:n<2 ^ 31) (a e:Nat) (hae:a+8<=e) (he:e<=n)
  (hQ:∀ d' H',PermIn a e d d'->cS H b u16 tail f d' H'->Q (.tuple #[]) H'):E.call (E.fid i.f153) [slc b 0 n c,vi a,vi e] H Q:=by
 apply hE.f153;have a1:aA .sub (vi e) (vi a)=some (vi ((e - a:Nat):Int)):=dW e a (by omega) (by omega)
 have hbl:=rI hg;generalize hw:e - a=w at *;have a2:aA .quo (vi (w:Int)) (.int .i64 4)=some (vi ((w / 4:Nat):Int)):=kV w 4 (by decide) (by omega)
 have hq4:w / 4*4<=w:=Nat.div_mul_le_self _ _;have hq4':2<=w / 4:=by omega
 generalize hq:w / 4=q at *;have m2:aA .mul (vi (q:Int)) (.int .i64 2)=some (vi ((q*2:Nat):Int)):=by rw [pW (by omega) (by omega)]; congr 2
 have p2:=dV a (q*2) (by omega)
 have p3:=eC (a+q*2) (by omega) (by omega)
 have p4:=cL (a+q*2) (by omega)
 have c8:(8:Int)<=w:=by omega
 have hc:aR .u64 (vi (w:Int))=some (u64 (BitVec.ofNat 64 w)):=by rw [fZ,BitVec.ofInt_natCast]
 have hm2:2 ^ bitsLen w<=2*w:=two_pow_bitsLen_le (by omega)
 have hm1:=Nat.two_pow_pos (bitsLen w);generalize hM:2 ^ bitsLen w=M at *;have gx:a+1<=a+q*2/\a+q*2+1<e:=by omega
 generalize hx:a+q*2=x at *;generalize q*2=q2 at *;have x1:Ext H (H.new (.cells [u64 (BitVec.ofNat 64 w)] none)):=(Ext.refl H).new _;simp [F.f153,a1,a2,m2,p2,p3,c8,hc];refine S.f163 hE w (by omega) ?_
 rw [hM];simp [a2,m2,p2,p3]
 refine aM.ind (fun m l H'=>∃ (j:Nat) (d1:Array (BitVec 16)) (y:BitVec 64),l=[slc b 0 n c,vi a,vi w,ptr H.next 0,u64 (BitVec.ofNat 64 M),vi j]/\cS H b u16 tail f d1 H'/\d1.size=n/\PermIn a e d d1/\H'.get H.next = .cells [u64 y] none/\a<=j/\j<=x+2/\m=x+2 - j) ?_ (x+2 - (x - 1))
  ⟨x - 1,d,_,by simp,⟨x1.only,by rw [AH.get_new_lt _ _ hbl]; exact hg⟩,hn,permIn_refl _ _ _,AH.get_new_self _ _,by omega,by omega,rfl⟩
 rintro m _ H1 X hX ⟨j,d1,y,rfl,s1,n1,pp,hb1,hj1,hj2,rfl⟩
 by_cases cj:j<=x+1
 ·have cj':(j:Int)<=((x+1:Nat):Int):=by omega
  have pj:=cL j (by omega)
  have fin:∀ (o:Nat) (y':BitVec 64),o<w->F.f153_j1 E Q X (slc b 0 n c) (vi a) (vi w) (ptr H.next 0) (u64 (BitVec.ofNat 64 M)) (vi j) (vi o) (H1.put H.next (.cells [u64 y'] none)):=by
   intro o y' ho;have hnb:b≠H.next:=by omega
   have s2:cS H b u16 tail f d1 (H1.put H.next (.cells [u64 y'] none)):=⟨s1.only.put (.inr (Nat.le_refl _)) _,by rw [AH.get_put_ne _ _ hnb]; exact s1.get⟩
   have pa:=dV a o (by omega)
   have f1:=cK (b:=b) (c:=c) (n:=n) (i:=j) (by omega)
   have f2:=cK (b:=b) (c:=c) (n:=n) (i:=a+o) (by omega)
   have g1:=bD s2.get (i:=j) (by omega)
   have g2:=bD s2.get (i:=a+o) (by omega)
   obtain ⟨w1,w2⟩:=fA bH s2.get (i:=j) (j:=a+o) (by omega) (by omega)
   have hpp:=swp_permIn d1 a e j (a+o) hj1 (by omega) (by omega) (by omega) (by omega)
   have hX:=hX (x+2 - (j+1)) (by omega) [slc b 0 n c,vi a,vi w,ptr H.next 0,u64 (BitVec.ofNat 64 M),vi ((j+1:Nat):Int)] _ ⟨j+1,_,y',rfl,s2.put (swp d1 j (a+o)),by rw [size_swp]; exact n1,permIn_trans _ _ _ _ _ pp hpp,by rw [AH.get_put_ne _ _ (Ne.symm hnb),AH.get_put_self _ _ (AH.lt_cells hb1)],by omega,by omega,rfl⟩
   generalize a+o=ao at *;generalize hj'':j+1=j' at *;simp [-aJ,-aN,F.f153_j1,pa,f1,f2,g1,g2,w1,w2,pj];exact hX
  generalize hx1:x+1=x' at *;simp [F.f153_l1,a2,m2,p2,p4,cj'];refine S.f178 hE H.next y hb1 fun y' =>?_;have l1:(.int .u64 1:Value)=u64 1#64:=rfl
  have hsub:BitVec.ofNat 64 M - 1#64=BitVec.ofNat 64 (M - 1):=by
   apply BitVec.eq_of_toNat_eq;rw [BitVec.toNat_sub,BitVec.toNat_ofNat,BitVec.toNat_ofNat,BitVec.toNat_ofNat];omega
  have hand:(y'&&&BitVec.ofNat 64 (M - 1)).toNat<=M - 1:=by
   rw [BitVec.toNat_and];refine Nat.le_trans Nat.and_le_right ?_;rw [BitVec.toNat_ofNat];exact Nat.mod_le _ _
  have hcv:∀ z:BitVec 64,z.toNat<2 ^ 62->aR .i64 (u64 z)=some (vi (z.toNat:Int)):=by
   intro z hz;rw [eV,dC,iJ (by omega) (by omega)]
  have hcv':=hcv _ (by omega:(y'&&&BitVec.ofNat 64 (M - 1)).toNat<2 ^ 62)
  simp only [l1,aL2,hsub,aLo,hcv',dG,bE,eP,fW,fV,gI,gJ,kI,nN];generalize (y'&&&BitVec.ofNat 64 (M - 1)).toNat=o at *
  by_cases co:w<=o
  ·have co':(w:Int)<=o:=by omega
   have hs:aA .sub (vi (o:Int)) (vi (w:Int))=some (vi ((o - w:Nat):Int)):=dW o w co (by omega)
   simp only [co',decide_true,gH,hs,dG,bE,fW,fV,gI,gJ,kI,nN];exact fin (o - w) y' (by omega)
  ·have co':¬ (w:Int)<=o:=by omega
   simp only [co',decide_false,dX,fW,fV,gI,gJ,kI,nN];exact fin o y' (by omega)
 ·have cj':¬ (j:Int)<=((x+1:Nat):Int):=by omega
  generalize hx1:x+1=x' at *;simp [F.f153_l1,a2,m2,p2,p4,cj'];exact hQ d1 H1 pp s1
theorem S.f172 (hE:aU E) (hS:SWO bS):∀ (w:Nat) {H:AH} {Q:Value->AH->Prop} {d:Array (BitVec 16)} (_:H.get b=gY u16 d tail f) (_:d.size=n) (_:n<2 ^ 31) (a e:Nat) (_:a<=e) (_:e<=n) (limit:Nat) (_:limit<2 ^ 60) (_:Go.Sort.Below bS a e d) (_:e - a<=w)
    (_:∀ d' H',PermIn a e d d'->SortedIn bS a e d'->cS H b u16 tail f d' H'->Q (.tuple #[]) H'),E.call (E.fid i.f172) [slc b 0 n c,vi a,vi e,vi limit] H Q:=by
  intro w
  induction w using Nat.strongRecOn with
  | _ w ih =>
  intro H Q d hg hn hsz a0 e0 hae0 he0 limit0 hlim0 hB0 hw hQ;apply hE.f172;simp only [F.f172]
  refine aM.ind (fun m l H'=>∃ (a e limit:Nat) (wb wp:Bool) (d1:Array (BitVec 16)),l=[slc b 0 n c,vi a,vi e,vi limit,vb wb,vb wp]/\cS H b u16 tail f d1 H'/\d1.size=n/\a<=e/\e<=n/\limit<2 ^ 60/\e - a<=w/\Go.Sort.Below bS a e d1 /\
      (∀ R,PermIn a e d1 R->SortedIn bS a e R->PermIn a0 e0 d R/\SortedIn bS a0 e0 R)/\m=e - a) ?_ (e0 - a0) ⟨a0,e0,limit0,true,true,d,rfl,.refl hg,hn,hae0,he0,hlim0,hw,hB0,fun R h1 h2=>⟨h1,h2⟩,rfl⟩
  rintro m _ H1 X hX ⟨a,e,limit,wb,wp,d1,rfl,s1,n1,hae,hen,hlim,hwe,hB,fin,rfl⟩;have a1:aA .sub (vi e) (vi a)=some (vi ((e - a:Nat):Int)):=dW e a (by omega) (by omega)
  by_cases c12:e - a<=12
  · have c12':((e - a:Nat):Int)<=12:=by omega
    generalize hW:e - a=W at *;simp [F.f172_l1,a1,c12'];refine S.f160 hE s1.get n1 (by omega) a e hae hen fun H2 s2 =>?_
    obtain ⟨h1,h2⟩:=insertionSort_holds hS d1 a e hae (by omega)
    obtain ⟨h3,h4⟩:=fin _ h1 h2;exact hQ _ _ h3 h4 (s1.trans s2)
  have c12':¬ ((e - a:Nat):Int)<=12:=by omega
  by_cases c0:limit=0
  · subst c0
    generalize hW:e - a=W at *;simp [F.f172_l1,a1,c12'];refine S.f157 hE s1.get n1 (by omega) a e (by omega) hen fun H2 s2 =>?_
    obtain ⟨h1,h2⟩:=heapSort_holds hS d1 a e hae (by omega)
    obtain ⟨h3,h4⟩:=fin _ h1 h2;exact hQ _ _ h3 h4 (s1.trans s2)
  have c0':¬ (limit:Int)=0:=by omega
  have w8:aA .quo (vi ((e - a:Nat):Int)) (.int .i64 8)=some (vi (((e - a) / 8:Nat):Int)):=kV (e - a) 8 (by decide) (by omega)
  have j3:∀ (d3:Array (BitVec 16)) H3 (lim:Nat) (wb wp:Bool) (pv:Nat),cS H b u16 tail f d3 H3->d3.size=n->PermIn a e d1 d3->lim<2 ^ 60->a<=pv->pv<e->F.f172_j3 E Q X (slc b 0 n c) (vi a) (vi e) (vi lim) (vb wb) (vb wp) (vi ((e - a:Nat):Int)) (vi pv) H3:=by
    intro d3 H3 lim wb wp pv s3 n3 p3 hlim hp1 hp2;have B3:Go.Sort.Below bS a e d3:=hB.permA permIn_all (by omega) p3
    have fin3:∀ R,PermIn a e d3 R->SortedIn bS a e R->PermIn a0 e0 d R/\SortedIn bS a0 e0 R:=fun R h1 h2=>fin R (permIn_trans _ _ _ _ _ p3 h1) h2
    have part:∀ (K:Value->AH->Prop),(K=fun v15 H13 =>
         opt (ext v15 0) fun v16 =>
         opt (ext v15 1) fun v17 =>
         opt (aA .sub v16 (vi a)) fun v18 =>
         opt (aA .sub (vi e) v16) fun v19 =>
         opt (aA .quo (vi ((e - a:Nat):Int)) (.int .i64 8)) fun v20 =>
         opt (aA .lss v18 v19) fun v21 =>
         ifB v21 (
         opt (aA .geq v18 v20) fun v22 =>
         E.call (E.fid i.f172) [slc b 0 n c,vi a,v16,vi lim] H13 fun v23 H14 =>
         opt (aA .add v16 (.int .i64 1)) fun v24 =>
         X [slc b 0 n c,v24,vi e,vi lim,v22,v17] H14) (
         opt (aA .geq v19 v20) fun v25 =>
         opt (aA .add v16 (.int .i64 1)) fun v26 =>
         E.call (E.fid i.f172) [slc b 0 n c,v26,vi e,vi lim] H13 fun v27 H15 =>
         X [slc b 0 n c,vi a,v16,vi lim,v25,v17] H15))->E.call (E.fid i.f170) [slc b 0 n c,vi a,vi e,vi pv] H3 K:=by
      rintro K rfl;refine S.f170 hE s3.get n3 (by omega) a e pv hp1 hp2 hen fun H4 s4 =>?_
      rcases hx:partition bS d3 a e pv with ⟨mid,ap,d4⟩
      rw [hx] at s4;obtain ⟨g1,g2,hs4,hBa,hBr,hl,hr⟩:=round_part hS (partition_holds bS) hp1 hp2 (by omega) B3 hx
      have n4:d4.size=n:=by omega
      have s4':=s3.trans s4;have b1:aA .sub (vi mid) (vi a)=some (vi ((mid - a:Nat):Int)):=dW mid a g1 (by omega)
      have b2:aA .sub (vi e) (vi mid)=some (vi ((e - mid:Nat):Int)):=dW e mid (by omega) (by omega)
      have b3:=cL mid (by omega)
      simp only [dG,cZ,List.getElem?_cons_zero,List.getElem?_cons_succ,bE,b1,b2,b3,w8,aV,eP]
      by_cases cl:mid - a<e - mid
      · have cl':((mid - a:Nat):Int)<((e - mid:Nat):Int):=by omega
        simp only [cl',decide_true,dG,gH,eP,bE];refine ih (mid - a) (by omega) s4'.get n4 hsz a mid g1 (by omega) lim hlim hBa (Nat.le_refl _) fun d5 H5 p5 q5 s5 =>?_
        obtain ⟨hBL,hfin⟩:=hl d5 p5 q5;have n5:d5.size=n:=by rw [p5.1]; exact n4
        simp only [b3,dG,bE]
        exact hX (e - (mid+1)) (by omega) _ _ ⟨mid+1,e,lim,_,ap,d5,rfl,s4'.trans s5,n5,by omega,hen,hlim,by omega,hBL,fun R h1 h2=>by
          obtain ⟨h3,h4⟩:=hfin R h1 h2;exact fin3 R h3 h4,rfl⟩
      · have cl':¬ ((mid - a:Nat):Int)<((e - mid:Nat):Int):=by omega
        simp only [cl',decide_false,dG,dX,eP,bE,b3];refine ih (e - (mid+1)) (by omega) s4'.get n4 hsz (mid+1) e (by omega) hen lim hlim hBr (Nat.le_refl _) fun d5 H5 p5 q5 s5 =>?_
        obtain ⟨hBL,hfin⟩:=hr d5 p5 q5;have n5:d5.size=n:=by rw [p5.1]; exact n4
        exact hX (mid - a) (by omega) _ _ ⟨a,mid,lim,_,ap,d5,rfl,s4'.trans s5,n5,g1,by omega,hlim,by omega,hBL,fun R h1 h2=>by
          obtain ⟨h3,h4⟩:=hfin R h1 h2;exact fin3 R h3 h4,rfl⟩
    by_cases ca:0<a
    · have ca':(0:Int)<a:=by omega
      have b1:=eC a (by omega) (by omega)
      have f1:=cK (b:=b) (c:=c) (n:=n) (i:=a - 1) (by omega)
      have f2:=cK (b:=b) (c:=c) (n:=n) (i:=pv) (by omega)
      have g1:=bD s3.get (i:=a - 1) (by omega)
      have g2:=bD s3.get (i:=pv) (by omega)
      have part:=part _ rfl
      by_cases hl:bS d3[a - 1]! d3[pv]! = true
      · generalize hW:e - a=W at *
        generalize hA:a - 1=a1 at *;simp [-aJ,-aN,F.f172_j3,ca',ca,b1,f1,f2,g1,g2];refine S.f11 hE _ _ ?_;simp only [hl];simp only [oU,Bool.not_true,dG,bE,aBd,iX,dX];exact part
      · have hl:bS d3[a - 1]! d3[pv]! = false:=by simpa using hl
        clear part;rcases hx:partitionEqual bS d3 a e pv with ⟨mid,d4⟩
        obtain ⟨g3,g4,hs4,hB4,hfin⟩:=round_eq hS (partitionEqual_holds bS) ca hp1 hp2 (by omega) B3 hl hx
        have hY:=fun H4 s4=>hX (e - mid) (by omega) [slc b 0 n c,vi mid,vi e,vi lim,vb wb,vb wp] H4 ⟨mid,e,lim,wb,wp,d4,rfl,s4,by omega,g4,hen,hlim,by omega,hB4,fun R h1 h2=>by
            obtain ⟨h3,h4⟩:=hfin R h1 h2;exact fin3 R h3 h4,rfl⟩
        generalize hW:e - a=W at *;generalize hA:a - 1=a1 at *;simp [-aJ,-aN,F.f172_j3,ca',ca,b1,f1,f2,g1,g2];refine S.f11 hE _ _ ?_;simp [hl];refine S.f169 hE s3.get n3 (by omega) a e pv hp1 hp2 hen fun H4 s4 =>?_
        rw [hx] at s4 ⊢;exact hY H4 (s3.trans s4)
    · have ca':¬ (0:Int)<a:=by omega
      have part:=part _ rfl;generalize hW:e - a=W at *;simp only [F.f172_j3,gC,ca',decide_false,dG,bE,aDA,jC,dX];exact part
  have j2:∀ (d3:Array (BitVec 16)) H3 (lim:Nat) (wb wp:Bool) (pv:Nat) (hint:Int),cS H b u16 tail f d3 H3->d3.size=n->PermIn a e d1 d3->lim<2 ^ 60->a<=pv->pv<e->F.f172_j2 E Q X (slc b 0 n c) (vi a) (vi e) (vi lim) (vb wb) (vb wp) (vi ((e - a:Nat):Int)) (vi pv) (vi hint) H3:=by
    intro d3 H3 lim wb wp pv hint s3 n3 p3 hlim hp1 hp2;have B3:Go.Sort.Below bS a e d3:=hB.permA permIn_all (by omega) p3
    have h3:=j3 d3 H3 lim wb wp pv s3 n3 p3 hlim hp1 hp2
    have try_:E.call (E.fid i.f166) [slc b 0 n c,vi a,vi e] H3 fun v6 H4=>ifB v6 (Q (.tuple #[]) H4) (F.f172_j3 E Q X (slc b 0 n c) (vi a) (vi e) (vi lim) (vb wb) (vb wp) (vi ((e - a:Nat):Int)) (vi pv) H4):=by
      refine S.f166 hE s3.get n3 (by omega) a e (by omega) hen fun H4 s4 =>?_
      obtain ⟨q1,q2⟩:=partialInsertionSort_holds hS d3 a e (by omega) (by omega) B3
      cases hb:(partialInsertionSort bS d3 a e).2 with
      | true =>
        obtain ⟨h5,h6⟩:=fin _ (permIn_trans _ _ _ _ _ p3 q1) (q2 hb);simp only [gH];exact hQ _ _ h5 h6 (s3.trans s4)
      | false =>
        simp only [dX];exact j3 _ H4 lim wb wp pv (s3.trans s4) (by rw [q1.1]; exact n3) (permIn_trans _ _ _ _ _ p3 q1) hlim hp1 hp2
    cases wb with
    | false =>
      simp only [F.f172_j2,aDA,jC,dG,bE,dX];exact h3
    | true =>
      cases wp with
      | false =>
        simp only [F.f172_j2,aBd,aDA,iX,jC,dG,bE,dX];exact h3
      | true =>
        by_cases ch:hint=1
        · simp only [F.f172_j2,aBd,iX,dG,bE,eU,ch,decide_true,gH]
          exact try_
        · simp only [F.f172_j2,aBd,iX,dG,bE,eU,ch,decide_false,dX]
          exact h3
  have j1:∀ (d3:Array (BitVec 16)) H3 (lim:Nat) (wb wp:Bool),cS H b u16 tail f d3 H3->d3.size=n->PermIn a e d1 d3->lim<2 ^ 60->F.f172_j1 E Q X (slc b 0 n c) (vi a) (vi e) (vi lim) (vb wb) (vb wp) (vi ((e - a:Nat):Int)) H3:=by
    intro d3 H3 lim wb wp s3 n3 p3 hlim;simp only [F.f172_j1];refine S.f155 hE s3.get n3 (by omega) a e (by omega) hen fun pv hint H4 hp1 hp2 e4 =>?_
    have s4:=s3.ext e4;simp only [dG,cZ,List.getElem?_cons_zero,List.getElem?_cons_succ,bE,eU]
    by_cases ch:hint=2
    · simp only [ch,decide_true,gH]
      refine S.f174 hE s4.get n3 (by omega) a e (by omega) hen fun H5 s5 =>?_
      have q1:=reverseRange_holds d3 a e hae (by omega)
      have b1:=eC e (by omega) (by omega)
      have b2:aA .sub (vi pv) (vi a)=some (vi ((pv - a:Nat):Int)):=dW pv a hp1 (by omega)
      have b3:aA .sub (vi ((e - 1:Nat):Int)) (vi ((pv - a:Nat):Int))=some (vi ((e - 1 - (pv - a):Nat):Int)):=dW (e - 1) (pv - a) (by omega) (by omega)
      simp only [b1,b2,b3,dG,bE];exact j2 _ H5 lim wb wp _ 1 (s4.trans s5) (by rw [q1.1]; exact n3) (permIn_trans _ _ _ _ _ p3 q1) hlim (by omega) (by omega)
    · simp only [ch,decide_false,dX]
      exact j2 d3 H4 lim wb wp pv hint s4 n3 p3 hlim hp1 hp2
  cases wb with
  | true =>
    have:=j1 d1 H1 limit true wp s1 n1 (permIn_refl _ _ _) hlim;generalize hW:e - a=W at *;simp only [F.f172_l1,fW,fV,gI,gJ,kI,nN,a1,c12',c0',tL,eU,decide_false,oU,Bool.not_true,dG,bE,dX];exact this
  | false =>
    have b1:=eC limit (by omega) (by omega)
    have go:=fun d' H' p' s'=>j1 d' H' (limit - 1) false wp s' (by rw [(p':PermIn a e d1 d').1]; exact n1) p' (by omega)
    generalize hW:e - a=W at *;simp only [F.f172_l1,fW,fV,gI,gJ,kI,nN,a1,c12',c0',tL,eU,decide_false,oU,Bool.not_false,dG,bE,dX,gH];refine S.f153 hE s1.get n1 hsz a e (by omega) hen fun d' H' p' s' =>?_
    simp only [b1,dG,bE];exact go d' H' p' (s1.trans s')
theorem S.f151 (hE:aU E) (hS:SWO bS) (hg:H.get b=gY u16 d tail f) (hn:d.size=n) (hsz:n<2 ^ 31)
  (hQ:∀ d' H',PermIn 0 n d d'->SortedIn bS 0 n d'->cS H b u16 tail f d' H'->Q (.tuple #[]) H'):E.call (E.fid i.f151) [slc b 0 n c] H Q:=by
 apply hE.f151;have e1:(BitVec.ofNat 64 n).toNat=n:=by rw [BitVec.toNat_ofNat,Nat.mod_eq_of_lt (by omega)]
 have hc:aR .u64 (vi (n:Int))=some (u64 (BitVec.ofNat 64 n)):=by rw [fZ,BitVec.ofInt_natCast]
 simp only [F.f151,oJ,hc,dG,bE];refine S.f105 hE _ (by rw [e1]; omega) ?_
 rw [e1];have hl:bitsLen n<=31:=by rw [bitsLen_le_iff]; exact hsz
 exact S.f172 hE hS n hg hn hsz 0 n (Nat.zero_le _) (Nat.le_refl _) _ (by omega) (.inl rfl) (by omega) hQ
theorem S.slices_Sort_inode_Number_nil (hE:aU E) (a:Option Addr) (hQ:Q (.tuple #[]) H):E.call (E.fid i.f151) [.slice a 0 0] H Q:=by
 apply hE.f151;have hc:aR .u64 (vi 0)=some (u64 0#64):=by rw [fZ]; rfl
 have hd:aA .sub (vi 0) (vi 0)=some (vi 0):=fE (by decide) (by decide)
 simp [F.f151,hc];refine S.f105 hE _ (by decide) ?_
 apply hE.f172;simp only [F.f172];refine aM.step fun X _ =>?_;simp [F.f172_l1,hd];apply hE.f160;have ha:aA .add (vi 0) (vi 1)=some (vi 1):=iQ (by decide) (by decide)
 simp [F.f160,ha];refine aM.step fun X _ =>?_;simp [F.f160_l1];exact hQ
end
end Go.AM
end
section
namespace Go.AM
open Go.Sort (SWO PermIn SortedIn)
theorem aCM {α:Type} [Inhabited α] {lt:α->α->Bool} (hS:SWO lt) (htri:∀ a b,lt a b=false->lt b a=false->a=b) {n:Nat} {d d':Array α} (hn:d.size=n) (hp:PermIn 0 n d d') (hs:SortedIn lt 0 n d') {L:List α} (hL:d.toList.Perm L)
  (hR:L.Pairwise fun a b=>lt a b=true):d'.toList=L:=by
 have hsz:d'.size=n:=hp.1.trans hn;have e1:(d'.extract 0 n).toList=d'.toList:=by rw [<- hsz]; simp
 have e2:(d.extract 0 n).toList=d.toList:=by rw [<- hn]; simp
 have hpp:=hp.2.2;rw [e1,e2] at hpp;refine List.Perm.eq_of_pairwise (le:=fun a b=>lt b a=false) (fun a b _ _ h1 h2=>htri a b h2 h1) ?_ ?_ (hpp.trans hL)
 ·rw [List.pairwise_iff_getElem]
  intro i j hi hj hij;have:=hs i j (Nat.zero_le _) hij (by rw [<- hsz]; simpa using hj)
  have hi':i<d'.size:=by simpa using hi
  have hj':j<d'.size:=by simpa using hj
  simpa [hi',hj'] using this
 ·refine hR.imp fun {a b} hab =>?_
  cases hba:lt b a with
  | false=>rfl
  | true =>
   have:=hS.trans a b a hab hba;rw [hS.irrefl] at this;simp at this
theorem dO.arr {α:Type} [Inhabited α] {enc:α->Value} (hp:∀ x,plain1 (enc x)=true) {H:AH} {v:Value} {xs:List α} (g:dO zH H 1 v (xs.map fun x=>[enc x])) (hne:xs≠[]) :
  ∃ b f c tail,v=slc b 0 xs.length c/\H.get b=gY enc xs.toArray tail f/\∀ (ys:List α) (H':AH),ys.length=xs.length->H'.get b=gY enc ys.toArray tail f->dO zH H' 1 v (ys.map fun x=>[enc x]):=by
 have fl:∀ l:List α,(l.map fun x=>[enc x]).flatten=l.map enc:=by
  intro l
  induction l with
  | nil=>rfl
  | cons a l ih=>simp [ih]
 rcases g.2 with ⟨h,_⟩ | ⟨b,f,c,cs,g1,rfl,g3,g4,g5,g6,g7⟩
 ·exact (hne (by simpa using h)).elim
 ·rw [fl,Nat.mul_one] at g6
  simp only [List.length_map] at g4 g6 ⊢;have hcs:cs=xs.map enc++cs.drop xs.length:=by rw [<- g6,List.take_append_drop]
  refine ⟨b,f,c,cs.drop xs.length,rfl,?_,fun ys H' hl hg =>?_⟩
  ·rw [g3,gY]; congr 1
  ·refine ⟨fun r hr =>?_,.inr ⟨b,f,c,ys.map enc++cs.drop xs.length,g1,by simp [hl],hg,by simpa [hl] using g4,?_,?_,g7⟩⟩
   ·obtain ⟨x,_,rfl⟩:=List.mem_map.1 hr
    exact ⟨rfl,by simp [hp]⟩
   ·have:cs.length=(xs.map enc++cs.drop xs.length).length:=congrArg List.length hcs
    simp at this;simp [hl]; omega
   ·rw [fl]
    simp [hl]
theorem aGV (a b:BitVec 16) (h:bS a b=false) (h':bS b a=false):a=b:=by
 simp only [bS,decide_eq_false_iff_not] at h h';exact BitVec.eq_of_toNat_eq (by omega)
def aCK (l:List (BitVec 16)):List (List Value):=l.map fun s=>[u16 s]
theorem aDm (l:List (BitVec 16)):(aCK l).length=l.length:=by simp [aCK]
end Go.AM
end
section
namespace Go.AM
section
variable {E:Sy} {H:AH} {Q:Value->AH->Prop} {t:Nat} {T:Tr} {M:List eI}
theorem iI (b o:Nat):bW dB .eql (ptr b o) (.pointer none)=some (.bool false):=rfl
end
end Go.AM
end
section
namespace Go.AM
section
variable {E:Sy} {H H' H0 Z:AH} {Q:Value->AH->Prop} {t:Nat} {T:Tr} {M:List eI} {L:List Res}
theorem Has.callee (h:Has H0 Z H L) (e:Ext H H'):∃ Z',Fz H.next Z Z'/\Has H0 Z' H' L/\∀ sz v rows,Rows H' sz v rows->iA H.next v->Rows Z' sz v rows:=by
 have hg:∀ b,(AH.mk H'.next fun b=>if b<H.next then Z.get b else H'.get b).get b=if b<H.next then Z.get b else H'.get b:=by
  intro b;simp only [AH.get]
  by_cases hb:b<H'.next
  ·rw [if_pos hb]
  ·have h1:¬ b<H.next:=fun hb'=>hb (Nat.lt_of_lt_of_le hb' e.1)
   have h2:¬ b<H'.next:=hb;simp [h1,h2]
 refine ⟨⟨H'.next,fun b=>if b<H.next then Z.get b else H'.get b⟩,⟨⟨Nat.le_trans h.sub.1 e.1,fun b hb =>?_⟩,fun b hb=>by rw [hg,if_pos hb]⟩,?_,?_⟩
 ·rw [hg]
  split
  ·rfl
  ·rename_i hn
   exact (hb (AH.get_ge _ (Nat.le_trans h.sub.1 (by omega)))).elim
 ·refine h.refreeze e ⟨⟨Nat.le_trans h.sub.1 e.1,fun b hb =>?_⟩,fun b hb=>by rw [hg,if_pos hb]⟩ ⟨Nat.le_refl _,fun b hb =>?_⟩
  ·rw [hg]
   split
   ·rfl
   ·rename_i hn
    exact (hb (AH.get_ge _ (Nat.le_trans h.sub.1 (by omega)))).elim
  ·rw [hg] at hb ⊢
   split
   ·rename_i hlt
    rw [if_pos hlt] at hb;rw [e.get hlt];exact h.sub.2 b hb
   ·rfl
 ·intro sz v rows hr hf
  refine ⟨hr.len,?_⟩;rcases hr.at_ with g | ⟨b,o,c,g1,g2,g3,g4⟩
  ·exact .inl g
  ·by_cases hrn:rows=[]
   ·have hz:¬ b<H.next:=by
     have:=hf b (by rw [g1]; rfl)
     omega
    exact .inr ⟨b,o,c,g1,g2,by rw [hg,if_neg hz]; exact g3,by rw [hg,if_neg hz]; exact g4⟩
   ·have hz:¬ b<H.next:=by
     have:=hf b (by rw [g1]; rfl)
     omega
    exact .inr ⟨b,o,c,g1,g2,by rw [hg,if_neg hz]; exact g3,by rw [hg,if_neg hz]; exact g4⟩
end
end Go.AM
end
section
namespace Go.AM
structure aPN (H0 H:AH) (p m:Nat) (L:LyL) (T:Tr):Prop where
 ext:Ext H0 H
 ino:Ino H p m L T
 own:∀ b∈(uU p m L T).fp,H0.next<=b
section
variable {E:Sy} {H0 H H' H'':AH} {Q:Value->AH->Prop} {p m:Nat} {L L' L'':LyL} {T T' T'':Tr}
theorem S.f25' (hE:aU E) (limit:Int) (hQ:∀ p m L H',aPN H H' p m L (Tr.new limit)->Q (ptr p 0) H'):E.call (E.fid i.f25) [vi limit] H Q :=
 S.f25 hE limit fun p m L H' e h hf=>hQ p m L H' ⟨e,h,hf⟩
end
end Go.AM
end
section
namespace Go.AM
section
variable {E:Sy} {H H' H'':AH} {Q:Value->AH->Prop} {t:Nat} {nv nv' nv'' mv:Value} {nx:Int} {mr:List (List Value)} {T T' T'':Tr}
theorem aBJ (sz:Nat) (z:List Value) (hz:z.length=sz):bR 0 sz z.toArray []=some (.cells [] none,dN 0 0):=by
 rw [uA _ _ _ _ hz]; simp; rfl
end
end Go.AM
end
section
namespace Go.AM
def aAB (p m:Nat) (L:LyL) (T:Tr) (q:Nat) (v:Value) (M:List eI) (nx:Int) (w:Nat) (X:List Res):List Res:=uU p m L T :: jA q v M nx :: aF w [ptr p 0,ptr q 0] :: X
def WkO (X:List Res) (H0 H:AH) (w:Nat) (T:Tr) (M:List eI) (nx:Int):Prop :=
 ∃ p m L q v,Ext H0 H/\Ow (eO (aAB p m L T q v M nx w X)) H/\(∀ b∈(eO (aAB p m L T q v M nx w X)).fp,H0.next<=b)/\Cov L T/\aCz M nx
section
variable {E:Sy} {X:List Res} {H H' H0 Z:AH} {Q:Value->AH->Prop} {w:Nat} {T T':Tr} {M M':List eI} {nx nx':Int} {L:List Res}
theorem WkO.ext (h:WkO X H0 H w T M nx):Ext H0 H:=by obtain ⟨_,_,_,_,_,h,_⟩:=h; exact h
theorem WkO.tab (h:WkO X H0 H w T M nx):aCz M nx:=by obtain ⟨_,_,_,_,_,_,_,_,_,h⟩:=h; exact h
theorem qI {r r':Res} (e:Ext H0 H) (o:Ow r H) (own:∀ b∈r.fp,H0.next<=b) (u:Upd r r' H H'):Ext H0 H'/\Ow r' H'/\∀ b∈r'.fp,H0.next<=b :=
 ⟨u.only.ext e own,o.upd u,fun b hb=>(u.fp b hb).1.elim (own b) fun k=>Nat.le_trans e.1 k⟩
theorem WkO.open_ (h:WkO X H0 H w T M nx):∃ p q,H.get w = .cells [ptr p 0,ptr q 0] none /\
  (∃ m L,Ino H p m L T/\∀ L' T' H',sZ p m L T L' T' H H'->WkO X H0 H' w T' M nx) /\
  (∃ v,(jA q v M nx).P H/\(jA q v M nx).fp.Nodup/\∀ v' M' nx' H',Upd (jA q v M nx) (jA q v' M' nx') H H'->aCz M' nx'->WkO X H0 H' w T M' nx'):=by
 obtain ⟨p,m,L,q,v,e,o,own,cov,tab⟩:=h;refine ⟨p,q,o.holds (aF w [ptr p 0,ptr q 0]) (by simp [aAB]),⟨m,L,⟨o.part (k:=0) rfl,cov⟩,fun L' T' H' u =>?_⟩,⟨v,o.holds (jA q v M nx) (by simp [aAB]),(o.part (k:=1) rfl).nd,fun v' M' nx' H' u ok =>?_⟩⟩
 ·obtain ⟨a,b,c⟩:=qI e o own (o.set (k:=0) rfl u.upd)
  exact ⟨p,m,L',q,v,a,b,c,u.cov,tab⟩
 ·obtain ⟨a,b,c⟩:=qI e o own (o.set (k:=1) rfl u)
  exact ⟨p,m,L,q,v',a,b,c,cov,ok⟩
theorem WkO.openX (h:WkO X H0 H w T M nx) {k:Nat} {r:Res} (hk:X[k]? = some r):Ow r H/\∀ r' H',Upd r r' H H'->WkO (X.set k r') H0 H' w T M nx:=by
 obtain ⟨p,m,L,q,v,e,o,own,cov,tab⟩:=h;have hk':(aAB p m L T q v M nx w X)[k+3]? = some r:=by simpa [aAB] using hk
 refine ⟨o.part hk',fun r' H' u =>?_⟩;obtain ⟨a,b,c⟩:=qI e o own (o.set hk' u);exact ⟨p,m,L,q,v,a,b,c,cov,tab⟩
theorem WkO.add (h:WkO X H0 H w T M nx) {r:Res} (n:zZ r H H'):WkO (X++[r]) H0 H' w T M nx:=by
 obtain ⟨p,m,L,q,v,e0,o,own,cov,tab⟩:=h;obtain ⟨a,b,c⟩:=qI e0 o own (o.add r n.1 n.2.1 n.2.2.1 n.2.2.2);exact ⟨p,m,L,q,v,a,b,c,cov,tab⟩
theorem newbox (H:AH) (c:List Value):zZ (aF H.next c) H (H.new (.cells c none)):=⟨(Ext.refl H).new _,AH.get_new_self _ _,fun b hb=>by simp [aF] at hb; subst hb; simp,by simp [aF]⟩
theorem WkO.box (h:WkO X H0 H w T M nx) (c:List Value):WkO (X++[aF H.next c]) H0 (H.new (.cells c none)) w T M nx:=h.add (newbox H c)
theorem WkO.held {k:Nat} {c:List Value} (h:WkO (X++[aF k c]) H0 H w T M nx):H.get k = .cells c none:=(h.openX (k:=X.length) (r:=aF k c) (by simp)).1.holds
theorem S.f187 (hE:aU E) (limit:Int) (hQ:∀ w H',WkO [] H H' w (Tr.new limit) aDt 1->Q (ptr w 0) H'):E.call (E.fid i.f187) [vi limit] H Q:=by
 apply hE.f187;simp only [F.f187];refine S.f25' hE limit fun p m L H1 h1 =>?_;refine S.f108 hE fun q v H2 n2 =>?_;have hb:aX [(0,1),(1,1)] #[(.pointer none),(.pointer none)] [(0,ptr p 0),(1,ptr q 0)]=some (.agg #[ptr p 0,ptr q 0]):=rfl;simp only [hb,aZ,AM.aW,aS,aD];refine hQ H2.next _ ⟨p,m,L,q,v,?_⟩
 have o1:Ow (eO [uU p m L (Tr.new limit)]) H1:=by
  refine ⟨fun r hr=>by rw [List.mem_singleton] at hr; rw [hr]; exact h1.ino.ow.holds,?_,?_⟩
  ·intro b hb; exact h1.ino.ow.lt b (by simpa [eO] using hb)
  ·simpa [eO] using h1.ino.ow.nd
 have aIh:∀ b∈(eO [uU p m L (Tr.new limit)]).fp,H.next<=b:=fun b hb=>h1.own b (by simpa [eO] using hb)
 obtain ⟨a2,b2,c2⟩:=qI h1.ext o1 aIh (o1.add _ n2.1 n2.2.1 n2.2.2.1 n2.2.2.2);have n3:=newbox H2 [ptr p 0,ptr q 0];obtain ⟨a3,b3,c3⟩:=qI a2 b2 c2 (b2.add _ n3.1 n3.2.1 n3.2.2.1 n3.2.2.2);exact ⟨a3,b3,c3,h1.ino.cov,aNn⟩
end
end Go.AM
end
section
namespace Go.AM
structure sB where
 h:BitVec 16
 paths:List (BitVec 16×BitVec 16)
 ports:List (BitVec 16×BitVec 16)
abbrev wQ (n:BitVec 16) (l:List (BitVec 16×BitVec 16)):BitVec 16:=(l.lookup n).getD 0#16
def aIG (n r:BitVec 16) (l:List (BitVec 16×BitVec 16)):List (BitVec 16×BitVec 16):=dQ n (wQ n l|||r) l
def gD (ps:List (BitVec 16×BitVec 16)):List (BitVec 16×BitVec 16):=ps.foldl (fun l x=>aIG x.1 x.2 l) []
def sB.port (d:sB) (want number:BitVec 16):Bool:=decide ((want&&&d.h) &&& ~~~ wQ number d.ports=0#16)
def kO (H:AH) (s:Nat) (d:sB):Prop:=∃ r1 r2,H.get s = .cells [u16 d.h,.map (some r1),.map (some r2)] none/\dP u16 u16 H r1 d.paths/\dP u16 u16 H r2 d.ports
section
variable {E:Sy} {X:List Res} {H H' H0 Z:AH} {Q:Value->AH->Prop} {t w:Nat} {T T':Tr} {M M':List eI} {nx nx':Int} {L:List Res} {s:Nat} {d:sB}
theorem kO.mono (h:kO H s d) (e:Ext H H'):kO H' s d:=by
 obtain ⟨r1,r2,h1,h2,h3⟩:=h;exact ⟨r1,r2,e.cells h1,h2.keep (e.get h2.lt),h3.keep (e.get h3.lt)⟩
theorem tI {r:Nat} {l:List (BitVec 16×BitVec 16)} (h:dP u16 u16 H r l) (n:BitVec 16):look 0 (.int .u16 0) false (.map (some r)) (u16 n) H=some (u16 (wQ n l)):=by
 have:=h.look (kd:=0) (fun a b=>fP a b) n (.int .u16 0) false;rw [this];unfold wQ;cases l.lookup n <;> rfl
theorem aHn {r:Nat} {l:List (BitVec 16×BitVec 16)} (h:dP u16 u16 H r l) (n:BitVec 16):look 0 (u16 0#16) false (.map (some r)) (u16 n) H=some (u16 (wQ n l)):=tI h n
theorem S.f144 (hE:aU E) (h:kO H s d) (want n:BitVec 16) (hQ:Q (vb (d.port want n)) H):E.call (E.fid i.f144) [ptr s 0,u16 want,u16 n] H Q:=by
 apply hE.f144;obtain ⟨r1,r2,h1,h2,h3⟩:=h;have n0:(.int .u16 0:Value)=u16 0#16:=rfl;simp only [F.f144,iI,h1,tI h3,qC,oE,n0,aHn h3,cV,aD];exact hQ
end
end Go.AM
end
section
namespace Go.AM
def AH.since (H:AH) (n:Nat):AH:=⟨if n<H.next then H.next else 0,fun b=>if b<n then .dead else H.get b⟩
theorem AH.get_since (H:AH) (n b:Nat):(H.since n).get b=if n<=b then H.get b else .dead:=by
 unfold AH.since;simp only [AH.get]
 by_cases h:n<=b
 ·have h1:¬ b<n:=by omega
  rw [if_pos h];simp only [h1,if_false]
  by_cases hb:b<H.next
  ·have hn:n<H.next:=by omega
   simp [hb,hn]
  ·simp [hb]
 ·have h1:b<n:=by omega
  rw [if_neg h];simp [h1]
theorem AH.since_get {H:AH} {n b:Nat} (h:n<=b):(H.since n).get b=H.get b:=by rw [AH.get_since,if_pos h]
def frR (n:Nat) (H:AH):Res where
 fp:=List.range' n (H.next - n)
 P:=fun K=>∀ b∈List.range' n (H.next - n),K.get b=H.get b
 keep:=fun h hk b hb=>(hk b hb).trans (h b hb)
theorem aLg {H H':AH} (e:Ext H H'):zZ (frR H.next H') H H':=by
 refine ⟨e,fun b _=>rfl,fun b hb =>?_,List.nodup_range'⟩;simp only [frR,List.mem_range'_1] at hb;have:=e.1;omega
theorem aBa (H:AH) (n:Nat):Sub (H.since n) H:=by
 constructor
 ·unfold AH.since
  simp only
  split <;> omega
 ·intro b hb
  rw [AH.get_since] at hb ⊢
  split at hb
  ·rename_i h; rw [if_pos h]
  ·exact (hb rfl).elim
end Go.AM
end
section
namespace Go.AM
section
variable {E:Sy} {X:List Res} {H H' H0 Z:AH} {Q:Value->AH->Prop} {t w:Nat} {T T':Tr} {M M':List eI} {nx nx':Int} {L:List Res} {s:Nat} {d:sB}
theorem lG {H:AH} {z c:List Value} (hz:z.length=2) (hc:c.length=2) (hp:c.all plain1=true):aG 2 (ptr H.next 0) (.agg c.toArray) (H.new (.cells z none))=some (H.new (.cells c none)):=by
 rw [cX,AH.get_new_self];have:AM.bF z 0 c=c:=by simp [bF,hz,hc]
 simp only [List.size_toArray,List.toList_toArray,hc,hz,hp,Nat.zero_add,Nat.le_refl,and_self,if_true,this,AH.new_put]
theorem aIN {l:List (BitVec 16×BitVec 16)} (ps:List (BitVec 16×BitVec 16)) {v:Value} (hv:Rows H 2 v (ps.map fun p=>[u16 p.1,u16 p.2])) (hn:ps.length<2 ^ 63) {r1 r2:Nat} {b0 b1:List Value} {x0 x1 h:Nat} {hd:BitVec 16} {pl:List (BitVec 16×BitVec 16)} {H1:AH} (hl:l=[])
  (g:Has H H H1 [aF x0 b0,aF x1 b1,cF u16 u16 r1 pl,cF u16 u16 r2 l,aF h [u16 hd,.map (some r1),.map (some r2)]])
  (hQ:∀ H',Ext H H'->kO (H'.since H.next) h ⟨hd,pl,gD ps⟩->kO H' h ⟨hd,pl,gD ps⟩->Q (.tuple #[ptr h 0,vi 0]) H') :
  aM (fun l H X0=>F.f141_l2 E Q (nth l 0) (nth l 1) (nth l 2) (nth l 3) H X0) [ptr h 0,v,vi ps.length,(.int .i64 0)] H1:=by
 subst hl;refine aM.count ps.length (fun j ls H'=>ls=[ptr h 0,v,vi ps.length,vi j]/\Has H H H' [aF x0 b0,aF x1 b1,cF u16 u16 r1 pl,cF u16 u16 r2 (gD (ps.take j)),aF h [u16 hd,.map (some r1),.map (some r2)]]) ?_ ⟨rfl,g⟩;rintro j _ H2 X hj hX ⟨rfl,g2⟩;rcases Nat.lt_or_ge j ps.length with hjl | hjl
 ·have hX:=hX hjl
  have hjl':(j:Int)<ps.length:=by omega
  have hjj:=cU (i:=j) (by omega)
  obtain ⟨b,o,f1,f2⟩:=(hv.mono g2.ext).ix (i:=j) (by simpa using hjl)
  rw [List.getElem_map] at f2
  have hst:gD (ps.take (j+1))=aIG ps[j].1 ps[j].2 (gD (ps.take j)):=by
   unfold gD;rw [List.take_succ_eq_append_getElem hjl,List.foldl_append]; rfl
  rw [hst] at hX;generalize ps[j]=p at *;generalize gD (ps.take j)=l at *;have hlo:aE 2 (ptr b o) H2=some (.agg [u16 p.1,u16 p.2].toArray):=by rw [aL,f2]; rfl
  have hz2:aG 2 (ptr H2.next 0) (.agg [u16 p.1,u16 p.2].toArray) (H2.new (.cells [(.int .u16 0),(.int .u16 0)] none))=some (H2.new (.cells [u16 p.1,u16 p.2] none)):=lG rfl rfl rfl;have g3:=g2.newbox [u16 p.1,u16 p.2];have hb3:=g3.box (k:=4) (b:=h) rfl;have hp3:=g3.box (k:=5) (b:=H2.next) rfl;have hm3:=g3.mapAt (k:=3) rfl;obtain ⟨H4,m1,m2⟩:=g3.mapset (n:=3) (kd:=0) rfl (fun a b=>fP a b) p.1 (wQ p.1 l|||p.2);have m2:=m2.drop 5;simp only [F.f141_l2,aV,hjl',decide_true,f1,hlo,aP,hz2,hb3,hp3,tI hm3,aNI,m1,hjj,aD];exact hX _ _ ⟨rfl,m2⟩
 ·have hjl':¬ (j:Int)<ps.length:=by omega
  rw [List.take_of_length_le hjl] at g2;simp only [F.f141_l2,aV,hjl',decide_false,aD];have own:∀ {k:Nat} {r:Res} (_:[aF x0 b0,aF x1 b1,cF u16 u16 r1 pl,cF u16 u16 r2 (gD ps),aF h [u16 hd,.map (some r1),.map (some r2)]][k]? = some r),∀ b∈r.fp,H.next<=b:=fun hk b hb=>((g2.all _ (List.mem_of_getElem? hk)).2 b hb).1;have o2:H.next<=r1:=own (k:=2) rfl r1 (by simp [cF])
  have o3:H.next<=r2:=own (k:=3) rfl r2 (by simp [cF])
  have o4:H.next<=h:=own (k:=4) rfl h (by simp [aF])
  exact hQ _ g2.ext ⟨r1,r2,by rw [AH.since_get o4]; exact g2.box (k:=4) rfl,(g2.mapAt (k:=2) rfl).keep (AH.since_get o2),(g2.mapAt (k:=3) rfl).keep (AH.since_get o3)⟩ ⟨r1,r2,g2.box (k:=4) rfl,g2.mapAt (k:=2) rfl,g2.mapAt (k:=3) rfl⟩
end
end Go.AM
end
section
namespace Go.AM
open Go.Sort (SWO PermIn SortedIn)
def aJt (a b:BitVec 16):Bool:=decide (a.toNat<=b.toNat)
def nV (l:List (BitVec 16)):List (BitVec 16):=l.mergeSort aJt
theorem wN (l:List (BitVec 16)):(nV l).Perm l:=List.mergeSort_perm _ _
theorem aHM (l:List (BitVec 16)):(nV l).Pairwise fun a b=>a.toNat<=b.toNat:=by
 have:=List.pairwise_mergeSort (le:=aJt) (by intro a b c; simp [aJt]; omega) (by intro a b; simp [aJt]; omega) l
 exact this.imp fun {a b} h=>by simpa [aJt] using h
theorem aCC {l:List (BitVec 16)} (h:l.Nodup):(nV l).Pairwise fun a b=>bS a b=true:=by
 have h1:=aHM l;have h2:(nV l).Nodup:=(wN l).nodup_iff.2 h;refine (h1.and h2).imp fun {a b} h =>?_;have:a.toNat≠b.toNat:=fun e=>h.2 (BitVec.eq_of_toNat_eq e);simp only [bS,decide_eq_true_eq];omega
theorem aLR {l:List (BitVec 16)} (h:l.Nodup):l.length<=65536:=by
 have:=pG l ((List.range 65536).map (BitVec.ofNat 16)) h fun x _=>List.mem_map.2 ⟨x.toNat,List.mem_range.2 x.isLt,by simp⟩
 simpa using this
def sB.inodes (d:sB):List (BitVec 16):=nV (d.paths.map Prod.fst)
section
variable {E:Sy} {H H':AH} {Q:Value->AH->Prop} {s s':Nat} {d d':sB}
theorem S.f143 (hE:aU E) (h:kO H s d) (hQ:∀ v H',Ext H H'->Rows H' 1 v (aCK d.inodes)->iA H.next v->Q v H'):E.call (E.fid i.f143) [ptr s 0] H Q:=by
 apply hE.f143;obtain ⟨r1,r2,h1,hm,_⟩:=h;obtain ⟨o,o1,o2⟩:=fL.start hm;have x1:Ext H (H.new o):=(Ext.refl H).new o;have hnd:(d.paths.map Prod.fst).Nodup:=by obtain ⟨_,_,_,_,_,_,h5⟩:=hm; exact h5
 have hp:(d.paths.map Prod.fst).Perm d.inodes:=(wN _).symm;have hnl:d.paths.length<=65536:=by simpa using aLR hnd
 simp only [F.f143,iI,h1,o1,aIc,aD];unfold sB.inodes at hQ hp;generalize hl2:d.paths=l2 at *;refine aM.ind (fun j l H'=>Ext H H'/\∃ done v,l=[v,ptr H.next 0]/\fL u16 u16 H' H.next r1 l2 done/\dO zH H' 1 v (aCK (done.map Prod.fst))/\iA (H.next+1) v/\(done=[]->v=bL)/\j+done.length=l2.length) ?_ l2.length ⟨x1,[],bL,rfl,o2,dO.nil _ _ _,fun b hb=>by simp [blk] at hb,fun _=>rfl,by simp⟩
 rintro j _ H' X hX ⟨e1,done,v,rfl,it,g,fv,hnil,hj⟩;simp only [F.f143_l1,fW,fV];refine fL.next it (fun e ob he hnd it' hen =>?_) fun hpd =>?_
 ·have hput:Ext H (H'.put H.next ob):=e1.put (Nat.le_refl _) ob
  have hd1:done.length+1<=l2.length:=by
   have:=pG (done++[e]) l2 it'.nodup.1 it'.nodup.2
   simpa using this
  have g':dO zH (H'.put H.next ob) 1 v (aCK (done.map Prod.fst)):=g.keep fun b hb _=>AH.get_put_ne _ _ (by have:=fv b hb; omega)
  have hb1:bR 1 1 #[(.int .u16 0)] [(0,u16 e.1)]=some (.cells [u16 e.1] none,dN 1 1):=cQ 1 [u16 0#16] [u16 e.1] rfl rfl;obtain ⟨v',H2,a1,a2,a3⟩:=g'.app1 (Nat.zero_le _) (bytes:=2) [u16 e.1] rfl rfl (by decide) (by decide) (by rw [aDm,List.length_map]; omega)
  have hlt1:=it'.map.lt;have hlt2:=it'.lt
  have hrb:H2.get r1=(H'.put H.next ob).get r1:=a3.1.get hlt1 fun hb=>by
   have:=fv r1 (fG.1 hb);have:=hm.lt;omega
  have hib:H2.get H.next=(H'.put H.next ob).get H.next:=a3.1.get hlt2 fun hb=>by
   have:=fv H.next (fG.1 hb);omega
  simp only [cZ,List.getElem?_cons_zero,List.getElem?_cons_succ,hen,hb1,aW,cW,a1,gN,dG,bE,gH];refine hX (j - 1) (by omega) _ _ ⟨?_,done++[e],v',rfl,it'.keep hrb hib,?_,?_,fun h=>by simp at h,?_⟩
  ·refine a3.1.ext hput fun b hb =>?_
   have:=fv b (fG.1 hb);omega
  ·have:aCK ((done++[e]).map Prod.fst)=aCK (done.map Prod.fst)++[[u16 e.1]]:=by simp [aCK]
   rw [this]; exact a2
  ·intro b hb
   have hp1:(H'.put H.next ob).next=H'.next:=rfl;rcases a3.2 b hb with h1 | h1
   ·exact fv b h1
   ·have:=it.lt
    omega
  ·simp; omega
 ·have hperm:(done.map Prod.fst).Perm (nV (l2.map Prod.fst)):=(hpd.map _).trans hp
  have hlen2:done.length=l2.length:=hpd.length_eq;simp only [cZ,List.getElem?_cons_zero,dG,bE,dX]
  by_cases hne:done.map Prod.fst=[]
  ·have hd0:done=[]:=by simpa using hne
   have he:nV (l2.map Prod.fst)=[]:=by
    have:=hperm.length_eq;rw [hd0] at this;exact List.eq_nil_of_length_eq_zero (by simpa using this.symm)
   rw [hnil hd0];refine S.slices_Sort_inode_Number_nil hE none ?_;refine hQ bL H' e1 ?_ fun b hb=>by simp [blk] at hb
   rw [he];exact Rows.nil _ _ none
  ·obtain ⟨b,f,c,tail,rfl,ha,hb⟩:=dO.arr (fun x=>rfl) g hne
   refine S.f151 hE aDo ha (by simp) (by simp; omega) fun d' H2 hp2 hs2 st =>?_
   have hu:=aCM aDo aGV (n:=(done.map Prod.fst).length) (by simp) hp2 hs2 (L:=nV (l2.map Prod.fst)) hperm (aCC hnd)
   refine hQ _ H2 ?_ ?_ fun x hx=>by have:=fv x hx; omega
   ·exact st.only.ext e1 fun x hx=>by
     simp at hx; subst hx;have:=fv x (by simp [blk])
     omega
   ·rw [<- hu]
    refine (hb d'.toList H2 ?_ st.get).toRows;have:=hp2.1
    simpa using this
theorem aOM {r:Nat} {l:List (BitVec 16×BitVec 16)} (h:dP u16 u16 H r l) (n:BitVec 16):look 0 (.int .u16 0) true (.map (some r)) (u16 n) H=some (.tuple #[u16 (wQ n l),vb (l.lookup n).isSome]):=by
 have:=h.look (kd:=0) (fun a b=>fP a b) n (.int .u16 0) true;rw [this];unfold wQ;cases l.lookup n <;> rfl
end
end Go.AM
end
section
namespace Go.AM
set_option maxRecDepth 20000
abbrev uQ:=List (Nat×sB)
def aBC (l:uQ):List (List Value):=l.map fun x=>[ptr x.1 0]
theorem iW (l:uQ):(aBC l).length=l.length:=by simp [aBC]
theorem aEY (l:uQ):∀ r∈aBC l,r.all plain1=true:=by
 intro r hr;obtain ⟨x,_,rfl⟩:=List.mem_map.1 hr
 rfl
structure pP (H:AH) (v:Value) (l:uQ):Prop where
 rows:Rows H 1 v (aBC l)
 sets:∀ x∈l,kO H x.1 x.2
def lZ (H:AH) (dv:Value) (l:uQ):Prop:=(dv = .pointer none/\l=[])\/∃ b v,dv=ptr b 0/\H.get b = .cells [v] none/\pP H v l
section
variable {X:List Res} {E:Sy} {H0 H H' H'':AH} {Q:Value->AH->Prop} {w t s:Nat} {T T':Tr} {M M':List eI} {nx nx' k:Int} {d:sB} {v dv:Value} {l:uQ}
theorem pP.mono (h:pP H v l) (e:Ext H H'):pP H' v l:=⟨h.rows.mono e,fun x hx=>(h.sets x hx).mono e⟩
theorem pP.len (h:pP H v l):AM.lenSlc v=some (vi l.length):=by
 have:=h.rows.lenSlc
 rwa [iW] at this
theorem pP.elem (h:pP H v l) {i:Nat} (hi:i<l.length):∃ b o,aK 1 v (vi i)=some (ptr b o)/\(H.get b).cell o=some (ptr (l[i]).1 0)/\kO H (l[i]).1 (l[i]).2:=by
 obtain ⟨b,o,f1,f2⟩:=h.rows.ix (i:=i) (by rw [iW]; exact hi)
 have hrow:(aBC l)[i]'(by rw [iW]; exact hi)=[ptr (l[i]).1 0]:=by simp [aBC]
 rw [hrow] at f2;exact ⟨b,o,f1,by have:=mW f2 (j:=0) (by omega); simpa using this,h.sets _ (List.getElem_mem hi)⟩
theorem aM6:bW dB .eql (.pointer none) (.pointer none)=some (vb true):=rfl
theorem S.f19 (hE:aU E) (h:lZ H dv l) (hQ:Q (vi l.length) H):E.call (E.fid i.f19) [dv] H Q:=by
 apply hE.f19;rcases h with ⟨rfl,rfl⟩ | ⟨b,v,rfl,h2,h3⟩
 ·simp only [F.f19,aM6,aD]
  exact hQ
 ·simp only [F.f19,iI,h2,h3.len,aD]
  exact hQ
theorem S.f18 (hE:aU E) (h:lZ H dv l) (hl:l.length<=1000) (hQ:∀ v H',Ext H H'->dO zH H' 1 v (aBC l)->iA H.next v->(∀ x∈l,kO H' x.1 x.2)->Q v H'):E.call (E.fid i.f18) [dv] H Q:=by
 apply hE.f18;rcases h with ⟨rfl,rfl⟩ | ⟨b,v,rfl,h2,h3⟩
 ·simp only [F.f18,aM6,aD]
  exact hQ _ _ (Ext.refl _) (dO.nil _ _ _) (by intro b hb; simp [blk] at hb) (by simp)
 ·have hb0:bR 0 1 #[(.pointer none)] []=some (.cells [] none,dN 0 0):=aBJ 1 [.pointer none] rfl
  have e1:Ext H (H.new (.cells [] none)):=(Ext.refl H).new _;have g1:dO zH (H.new (.cells [] none)) 1 (slc H.next 0 0 0) []:=dO.room (nR _) (AH.get_new_self _ _) rfl;have h4:=h3.mono e1;obtain ⟨v',H',a1,a2,a3⟩:=g1.app (bytes:=8) (Nat.zero_le _) h4.rows (aEY l) (by decide) (by decide) (by rw [iW]; simp; omega) (by rw [iW]; simp; omega)
  obtain ⟨e2,f2⟩:=oX a3 e1 (fun b hb=>by simp [blk] at hb; omega)
  have hap:app 1 8 (slc H.next 0 0 0) v (H.new (.cells [] none))=some (v',H'):=a1;simp only [F.f18,iI,hb0,e1.cells h2,hap,aD];exact hQ _ _ e2 (by simpa using a2) f2 fun x hx=>(h3.sets x hx).mono e2
theorem S.f20 (hE:aU E) (h:lZ H dv l) (hl:l.length<2 ^ 62) (want n:BitVec 16) (hQ:Q (vb (l.all fun x=>x.2.port want n)) H):E.call (E.fid i.f20) [dv,u16 want,u16 n] H Q:=by
 apply hE.f20;rcases h with ⟨rfl,rfl⟩ | ⟨b,sv,rfl,h2,h3⟩
 ·simp only [F.f20,aM6,aD]
  exact hQ
 ·simp only [F.f20,iI,h2,h3.len,aD]
  have i0:(.int .i64 0:Value)=vi ((0:Nat):Int):=rfl;rw [i0];refine aM.count l.length (fun j ls H'=>ls=[u16 want,u16 n,sv,vi l.length,vi j]/\H=H'/\(l.take j).all (fun x=>x.2.port want n)=true) ?_ ⟨rfl,rfl,rfl⟩;rintro j _ H3 X hj hX ⟨rfl,rfl,ha⟩;rcases Nat.lt_or_ge j l.length with hjl | hjl
  ·have hX:=hX hjl
   have hjl':(j:Int)<l.length:=by omega
   have hjj:=cU (i:=j) (by omega)
   obtain ⟨b',o',p1,p2,p3⟩:=h3.elem hjl;simp only [F.f20_l1,aV,hjl',decide_true,p1,p2,aD];refine S.f144 hE p3 want n ?_;cases hp:(l[j]).2.port want n with
   | false =>
    have:(l.all fun x=>x.2.port want n)=false:=List.all_eq_false.2 ⟨l[j],List.getElem_mem hjl,by simp [hp]⟩
    rw [this] at hQ;simp only [aD];exact hQ
   | true =>
    simp only [hjj,aD];refine hX _ _ ⟨rfl,rfl,?_⟩;rw [List.take_succ,List.getElem?_eq_getElem hjl,List.all_append,ha];simp [hp]
  ·have hjl':¬ (j:Int)<l.length:=by omega
   have:j=l.length:=by omega
   subst this;rw [List.take_length] at ha;rw [ha] at hQ;simp only [F.f20_l1,aV,hjl',decide_false,aD];exact hQ
end
end Go.AM
end
section
namespace Go.AM
set_option maxRecDepth 20000
def AH.plus (Z:AH) (n:Nat) (H:AH):AH:=⟨H.next,fun b=>if b<n then Z.get b else H.get b⟩
section
variable {E:Sy} {H H' H0 Z:AH} {Q:Value->AH->Prop} {dv v:Value} {l:uQ} {s:Nat} {d:sB} {L:List Res}
theorem AH.get_plus {n:Nat} (hn:n<=H'.next) (b:Nat):(Z.plus n H').get b=if b<n then Z.get b else H'.get b:=by
 unfold AH.plus;simp only [AH.get]
 by_cases hb:b<H'.next
 ·rw [if_pos hb]
 ·have h1:¬ b<n:=by omega
  simp [h1,hb]
theorem Has.calleeP (h:Has H0 Z H L) (e:Ext H H'):Has H0 (Z.plus H.next H') H' L/\Sub Z (Z.plus H.next H')/\Sub (H'.since H.next) (Z.plus H.next H'):=by
 have hg:=fun b=>AH.get_plus (Z:=Z) e.1 b
 have sz:Sub Z (Z.plus H.next H'):=⟨Nat.le_trans h.sub.1 e.1,fun b hb=>by
  rw [hg]
  split
  ·rfl
  ·exact (hb (AH.get_ge _ (Nat.le_trans h.sub.1 (by omega)))).elim⟩
 refine ⟨h.refreeze e ⟨sz,fun b hb=>by rw [hg,if_pos hb]⟩ ⟨Nat.le_refl _,fun b hb =>?_⟩,sz,⟨?_,fun b hb =>?_⟩⟩
 ·rw [hg] at hb ⊢
  split
  ·rename_i hlt
   rw [if_pos hlt] at hb;rw [e.get hlt];exact h.sub.2 b hb
  ·rfl
 ·exact (aBa H' H.next).1
 ·rw [AH.get_since] at hb ⊢
  split at hb
  ·rename_i hle
   rw [hg,if_neg (by omega),if_pos hle]
  ·exact (hb rfl).elim
theorem kO.sub2 (h:kO Z s d) (z:Sub Z H):kO H s d:=by
 obtain ⟨r1,r2,h1,h2,h3⟩:=h
 have hm:∀ {r:Nat} {m:List (BitVec 16×BitVec 16)},dP u16 u16 Z r m->H.get r=Z.get r:=fun {r m} hm=>z.2 r (by
  obtain ⟨es,cl,hh,_⟩:=hm;rw [hh]; simp)
 exact ⟨r1,r2,by rw [z.2 s (by rw [h1]; simp),h1],h2.keep (hm h2),h3.keep (hm h3)⟩
theorem lZ.sub (h:lZ Z dv l) (z:Sub Z H):lZ H dv l:=by
 rcases h with h | ⟨b,v,rfl,hb,h⟩
 ·exact .inl h
 ·exact .inr ⟨b,v,rfl,by rw [z.2 b (by rw [hb]; simp),hb],⟨h.rows.sub z,fun x hx=>(h.sets x hx).sub2 z⟩⟩
theorem S.domain_Domain_WithZ (hE:aU E) {n:Nat} (hn:n<=H.next) (hz:Sub Z (Z.plus n H)) (zs:Sub (Z.plus n H) H) (h:lZ Z dv l) (hs:kO (H.since n) s d) (hl:l.length<=1000) (hbad:16<=l.length->Q (.tuple #[.pointer none,vi 27]) H)
  (hok:l.length<16->∀ b H',Ext H H'->lZ (Z.plus n H') (ptr b 0) (l++[(s,d)])->Q (.tuple #[ptr b 0,vi 0]) H'):E.call (E.fid i.f21) [dv,ptr s 0] H Q:=by
 apply hE.f21;have hH:=(h.sub hz).sub zs;simp only [F.f21,iI,aD];refine S.f19 hE hH ?_
 by_cases h16:16<=l.length
 ·have h16':(16:Int)<=l.length:=by omega
  simp only [eP,ge_iff_le,h16',decide_true,aD];exact hbad h16
 ·have h16':¬ (16:Int)<=l.length:=by omega
  simp only [eP,ge_iff_le,h16',decide_false,aD];refine S.f18 hE hH hl fun v H2 e2 g2 f2 s2 =>?_;have hbS:bR 1 1 #[(.pointer none)] [(0,ptr s 0)]=some (.cells [ptr s 0] none,dN 1 1):=cQ 1 [.pointer none] [ptr s 0] rfl rfl;obtain ⟨v',H3,a1,a2,a3⟩:=g2.app1 (bytes:=8) (Nat.zero_le _) [ptr s 0] rfl rfl (by decide) (by decide) (by rw [iW]; omega)
  obtain ⟨e3,f3⟩:=oX a3 e2 f2
  have hbv:aX [(0,1)] #[(.slice none 0 0)] [(0,v')]=some (.agg #[v']):=by
   have:=a2.plain;rcases a2.2 with ⟨hz,_⟩ | ⟨b,f,c,cs,_,rfl,_⟩
   ·simp at hz
   ·rfl
  have x4:Ext H3 (H3.new (.cells [v'] none)):=(Ext.refl _).new _;simp only [hbS,a1,hbv,aD];have e4:=e3.trans x4;have hn4:n<=(H3.new (.cells [v'] none)).next:=Nat.le_trans hn e4.1;have hgp:=fun b=>AH.get_plus (Z:=Z) hn4 b;have h3n:n<=H3.next:=Nat.le_trans hn e3.1
  have sz:Sub (Z.plus n H) (Z.plus n (H3.new (.cells [v'] none))):=⟨e4.1,fun b hb=>by
   rw [AH.get_plus hn] at hb;rw [hgp,AH.get_plus hn]
   split
   ·rfl
   ·rename_i hlt
    rw [if_neg hlt] at hb;exact e4.get (AH.lt_of_get hb)⟩
  have ss:Sub (H.since n) (Z.plus n (H3.new (.cells [v'] none))):=⟨Nat.le_trans (aBa H n).1 e4.1,fun b hb=>by
   rw [AH.get_since] at hb ⊢
   split at hb
   ·rename_i hle
    rw [hgp,if_neg (by omega),if_pos hle]
    exact e4.get (AH.lt_of_get hb)
   ·exact (hb rfl).elim⟩
  refine hok (by omega) H3.next _ e4 (.inr ⟨H3.next,v',rfl,by rw [hgp,if_neg (by omega)]; exact AH.get_new_self _ _,⟨?_,?_⟩⟩)
  ·have hr:=a2.toRows.mono x4
   have hr:Rows (H3.new (.cells [v'] none)) 1 v' (aBC (l++[(s,d)])):=by simpa [aBC] using hr
   refine ⟨hr.len,?_⟩;rcases hr.at_ with g | ⟨b,o,c,g1,g2,g3,g4⟩
   ·exact .inl g
   ·have hb:=f3 b (by rw [g1]; rfl)
    exact .inr ⟨b,o,c,g1,g2,by rw [hgp,if_neg (by omega)]; exact g3,by rw [hgp,if_neg (by omega)]; exact g4⟩
  ·intro x hx
   rcases List.mem_append.1 hx with hx | hx
   ·rcases h with ⟨_,rfl⟩ | ⟨b,v0,_,_,h3⟩
    ·simp at hx
    ·exact ((h3.sets x hx).sub2 hz).sub2 sz
   ·simp only [List.mem_singleton] at hx
    subst hx;exact hs.sub2 ss
end
end Go.AM
end
section
namespace Go.AM
set_option maxRecDepth 20000
section
variable {X:List Res} {E:Sy} {H H' H0 Z:AH} {Q:Value->AH->Prop} {w t:Nat} {T T':Tr} {M:List eI} {v v':Value} {nx:Int}
theorem aFZ (a b:Nat) (h:a+b<2 ^ 62):∃ y:BitVec 64,aR .u64 (vi ((a+b:Nat):Int))=some (u64 (BitVec.ofInt 64 ((a+b:Nat):Int)))/\aA .shr (u64 (BitVec.ofInt 64 ((a+b:Nat):Int))) (.int .u64 1)=some (u64 y)/\aR .i64 (u64 y)=some (vi (((a+b) / 2:Nat):Int)):=by
 refine ⟨BitVec.ofInt 64 ((a+b:Nat):Int) >>> 1,fZ _,aBZ _ .u64 1,?_⟩
 have hy:(BitVec.ofInt 64 ((a+b:Nat):Int) >>> 1).toNat=(a+b) / 2:=by
  rw [BitVec.toNat_ushiftRight,BitVec.ofInt_natCast,BitVec.toNat_ofNat,Nat.mod_eq_of_lt (by omega),Nat.shiftRight_eq_div_pow]
 generalize BitVec.ofInt 64 ((a+b:Nat):Int) >>> 1=y at *;rw [<- hy];have hlt:y.toNat<2 ^ 62:=by omega
 rw [eV,dC,iJ (by omega) (by omega)]
end
end Go.AM
end
section
namespace Go.AM
set_option maxRecDepth 20000
section
variable {E:Sy} {H H' H0 Z:AH} {Q:Value->AH->Prop} {L:List Res}
def aND (a b:Int):Int:=if a<b then -1 else if b<a then 1 else 0
def aJ6 (a b:BitVec 32):Int:=if a.toNat<b.toNat then -1 else if b.toNat<a.toNat then 1 else 0
theorem S.f9 (hE:aU E) (a b:Int) (hQ:Q (vi (aND a b)) H):E.call (E.fid i.f9) [vi a,vi b] H Q:=by
 have nn:∀ (x:Int) (K:Value->AH->Prop),K (vb false) H->E.call (E.fid i.f13) [vi x] H K:=by
  intro x K hK;apply hE.f13;simp only [F.f13,tY,ne_eq,not_true,decide_false,aD];exact hK
 apply hE.f9;simp only [F.f9];refine nn a _ (nn b _ ?_);unfold aND at hQ;simp only [aV,gC,gt_iff_lt,aD]
 by_cases h1:a<b
 ·rw [if_pos h1] at hQ
  simp only [h1,decide_true,aD];exact hQ
 ·rw [if_neg h1] at hQ
  simp only [h1,decide_false,gC,gt_iff_lt,aD]
  by_cases h2:b<a
  ·rw [if_pos h2] at hQ
   simp only [h2,decide_true,aD];exact hQ
  ·rw [if_neg h2] at hQ
   simp only [h2,decide_false,aD];exact hQ
theorem S.f10 (hE:aU E) (a b:BitVec 32) (hQ:Q (vi (aJ6 a b)) H):E.call (E.fid i.f10) [u32 a,u32 b] H Q:=by
 have nn:∀ (x:BitVec 32) (K:Value->AH->Prop),K (vb false) H->E.call (E.fid i.f14) [u32 x] H K:=by
  intro x K hK;apply hE.f14;simp only [F.f14,aFF,ne_eq,not_true,decide_false,aD];exact hK
 apply hE.f10;simp only [F.f10];refine nn a _ (nn b _ ?_);unfold aJ6 at hQ;simp only [aL0,aD]
 by_cases h1:a.toNat<b.toNat
 ·rw [if_pos h1] at hQ
  simp only [h1,decide_true,aD];exact hQ
 ·rw [if_neg h1] at hQ
  simp only [h1,decide_false,aFr,aD]
  by_cases h2:b.toNat<a.toNat
  ·rw [if_pos h2] at hQ
   simp only [h2,decide_true,aD];exact hQ
  ·rw [if_neg h2] at hQ
   simp only [h2,decide_false,aD];exact hQ
def ixL {α:Type} [DecidableEq α] (x:α) (l:List α):Int:=match l.findIdx? fun y=>decide (x=y) with
 | some i=>(i:Int)
 | none => -1
def lR (l:List (BitVec 32)):List (List Value):=l.map fun x=>[u32 x]
theorem S.f148 (hE:aU E) {v:Value} {l:List (BitVec 32)} (hv:Rows H 1 v (lR l)) (hl:l.length<2 ^ 60) (x:BitVec 32) (hQ:Q (vi (ixL x l)) H):E.call (E.fid i.f148) [v,u32 x] H Q:=by
 apply hE.f148;have hlv:=hv.lenSlc;have hlr:(lR l).length=l.length:=by simp [lR]
 rw [hlr] at hlv;have i0:(.int .i64 0:Value)=vi ((0:Nat):Int):=rfl;simp only [F.f148,hlv,i0,aD];refine aM.count l.length (fun j ls H'=>ls=[v,u32 x,vi (l.length:Int),vi j]/\H=H'/\∀ i (hi:i<l.length),i<j->¬ x=l[i]) ?_ ⟨rfl,rfl,fun i _ h=>by omega⟩
 rintro j _ _ X hj hX ⟨rfl,rfl,hno⟩
 by_cases hjl:j<l.length
 ·have hjl':(j:Int)<l.length:=by omega
  have hjj:=cU (i:=j) (by omega)
  obtain ⟨b,o,f1,f2⟩:=hv.ix (i:=j) (by rw [hlr]; exact hjl)
  have hrow:(lR l)[j]'(by rw [hlr]; exact hjl)=[u32 l[j]]:=by simp [lR]
  rw [hrow] at f2;have f3:(H.get b).cell o=some (u32 l[j]):=by have:=mW f2 (j:=0) (by omega); simpa using this
  by_cases he:x=l[j]
  ·have hfi:l.findIdx? (fun y=>decide (x=y))=some j:=List.findIdx?_eq_some_iff_getElem.2 ⟨hjl,by simpa using he,fun i hi=>by simpa using hno i (by omega) hi⟩
   have hix:ixL x l=(j:Int):=by unfold ixL; rw [hfi]
   rw [hix] at hQ;simp only [F.f148_l1,aV,hjl',decide_true,f1,f3,aBI,<- he,aD];exact hQ
  ·simp only [F.f148_l1,aV,hjl',decide_true,f1,f3,aBI,he,decide_false,hjj,aD]
   refine hX hjl _ _ ⟨rfl,rfl,fun i hi hij =>?_⟩
   by_cases e:i=j
   ·subst e; exact he
   ·exact hno i hi (by omega)
 ·have hjl':¬ (j:Int)<l.length:=by omega
  have hfi:l.findIdx? (fun y=>decide (x=y))=none:=by
   rw [List.findIdx?_eq_none_iff];intro y hy;obtain ⟨i,hi,rfl⟩:=List.getElem_of_mem hy
   simpa using hno i hi (by omega)
  have hix:ixL x l = -1:=by unfold ixL; rw [hfi]
  rw [hix] at hQ;simp only [F.f148_l1,aV,hjl',decide_false,aD];exact hQ
def kY:List (BitVec 32):=[2147483648#32,327680#32,2147221504#32,2147418112#32]
theorem aJW (a:BitVec 32):ixL (oL a) kY=(tT a:Int):=by
 rw [(aC4 a).2];unfold lI
 have hk:oL a=327680#32\/oL a=2147221504#32\/oL a=2147418112#32\/oL a=2147483648#32:=by
  unfold oL
  repeat' split
  all_goals simp
 rcases hk with h | h | h | h <;> rw [h] <;> decide
theorem S.f42 (hE:aU E) (a:BitVec 32) (hQ:∀ H',Ext H H'->Q (vi (tT a:Nat)) H'):E.call (E.fid i.f42) [u32 a] H Q:=by
 apply hE.f42;have hbv:mU 1 #[(.int .u32 0),(.int .u32 0),(.int .u32 0),(.int .u32 0)] [(0,(.int .u32 2147483648)),(1,(.int .u32 327680)),(2,(.int .u32 2147221504)),(3,(.int .u32 2147418112))]=some (.agg (kY.map u32).toArray):=rfl;have x1:Ext H (H.new (.cells (kY.map u32) none)):=(Ext.refl _).new _;have b1:=AH.get_new_self H (.cells (kY.map u32) none)
 have hst:aG 4 (ptr H.next 0) (.agg (kY.map u32).toArray) (H.new (.cells [(.int .u32 0),(.int .u32 0),(.int .u32 0),(.int .u32 0)] none))=some (H.new (.cells (kY.map u32) none)):=by
  rw [cX,AH.get_new_self];have h3:AM.bF [(.int .u32 0),(.int .u32 0),(.int .u32 0),(.int .u32 0)] 0 (kY.map u32)=kY.map u32:=rfl;have h4:(kY.map u32).all plain1=true:=rfl;have h5:(kY.map u32).length=4:=rfl;simp only [List.size_toArray,List.toList_toArray,h4,h5,List.length_cons,List.length_nil,Nat.zero_add,Nat.le_refl,and_self,if_true,h3,AH.new_put]
 have hsl:aCZ 4 1 (ptr H.next 0) none none none=some (slc H.next 0 4 4):=rfl;simp only [F.f42,hbv,aP,hst,hsl,aD];apply S.f134 hE
 have hr:Rows (H.new (.cells (kY.map u32) none)) 1 (slc H.next 0 4 4) (lR kY):=Rows.made (f:=none) (by rw [b1]; rfl) (.inl rfl) rfl (by
  intro r hr;obtain ⟨x,_,rfl⟩:=List.mem_map.1 hr
  rfl)
 refine S.f148 hE hr (by decide) _ ?_
 rw [aJW];exact hQ _ x1
theorem lH {c:cO} {b:Nat} {H:AH} (hb:H.get b = .cells c.cells none):aE 4 (ptr b 0) H=some c.v:=by rw [aL,hb]; rfl
theorem tZ (c:cO) (H:AH):aG 4 (ptr H.next 0) c.v (H.new (.cells [(.int .i64 0),(.int .u8 0),(.int .u64 0),(.int .u64 0)] none))=some (H.new (.cells c.cells none)):=by
 rw [cX,AH.get_new_self];have h3:AM.bF [(.int .i64 0),(.int .u8 0),(.int .u64 0),(.int .u64 0)] 0 c.cells=c.cells:=rfl;have h4:c.cells.all plain1=true:=rfl;have h5:c.cells.length=4:=rfl;simp only [List.size_toArray,List.toList_toArray,h4,h5,List.length_cons,List.length_nil,Nat.zero_add,Nat.le_refl,and_self,if_true,h3,AH.new_put]
theorem S.f39 (hE:aU E) (c:cO) (hQ:∀ H',Ext H H'->Q (vb (tS c)) H'):E.call (E.fid i.f39) [c.v] H Q:=by
 apply hE.f39;have x1:Ext H (H.new (.cells c.cells none)):=(Ext.refl _).new _;have b1:=AH.get_new_self H (.cells c.cells none);have c0:c.cells[0]? = some (vi c.arg):=rfl;have c1:c.cells[1]? = some (u8 c.op):=rfl;have c3:c.cells[3]? = some (u64 c.value):=rfl;have hQ:=hQ _ x1;unfold tS aMr at hQ;have k6:(.int .u8 6:Value)=u8 6#8:=rfl;have k4:(.int .u8 4:Value)=u8 4#8:=rfl;have k0:(.int .u64 0:Value)=u64 0#64:=rfl;have kM:(.int .u64 18446744073709551615:Value)=u64 18446744073709551615#64:=rfl;simp only [F.f39,aZ,AM.aW,aS,List.toList_toArray,b1,c0,c1,c3,aV,aD]
 by_cases h0:c.arg<0
 ·have:decide (0<=c.arg)=false:=by rw [decide_eq_false_iff_not]; omega
  rw [this] at hQ;simp only [Bool.false_and] at hQ;simp only [h0,decide_true,aD];exact hQ
 ·have h0':decide (0<=c.arg)=true:=by rw [decide_eq_true_iff]; omega
  rw [h0',Bool.true_and] at hQ;simp only [h0,decide_false,b1,c0,gC,gt_iff_lt,aD]
  by_cases h5:5<c.arg
  ·have:decide (c.arg<=5)=false:=by rw [decide_eq_false_iff_not]; omega
   rw [this] at hQ;simp only [Bool.false_and] at hQ;simp only [h5,decide_true,aD];exact hQ
  ·have h5':decide (c.arg<=5)=true:=by rw [decide_eq_true_iff]; omega
   rw [h5',Bool.true_and] at hQ;simp only [h5,decide_false,b1,c1,k6,eB,aD]
   by_cases h6:c.op=6#8
   ·have h4:¬ c.op=4#8:=by rw [h6]; decide
    simp only [h6,decide_true,Bool.true_and,show decide ((6#8:BitVec 8)=4#8)=false from rfl,Bool.false_and,Bool.or_false] at hQ;simp only [h6,decide_true,b1,c3,k0,wZ,aD];exact hQ
   ·simp only [h6,decide_false,Bool.false_and,Bool.false_or] at hQ
    simp only [h6,decide_false,k4,eB,aD]
    by_cases h4:c.op=4#8
    ·simp only [h4,decide_true,Bool.true_and] at hQ
     simp only [h4,decide_true,b1,c3,kM,wZ,aD];exact hQ
    ·simp only [h4,decide_false,Bool.false_and] at hQ
     simp only [h4,decide_false,aD];exact hQ
def fX (l:List cO):List (List Value):=l.map cO.cells
theorem eD (l:List cO):(fX l).length=l.length:=by simp [fX]
theorem aDd (c d:cO):iS [0,0,0,0] .eql c.v d.v=some (vb (decide (c=d))):=by
 obtain ⟨a1,a2,a3,a4⟩:=c;obtain ⟨b1,b2,b3,b4⟩:=d;simp [iS,cO.cells]
theorem xH {v:Value} {l:List cO} (hv:Rows H 4 v (fX l)) {j:Nat} (hj:j<l.length):∃ b o,aK 4 v (vi j)=some (ptr b o)/\(∀ H',Ext H H'->aE 4 (ptr b o) H'=some (l[j]).v):=by
 obtain ⟨b,o,f1,f2⟩:=hv.ix (i:=j) (by rw [eD]; exact hj)
 have hrow:(fX l)[j]'(by rw [eD]; exact hj)=(l[j]).cells:=by simp [fX]
 rw [hrow] at f2;exact ⟨b,o,f1,fun H' e=>by rw [aL,e.get (AH.lt_of_get (pR f2)),f2]; rfl⟩
theorem S.f145 (hE:aU E) {v:Value} {l:List cO} (hv:Rows H 4 v (fX l)) (hl:l.length<2 ^ 60) (c:cO) (hQ:∀ H',Ext H H'->Q (vb (decide (c∈l))) H'):E.call (E.fid i.f145) [v,c.v] H Q:=by
 apply hE.f145;have x1:Ext H (H.new (.cells c.cells none)):=(Ext.refl _).new _;have b1:=AH.get_new_self H (.cells c.cells none);simp only [F.f145,aZ,AM.aW,aS,List.toList_toArray,lH b1,aD];generalize H.new (.cells c.cells none)=H1 at *;apply hE.f147;have x2:Ext H1 (H1.new (.cells c.cells none)):=(Ext.refl _).new _;have b2:=AH.get_new_self H1 (.cells c.cells none);have hlv:=hv.lenSlc;rw [eD] at hlv;have i0:(.int .i64 0:Value)=vi ((0:Nat):Int):=rfl;simp only [F.f147,aZ,AM.aW,aS,List.toList_toArray,hlv,i0,aD];have x12:=x1.trans x2;generalize H1.new (.cells c.cells none)=H2 at *;generalize H1.next=bc at *;refine aM.count l.length (fun j ls H'=>ls=[v,ptr bc 0,vi (l.length:Int),vi j]/\H2=H'/\∀ i (hi:i<l.length),i<j->¬ c=l[i]) ?_ ⟨rfl,rfl,fun i _ h=>by omega⟩
 rintro j _ _ X hj hX ⟨rfl,rfl,hno⟩
 by_cases hjl:j<l.length
 ·have hjl':(j:Int)<l.length:=by omega
  have hjj:=cU (i:=j) (by omega)
  obtain ⟨b,o,f1,f2⟩:=xH hv hjl
  by_cases he:c=l[j]
  ·have hm:decide (c∈l)=true:=by rw [decide_eq_true_iff,he]; exact List.getElem_mem hjl
   rw [hm] at hQ;have hge:(0:Int)<=j:=by omega
   simp only [F.f147_l1,aV,hjl',decide_true,f1,f2 _ x12,lH b2,aDd,<- he,eP,ge_iff_le,hge,aD];exact hQ _ x12
  ·simp only [F.f147_l1,aV,hjl',decide_true,f1,f2 _ x12,lH b2,aDd,he,decide_false,hjj,aD]
   refine hX hjl _ _ ⟨rfl,rfl,fun i hi hij =>?_⟩
   by_cases e:i=j
   ·subst e; exact he
   ·exact hno i hi (by omega)
 ·have hjl':¬ (j:Int)<l.length:=by omega
  have hm:decide (c∈l)=false:=by
   rw [decide_eq_false_iff_not];intro hm;obtain ⟨i,hi,he⟩:=List.getElem_of_mem hm;exact hno i hi (by omega) he.symm
  rw [hm] at hQ;have hge:¬ (0:Int) <= -1:=by decide
  simp only [F.f147_l1,aV,hjl',decide_false,eP,ge_iff_le,hge,aD];exact hQ _ x12
theorem wM:∀ (l out:List cO),(kL out l).length<=out.length+l.length
 | [],out=>by simp [kL]
 | c :: l,out=>by
  rw [kL];have:=wM l (if tS c=false/\c ∉ out then out++[c] else out)
  split at this
  ·rename_i hc; rw [if_pos hc]; simp at this ⊢; omega
  ·rename_i hc; rw [if_neg hc]; simp at this ⊢; omega
theorem S.f43 (hE:aU E) {v:Value} {l:List cO} (hv:Rows H 4 v (fX l)) (hl:l.length<2 ^ 30) (hQ:∀ v' H',Ext H H'->Rows H' 4 v' (fX (nD l))->iA H.next v'->Q v' H'):E.call (E.fid i.f43) [v] H Q:=by
 apply hE.f43;have hlv:=hv.lenSlc;rw [eD] at hlv;have i0:(.int .i64 0:Value)=vi ((0:Nat):Int):=rfl;simp only [F.f43,hlv,i0,aD];refine aM.count l.length (fun j ls H'=>∃ w out,ls=[w,v,vi (l.length:Int),vi j]/\Has H zH H' [bP 4 w (fX out)]/\nD l=kL out (l.drop j)/\out.length<=j) ?_ ⟨bL,[],rfl,(Has.begin (Ext.refl H) ⟨Nat.zero_le _,fun b hb=>(hb (nR b)).elim⟩).nils 4,rfl,by simp⟩
 rintro j _ H1 X hj hX ⟨w,out,rfl,g,ht,hol⟩
 by_cases hjl:j<l.length
 rotate_left
 ·have hjl':¬ (j:Int)<l.length:=by omega
  rw [List.drop_of_length_le (by omega),kL] at ht
  simp only [F.f43_l1,aV,hjl',decide_false,aD];refine hQ w _ g.ext ?_ fun b hb=>((g.all (bP 4 w (fX out)) (by simp)).2 b (fG.2 hb)).1
  rw [ht];exact g.rows (k:=0) rfl
 have hX:=hX hjl;have hjl':(j:Int)<l.length:=by omega
 have hjj:=cU (i:=j) (by omega)
 obtain ⟨b,o,f1,f2⟩:=xH hv hjl;rw [List.drop_eq_getElem_cons hjl,kL] at ht;generalize l[j]=c at *;have x2:Ext H1 (H1.new (.cells c.cells none)):=(Ext.refl _).new _;have b2:=AH.get_new_self H1 (.cells c.cells none);simp only [F.f43_l1,aV,hjl',decide_true,f1,f2 _ g.ext,aP,tZ,lH b2,aD];have g2:=g.grow x2;generalize H1.new (.cells c.cells none)=H2 at *;generalize H1.next=bc at *;refine S.f39 hE c fun H3 e3 =>?_;have b3:=e3.cells b2;have g3:=g2.grow e3;cases ha:tS c with
 | true =>
  rw [ha,if_neg (by simp)] at ht
  simp only [hjj,aD];exact hX _ _ ⟨w,out,rfl,g3,ht,by omega⟩
 | false =>
  simp only [lH b3,aD];refine S.f145 hE (g3.rows (k:=0) rfl) (by omega) c fun H4 e4 =>?_
  have b4:=e4.cells b3;have g4:=g3.grow e4;rw [ha] at ht
  by_cases hm:c∈out
  ·rw [if_neg (by simp [hm])] at ht
   have hd:decide (c∈out)=true:=by simpa using hm
   simp only [hd,hjj,aD];exact hX _ _ ⟨w,out,rfl,g4,ht,by omega⟩
  ·rw [if_pos (by simp [hm])] at ht
   have hd:decide (c∈out)=false:=by simpa using hm
   have hbS:bR 1 4 #[(.int .i64 0),(.int .u8 0),(.int .u64 0),(.int .u64 0)] [(0,c.v)]=some (.cells c.cells none,dN 1 1):=cQ 4 [vi 0,u8 0#8,u64 0#64,u64 0#64] c.cells rfl rfl;obtain ⟨w',H5,a1,a2,g5⟩:=g4.app1 (k:=0) (bytes:=32) rfl c.cells rfl rfl (by decide) (by decide) (by rw [eD]; omega)
   have g5:Has H zH H5 [bP 4 w' (fX (out++[c]))]:=by simpa [fX] using g5
   simp only [hd,lH b4,hbS,AM.aW,cW,a1,gN,hjj,aD];exact hX _ _ ⟨w',out++[c],rfl,g5,ht,by simp; omega⟩
end
end Go.AM
end
section
namespace Go.AM
set_option maxRecDepth 20000
section
variable {E:Sy} {H H' H0 Z:AH} {Q:Value->AH->Prop} {L:List Res}
theorem aKj (hE:aU E) {X0:List Value->AH->Prop} {t0 t7 t8:Value} {i:Nat} (hi:i<2 ^ 60) {bc:Nat} {c:cO} (hb:H.get bc = .cells c.cells none) {v:Value} {l:List cO} (hv:Rows H 4 v (fX l)) (hl:l.length<2 ^ 60)
  (hQ:l.any (jL c)=true->∀ H',Ext H H'->Q (vb true) H') (hX:l.any (jL c)=false->∀ H',Ext H H'->X0 [t0,t7,t8,vi ((i+1:Nat):Int)] H') :
  aM (fun l H X1=>F.f41_l2 E Q X0 (nth l 0) (nth l 1) (nth l 2) (nth l 3) (nth l 4) (nth l 5) (nth l 6) (nth l 7) H X1) [t0,ptr bc 0,t7,t8,vi i,v,vi (l.length:Int),vi ((0:Nat):Int)] H:=by
 have c0:∀ c:cO,c.cells[0]? = some (vi c.arg):=fun _=>rfl;have c1:∀ c:cO,c.cells[1]? = some (u8 c.op):=fun _=>rfl;have c3:∀ c:cO,c.cells[3]? = some (u64 c.value):=fun _=>rfl;have k1:(.int .u8 1:Value)=u8 1#8:=rfl;refine aM.count l.length (fun j ls H'=>ls=[t0,ptr bc 0,t7,t8,vi i,v,vi (l.length:Int),vi j]/\Ext H H'/\∀ i (hi:i<l.length),i<j->jL c l[i]=false) ?_ ⟨rfl,Ext.refl _,fun i _ h=>by omega⟩
 rintro j _ H1 X1 hj hX1 ⟨rfl,e1,hno⟩
 by_cases hjl:j<l.length
 rotate_left
 ·have hjl':¬ (j:Int)<l.length:=by omega
  have hii:=cU (i:=i) (by omega)
  have ha:l.any (jL c)=false:=by
   rw [List.any_eq_false];intro x hx;obtain ⟨i,hi,rfl⟩:=List.getElem_of_mem hx;rw [hno i hi (by omega)]
   simp
  simp only [F.f41_l2,aV,hjl',decide_false,hii,aD];exact hX ha _ e1
 have hjl':(j:Int)<l.length:=by omega
 have hjj:=cU (i:=j) (by omega)
 have hX1:=hX1 hjl;obtain ⟨b,o,f1,f2⟩:=xH (hv.mono e1) hjl
 have hstep:jL c l[j]=false->∀ i (hi:i<l.length),i<j+1->jL c l[i]=false:=by
  intro h i hi hij
  by_cases e:i=j
  ·subst e; exact h
  ·exact hno i hi (by omega)
 have hyes:jL c l[j]=true->l.any (jL c)=true:=fun h=>List.any_eq_true.2 ⟨_,List.getElem_mem hjl,h⟩;generalize l[j]=d at *;have x2:Ext H1 (H1.new (.cells d.cells none)):=(Ext.refl _).new _;have b2:=AH.get_new_self H1 (.cells d.cells none);have e2:=e1.trans x2;have bb:=e2.cells hb;simp only [F.f41_l2,aV,hjl',decide_true,f1,f2 _ (Ext.refl _),aP,tZ,aD];generalize H1.new (.cells d.cells none)=H2 at *;generalize H1.next=bd at *;simp only [bb,c0,b2,eU,aD]
 by_cases h1:c.arg=d.arg
 rotate_left
 ·have hd:jL c d=false:=by simp [jL,h1]
  simp only [h1,decide_false,hjj,aD];exact hX1 _ _ ⟨rfl,e2,hstep hd⟩
 simp only [h1,decide_true,bb,c1,k1,eB,aD]
 by_cases h2:c.op=1#8
 rotate_left
 ·have hd:jL c d=false:=by simp [jL,h2]
  simp only [h2,decide_false,hjj,aD];exact hX1 _ _ ⟨rfl,e2,hstep hd⟩
 simp only [h2,decide_true,b2,c1,k1,eB,aD]
 by_cases h3:d.op=1#8
 rotate_left
 ·have hd:jL c d=false:=by simp [jL,h3]
  simp only [h3,decide_false,hjj,aD];exact hX1 _ _ ⟨rfl,e2,hstep hd⟩
 simp only [h3,decide_true,bb,b2,c3,aLs,aD]
 by_cases h4:c.value=d.value
 ·have hd:jL c d=false:=by simp [jL,h4]
  have hz:decide (c.value≠d.value)=false:=by simp [h4]
  simp only [hz,hjj,aD];exact hX1 _ _ ⟨rfl,e2,hstep hd⟩
 ·have hd:jL c d=true:=by simp [jL,h1,h2,h3,h4]
  have hz:decide (c.value≠d.value)=true:=by simp [h4]
  simp only [hz,aD];exact hQ (hyes hd) _ e2
theorem S.f41 (hE:aU E) {v:Value} {l:List cO} (hv:Rows H 4 v (fX l)) (hl:l.length<2 ^ 30) (hQ:∀ H',Ext H H'->Q (vb (aB8 l)) H'):E.call (E.fid i.f41) [v] H Q:=by
 have c1:∀ c:cO,c.cells[1]? = some (u8 c.op):=fun _=>rfl;have c3:∀ c:cO,c.cells[3]? = some (u64 c.value):=fun _=>rfl;have k3:(.int .u8 3:Value)=u8 3#8:=rfl;have k5:(.int .u8 5:Value)=u8 5#8:=rfl;have k0:(.int .u64 0:Value)=u64 0#64:=rfl;have kM:(.int .u64 18446744073709551615:Value)=u64 18446744073709551615#64:=rfl;apply hE.f41;have hlv:=hv.lenSlc;rw [eD] at hlv;have i0:(.int .i64 0:Value)=vi ((0:Nat):Int):=rfl;simp only [F.f41,hlv,i0,aD];refine aM.count l.length (fun j ls H'=>ls=[v,v,vi (l.length:Int),vi j]/\Ext H H'/\aB8 l=nI (l.take j) (l.drop j)) ?_ ⟨rfl,Ext.refl _,rfl⟩;rintro j _ H1 X hj hX ⟨rfl,e1,hn⟩
 by_cases hjl:j<l.length
 rotate_left
 ·have hjl':¬ (j:Int)<l.length:=by omega
  rw [List.drop_of_length_le (by omega),nI] at hn
  rw [hn] at hQ;simp only [F.f41_l1,aV,hjl',decide_false,aD];exact hQ _ e1
 have hX:=hX hjl;have hjl':(j:Int)<l.length:=by omega
 obtain ⟨b,o,f1,f2⟩:=xH (hv.mono e1) hjl;have htk:l.take (j+1)=l.take j++[l[j]]:=List.take_succ_eq_append_getElem hjl;rw [List.drop_eq_getElem_cons hjl,nI,<- htk] at hn;have hpl:(l.take j).length=j:=by rw [List.length_take]; omega
 obtain ⟨v',s1,s2⟩:=(hv.mono e1).slice (lo:=none) (hi:=some (vi j)) (i:=0) (j:=j) (.inr ⟨rfl,rfl⟩) (.inl rfl) (by omega) (by rw [eD]; omega)
 have s2:Rows H1 4 v' (fX (l.take j)):=by
  have:((fX l).take j).drop 0=fX (l.take j):=by simp [fX]
  rwa [this] at s2
 generalize l[j]=c at *;have x2:Ext H1 (H1.new (.cells c.cells none)):=(Ext.refl _).new _;have b2:=AH.get_new_self H1 (.cells c.cells none);have e2:=e1.trans x2
 have aFZ:rY c=false->∀ (H3:AH),Ext H1 H3->H3.get H1.next = .cells c.cells none->F.f41_j1 E Q X v (vi j) (ptr H1.next 0) v (vi (l.length:Int)) (vi j) (vb false) H3:=by
  intro h1 H3 e3 b3
  have hs:iN 4 v none (some (vi j)) none H3=some v':=by
   have:=((hv.mono e1).mono e3).slice' (lo:=none) (hi:=some (vi j)) (i:=0) (j:=j) (.inr ⟨rfl,rfl⟩) (.inl rfl) (by omega) (by rw [eD]; omega)
   have h0:=(hv.mono e1).slice' (lo:=none) (hi:=some (vi j)) (i:=0) (j:=j) (.inr ⟨rfl,rfl⟩) (.inl rfl) (by omega) (by rw [eD]; omega)
   rw [h0.1] at s1;rw [this.1,s1]
  have s3:=s2.mono e3;have hl3:=s3.lenSlc;rw [eD] at hl3;simp only [F.f41_j1,hs,hl3,i0,aD];refine aKj hE (by omega) b3 s3 (by rw [hpl]; omega) (fun ha H' e' =>?_) (fun ha H' e' =>?_)
  ·rw [hn,ha] at hQ
   simp only [Bool.or_true,Bool.true_or] at hQ;exact hQ _ ((e1.trans e3).trans e')
  ·refine hX _ _ ⟨rfl,(e1.trans e3).trans e',?_⟩
   rw [hn,h1,ha];simp
 have yes:rY c=true->∀ (H3:AH),Ext H1 H3->F.f41_j1 E Q X v (vi j) (ptr H1.next 0) v (vi (l.length:Int)) (vi j) (vb true) H3:=by
  intro h1 H3 e3;rw [hn,h1] at hQ;simp only [Bool.true_or] at hQ;simp only [F.f41_j1,aD];exact hQ _ (e1.trans e3)
 simp only [F.f41_l1,aV,hjl',decide_true,f1,f2 _ (Ext.refl _),aP,tZ,aD];simp only [b2,c1,k3,eB,aD]
 have second:(decide (c.op=3#8)&&decide (c.value=0#64))=false->(opt (aA .eql (u8 c.op) (.int .u8 5)) fun v14 =>
   gd v14 true (fun k=>opt (aB (ptr H1.next 0) 3) fun w=>k w (H1.new (.cells c.cells none))) (H1.new (.cells c.cells none)) fun v15 H6 =>
   gd v14 true (fun k=>opt (aC v15 H6) fun w=>k w H6) H6 fun v16 H7 =>
   gd v14 true (fun k=>opt (aA .eql v16 (.int .u64 18446744073709551615)) fun w=>k w H7) H7 fun v17 H8 =>
   opt (pick v14 v17 (.bool false)) fun v18=>F.f41_j1 E Q X v (vi j) (ptr H1.next 0) v (vi (l.length:Int)) (vi j) v18 H8):=by
  intro hfirst;simp only [k5,eB,aD]
  by_cases h5:c.op=5#8
  ·simp only [h5,decide_true,b2,c3,kM,wZ,aD]
   by_cases hv:c.value=18446744073709551615#64
   ·simp only [hv,decide_true,aD]
    exact yes (by simp [rY,h5,hv]) _ x2
   ·simp only [hv,decide_false,aD]
    exact aFZ (by unfold rY; rw [hfirst]; simp [h5,hv]) _ x2 b2
  ·simp only [h5,decide_false,aD]
   exact aFZ (by unfold rY; rw [hfirst]; simp [h5]) _ x2 b2
 by_cases h3:c.op=3#8
 ·simp only [h3,decide_true,b2,c3,k0,wZ,aD]
  by_cases hv:c.value=0#64
  ·simp only [hv,decide_true,aD]
   exact yes (by simp [rY,h3,hv]) _ x2
  ·have:=second (by simp [hv])
   simp only [h3] at this;simp only [hv,decide_false,b2,c1,h3,aD];exact this
 ·have:=second (by simp [h3])
  simp only [h3,decide_false,b2,c1,aD];exact this
def fF (n:Nat) (H:AH) (b:iF) (cs:List Value):Prop:=b.conds.length<2 ^ 30/\∃ v,cs=[v,u32 b.action]/\Rows H 4 v (fX b.conds)/\iA n v
theorem fF.sub {n:Nat} {H H':AH} {b:iF} {cs:List Value} (h:fF n H b cs) (e:Sub H H'):fF n H' b cs:=by
 obtain ⟨h0,v,h1,h2,h3⟩:=h;exact ⟨h0,v,h1,h2.sub e,h3⟩
def wO {α:Type} (R:α->List Value->Prop) (rows:List (List Value)) (l:List α):Prop:=rows.length=l.length/\∀ i (h1:i<l.length) (h2:i<rows.length),R l[i] rows[i]
theorem wO.nil {α:Type} (R:α->List Value->Prop):wO R [] ([]:List α):=⟨rfl,fun i h=>by simp at h⟩
theorem wO.snoc {α:Type} {R:α->List Value->Prop} {rows:List (List Value)} {l:List α} (h:wO R rows l) {r:List Value} {x:α} (hr:R x r):wO R (rows++[r]) (l++[x]):=by
 obtain ⟨h0,h⟩:=h;refine ⟨by simp [h0],fun i h1 h2 =>?_⟩
 by_cases hi:i<l.length
 ·rw [List.getElem_append_left hi,List.getElem_append_left (by omega)]
  exact h i hi (by omega)
 ·have:i=l.length:=by simp at h1; omega
  subst this;simp only [List.getElem_append_right (Nat.le_refl l.length)];simp only [Nat.sub_self,List.getElem_cons_zero]
  have:(rows++[r])[l.length]'h2=r:=by
   rw [List.getElem_append_right (by omega)]
   simp [h0]
  rw [this];exact hr
theorem wO.imp {α:Type} {R R':α->List Value->Prop} {rows:List (List Value)} {l:List α} (h:wO R rows l) (hi:∀ a c,R a c->R' a c):wO R' rows l:=⟨h.1,fun i h1 h2=>hi _ _ (h.2 i h1 h2)⟩
theorem S.f40 (hE:aU E) {v:Value} {l:List lK} (hv:dH jT H 3 v l) (hl:l.length<2 ^ 30) (hc:∀ r∈l,r.conds.length<2 ^ 20)
  (hQ:∀ v' H',Ext H H'->dH (fF H.next) H' 2 v' (gM l)->iA H.next v'->Q v' H'):E.call (E.fid i.f40) [v] H Q:=by
 apply hE.f40;have hlv:=hv.lenSlc;have i0:(.int .i64 0:Value)=vi ((0:Nat):Int):=rfl;simp only [F.f40,hlv,i0,aD]
 refine aM.count l.length (fun j ls H'=>∃ w out rows Z,ls=[w,v,vi (l.length:Int),vi j]/\Has H Z H' [bP 2 w rows]/\wO (fF H.next Z) rows out/\gM l=out++gM (l.drop j)/\out.length<=j) ?_
  ⟨bL,[],[],zH,rfl,(Has.begin (Ext.refl H) ⟨Nat.zero_le _,fun b hb=>(hb (nR b)).elim⟩).nils 2,wO.nil _,rfl,by simp⟩
 rintro j _ H1 X hj hX ⟨w,out,rows,Z,rfl,g,hea,hb,hol⟩
 have fin:gM l=out->Q w H1:=by
  intro he;refine hQ w _ g.ext ?_ fun b hb=>((g.all (bP 2 w rows) (by simp)).2 b (fG.2 hb)).1
  rw [he];exact ⟨rows,g.rows (k:=0) rfl,hea.1,fun i h1 h2=>(hea.2 i h1 h2).sub g.sub⟩
 by_cases hjl:j<l.length
 rotate_left
 ·have hjl':¬ (j:Int)<l.length:=by omega
  rw [List.drop_of_length_le (by omega),gM,List.append_nil] at hb
  simp only [F.f40_l1,aV,hjl',decide_false,aD];exact fin hb
 have hX:=hX hjl;have hjl':(j:Int)<l.length:=by omega
 have hjj:=cU (i:=j) (by omega)
 obtain ⟨b,o,cs,f1,f2,f3⟩:=(hv.mono (fun _ _ _ _ h e=>jT.mono h e) g.ext).ix (i:=j) hjl;rw [List.drop_eq_getElem_cons hjl,gM] at hb;have hcl:=hc _ (List.getElem_mem hjl);generalize l[j]=r at *;obtain ⟨hrl,cv,rfl,hcv⟩:=f3;have hpl:=hcv.plain;have lo1:aE 3 (ptr b o) H1=some (.agg [u32 r.number,u32 r.action,cv].toArray):=by rw [aL,f2]; rfl
 have g2:=g.newbox [u32 r.number,u32 r.action,cv]
 have st2:aG 3 (ptr H1.next 0) (.agg [u32 r.number,u32 r.action,cv].toArray) (H1.new (.cells [(.int .u32 0),(.int .u32 0),(.slice none 0 0)] none))=some (H1.new (.cells [u32 r.number,u32 r.action,cv] none)):=by
  rw [cX,AH.get_new_self];have h3:AM.bF [(.int .u32 0),(.int .u32 0),(.slice none 0 0)] 0 [u32 r.number,u32 r.action,cv]=[u32 r.number,u32 r.action,cv]:=rfl;have h4:[u32 r.number,u32 r.action,cv].all plain1=true:=by simp [hpl]
  have h5:[u32 r.number,u32 r.action,cv].length=3:=rfl;simp only [List.size_toArray,List.toList_toArray,h4,h5,List.length_cons,List.length_nil,Nat.zero_add,Nat.le_refl,and_self,if_true,h3,AH.new_put]
 have x2:Ext H1 (H1.new (.cells [u32 r.number,u32 r.action,cv] none)):=(Ext.refl _).new _;have b2:=AH.get_new_self H1 (.cells [u32 r.number,u32 r.action,cv] none);simp only [F.f40_l1,aV,hjl',decide_true,f1,lo1,aP,st2,aD];have hcv2:=hcv.mono x2;generalize H1.new (.cells [u32 r.number,u32 r.action,cv] none)=H2 at *;generalize H1.next=br at *;simp only [b2,aP,aD];have g3:=g2.newbox [(.slice none 0 0),(.int .u32 0)];have x3:Ext H2 (H2.new (.cells [(.slice none 0 0),(.int .u32 0)] none)):=(Ext.refl _).new _;have b3:=AH.get_new_self H2 (.cells [(.slice none 0 0),(.int .u32 0)] none);have hcv3:=hcv2.mono x3;have b23:=x3.cells b2;generalize H2.new (.cells [(.slice none 0 0),(.int .u32 0)] none)=H3 at *;generalize H2.next=bb at *;refine S.f43 hE hcv3 (by omega) fun tv H4 e4 tr tf =>?_
 have b4:=e4.cells b3;have b24:=e4.cells b23;obtain ⟨Z4,fz,g4,keep⟩:=g3.callee e4;have tr4:=keep _ _ _ tr tf;have htl:(nD r.conds).length<=r.conds.length:=by have:=wM r.conds []; simpa [nD] using this
 have hn3:H.next<=H3.next:=g3.ext.1;have tf0:iA H.next tv:=fun b hb=>Nat.le_trans hn3 (tf b hb);have htp:=tr.plain
 have hbv:aX [(0,1),(1,1)] #[(.slice none 0 0),(.int .u32 0)] [(0,tv),(1,u32 r.action)]=some (.agg [tv,u32 r.action].toArray):=by
  have hd:=zC htp;have hvc:=sN htp;simp [hd,hvc,bF]
 have st4:aG 2 (ptr bb 0) (.agg [tv,u32 r.action].toArray) H4=some (H4.put bb (.cells [tv,u32 r.action] none)):=by
  rw [cX,b4];have h3:AM.bF [(.slice none 0 0),(.int .u32 0)] 0 [tv,u32 r.action]=[tv,u32 r.action]:=rfl;have h4:[tv,u32 r.action].all plain1=true:=by simp [htp]
  simp only [List.size_toArray,List.toList_toArray,h4,List.length_cons,List.length_nil,Nat.zero_add,Nat.le_refl,and_self,if_true,h3]
 have g5:=g4.put (k:=2) (b:=bb) rfl [tv,u32 r.action];refine ⟨by rw [b4,b3],by rw [aN,aN,b24,b2],?_⟩
 simp only [hbv,st4,aD];generalize H4.put bb (.cells [tv,u32 r.action] none)=H5 at *;have g5:Has H Z4 H5 [bP 2 w rows,aF br [u32 r.number,u32 r.action,cv],aF bb [tv,u32 r.action]]:=g5;have b5:=g5.box (k:=2) (b:=bb) rfl;have tr5:=tr4.sub g5.sub;simp only [b5,aD];refine S.f41 hE tr5 (by omega) fun H6 e6 =>?_
 have g6:=g5.grow e6;have hea4:wO (fF H.next Z4) rows out:=hea.imp fun a c h=>h.sub fz.1;cases hnv:aB8 (nD r.conds) with
 | true =>
  rw [if_pos hnv] at hb;simp only [hjj,aD];exact hX _ _ ⟨w,out,rows,Z4,rfl,(g6.drop 2).drop 1,hea4,hb,by omega⟩
 | false =>
  rw [if_neg (by rw [hnv]; decide)] at hb
  have b6:=g6.box (k:=2) (b:=bb) rfl;have lo6:aE 2 (ptr bb 0) H6=some (.agg [tv,u32 r.action].toArray):=by rw [aL,b6]; rfl
  have hbS:bR 1 2 #[(.slice none 0 0),(.int .u32 0)] [(0,.agg [tv,u32 r.action].toArray)]=some (.cells [tv,u32 r.action] none,dN 1 1):=cQ 2 [bL,u32 0#32] _ rfl rfl;obtain ⟨w',H7,a1,a2,g7⟩:=g6.app1 (k:=0) (bytes:=32) rfl [tv,u32 r.action] rfl (by simp [htp]) (by decide) (by decide) (by rw [hea.1]; omega)
  have g7:Has H Z4 H7 [bP 2 w' (rows++[[tv,u32 r.action]]),aF br [u32 r.number,u32 r.action,cv],aF bb [tv,u32 r.action]]:=g7;have b7:=g7.box (k:=2) (b:=bb) rfl;have hlt:=tr4.lenSlc;rw [eD] at hlt;have hea7:wO (fF H.next Z4) (rows++[[tv,u32 r.action]]) (out++[⟨nD r.conds,r.action⟩]):=hea4.snoc ⟨by show (nD r.conds).length<_; omega,tv,rfl,tr4,tf0⟩
  simp only [lo6,hbS,AM.aW,cW,a1,gN,b7,hlt,eU,aD]
  by_cases h0:nD r.conds=[]
  ·rw [if_pos h0] at hb
   have hz:decide (((nD r.conds).length:Int)=0)=true:=by rw [h0]; rfl
   simp only [hz,aD];refine hQ w' _ g7.ext ?_ fun b hb=>((g7.all (bP 2 w' (rows++[[tv,u32 r.action]])) (by simp)).2 b (fG.2 hb)).1
   rw [hb,<- h0];exact ⟨_,g7.rows (k:=0) rfl,hea7.1,fun i h1 h2=>(hea7.2 i h1 h2).sub g7.sub⟩
  ·rw [if_neg h0] at hb
   have hz:decide (((nD r.conds).length:Int)=0)=false:=by
    rw [decide_eq_false_iff_not];intro h;exact h0 (List.length_eq_zero_iff.1 (by omega))
   simp only [hz,hjj,aD];exact hX _ _ ⟨w',_,_,Z4,rfl,(g7.drop 2).drop 1,hea7,by rw [hb]; simp,by simp; omega⟩
end
end Go.AM
end
section
namespace Go.AM
open Go.Sort (swp SWO PermIn SortedIn)
section
variable {α:Type} [Inhabited α] {sz:Nat} {enc:α->List Value} {H H' H'':AH} {b c n:Nat} {d d':Array α} {tail:List Value} {f:Option Nat}
def lW (enc:α->List Value) (d:Array α) (tail:List Value) (f:Option Nat):cH := .cells (d.toList.flatMap enc++tail) f
structure mZ (sz:Nat) (enc:α->List Value):Prop where
 len:∀ x,(enc x).length=sz
 plain:∀ x,(enc x).all plain1=true
theorem aBB {i:Nat} (h:i<n):aK sz (slc b 0 n c) (vi (i:Int))=some (ptr b (i*sz)):=by
 rw [qE _ _ _ _ _ _ h,Nat.zero_add]
theorem mZ.flat (he:mZ sz enc):∀ l:List α,(l.flatMap enc).length=l.length*sz
 | []=>by simp
 | x :: l=>by
  rw [List.flatMap_cons,List.length_append,he.len,he.flat l,List.length_cons,Nat.succ_mul,Nat.add_comm]
theorem kJ (he:mZ sz enc) (hg:H.get b=lW enc d tail f) {i:Nat} (hi:i<d.size):aE sz (ptr b (i*sz)) H=some (.agg (enc d[i]!).toArray):=by
 have hle:i*sz+sz<=d.size*sz:=by rw [<- Nat.succ_mul]; exact Nat.mul_le_mul_right _ hi
 have hl:(d.toList.flatMap enc).length=d.size*sz:=by rw [he.flat d.toList]; simp
 rw [aL,hg,lW,jS,if_pos (by rw [List.length_append,hl]; omega)]
 have hp:=lE (d.toList.map enc) (sz:=sz) (fun r hr=>by obtain ⟨x,_,rfl⟩:=List.mem_map.1 hr; exact he.len x) i (by simpa using hi)
 rw [<- List.flatMap_def] at hp;rw [List.drop_append_of_le_length (by omega),List.take_append_of_le_length (by rw [List.length_drop]; omega),hp]
 simp [hi]
theorem aBW (A B v:List Value) (k:Nat):bF (A++B) (A.length+k) v=A++bF B k v:=by
 unfold bF;rw [List.take_length_add_append,Nat.add_assoc,List.drop_length_add_append,List.append_assoc,List.append_assoc];simp only [List.append_assoc]
theorem wL (he:mZ sz enc):∀ (l:List α) (i:Nat) (x:α) (tail:List Value),i<l.length->bF (l.flatMap enc++tail) (i*sz) (enc x)=(l.set i x).flatMap enc++tail
 | [],i,x,tail,h=>by simp at h
 | y :: l,0,x,tail,h=>by
  have h1:=he.len x;have h2:=he.len y;simp only [Nat.zero_mul,bF,List.take_zero,List.nil_append,Nat.zero_add,List.set_cons_zero,List.flatMap_cons,h1,List.append_assoc];rw [<- h2,List.drop_left]
 | y :: l,i+1,x,tail,h=>by
  have h1:=he.len y;have ih:=wL he l i x tail (by simpa using h)
  simp only [List.set_cons_succ,List.flatMap_cons,List.append_assoc];rw [<- ih,show (i+1)*sz=(enc y).length+i*sz by rw [h1,Nat.succ_mul,Nat.add_comm],aBW]
theorem aBb (he:mZ sz enc) (hg:H.get b=lW enc d tail f) {i:Nat} (hi:i<d.size) (x:α):aG sz (ptr b (i*sz)) (.agg (enc x).toArray) H=some (H.put b (lW enc (d.setIfInBounds i x) tail f)):=by
 have hle:i*sz+sz<=d.size*sz:=by rw [<- Nat.succ_mul]; exact Nat.mul_le_mul_right _ hi
 have hl:(d.toList.flatMap enc).length=d.size*sz:=by rw [he.flat d.toList]; simp
 rw [cX,hg,lW];simp only [List.size_toArray,List.toList_toArray,he.len,he.plain];rw [if_pos ⟨trivial,by rw [List.length_append,hl]; omega,trivial⟩,wL he _ _ _ _ (by simpa using hi)]
 simp only [lW,Array.toList_setIfInBounds]
theorem aCp (hg:H.get b=lW enc d tail f):b<H.next:=AH.lt_cells hg
theorem aCW (he:mZ sz enc) (hg:H.get b=lW enc d tail f) {i j:Nat} (hi:i<d.size) (hj:j<d.size) :
  aG sz (ptr b (i*sz)) (.agg (enc d[j]!).toArray) H=some (H.put b (lW enc (d.setIfInBounds i d[j]!) tail f)) /\
  aG sz (ptr b (j*sz)) (.agg (enc d[i]!).toArray) (H.put b (lW enc (d.setIfInBounds i d[j]!) tail f))=some (H.put b (lW enc (swp d i j) tail f)):=by
 refine ⟨aBb he hg hi _,?_⟩;rw [aBb he (AH.get_put_self _ _ (aCp hg)) (by simpa using hj),AH.put_put]
 rfl
structure gB (H:AH) (b:Nat) (enc:α->List Value) (tail:List Value) (f:Option Nat) (d':Array α) (H':AH):Prop where
 only:dT [b] H H'
 get:H'.get b=lW enc d' tail f
theorem gB.refl (hg:H.get b=lW enc d tail f):gB H b enc tail f d H:=⟨dT.refl _ _,hg⟩
theorem gB.put (h:gB H b enc tail f d H') (d':Array α):gB H b enc tail f d' (H'.put b (lW enc d' tail f)) :=
 ⟨h.only.put (.inl (by simp)) _,AH.get_put_self _ _ (aCp h.get)⟩
theorem gB.ext (h:gB H b enc tail f d H') (e:Ext H' H''):gB H b enc tail f d H'' :=
 ⟨h.only.trans' e.only,by rw [e.get (aCp h.get)]; exact h.get⟩
def aA9 (E:Sy) (fv:Value) (enc:α->List Value) (LT:α->α->Bool):Prop:=∀ (x y:α) (H:AH) (K:Value->AH->Prop),(∀ (z:Int) H',Ext H H'->decide (z<0)=LT x y->K (vi z) H')->eH E.call fv [.agg (enc x).toArray,.agg (enc y).toArray] H K
end
section
variable {α:Type} [Inhabited α] (rk:α->Nat)
def ltK (x y:α):Bool:=decide (rk x<rk y)
theorem aLb:SWO (ltK rk):=⟨fun x=>by simp [ltK],fun x y z=>by simp only [ltK,decide_eq_true_eq]; omega,fun x y z=>by simp only [ltK,decide_eq_false_iff_not]; omega⟩
def gF (l l':List α):Prop:=∀ k,l'.filter (fun x=>decide (rk x=k))=l.filter fun x=>decide (rk x=k)
theorem gF.refl (l:List α):gF rk l l:=fun _=>rfl
theorem gF.trans {l l' l'':List α} (h:gF rk l l') (h':gF rk l' l''):gF rk l l'':=fun k=>(h' k).trans (h k)
theorem gF.app {a a' b b':List α} (h:gF rk a a') (h':gF rk b b'):gF rk (a++b) (a'++b'):=fun k=>by rw [List.filter_append,List.filter_append,h k,h' k]
theorem gF.swap2 {x y:α} (h:rk x≠rk y) (p q:List α):gF rk (p++x :: y :: q) (p++y :: x :: q):=by
 refine (gF.refl rk p).app rk fun k =>?_
 by_cases h1:rk x=k
 ·have h2:¬ rk y=k:=fun e=>h (h1.trans e.symm)
  simp [List.filter_cons,h1,h2]
 ·simp [List.filter_cons,h1]
theorem aIK (d:Array α) {j:Nat} (h:j+1<d.size):∃ p q,d.toList=p++d[j]! :: d[j+1]! :: q/\(swp d (j+1) j).toList=p++d[j+1]! :: d[j]! :: q/\p.length=j:=by
 have h1:d.toList=d.toList.take j++d[j]! :: d[j+1]! :: d.toList.drop (j+2):=by
  conv=>lhs; rw [<- List.take_append_drop j d.toList]
  congr 1
  rw [List.drop_eq_getElem_cons (by simpa using Nat.lt_of_succ_lt h),List.drop_eq_getElem_cons (by simpa using h)]
  have e1:d[j]! = d.toList[j]'(by simpa using Nat.lt_of_succ_lt h):=by
   rw [getElem!_pos d j (by omega)]; simp
  have e2:d[j+1]! = d.toList[j+1]'(by simpa using h):=by
   rw [getElem!_pos d (j+1) h]; simp
  rw [e1,e2]
 refine ⟨_,_,h1,?_,by rw [List.length_take,Array.length_toList]; omega⟩
 unfold Go.Sort.swp;rw [Array.toList_setIfInBounds,Array.toList_setIfInBounds];generalize d[j]! = x at *;generalize d[j+1]! = y at *;have hl:(d.toList.take j).length=j:=by rw [List.length_take,Array.length_toList]; omega
 rw [h1];generalize d.toList.drop (j+2)=q;generalize d.toList.take j=p at *;subst hl;rw [List.set_append_right _ _ (by omega),List.set_append_right _ _ (by omega)]
 simp
theorem rA (a:Nat):∀ (j:Nat) (d:Array α),j<d.size->gF rk d.toList (Go.Sort.insInner (ltK rk) a j d).toList/\(Go.Sort.insInner (ltK rk) a j d).size=d.size
 | 0,d,_=>⟨gF.refl rk _,rfl⟩
 | j+1,d,h=>by
  rw [Go.Sort.insInner]
  split
  ·rename_i hc
   simp only [Bool.and_eq_true,ltK,decide_eq_true_eq] at hc;obtain ⟨p,q,h1,h2,_⟩:=aIK d h;have ih:=rA a j (swp d (j+1) j) (by rw [Go.Sort.size_swp]; omega)
   rw [Go.Sort.size_swp] at ih;refine ⟨gF.trans rk ?_ ih.1,ih.2⟩;rw [h1,h2];exact gF.swap2 rk (by omega) p q
  ·exact ⟨gF.refl rk _,rfl⟩
theorem rD (a b:Nat):∀ (m i:Nat) (d:Array α),b - i<=m->b<=d.size->gF rk d.toList (Go.Sort.insOuter (ltK rk) a b i d).toList
 | 0,i,d,h,hb=>by
  rw [Go.Sort.insOuter,if_neg (by omega)]
  exact gF.refl rk _
 | m+1,i,d,h,hb=>by
  rw [Go.Sort.insOuter]
  split
  ·rename_i hc
   obtain ⟨h1,h2⟩:=rA rk a i d (by omega)
   exact gF.trans rk h1 (rD a b m (i+1) _ (by omega) (by omega))
  ·exact gF.refl rk _
theorem rP (d:Array α) (a b:Nat) (hb:b<=d.size):gF rk d.toList (Go.Sort.insertionSort (ltK rk) d a b).toList:=rD rk a b _ _ d (Nat.le_refl _) hb
def eW (l:List α):Nat->List α
 | 0=>[]
 | n+1=>eW l n++l.filter fun x=>decide (rk x=n)
theorem pI:∀ (l:List α),l.Pairwise (fun x y=>rk x<=rk y)->∀ n,l.filter (fun x=>decide (rk x<n+1))=l.filter (fun x=>decide (rk x<n))++l.filter fun x=>decide (rk x=n)
 | [],_,n=>rfl
 | x :: l,hs,n=>by
  have hx:=List.pairwise_cons.1 hs;have ih:=pI l hx.2 n
  by_cases h1:rk x<n
  ·rw [List.filter_cons_of_pos (by simpa using Nat.lt_succ_of_lt h1),List.filter_cons_of_pos (by simpa using h1),List.filter_cons_of_neg (by simp; omega),ih]
   rfl
  ·have hnone:(x :: l).filter (fun x=>decide (rk x<n))=[]:=by
    rw [List.filter_eq_nil_iff];intro y hy;simp only [decide_eq_true_eq];rcases List.mem_cons.1 hy with rfl | hy
    ·exact h1
    ·have:=hx.1 y hy; omega
   have hnone2:l.filter (fun x=>decide (rk x<n))=[]:=by
    rw [List.filter_eq_nil_iff];intro y hy;simp only [decide_eq_true_eq];have:=hx.1 y hy; omega
   rw [hnone,List.nil_append];rw [hnone2,List.nil_append] at ih
   by_cases h2:rk x=n
   ·rw [List.filter_cons_of_pos (by simp; omega),List.filter_cons_of_pos (by simpa using h2),ih]
   ·rw [List.filter_cons_of_neg (by simp; omega),List.filter_cons_of_neg (by simpa using h2),ih]
theorem qU (l:List α) (hs:l.Pairwise fun x y=>rk x<=rk y):∀ n,l.filter (fun x=>decide (rk x<n))=eW rk l n
 | 0=>by simp [eW]
 | n+1=>by rw [eW,<- qU l hs n,pI rk l hs n]
theorem vX {l l':List α} (h:gF rk l l'):∀ n,eW rk l' n=eW rk l n
 | 0=>rfl
 | n+1=>by rw [eW,eW,vX h n,h n]
theorem aGp {l l':List α} (h:gF rk l l') (hs:l'.Pairwise fun x y=>rk x<=rk y) {n:Nat} (hn:∀ x∈l',rk x<n):l'=eW rk l n:=by
 rw [<- vX rk h,<- qU rk l' hs n,List.filter_eq_self.2];intro x hx
 simpa using hn x hx
theorem tO {d:Array α} (h:SortedIn (ltK rk) 0 d.size d):d.toList.Pairwise fun x y=>rk x<=rk y:=by
 rw [List.pairwise_iff_getElem];intro i j hi hj hij;have hi':i<d.size:=by simpa using hi
 have hj':j<d.size:=by simpa using hj
 have:=h i j (Nat.zero_le _) hij hj';rw [getElem!_pos d i hi',getElem!_pos d j hj'] at this;simp only [ltK,decide_eq_false_iff_not] at this;simp only [Array.getElem_toList];omega
end
end Go.AM
end
section
namespace Go.AM
open Go.Sort
set_option maxRecDepth 20000
section
variable {α:Type} [Inhabited α] {E:Sy} {H H':AH} {Q:Value->AH->Prop} {b c n:Nat} {enc:α->List Value} {LT:α->α->Bool} {fv:Value} {d:Array α} {tail:List Value} {f:Option Nat}
theorem S.f159 (hE:aU E) (he:mZ 3 enc) (hC:aA9 E fv enc LT) (hg:H.get b=lW enc d tail f) (hn:d.size=n) (hsz:n<2 ^ 60) (a e:Nat) (hae:a<=e) (hle:e<=n)
  (hQ:∀ H',gB H b enc tail f (insertionSort LT d a e) H'->Q (.tuple #[]) H'):E.call (E.fid i.f159) [slc b 0 n c,vi a,vi e,fv] H Q:=by
 apply hE.f159;have a1:aA .add (vi a) (.int .i64 1)=some (vi ((a+1:Nat):Int)):=cL a (by omega)
 simp only [F.f159,a1,aD];unfold insertionSort at hQ;obtain ⟨R,hR⟩:∃ R,R=insOuter LT a e (a+1) d:=⟨_,rfl⟩;rw [<- hR] at hQ;refine aM.ind (fun m l H'=>∃ (j:Nat) (d':Array α),l=[slc b 0 n c,vi a,vi e,fv,vi j]/\gB H b enc tail f d' H'/\d'.size=n/\R=insOuter LT a e j d'/\a<j/\m=e - j) ?_ (e - (a+1)) ⟨a+1,d,rfl,.refl hg,hn,hR,by omega,rfl⟩
 rintro m _ H1 X hX ⟨j,d1,rfl,s1,n1,r1,haj,rfl⟩;unfold insOuter at r1
 by_cases hj:j<e
 ·rw [if_pos hj] at r1
  have hj':(j:Int)<e:=by omega
  have hjj:aA .add (vi j) (.int .i64 1)=some (vi ((j+1:Nat):Int)):=cL j (by omega)
  simp only [F.f159_l1,aV,hj',decide_true,aD];refine aM.ind (fun m l H2=>∃ (k:Nat) (d2:Array α),l=[slc b 0 n c,vi a,vi e,fv,vi j,vi k]/\gB H b enc tail f d2 H2/\d2.size=n/\insInner LT a j d1=insInner LT a k d2/\k<=j/\m=k) ?_ j ⟨j,d1,rfl,s1,n1,rfl,Nat.le_refl _,rfl⟩;rintro m _ H2 X1 hX1 ⟨k,d2,rfl,s2,n2,r2,hkj,rfl⟩
  have done:insInner LT a m d2=d2->∀ H3,Ext H2 H3->X [slc b 0 n c,vi a,vi e,fv,vi ((j+1:Nat):Int)] H3:=by
   intro e2 H3 e3;rw [e2] at r2;rw [r2] at r1;exact hX (e - (j+1)) (by omega) _ _ ⟨j+1,d2,rfl,s2.ext e3,n2,r1,by omega,rfl⟩
  by_cases hka:a<m
  ·obtain ⟨k,rfl⟩:∃ k,m=k+1:=⟨m - 1,by omega⟩
   have hka':(a:Int)<((k+1:Nat):Int):=by omega
   have f1:aK 3 (slc b 0 n c) (vi ((k+1:Nat):Int))=some (ptr b ((k+1)*3)):=aBB (by omega)
   have f2:aK 3 (slc b 0 n c) (vi (k:Int))=some (ptr b (k*3)):=aBB (by omega)
   have g1:=kJ he s2.get (i:=k+1) (by omega)
   have g2:=kJ he s2.get (i:=k) (by omega)
   have hd:aA .sub (vi ((k+1:Nat):Int)) (.int .i64 1)=some (vi (k:Int)):=eC (k+1) (by omega) (by omega)
   simp only [F.f159_l2,gC,gt_iff_lt,hka',decide_true,f1,f2,g1,g2,hd,aD];refine hC _ _ _ _ fun z H3 e3 hz =>?_;have s3:=s2.ext e3;have g1:=kJ he s3.get (i:=k+1) (by omega)
   have g2:=kJ he s3.get (i:=k) (by omega)
   obtain ⟨w1,w2⟩:=aCW he s3.get (i:=k+1) (j:=k) (by omega) (by omega)
   simp only [aV,hz,aD];have hka2:k+1 > a:=hka;cases hl:LT d2[k+1]! d2[k]! with
   | true =>
    rw [insInner,if_pos (by simp [hka2,hl])] at r2
    simp only [hd,f1,f2,g1,g2,w1,w2,aD];exact hX1 k (by omega) _ _ ⟨k,_,rfl,s3.put _,by rw [size_swp]; exact n2,r2,by omega,rfl⟩
   | false =>
    simp only [hjj,aD];exact done (by rw [insInner,if_neg (by simp [hl])]) _ e3
  ·have hka':¬ (a:Int)<(m:Int):=by omega
   simp only [F.f159_l2,gC,gt_iff_lt,hka',decide_false,hjj,aD];refine done ?_ _ (Ext.refl _);cases m with
   | zero=>rfl
   | succ k=>rw [insInner,if_neg (by simp; omega)]
 ·rw [if_neg hj] at r1
  subst r1;have hj':¬ (j:Int)<e:=by omega
  simp only [F.f159_l1,aV,hj',decide_false,aD];exact hQ _ s1
theorem S.slices_SortStableFunc_few (hE:aU E) (he:mZ 3 enc) (hC:aA9 E fv enc LT) (hg:H.get b=lW enc d tail f) (hn:d.size=n) (hsz:n<20)
  (hQ:∀ H',gB H b enc tail f (insertionSort LT d 0 n) H'->Q (.tuple #[]) H'):E.call (E.fid i.f150) [slc b 0 n c,fv] H Q:=by
 apply hE.f150;simp only [F.f150,oJ,aD];apply hE.f176;simp only [F.f176];have h20:¬ (20:Int)<=(n:Int):=by omega
 have h21:¬ (20:Int)<(n:Int):=by omega
 refine aM.step fun X _ =>?_;simp only [F.f176_l1,tL,h20,decide_false,aD];have i0:(.int .i64 0:Value)=vi ((0:Nat):Int):=rfl;rw [i0];refine S.f159 hE he hC hg hn (by omega) 0 n (Nat.zero_le _) (Nat.le_refl _) fun H' s =>?_
 refine aM.step fun X _ =>?_;simp only [F.f176_l2,aV,h21,decide_false,aD];exact hQ _ s
end
end Go.AM
end
section
namespace Go.AM
open Go.Sort
set_option maxRecDepth 20000
section
variable {α:Type} [Inhabited α] {E:Sy} {H H':AH} {Q:Value->AH->Prop} {b c n:Nat} {enc:α->List Value} {LT:α->α->Bool} {fv:Value} {d:Array α} {tail:List Value} {f:Option Nat}
theorem S.f158 (hE:aU E) (he:mZ 2 enc) (hC:aA9 E fv enc LT) (hg:H.get b=lW enc d tail f) (hn:d.size=n) (hsz:n<2 ^ 60) (a e:Nat) (hae:a<=e) (hle:e<=n)
  (hQ:∀ H',gB H b enc tail f (insertionSort LT d a e) H'->Q (.tuple #[]) H'):E.call (E.fid i.f158) [slc b 0 n c,vi a,vi e,fv] H Q:=by
 apply hE.f158;have a1:aA .add (vi a) (.int .i64 1)=some (vi ((a+1:Nat):Int)):=cL a (by omega)
 simp only [F.f158,a1,aD];unfold insertionSort at hQ;obtain ⟨R,hR⟩:∃ R,R=insOuter LT a e (a+1) d:=⟨_,rfl⟩;rw [<- hR] at hQ;refine aM.ind (fun m l H'=>∃ (j:Nat) (d':Array α),l=[slc b 0 n c,vi a,vi e,fv,vi j]/\gB H b enc tail f d' H'/\d'.size=n/\R=insOuter LT a e j d'/\a<j/\m=e - j) ?_ (e - (a+1)) ⟨a+1,d,rfl,.refl hg,hn,hR,by omega,rfl⟩
 rintro m _ H1 X hX ⟨j,d1,rfl,s1,n1,r1,haj,rfl⟩;unfold insOuter at r1
 by_cases hj:j<e
 ·rw [if_pos hj] at r1
  have hj':(j:Int)<e:=by omega
  have hjj:aA .add (vi j) (.int .i64 1)=some (vi ((j+1:Nat):Int)):=cL j (by omega)
  simp only [F.f158_l1,aV,hj',decide_true,aD];refine aM.ind (fun m l H2=>∃ (k:Nat) (d2:Array α),l=[slc b 0 n c,vi a,vi e,fv,vi j,vi k]/\gB H b enc tail f d2 H2/\d2.size=n/\insInner LT a j d1=insInner LT a k d2/\k<=j/\m=k) ?_ j ⟨j,d1,rfl,s1,n1,rfl,Nat.le_refl _,rfl⟩;rintro m _ H2 X1 hX1 ⟨k,d2,rfl,s2,n2,r2,hkj,rfl⟩
  have done:insInner LT a m d2=d2->∀ H3,Ext H2 H3->X [slc b 0 n c,vi a,vi e,fv,vi ((j+1:Nat):Int)] H3:=by
   intro e2 H3 e3;rw [e2] at r2;rw [r2] at r1;exact hX (e - (j+1)) (by omega) _ _ ⟨j+1,d2,rfl,s2.ext e3,n2,r1,by omega,rfl⟩
  by_cases hka:a<m
  ·obtain ⟨k,rfl⟩:∃ k,m=k+1:=⟨m - 1,by omega⟩
   have hka':(a:Int)<((k+1:Nat):Int):=by omega
   have f1:aK 2 (slc b 0 n c) (vi ((k+1:Nat):Int))=some (ptr b ((k+1)*2)):=aBB (by omega)
   have f2:aK 2 (slc b 0 n c) (vi (k:Int))=some (ptr b (k*2)):=aBB (by omega)
   have g1:=kJ he s2.get (i:=k+1) (by omega)
   have g2:=kJ he s2.get (i:=k) (by omega)
   have hd:aA .sub (vi ((k+1:Nat):Int)) (.int .i64 1)=some (vi (k:Int)):=eC (k+1) (by omega) (by omega)
   simp only [F.f158_l2,gC,gt_iff_lt,hka',decide_true,f1,f2,g1,g2,hd,aD];refine hC _ _ _ _ fun z H3 e3 hz =>?_;have s3:=s2.ext e3;have g1:=kJ he s3.get (i:=k+1) (by omega)
   have g2:=kJ he s3.get (i:=k) (by omega)
   obtain ⟨w1,w2⟩:=aCW he s3.get (i:=k+1) (j:=k) (by omega) (by omega)
   simp only [aV,hz,aD];have hka2:k+1 > a:=hka;cases hl:LT d2[k+1]! d2[k]! with
   | true =>
    rw [insInner,if_pos (by simp [hka2,hl])] at r2
    simp only [hd,f1,f2,g1,g2,w1,w2,aD];exact hX1 k (by omega) _ _ ⟨k,_,rfl,s3.put _,by rw [size_swp]; exact n2,r2,by omega,rfl⟩
   | false =>
    simp only [hjj,aD];exact done (by rw [insInner,if_neg (by simp [hl])]) _ e3
  ·have hka':¬ (a:Int)<(m:Int):=by omega
   simp only [F.f158_l2,gC,gt_iff_lt,hka',decide_false,hjj,aD];refine done ?_ _ (Ext.refl _);cases m with
   | zero=>rfl
   | succ k=>rw [insInner,if_neg (by simp; omega)]
 ·rw [if_neg hj] at r1
  subst r1;have hj':¬ (j:Int)<e:=by omega
  simp only [F.f158_l1,aV,hj',decide_false,aD];exact hQ _ s1
theorem S.slices_SortFunc_few (hE:aU E) (hS:SWO LT) (he:mZ 2 enc) (hC:aA9 E fv enc LT) (hg:H.get b=lW enc d tail f) (hn:d.size=n) (hsz:n<=12)
  (hQ:∀ d' H',PermIn 0 n d d'->SortedIn LT 0 n d'->gB H b enc tail f d' H'->Q (.tuple #[]) H'):E.call (E.fid i.f149) [slc b 0 n c,fv] H Q:=by
 apply hE.f149;have e1:(BitVec.ofNat 64 n).toNat=n:=by rw [BitVec.toNat_ofNat,Nat.mod_eq_of_lt (by omega)]
 have hc:aR .u64 (vi (n:Int))=some (u64 (BitVec.ofNat 64 n)):=by rw [fZ,BitVec.ofInt_natCast]
 simp only [F.f149,oJ,hc,aD];refine S.f105 hE _ (by rw [e1]; omega) ?_
 apply hE.f171;simp only [F.f171];have i0:(.int .i64 0:Value)=vi ((0:Nat):Int):=rfl;rw [i0];refine aM.step fun X _ =>?_
 have a1:aA .sub (vi (n:Int)) (vi ((0:Nat):Int))=some (vi (n:Int)):=by
  rw [fE (by omega) (by omega)]; simp
 have c12:(n:Int)<=12:=by omega
 simp only [F.f171_l1,a1,tL,c12,decide_true,aD];refine S.f158 hE he hC hg hn (by omega) 0 n (Nat.zero_le _) (Nat.le_refl _) fun H' s =>?_
 obtain ⟨h1,h2⟩:=insertionSort_holds hS d 0 n (Nat.zero_le _) (by omega)
 exact hQ _ _ h1 h2 s
theorem S.slices_SortFunc_nil (hE:aU E) (hQ:Q (.tuple #[]) H):E.call (E.fid i.f149) [bL,fv] H Q:=by
 apply hE.f149;have hc:aR .u64 (vi 0)=some (u64 0#64):=by rw [fZ]; rfl
 have hl:AM.lenSlc bL=some (vi 0):=rfl;simp only [F.f149,hl,hc,aD];refine S.f105 hE _ (by decide) ?_
 apply hE.f171;simp only [F.f171];refine aM.step fun X _ =>?_;have a1:aA .sub (vi 0) (vi 0)=some (vi 0):=fE (by decide) (by decide)
 simp only [F.f171_l1,a1,tL,show ((0:Int)<=12)=True by simp,decide_true,aD]
 apply hE.f158;have ha:aA .add (vi 0) (.int .i64 1)=some (vi 1):=iQ (by decide) (by decide)
 simp only [F.f158,ha,aD];refine aM.step fun X _ =>?_;have h10:¬ (1:Int)<0:=by decide
 simp only [F.f158_l1,aV,h10,decide_false,aD];exact hQ
end
end Go.AM
end
