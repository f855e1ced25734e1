/- CONTRACTS ON THE PRINTED FUNCTIONS. -/
import Derived.Test.YtgeenpollgalkaaGreatDoorRf279C1
set_option linter.all false
section
namespace Go.AM
open Go.Sort (SWO PermIn SortedIn)
def le16 (a b:BitVec 16):Bool:=decide (a.toNat≤b.toNat)
def sort16 (l:List (BitVec 16)):List (BitVec 16):=l.mergeSort le16
theorem sort16_perm (l:List (BitVec 16)):(sort16 l).Perm l:=List.mergeSort_perm _ _
theorem sort16_le (l:List (BitVec 16)):(sort16 l).Pairwise fun a b=>a.toNat≤b.toNat:=by
 have:=List.pairwise_mergeSort (le:=le16) (by intro a b c; simp [le16]; omega) (by intro a b; simp [le16]; omega) l
 exact this.imp fun {a b} h=>by simpa [le16] using h
theorem sort16_rise {l:List (BitVec 16)} (h:l.Nodup):(sort16 l).Pairwise fun a b=>lt16 a b=true:=by
 have h1:=sort16_le l
 have h2:(sort16 l).Nodup:=(sort16_perm l).nodup_iff.2 h
 refine (h1.and h2).imp fun {a b} h =>?_
 have:a.toNat≠b.toNat:=fun e=>h.2 (BitVec.eq_of_toNat_eq e)
 simp only [lt16,decide_eq_true_eq]
 omega
theorem nodup16 {l:List (BitVec 16)} (h:l.Nodup):l.length≤65536:=by
 have:=nodup_le l ((List.range 65536).map (BitVec.ofNat 16)) h fun x _=>List.mem_map.2 ⟨x.toNat,List.mem_range.2 x.isLt,by simp⟩
 simpa using this
def SetD.inodes (d:SetD):List (BitVec 16):=sort16 (d.paths.map Prod.fst)
def SetD.same (a b:SetD):Bool :=
 decide (a.h=b.h)&&decide (a.ports.length=b.ports.length)&&decide (a.inodes=b.inodes)&&a.paths.all (fun p=>decide (getR p.1 b.paths=p.2))&&a.ports.all (fun p=>decide (b.ports.lookup p.1=some p.2))
section
variable {E:Sy} {H H':AH} {Q:Value→AH→Prop} {s s':Nat} {d d':SetD}
theorem S.f73 (hE:Fold E) (h:SetAt H s d) (hQ:∀ v H',Ext H H'→Rows H' 1 v (u16R d.inodes)→FreshV H.next v→Q v H'):E.call (E.fid i.f73) [ptr s 0] H Q:=by
 apply hE.f73
 obtain ⟨r1,r2,h1,hm,_⟩:=h
 obtain ⟨o,o1,o2⟩:=IterAt.start hm
 have x1:Ext H (H.new o):=(Ext.refl H).new o
 have hnd:(d.paths.map Prod.fst).Nodup:=by obtain ⟨_,_,_,_,_,_,h5⟩:=hm; exact h5
 have hp:(d.paths.map Prod.fst).Perm d.inodes:=(sort16_perm _).symm
 have hnl:d.paths.length≤65536:=by simpa using nodup16 hnd
 simp only [F.f73,nilq_p,h1,o1,mkPtr_eq,stdZ]
 unfold SetD.inodes at hQ hp
 generalize hl2:d.paths=l2 at *
 refine LoopL.ind (fun j l H'=>Ext H H'∧∃ done v,l=[v,ptr H.next 0]∧IterAt u16 u16 H' H.next r1 l2 done∧Grow zH H' 1 v (u16R (done.map Prod.fst))∧FreshV (H.next+1) v∧(done=[]→v=nilS)∧j+done.length=l2.length) ?_ l2.length ⟨x1,[],nilS,rfl,o2,Grow.nil _ _ _,fun b hb=>by simp [blk] at hb,fun _=>rfl,by simp⟩
 rintro j _ H' X hX ⟨e1,done,v,rfl,it,g,fv,hnil,hj⟩
 simp only [F.f73_l1,nth_0,nth_1]
 refine IterAt.next it (fun e ob he hnd it' hen =>?_) fun hpd =>?_
 ·have hput:Ext H (H'.put H.next ob):=e1.put (Nat.le_refl _) ob
  have hd1:done.length+1≤l2.length:=by
   have:=nodup_le (done++[e]) l2 it'.nodup.1 it'.nodup.2
   simpa using this
  have g':Grow zH (H'.put H.next ob) 1 v (u16R (done.map Prod.fst)):=g.keep fun b hb _=>AH.get_put_ne _ _ (by have:=fv b hb; omega)
  have hb1:buildS 1 1 #[(.int .u16 0)] [(0,u16 e.1)]=some (.cells [u16 e.1] none,mkSlc 1 1):=buildS_one 1 [u16 0#16] [u16 e.1] rfl rfl
  obtain ⟨v',H2,a1,a2,a3⟩:=g'.app1 (Nat.zero_le _) (bytes:=2) [u16 e.1] rfl rfl (by decide) (by decide) (by rw [u16R_length,List.length_map]; omega)
  have hlt1:=it'.map.lt
  have hlt2:=it'.lt
  have hrb:H2.get r1=(H'.put H.next ob).get r1:=a3.1.get hlt1 fun hb=>by
   have:=fv r1 (mem_blkL.1 hb)
   have:=hm.lt
   omega
  have hib:H2.get H.next=(H'.put H.next ob).get H.next:=a3.1.get hlt2 fun hb=>by
   have:=fv H.next (mem_blkL.1 hb)
   omega
  simp only [ext_tuple,List.getElem?_cons_zero,List.getElem?_cons_succ,hen,hb1,mk_some,mkSlc_eq,a1,opt2_some,tk_eq,opt_some,ifB_true]
  refine hX (j - 1) (by omega) _ _ ⟨?_,done++[e],v',rfl,it'.keep hrb hib,?_,?_,fun h=>by simp at h,?_⟩
  ·refine a3.1.ext hput fun b hb =>?_
   have:=fv b (mem_blkL.1 hb)
   omega
  ·have:u16R ((done++[e]).map Prod.fst)=u16R (done.map Prod.fst)++[[u16 e.1]]:=by simp [u16R]
   rw [this]; exact a2
  ·intro b hb
   have hp1:(H'.put H.next ob).next=H'.next:=rfl
   rcases a3.2 b hb with h1 | h1
   ·exact fv b h1
   ·have:=it.lt
    omega
  ·simp; omega
 ·have hperm:(done.map Prod.fst).Perm (sort16 (l2.map Prod.fst)):=(hpd.map _).trans hp
  have hlen2:done.length=l2.length:=hpd.length_eq
  simp only [ext_tuple,List.getElem?_cons_zero,tk_eq,opt_some,ifB_false]
  by_cases hne:done.map Prod.fst=[]
  ·have hd0:done=[]:=by simpa using hne
   have he:sort16 (l2.map Prod.fst)=[]:=by
    have:=hperm.length_eq
    rw [hd0] at this
    exact List.eq_nil_of_length_eq_zero (by simpa using this.symm)
   rw [hnil hd0]
   refine S.slices_Sort_inode_Number_nil hE none ?_
   refine hQ nilS H' e1 ?_ fun b hb=>by simp [blk] at hb
   rw [he]
   exact Rows.nil _ _ none
  ·obtain ⟨b,f,c,tail,rfl,ha,hb⟩:=Grow.arr (fun x=>rfl) g hne
   refine S.f76 hE swo_lt16 ha (by simp) (by simp; omega) fun d' H2 hp2 hs2 st =>?_
   have hu:=sort_unique swo_lt16 lt16_htri (n:=(done.map Prod.fst).length) (by simp) hp2 hs2 (L:=sort16 (l2.map Prod.fst)) hperm (sort16_rise hnd)
   refine hQ _ H2 ?_ ?_ fun x hx=>by have:=fv x hx; omega
   ·exact st.only.ext e1 fun x hx=>by
     simp at hx; subst hx
     have:=fv x (by simp [blk])
     omega
   ·rw [← hu]
    refine (hb d'.toList H2 ?_ st.get).toRows
    have:=hp2.1
    simpa using this
theorem S.f74 (hE:Fold E) {l l':List (BitVec 16)} {v v':Value} (h:Rows H 1 v (u16R l)) (h':Rows H 1 v' (u16R l')) (hn:l.length<2 ^ 63 - 1∧l'.length<2 ^ 63 - 1) (hQ:Q (vb (decide (l=l'))) H):E.call (E.fid i.f74) [v,v'] H Q:=by
 apply hE.f74
 have e1:=h.lenSlc
 have e2:=h'.lenSlc
 rw [u16R_length] at e1 e2
 simp only [F.f74,e1,e2,i64_neq,stdZ]
 by_cases hl:l.length=l'.length
 rotate_left
 ·have:(l.length:Int)≠l'.length:=by omega
  have hne:l≠l':=fun e=>hl (by rw [e])
  simp only [ne_eq,this,not_false_eq_true,decide_true,stdZ]
  simpa [hne] using hQ
 have hl':(l.length:Int)=l'.length:=by omega
 simp only [e1,ne_eq,hl',not_true,decide_false,stdZ]
 refine LoopL.count l.length (fun j ls H'=>ls=[v,v',vi l'.length,vi j]∧H'=H∧l.take j=l'.take j) ?_ ⟨rfl,rfl,by simp⟩
 rintro j _ H1 X hj hX ⟨rfl,rfl,ht⟩
 rcases Nat.lt_or_ge j l.length with hjl | hjl
 ·have hX:=hX hjl
  have hjl2:j<l'.length:=by omega
  have hjl':(j:Int)<l'.length:=by omega
  have hjj:=i64_inc (i:=j) (by omega)
  obtain ⟨b,o,f1,f2⟩:=h.ix (i:=j) (by rw [u16R_length]; exact hjl)
  obtain ⟨b',o',f1',f2'⟩:=h'.ix (i:=j) (by rw [u16R_length]; exact hjl2)
  have r1:(u16R l)[j]'(by rw [u16R_length]; exact hjl)=[u16 l[j]]:=by simp [u16R]
  have r2:(u16R l')[j]'(by rw [u16R_length]; exact hjl2)=[u16 l'[j]]:=by simp [u16R]
  rw [r1] at f2
  rw [r2] at f2'
  have g1:(H1.get b).cell o=some (u16 l[j]):=by have:=row_at f2 (j:=0) (by omega); simpa using this
  have g2:(H1.get b').cell o'=some (u16 l'[j]):=by have:=row_at f2' (j:=0) (by omega); simpa using this
  rw [List.take_succ_eq_append_getElem hjl,List.take_succ_eq_append_getElem hjl2] at hX
  have hinj:l=l'→l[j]=l'[j]:=fun e=>by subst e; rfl
  generalize l[j]=p at *
  generalize l'[j]=q at *
  simp only [F.f74_l1,i64_lss,hjl',decide_true,f1,f1',g1,g2,u16_neq,hjj,stdZ]
  by_cases hpq:p=q
  ·simp only [hpq,ne_eq,not_true,decide_false,hjj,stdZ]
   exact hX _ _ ⟨rfl,rfl,by rw [ht,hpq]⟩
  ·have:l≠l':=fun e=>hpq (hinj e)
   simp only [hpq,ne_eq,not_false_eq_true,decide_true,stdZ]
   simpa [this] using hQ
 ·have hjl':¬ (j:Int)<l'.length:=by omega
  rw [List.take_of_length_le hjl,List.take_of_length_le (by omega)] at ht
  simp only [F.f74_l1,i64_lss,hjl',decide_false,stdZ]
  simpa [ht] using hQ
theorem lookR {r:Nat} {l:List (BitVec 16×BitVec 16)} (h:MapAt u16 u16 H r l) (n:BitVec 16):look 0 (.int .u16 0) true (.map (some r)) (u16 n) H=some (.tuple #[u16 (getR n l),vb (l.lookup n).isSome]):=by
 have:=h.look (kd:=0) (fun a b=>same_u16 a b) n (.int .u16 0) true
 rw [this]
 unfold getR
 cases l.lookup n <;> rfl
theorem S.f67 (hE:Fold E) (h:SetAt H s d) (h':SetAt H s' d') (hQ:∀ H',Ext H H'→Q (vb (d.same d')) H'):E.call (E.fid i.f67) [ptr s 0,ptr s' 0] H Q:=by
 apply hE.f67
 have hh:=h
 have hh':=h'
 obtain ⟨r1,r2,h1,h2,h3⟩:=hh
 obtain ⟨q1,q2,k1,k2,k3⟩:=hh'
 have l1:=h3.len
 have l2:=k3.len
 simp only [F.f67,nilq_p,h1,k1,u16_neq,stdZ]
 unfold SetD.same at hQ
 by_cases e1:d.h=d'.h
 rotate_left
 ·simp only [ne_eq,e1,not_false_eq_true,decide_true,stdZ]
  simp only [e1,decide_false,Bool.false_and] at hQ
  exact hQ _ (Ext.refl _)
 simp only [ne_eq,e1,not_true,decide_false,h1,k1,l1,l2,i64_neq,stdZ]
 simp only [e1,decide_true,Bool.true_and] at hQ
 by_cases e2:d.ports.length=d'.ports.length
 rotate_left
 ·have:¬ (d.ports.length:Int)=d'.ports.length:=by omega
  simp only [this,not_false_eq_true,decide_true,stdZ]
  simp only [e2,decide_false,Bool.false_and] at hQ
  exact hQ _ (Ext.refl _)
 have e2':(d.ports.length:Int)=d'.ports.length:=by omega
 simp only [e2',not_true,decide_false,stdZ]
 simp only [e2,decide_true,Bool.true_and] at hQ
 have hn1:d.inodes.length<2 ^ 63 - 1:=by
  have:=nodup16 (l:=d.paths.map Prod.fst) (by obtain ⟨_,_,_,_,_,_,h5⟩:=h2; exact h5)
  have:=(sort16_perm (d.paths.map Prod.fst)).length_eq
  unfold SetD.inodes
  omega
 have hn2:d'.inodes.length<2 ^ 63 - 1:=by
  have:=nodup16 (l:=d'.paths.map Prod.fst) (by obtain ⟨_,_,_,_,_,_,h5⟩:=k2; exact h5)
  have:=(sort16_perm (d'.paths.map Prod.fst)).length_eq
  unfold SetD.inodes
  omega
 refine S.f73 hE h fun v1 H1 x1 w1 _ =>?_
 simp only [e2',not_true,decide_false,stdZ]
 refine S.f73 hE (h'.mono x1) fun v2 H2 x2 w2 _ =>?_
 simp only [e2',not_true,decide_false,stdZ]
 refine S.f74 hE (w1.mono x2) w2 ⟨hn1,hn2⟩ ?_
 by_cases e3:d.inodes=d'.inodes
 rotate_left
 ·simp only [e2',not_true,e3,decide_false,stdZ]
  simp only [e3,decide_false,Bool.false_and] at hQ
  exact hQ _ (x1.trans x2)
 simp only [e3,decide_true,Bool.true_and] at hQ
 have x3:=x1.trans x2
 have h1':=(h.mono x3)
 obtain ⟨o,o1,o2⟩:=IterAt.start (h2.keep (x3.get h2.lt))
 simp only [e2',not_true,decide_false,e3,x3.cells h1,decide_true,o1,mkPtr_eq,stdZ]
 have x4:Ext H (H2.new o):=x3.new o
 refine LoopL.ind (fun j l H'=>Ext H H'∧∃ done,l=[ptr s 0,ptr s' 0,ptr H2.next 0]∧IterAt u16 u16 H' H2.next r1 d.paths done∧(done.all fun p=>decide (getR p.1 d'.paths=p.2))=true∧j+done.length=d.paths.length) ?_ d.paths.length ⟨x4,[],rfl,o2,rfl,by simp⟩
 rintro j _ H3 X hX ⟨e4,done,rfl,it,ha,hj⟩
 simp only [F.f67_l1,nth_0,nth_1,nth_2]
 refine IterAt.next it (fun e ob he hnd it' hen =>?_) fun hpd =>?_
 ·have hput:Ext H (H3.put H2.next ob):=e4.put (x3.1) ob
  have hd1:done.length+1≤d.paths.length:=by
   have:=nodup_le (done++[e]) d.paths it'.nodup.1 it'.nodup.2
   simpa using this
  have k2':=look_u16 (k2.keep (hput.get k2.lt)) e.1
  simp only [hen,hput.cells k1,k2',u16_neq,stdZ]
  by_cases hq:getR e.1 d'.paths=e.2
  ·simp only [hq,ne_eq,not_true,decide_false,stdZ]
   refine hX (j - 1) (by omega) _ _ ⟨hput,done++[e],rfl,it',?_,by simp; omega⟩
   simp [List.all_append,ha,hq]
  ·have hf:(d.paths.all fun p=>decide (getR p.1 d'.paths=p.2))=false:=by
    rw [List.all_eq_false]
    exact ⟨e,he,by simp [hq]⟩
   simp only [hq,ne_eq,not_false_eq_true,decide_true,stdZ]
   simp only [hf,Bool.false_and] at hQ
   exact hQ _ hput
 ·have hpa:(d.paths.all fun p=>decide (getR p.1 d'.paths=p.2))=true:=by
   rw [List.all_eq_true] at ha ⊢
   exact fun x hx=>ha x (hpd.mem_iff.2 hx)
  simp only [hpa,Bool.true_and] at hQ
  obtain ⟨o',o1',o2'⟩:=IterAt.start (h3.keep (e4.get h3.lt))
  simp only [ext_bool,List.getElem?_toArray,e4.cells h1,o1',mkPtr_eq,stdZ]
  clear o1 o2 it
  refine LoopL.ind (fun j l H'=>Ext H H'∧∃ done,l=[ptr s' 0,ptr H3.next 0]∧IterAt u16 u16 H' H3.next r2 d.ports done∧(done.all fun p=>decide (d'.ports.lookup p.1=some p.2))=true∧j+done.length=d.ports.length) ?_ d.ports.length ⟨e4.new o',[],rfl,o2',rfl,by simp⟩
  rintro j' _ H5 X hX ⟨e5,done',rfl,it,ha',hj'⟩
  simp only [F.f67_l2,nth_0,nth_1]
  refine IterAt.next it (fun e ob he hnd it' hen =>?_) fun hpd' =>?_
  ·have hput:Ext H (H5.put H3.next ob):=e5.put e4.1 ob
   have hd1:done'.length+1≤d.ports.length:=by
    have:=nodup_le (done'++[e]) d.ports it'.nodup.1 it'.nodup.2
    simpa using this
   have k3':=lookR (k3.keep (hput.get k3.lt)) e.1
   simp only [hen,hput.cells k1,k3',u16_neq,stdZ]
   have hgr:getR e.1 d'.ports=(d'.ports.lookup e.1).getD 0#16:=rfl
   cases hlk:d'.ports.lookup e.1 with
   | none =>
    have hf:(d.ports.all fun p=>decide (d'.ports.lookup p.1=some p.2))=false:=by
     rw [List.all_eq_false]
     exact ⟨e,he,by simp [hlk]⟩
    simp only [hlk,Option.isSome_none,stdZ]
    simp only [hf] at hQ
    exact hQ _ hput
   | some x =>
    rw [hlk] at hgr
    simp only [Option.getD_some] at hgr
    by_cases hq:x=e.2
    ·simp only [hlk,Option.isSome_some,hgr,hq,u16_neq,ne_eq,not_true,decide_false,stdZ]
     refine hX (j' - 1) (by omega) _ _ ⟨hput,done'++[e],rfl,it',?_,by simp; omega⟩
     simp [List.all_append,ha',hlk,hq]
    ·have hf:(d.ports.all fun p=>decide (d'.ports.lookup p.1=some p.2))=false:=by
      rw [List.all_eq_false]
      exact ⟨e,he,by simp [hlk,hq]⟩
     simp only [hlk,Option.isSome_some,hgr,hq,u16_neq,ne_eq,not_false_eq_true,decide_true,stdZ]
     simp only [hf] at hQ
     exact hQ _ hput
  ·have hpa':(d.ports.all fun p=>decide (d'.ports.lookup p.1=some p.2))=true:=by
    rw [List.all_eq_true] at ha' ⊢
    exact fun x hx=>ha' x (hpd'.mem_iff.2 hx)
   simp only [hpa'] at hQ
   simp only [ext_bool,List.getElem?_cons_zero,tk_eq,opt_some,ifB_false]
   exact hQ _ e5
end
end Go.AM
end
section
namespace Go.AM
section
variable {E:Sy} {X:List Res} {H H' H0 Z:AH} {Q:Value→AH→Prop} {t w:Nat} {T T':Tr} {M M':List MntD} {nx nx':Int} {L:List Res} {s:Nat} {d:SetD}
def awkPol:PolX:=⟨[],⟨0#32,[]⟩,4#16,[([47,97],4#16)],[]⟩
theorem S.f48 (hE:Fold E) (hQ:∀ H',Ext H H'→Q (vb true) H'):E.call (E.fid i.f48) [] H Q:=by
 apply hE.f48
 simp only [F.f48]
 refine S.f103 hE 9 fun w H1 h1 =>?_
 obtain ⟨p,q,hw,⟨m,L,hi,ki⟩,_⟩:=h1.open_
 have s97:(.string ⟨#[97]⟩:Value)=str [97]:=rfl
 have s0:(.string ⟨#[]⟩:Value)=str []:=rfl
 have n1:(.int .u16 1:Value)=u16 1#16:=rfl
 have n4:(.int .u16 4:Value)=u16 4#16:=rfl
 have n7:(.int .u16 7:Value)=u16 7#16:=rfl
 have n0:(.int .u16 0:Value)=u16 0#16:=rfl
 have k2:(.int .u8 2:Value)=u8 2#8:=rfl
 simp only [nilq_p,hw,s97,s0,n1,k2,stdZ]
 have f1:((Tr.new 9).make 1#16 [97] 2#8 []).2=(2#16,0):=by decide +kernel
 refine Ino.cMake hE hi (Tr.new_wf 9) 1#16 [97] (by decide) 2#8 [] (by decide) (by decide) fun L2 H2 u2 =>?_
 have h2:=ki _ _ _ u2
 have w2:=(Tr.new_wf 9).make 1#16 [97] 2#8 []
 have d2:=(Tr.KD.new 9).make keeps_KD 1#16 [97] 2#8 []
 rw [f1]
 generalize hT2:((Tr.new 9).make 1#16 [97] 2#8 []).1=T2 at *
 have sp:(.string ⟨#[47,97]⟩:Value)=str [47,97]:=rfl
 have b1:buildV [(0,1),(1,1)] #[str [],u16 0#16] [(0,str [47,97]),(1,u16 4#16)]=some (.agg #[str [47,97],u16 4#16]):=rfl
 have b2:=buildS_one 2 [str [],u16 0#16] [str [47,97],u16 4#16] rfl rfl
 have b2:buildS 1 2 #[str [],u16 0#16] [(0,.agg #[str [47,97],u16 4#16])]=some (.cells [str [47,97],u16 4#16] none,mkSlc 1 1):=b2
 have z32:(.int .u32 0:Value)=u32 0#32:=rfl
 have b3:∀ v,buildV [(0,1),(1,1),(2,1),(3,1),(4,1),(5,1)] #[str [],u32 0#32,(.slice none 0 0),u16 0#16,(.slice none 0 0),(.slice none 0 0)] [(3,u16 4#16),(4,slc v 0 1 1)]=some (.agg #[str [],u32 0#32,nilS,u16 4#16,slc v 0 1 1,nilS]):=fun v=>rfl
 simp only [sp,s0,n4,n0,b1,b2,z32,b3,stdZ]
 have x3:Ext H2 (H2.new (.cells [str [47,97],u16 4#16] none)):=(Ext.refl _).new _
 have r3:Rows (H2.new (.cells [str [47,97],u16 4#16] none)) 2 (slc H2.next 0 1 1) ([([47,97],4#16)].map fun p:List UInt8×BitVec 16=>[str p.1,u16 p.2]):=Rows.made (f:=none) (by rw [AH.get_new_self]; rfl) (.inl rfl) rfl (by simp)
 have h3:=h2.mono x3
 generalize H2.new (.cells [str [47,97],u16 4#16] none)=H3 at *
 refine S.f37 hE fun H4 e4 =>?_
 have h4:=h3.mono e4
 have hp:PolXAt H4 awkPol [str [],u32 0#32,nilS,u16 4#16,slc H2.next 0 1 1,nilS]:=⟨nilS,_,nilS,rfl,⟨[],Rows.nil _ _ none,rfl,fun i h=>by simp [awkPol] at h⟩,r3.mono e4,Rows.nil _ _ none⟩
 have f2:(awkPol.set T2 tab0 ⟨0,1#16⟩).2=0:=by subst hT2; decide +kernel
 have f3:(awkPol.set T2 tab0 ⟨0,1#16⟩).1.at_ 2#16=4#16:=by subst hT2; decide +kernel
 have f4:(awkPol.set T2 tab0 ⟨0,1#16⟩).1.denied 4#16 7#16 [⟨0,1#16⟩]=4#16:=by subst hT2; decide +kernel
 have f5:(awkPol.set T2 tab0 ⟨0,1#16⟩).1.denied 4#16 7#16 [⟨0,2#16⟩]=0#16:=by subst hT2; decide +kernel
 refine S.f66 hE h4.at_ w2 (Tr.KD.lt d2) awkPol _ hp ⟨by decide,by decide⟩ (by simp [awkPol]) ⟨0,1#16⟩ (fun h=>(h f2).elim) fun _ s H5 e5 _ hs5 =>?_
 generalize (awkPol.set T2 tab0 ⟨0,1#16⟩).1=d at *
 have h5:=h4.mono e5
 simp only [i64_eql,decide_true,stdZ]
 refine S.f68 hE hs5 2#16 ?_
 simp only [f3,n4,u16_eql,decide_true,stdZ]
 refine S.f37 hE fun H6 e6 =>?_
 have hz2:([(.int .i64 0),u16 0#16]:List Value)=PlaceD.zero.cells:=rfl
 have bp:∀ c:PlaceD,buildS 1 2 #[(.int .i64 0),u16 0#16] [(0,c.v)]=some (.cells c.cells none,mkSlc 1 1):=fun c=>buildS_one 2 [vi 0,u16 0#16] c.cells rfl rfl
 have rp:∀ (H:AH) (c:PlaceD),Rows (H.new (.cells c.cells none)) 2 (slc H.next 0 1 1) (placeR [c]):=fun H c=>Rows.made (f:=none) (by rw [AH.get_new_self]; simp [placeR]) (.inl rfl) rfl (by simp [placeR,PlaceD.cells])
 have x7:Ext H6 (H6.new (.cells (PlaceD.cells ⟨0,1#16⟩) none)):=(Ext.refl _).new _
 simp only [bp,n0,n4,n7,stdZ]
 refine S.f69 hE (hs5.mono (e6.trans x7)) 4#16 7#16 _ _ (rp H6 ⟨0,1#16⟩) (by decide) fun H8 e8 =>?_
 have bv:buildV [(0,1),(1,1)] #[(.int .i64 0),u16 0#16] [(1,u16 2#16)]=some (PlaceD.v ⟨0,2#16⟩):=rfl
 have x9:Ext H8 (H8.new (.cells (PlaceD.cells ⟨0,2#16⟩) none)):=(Ext.refl _).new _
 simp only [f4,u16_eql,decide_true,bv,bp,n0,n4,n7,stdZ]
 refine S.f69 hE (hs5.mono (e6.trans (x7.trans (e8.trans x9)))) 4#16 7#16 _ _ (rp H8 ⟨0,2#16⟩) (by decide) fun H10 e10 =>?_
 simp only [f5,n0,u16_eql,decide_true,stdZ]
 exact hQ _ ((h5.mono (e6.trans (x7.trans (e8.trans (x9.trans e10))))).ext)
end
end Go.AM
end
section
namespace Go.AM
section
variable {X:List Res} {E:Sy} {H0 H H' H'':AH} {Q:Value→AH→Prop} {p m:Nat} {L L' L'':LyL} {T T' T'' T2 T2':Tr} {t:Nat} {nv nv' mv:Value} {nx:Int} {mr:List (List Value)} {Y Y':List RLy}
inductive Tr.Did (up:Bool) (T:Tr):Tr→Prop
 | make (a:BitVec 16) (s:NameL) (k:BitVec 8) (text:List UInt8):T.Did up (T.make a s k text).1
 | add (a:BitVec 16) (s:NameL) (b:BitVec 16):T.Did up (T.add a s b).1
 | drop (a:BitVec 16) (s:NameL) (d:Bool):T.Did up (T.drop a s d).1
 | move (a:BitVec 16) (s:NameL) (b:BitVec 16) (o:NameL):T.Did up (T.move a s b o).1
 | hold (a:BitVec 16):T.Did up (T.hold a up).1
 | write (a:BitVec 16) (n:Int) (l:List (BitVec 8)):T.Did up (T.write a n l).1
 | cut (a:BitVec 16) (n:Int):T.Did up (T.cut a n).1
 | refl:T.Did up T
end
end Go.AM
end
section
namespace Go.AM
def Tr.Stay (T T':Tr):Prop:=∀ n,(T.node n).kind≠0#8→1≤(T.node n).held→(T'.node n).kind=(T.node n).kind∧(T.node n).held≤(T'.node n).held
section
variable {T T' T'':Tr}
theorem Tr.node_upd_ne {n k:BitVec 16} (h:k≠n) (f:Nd→Nd):(T.upd n f).node k=T.node k:=by
 have e:¬ n.toNat=k.toNat:=fun e=>h (BitVec.eq_of_toNat_eq e.symm)
 unfold Tr.upd Tr.node
 simp only [List.getD_eq_getElem?_getD,List.getElem?_modify,e,if_false]
 cases T.N[k.toNat]? <;> rfl
theorem Tr.Stay.refl:T.Stay T:=fun _ _ _=>⟨rfl,Int.le_refl _⟩
theorem Tr.Stay.trans (h:T.Stay T') (h':T'.Stay T''):T.Stay T'':=fun n hk hh=>by
 obtain ⟨a,b⟩:=h n hk hh
 obtain ⟨c,d⟩:=h' n (by rw [a]; exact hk) (by omega)
 exact ⟨c.trans a,by omega⟩
theorem Tr.Stay.upd (n:BitVec 16) (f:Nd→Nd) (hf:∀ x:Nd,(f x).kind=x.kind∧x.held≤(f x).held):T.Stay (T.upd n f):=fun k _ _=>by
 rcases T.upd_or n k f with e | e
 ·rw [e]; exact ⟨rfl,Int.le_refl _⟩
 ·rw [e]; exact hf _
theorem Tr.Stay.bump (h:T.Stay T'):T.Stay T'.bump:=h
theorem Tr.Stay.tidy (n:BitVec 16):T.Stay (T.tidy n):=fun k hk hh=>by
 unfold Tr.tidy
 split
 ·rename_i hc
  have e:k≠n:=by rintro rfl; omega
  rw [Tr.node_upd_ne e]
  exact ⟨rfl,Int.le_refl _⟩
 ·exact ⟨rfl,Int.le_refl _⟩
theorem Tr.Stay.make (w:T.WF) (inn:BitVec 16) (s:NameL) (kd:BitVec 8) (text:List UInt8):T.Stay (T.make inn s kd text).1:=by
 rcases w.make_node inn s kd text with e | ⟨_,_,A,_,hA,hi,hn⟩
 ·rw [e]; exact .refl
 ·intro n hk hh
  rw [hn]
  split
  ·rename_i e; subst e; exact ⟨rfl,Int.le_refl _⟩
  ·split
   ·rename_i e; subst e; exact (hk hA).elim
   ·exact ⟨rfl,Int.le_refl _⟩
theorem Tr.Stay.add (inn:BitVec 16) (s:NameL) (v:BitVec 16):T.Stay (T.add inn s v).1:=by
 unfold Tr.add
 repeat' split
 all_goals try exact .refl
 exact (Tr.Stay.upd inn (Nd.addE s v) fun _=>⟨rfl,Int.le_refl _⟩).trans (Tr.Stay.upd v (Nd.addL 1) fun _=>⟨rfl,Int.le_refl _⟩)
theorem Tr.Stay.drop (inn:BitVec 16) (s:NameL) (d:Bool):T.Stay (T.drop inn s d).1:=by
 unfold Tr.drop
 repeat' split
 all_goals try exact .refl
 exact ((Tr.Stay.upd inn (Nd.delE s) fun _=>⟨rfl,Int.le_refl _⟩).trans (Tr.Stay.upd _ (Nd.addL (-1)) fun _=>⟨rfl,Int.le_refl _⟩)).bump.trans (Tr.Stay.tidy _)
theorem Tr.Stay.hold (n:BitVec 16):T.Stay (T.hold n true).1:=by
 unfold Tr.hold
 repeat' split
 all_goals try exact .refl
 ·exact Tr.Stay.upd n (Nd.addH 1) fun x=>⟨rfl,by show x.held≤x.held+1; omega⟩
 ·rename_i h _; exact (h rfl).elim
theorem Tr.Stay.move (fr:BitVec 16) (s:NameL) (to:BitVec 16) (other:NameL):T.Stay (T.move fr s to other).1:=by
 have key:∀ (U:Tr) (n:BitVec 16),U.Stay (Tr.moved U fr s to other n):=by
  intro U n
  have h2:U.Stay ((U.upd fr (Nd.delE s)).upd to (Nd.addE other n)):=(Tr.Stay.upd fr (Nd.delE s) fun _=>⟨rfl,Int.le_refl _⟩).trans (Tr.Stay.upd to (Nd.addE other n) fun _=>⟨rfl,Int.le_refl _⟩)
  unfold Tr.moved
  simp only
  split
  ·exact (h2.trans (Tr.Stay.upd n (fun x=>{ x with parent:=to }) fun _=>⟨rfl,Int.le_refl _⟩)).bump
  ·exact h2.bump
 unfold Tr.move
 split
 ·exact .refl
 split
 ·exact .refl
 split
 ·exact .refl
 split
 ·exact .refl
 split
 ·exact .refl
 refine Tr.Stay.trans ?_ (key _ _)
 split
 ·exact .drop _ _ _
 ·exact .refl
theorem Tr.Stay.write (n:BitVec 16) (at_:Int) (b:List (BitVec 8)):T.Stay (T.write n at_ b).1:=by
 unfold Tr.write
 repeat' split
 all_goals try exact .refl
 exact (Tr.Stay.upd n (fun x=>{ x with data:=writeL x.data at_.toNat b }) fun _=>⟨rfl,Int.le_refl _⟩).bump
theorem Tr.Stay.cut (n:BitVec 16) (size:Int):T.Stay (T.cut n size).1:=by
 unfold Tr.cut
 repeat' split
 all_goals try exact .refl
 exact (Tr.Stay.upd n (fun x=>{ x with data:=cutL x.data size.toNat }) fun _=>⟨rfl,Int.le_refl _⟩).bump
theorem Tr.Did.stay (h:T.Did true T') (w:T.WF):T.Stay T':=by
 cases h
 ·exact .make w _ _ _ _
 ·exact .add _ _ _
 ·exact .drop _ _ _
 ·exact .move _ _ _ _
 ·exact .hold _
 ·exact .write _ _ _
 ·exact .cut _ _
 ·exact .refl
theorem Tr.Did.kd {up:Bool} (h:T.Did up T') (k:T.KD):T'.KD:=by
 cases h
 ·exact k.make keeps_KD _ _ _ _
 ·exact k.add keeps_KD _ _ _
 ·exact k.drop keeps_KD _ _ _
 ·exact k.move keeps_KD _ _ _ _
 ·exact k.hold keeps_KD _ _
 ·exact k.write keeps_KD _ _ _
 ·exact k.cut keeps_KD _ _
 ·exact k
end
end Go.AM
end
section
namespace Go.AM
def Tr.dead (T:Tr) (n:BitVec 16):Prop:=(T.node n).kind=2#8∧(T.node n).links=0
structure Tr.Order (T:Tr):Prop where
 rank:∃ (r:BitVec 16→Nat) (B:Nat),(∀ n,r n<B)∧∀ n,T.dead n→T.dead (T.node n).parent→r n<r (T.node n).parent
 par:∀ n,(T.node n).kind≠2#8→(T.node n).parent=0#16
def Tr.DAt (T T':Tr) (n:BitVec 16):Prop:=(T'.dead n→(T'.node n).parent=(T.node n).parent∧(T.dead n∨¬ T'.dead (T'.node n).parent))∧((T'.node n).kind≠2#8→(T'.node n).parent=0#16∨((T.node n).kind≠2#8∧(T'.node n).parent=(T.node n).parent))
def Tr.DStep (T T':Tr):Prop:=∀ n,T.DAt T' n
section
variable {T T' T'':Tr}
open Classical in
theorem Tr.Order.step (h:T.Order) (d:T.DStep T'):T'.Order:=by
 obtain ⟨r,B,hr,ho⟩:=h.rank
 refine ⟨⟨fun n=>if T.dead n then r n else B,B+1,fun n =>?_,fun n hn hp =>?_⟩,fun n hk =>?_⟩
 ·have:=hr n
  simp only
  split <;> omega
 ·obtain ⟨e,h1⟩:=(d n).1 hn
  rcases h1 with h1 | h1
  ·simp only [if_pos h1]
   split
   ·rename_i h2
    rw [e] at h2 ⊢
    exact ho n h1 h2
   ·exact hr n
  ·exact (h1 hp).elim
 ·rcases (d n).2 hk with e | ⟨a,b⟩
  ·exact e
  ·rw [b]; exact h.par n a
theorem Tr.DAt.same {n:BitVec 16} (h1:(T'.node n).kind=(T.node n).kind) (h2:(T'.node n).parent=(T.node n).parent) (h3:(T'.node n).links=(T.node n).links):T.DAt T' n :=
 ⟨fun h=>⟨h2,.inl ⟨by rw [← h1]; exact h.1,by rw [← h3]; exact h.2⟩⟩,fun h => .inr ⟨by rw [← h1]; exact h,h2⟩⟩
theorem Tr.DAt.none {n:BitVec 16} (h:T'.node n=Nd.none):T.DAt T' n :=
 ⟨fun hd=>by have:=hd.1; rw [h] at this; simp [Nd.none] at this,fun _ => .inl (by rw [h]; rfl)⟩
theorem Tr.DAt.file {n:BitVec 16} (h:(T'.node n).kind≠2#8) (h1:(T.node n).kind≠2#8) (h2:(T'.node n).parent=(T.node n).parent):T.DAt T' n :=
 ⟨fun hd=>(h hd.1).elim,fun _ => .inr ⟨h1,h2⟩⟩
theorem Tr.DAt.live {n:BitVec 16} (h:(T'.node n).kind=2#8) (h1:(T'.node n).links≠0):T.DAt T' n :=
 ⟨fun hd=>(h1 hd.2).elim,fun hk=>(hk h).elim⟩
theorem Tr.DStep.refl:T.DStep T:=fun _ => .same rfl rfl rfl
theorem Tr.DStep.upd (n:BitVec 16) (f:Nd→Nd) (hf:∀ x:Nd,(f x).kind=x.kind∧(f x).parent=x.parent∧(f x).links=x.links):T.DStep (T.upd n f):=fun k=>by
 rcases T.upd_or n k f with e | e
 ·exact .same (by rw [e]) (by rw [e]) (by rw [e])
 ·obtain ⟨a,b,c⟩:=hf (T.node k)
  exact .same (by rw [e,a]) (by rw [e,b]) (by rw [e,c])
theorem Tr.DStep.make (w:T.WF) (inn:BitVec 16) (s:NameL) (kd:BitVec 8) (text:List UInt8):T.DStep (T.make inn s kd text).1:=by
 rcases w.make_node inn s kd text with e | ⟨_,_,A,_,hA,hi,hn⟩
 ·rw [e]; exact .refl
 ·intro n
  have hn:=hn n
  generalize (T.make inn s kd text).1=T' at *
  by_cases e:n=inn
  ·subst e
   rw [if_pos rfl] at hn
   exact .same (by rw [hn]; rfl) (by rw [hn]; rfl) (by rw [hn]; rfl)
  rw [if_neg e] at hn
  by_cases e2:n=A
  ·subst e2
   rw [if_pos rfl] at hn
   by_cases hk:kd=2#8
   ·exact .live (by rw [hn]; exact hk) (by rw [hn]; exact Int.one_ne_zero)
   ·exact ⟨fun hd=>by have:=hd.1; rw [hn] at this; exact (hk this).elim,fun _ => .inl (by rw [hn]; exact if_neg hk)⟩
  ·rw [if_neg e2] at hn
   exact .same (by rw [hn]) (by rw [hn]) (by rw [hn])
theorem Tr.DStep.add (inn:BitVec 16) (s:NameL) (v:BitVec 16):T.DStep (T.add inn s v).1:=by
 unfold Tr.add
 split
 ·exact .refl
 split
 ·exact .refl
 split
 ·exact .refl
 split
 ·exact .refl
 split
 ·exact .refl
 rename_i h2 _ _ _
 intro k
 have hV:((T.upd inn (Nd.addE s v)).node k).kind=(T.node k).kind∧((T.upd inn (Nd.addE s v)).node k).parent=(T.node k).parent∧((T.upd inn (Nd.addE s v)).node k).links=(T.node k).links:=by
  rcases T.upd_or inn k (Nd.addE s v) with e | e <;> rw [e] <;> exact ⟨rfl,rfl,rfl⟩
 obtain ⟨a,b,c⟩:=hV
 by_cases e:k=v
 ·subst e
  have:(((T.upd inn (Nd.addE s k)).upd k (Nd.addL 1)).node k).kind=(T.node k).kind∧(((T.upd inn (Nd.addE s k)).upd k (Nd.addL 1)).node k).parent=(T.node k).parent:=by
   rcases (T.upd inn (Nd.addE s k)).upd_or k k (Nd.addL 1) with e | e <;> rw [e] <;> exact ⟨a,b⟩
  exact .file (by show ¬ _=_; rw [Tr.bump_node,this.1]; exact h2) h2 this.2
 ·have hn:(((T.upd inn (Nd.addE s v)).upd v (Nd.addL 1)).bump.node k)=(T.upd inn (Nd.addE s v)).node k:=Tr.node_upd_ne e _
  exact .same (by rw [hn,a]) (by rw [hn,b]) (by rw [hn,c])
theorem Tr.DStep.hold (n:BitVec 16) (up:Bool):T.DStep (T.hold n up).1:=by
 unfold Tr.hold
 split
 ·exact .refl
 split
 ·exact .upd n _ fun _=>⟨rfl,rfl,rfl⟩
 split
 ·exact .refl
 intro k
 have hV:((T.upd n (Nd.addH (-1))).node k).kind=(T.node k).kind∧((T.upd n (Nd.addH (-1))).node k).parent=(T.node k).parent∧((T.upd n (Nd.addH (-1))).node k).links=(T.node k).links:=by
  rcases T.upd_or n k (Nd.addH (-1)) with e | e <;> rw [e] <;> exact ⟨rfl,rfl,rfl⟩
 obtain ⟨a,b,c⟩:=hV
 unfold Tr.tidy
 split
 ·rcases (T.upd n (Nd.addH (-1))).upd_or n k (fun _=>Nd.none) with e | e
  ·exact .same (by rw [e,a]) (by rw [e,b]) (by rw [e,c])
  ·exact .none e
 ·exact .same a b c
theorem Tr.DStep.drop (w:T.WF) (inn:BitVec 16) (s:NameL) (d:Bool):T.DStep (T.drop inn s d).1:=by
 unfold Tr.drop
 split
 ·exact .refl
 split
 ·exact .refl
 split
 ·exact .refl
 split
 ·exact .refl
 rename_i c1 _ _ _
 have c1:(T.look inn s).2=0:=by simpa using c1
 obtain ⟨k1,k2⟩:=Tr.look_ok c1
 generalize (T.look inn s).1=y at *
 obtain ⟨e1,e2,e3,o0,o1,e6⟩:=w.pos k2
 have hyi:inn≠y:=by rintro rfl; exact w.no_self (alook_mem k2)
 intro k
 have hV:∀ k,((T.upd inn (Nd.delE s)).node k).kind=(T.node k).kind∧((T.upd inn (Nd.delE s)).node k).parent=(T.node k).parent∧((T.upd inn (Nd.delE s)).node k).links=(T.node k).links:=fun k=>by
  rcases T.upd_or inn k (Nd.delE s) with e | e <;> rw [e] <;> exact ⟨rfl,rfl,rfl⟩
 have hW:∀ k,k≠y→((((T.upd inn (Nd.delE s)).upd y (Nd.addL (-1))).bump).tidy y).node k=(T.upd inn (Nd.delE s)).node k:=fun k e=>by
  unfold Tr.tidy
  split
  ·rw [Tr.node_upd_ne e,Tr.bump_node,Tr.node_upd_ne e]
  ·rw [Tr.bump_node,Tr.node_upd_ne e]
 by_cases e:k=y
 ·subst e
  have hin:¬ ((((T.upd inn (Nd.delE s)).upd k (Nd.addL (-1))).bump).tidy k).dead inn:=fun hd=>by
   have h2:=hd.2
   rw [hW inn hyi,(hV inn).2.2] at h2
   exact e2 h2
  have hk:(((T.upd inn (Nd.delE s)).upd k (Nd.addL (-1))).node k).kind=(T.node k).kind∧(((T.upd inn (Nd.delE s)).upd k (Nd.addL (-1))).node k).parent=(T.node k).parent:=by
   rcases (T.upd inn (Nd.delE s)).upd_or k k (Nd.addL (-1)) with e | e <;> rw [e] <;> exact ⟨(hV k).1,(hV k).2.1⟩
  unfold Tr.tidy at hin ⊢
  split at hin
  ·rename_i hc
   rw [if_pos hc]
   have hz:((((T.upd inn (Nd.delE s)).upd k (Nd.addL (-1))).bump).upd k (fun _=>Nd.none)).node k=Nd.none:=by
    rw [Tr.node_upd (by rw [Tr.bump_node,hk.1]; exact o0),if_pos rfl]
   exact .none hz
  ·rename_i hc
   rw [if_neg hc]
   by_cases h2:(T.node k).kind=2#8
   ·refine ⟨fun _=>⟨hk.2,.inr ?_⟩,fun h=>(h (hk.1.trans h2)).elim⟩
    have:(((T.upd inn (Nd.delE s)).upd k (Nd.addL (-1))).bump.node k).parent=inn:=hk.2.trans (e6 h2)
    rw [this]
    exact hin
   ·exact .file (fun h=>h2 (hk.1.symm.trans h)) h2 hk.2
 ·obtain ⟨a,b,c⟩:=hV k
  have hn:=hW k e
  exact .same (by rw [hn,a]) (by rw [hn,b]) (by rw [hn,c])
theorem Tr.node_upd_lt {n:BitVec 16} (h:n.toNat<T.N.length) (f:Nd→Nd):(T.upd n f).node n=f (T.node n):=by
 unfold Tr.upd Tr.node
 simp [List.getD_eq_getElem?_getD,List.getElem?_modify,h]
theorem Tr.len_upd (n:BitVec 16) (f:Nd→Nd):(T.upd n f).N.length=T.N.length:=by simp [Tr.upd]
theorem Tr.len_tidy (n:BitVec 16):(T.tidy n).N.length=T.N.length:=by
 unfold Tr.tidy
 split
 ·exact Tr.len_upd _ _
 ·rfl
theorem Tr.len_drop (inn:BitVec 16) (s:NameL) (d:Bool):(T.drop inn s d).1.N.length=T.N.length:=by
 unfold Tr.drop
 repeat' split
 all_goals try rfl
 rw [Tr.len_tidy]
 show ((T.upd _ _).upd _ _).N.length=_
 rw [Tr.len_upd,Tr.len_upd]
theorem Tr.DStep.moved {U:Tr} {fr to n:BitVec 16} {s other:NameL} (hl:to.toNat<U.N.length) (w:(Tr.moved U fr s to other n).WF):U.DStep (Tr.moved U fr s to other n):=by
 have hV:∀ m,(((U.upd fr (Nd.delE s)).upd to (Nd.addE other n)).node m).kind=(U.node m).kind∧(((U.upd fr (Nd.delE s)).upd to (Nd.addE other n)).node m).parent=(U.node m).parent∧(((U.upd fr (Nd.delE s)).upd to (Nd.addE other n)).node m).links=(U.node m).links:=fun m=>by
  have h1:((U.upd fr (Nd.delE s)).node m).kind=(U.node m).kind∧((U.upd fr (Nd.delE s)).node m).parent=(U.node m).parent∧((U.upd fr (Nd.delE s)).node m).links=(U.node m).links:=by
   rcases U.upd_or fr m (Nd.delE s) with e | e <;> rw [e] <;> exact ⟨rfl,rfl,rfl⟩
  rcases (U.upd fr (Nd.delE s)).upd_or to m (Nd.addE other n) with e | e <;> rw [e] <;> exact h1
 have hm:(other,n)∈(((U.upd fr (Nd.delE s)).upd to (Nd.addE other n)).node to).ents:=by
  rw [Tr.node_upd_lt (by rw [Tr.len_upd]; exact hl)]
  exact mem_insertE.2 (.inl rfl)
 unfold Tr.moved at w ⊢
 simp only at w ⊢
 split at w
 ·rename_i hk
  rw [if_pos hk]
  intro m
  by_cases e:m=n
  ·subst e
   have hk':((((U.upd fr (Nd.delE s)).upd to (Nd.addE other m)).upd m (fun x=>{ x with parent:=to })).bump.node m).kind=2#8:=by
    rw [Tr.bump_node]
    rcases ((U.upd fr (Nd.delE s)).upd to (Nd.addE other m)).upd_or m m (fun x=>{ x with parent:=to }) with e | e <;> rw [e] <;> exact (hV m).1.trans hk
   have hm':(other,m)∈((((U.upd fr (Nd.delE s)).upd to (Nd.addE other m)).upd m (fun x=>{ x with parent:=to })).bump.node to).ents:=by
    rw [Tr.bump_node]
    rcases ((U.upd fr (Nd.delE s)).upd to (Nd.addE other m)).upd_or m to (fun x=>{ x with parent:=to }) with e | e <;> rw [e] <;> exact hm
   have:=w.live_of hm' hk'
   exact .live this.1 this.2
  ·obtain ⟨a,b,c⟩:=hV m
   have hn:((((U.upd fr (Nd.delE s)).upd to (Nd.addE other n)).upd n (fun x=>{ x with parent:=to })).bump.node m)=((U.upd fr (Nd.delE s)).upd to (Nd.addE other n)).node m:=Tr.node_upd_ne e _
   exact .same (by rw [hn,a]) (by rw [hn,b]) (by rw [hn,c])
 ·rename_i hk
  rw [if_neg hk]
  intro m
  obtain ⟨a,b,c⟩:=hV m
  exact .same a b c
theorem Tr.Order.move (h:T.Order) (w:T.WF) (fr:BitVec 16) (s:NameL) (to:BitVec 16) (other:NameL):(T.move fr s to other).1.Order:=by
 have w':=w.move fr s to other
 unfold Tr.move at w' ⊢
 split
 ·exact h
 rename_i c1
 split
 ·exact h
 rename_i c2
 split
 ·exact h
 rename_i c3
 split
 ·exact h
 rename_i c4
 split
 ·exact h
 rename_i c5
 simp only [if_neg c1,if_neg c2,if_neg c3,if_neg c4,if_neg c5] at w'
 have hto:to.toNat<T.N.length:=by
  have c2:T.dir to=0:=by simpa using c2
  exact Tr.node_lt (by rw [Tr.dir_zero.1 c2]; decide)
 refine Tr.Order.step (T:=if (alook other (T.node to).ents).isSome then (T.drop to other (decide ((T.node (T.look fr s).1).kind=2#8))).1 else T) ?_ (Tr.DStep.moved ?_ w')
 ·split
  ·exact h.step (.drop w _ _ _)
  ·exact h
 ·split
  ·rw [Tr.len_drop]; exact hto
  ·exact hto
theorem Tr.Did.order {up:Bool} (h:T.Did up T') (w:T.WF) (o:T.Order):T'.Order:=by
 cases h
 ·exact o.step (.make w _ _ _ _)
 ·exact o.step (.add _ _ _)
 ·exact o.step (.drop w _ _ _)
 ·exact o.move w _ _ _ _
 ·exact o.step (.hold _ _)
 ·unfold Tr.write
  repeat' split
  all_goals try exact o
  exact o.step (.upd _ _ fun _=>⟨rfl,rfl,rfl⟩)
 ·unfold Tr.cut
  repeat' split
  all_goals try exact o
  exact o.step (.upd _ _ fun _=>⟨rfl,rfl,rfl⟩)
 ·exact o
theorem Tr.Order.new (limit:Int):(Tr.new limit).Order:=by
 have hp:∀ n,((Tr.new limit).node n).kind≠2#8→((Tr.new limit).node n).parent=0#16:=by
  intro n hk
  unfold Tr.new Tr.node at hk ⊢
  simp only [List.getD_eq_getElem?_getD] at hk ⊢
  by_cases e0:n.toNat=0
  ·rw [e0]; rfl
  ·by_cases e1:n.toNat=1
   ·rw [e1] at hk; exact (hk rfl).elim
   ·rw [List.getElem?_eq_none (by simp; omega)]; rfl
 refine ⟨⟨fun _=>0,1,fun _=>Nat.zero_lt_one,fun n hd _ =>?_⟩,hp⟩
 obtain ⟨a,b⟩:=hd
 unfold Tr.new Tr.node at a b
 simp only [List.getD_eq_getElem?_getD] at a b
 by_cases e0:n.toNat=0
 ·rw [e0] at a; exact absurd a (by decide)
 ·by_cases e1:n.toNat=1
  ·rw [e1] at b; exact absurd b (by decide)
  ·rw [List.getElem?_eq_none (by simp; omega)] at a; exact absurd a (by decide)
end
end Go.AM
end
section
namespace Go.AM
variable {E:Sy} {H0 Z H:AH} {L:List Res} {Q:Value→AH→Prop}
def PlaceD.toI (p:PlaceD):PlaceI:=⟨p.m,p.i.toNat⟩
def MntD.toI (m:MntD):MntI:=⟨m.id,m.root.toNat,m.at_.toI,m.held⟩
structure PInv (T:List MntD) (nx k:Int):Prop where
 older:Older T
 uniq:∀ a∈T,∀ b∈T,a.id≠0→b.id≠0→a.at_=b.at_→a.id=b.id
 nodup:(T.map MntD.id).Nodup
 len:T.length≤16
 ids:∀ m∈T,0≤m.id∧m.id<nx
 nx0:1≤nx
 nx1:nx≤1+k
 held:∀ m∈T,0≤m.held∧m.held≤k
theorem PInv.mono {T:List MntD} {nx k k':Int} (h:PInv T nx k) (hk:k≤k'):PInv T nx k' :=
 { h with nx1:=by have:=h.nx1; omega,held:=fun m hm=>by have:=h.held m hm; omega }
theorem pinv0:PInv tab0 1 0:=⟨by unfold Older; simp [tab0],by simp [tab0],by simp [tab0],by simp [tab0],by simp [tab0],by omega,by omega,by simp [tab0]⟩
end Go.AM
end
section
namespace Go.AM
def mntI (M:List MntD):List (List Value):=(M.map MntD.toI).map MntI.cells
end Go.AM
end
section
namespace Go.AM
theorem Tr.Did.limit {up:Bool} {T T':Tr} (h:T.Did up T'):T'.limit=T.limit:=by
 have htd:∀ (U:Tr) (n:BitVec 16),(U.tidy n).limit=U.limit:=fun U n=>by unfold Tr.tidy; split <;> rfl
 have hdr:∀ (U:Tr) (n:BitVec 16) (s:NameL) (d:Bool),(U.drop n s d).1.limit=U.limit:=fun U n s d=>by
  unfold Tr.drop
  repeat' split
  all_goals try rfl
  rw [htd]; rfl
 have hmv:∀ (U:Tr) (fr to n:BitVec 16) (s o:NameL),(Tr.moved U fr s to o n).limit=U.limit:=fun U fr to n s o=>by
  unfold Tr.moved
  simp only
  split <;> rfl
 cases h
 ·unfold Tr.make
  repeat' split
  all_goals rfl
 ·unfold Tr.add
  repeat' split
  all_goals rfl
 ·exact hdr _ _ _ _
 ·unfold Tr.move
  split
  ·rfl
  split
  ·rfl
  split
  ·rfl
  split
  ·rfl
  split
  ·rfl
  rw [hmv]
  split
  ·exact hdr _ _ _ _
  ·rfl
 ·unfold Tr.hold
  repeat' split
  all_goals try rfl
  exact htd _ _
 ·unfold Tr.write
  repeat' split
  all_goals rfl
 ·unfold Tr.cut
  repeat' split
  all_goals rfl
 ·rfl
def topM:MntD:=⟨0,⟨0,0#16⟩,1#16,0⟩
structure GI (k:Int) (T:Tr) (M:List MntD) (nx l:Int):Prop where
 k0:0≤k
 k1:k≤900
 wf:T.WF
 kd:T.KD
 ord:T.Order
 lim:T.limit≤l
 hb:T.HB (2*k)
 c0:0≤T.change
 c1:T.change≤2*k
 pin:PInv M nx k
 top:getT M 0=some topM
 mnt:∀ m∈M,(T.node m.root).kind=2#8∧(m.id=0→m=topM)∧(m.id≠0→1≤(T.node m.root).held∧(T.node m.at_.i).kind=2#8∧1≤(T.node m.at_.i).held∧0≤m.at_.m∧m.at_.m≤2)
section
variable {T T':Tr} {M:List MntD} {nx k l:Int}
theorem GI.co (g:GI k T M nx l):T.CO:=⟨by have:=g.c0; omega,by have:=g.c1; have:=g.k1; omega⟩
theorem GI.stay (g:GI k T M nx l) (s:T.Stay T') (wf:T'.WF) (kd:T'.KD) (ord:T'.Order) (lim:T'.limit≤l) {k':Int} (hk:k≤k') (h1:k'≤900) (hb:T'.HB (2*k')) (c0:0≤T'.change) (c1:T'.change≤2*k'):GI k' T' M nx l where
 k0:=by have:=g.k0; omega
 k1:=h1
 wf:=wf
 kd:=kd
 ord:=ord
 lim:=lim
 hb:=hb
 c0:=c0
 c1:=c1
 pin:=g.pin.mono hk
 top:=g.top
 mnt:=fun m hm=>by
  obtain ⟨a,b,c⟩:=g.mnt m hm
  refine ⟨?_,b,fun h0 =>?_⟩
  ·by_cases h0:m.id=0
   ·rw [b h0]; exact wf.root.1
   ·obtain ⟨c1,_⟩:=c h0
    rw [(s m.root (by rw [a]; decide) c1).1]; exact a
  ·obtain ⟨c1,c2,c3,c4⟩:=c h0
   have h1:=s m.root (by rw [a]; decide) c1
   have h2:=s m.at_.i (by rw [c2]; decide) c3
   exact ⟨by omega,by rw [h2.1]; exact c2,by omega,c4⟩
theorem GI.did (g:GI k T M nx l) (d:T.Did true T') (wf:T'.WF) (cb:T.CB T') (hb:T'.HB (2*k+1)) (h1:k+1≤900):GI (k+1) T' M nx l:=by
 have hc0:=g.c0
 have hc1:=g.c1
 exact g.stay (d.stay g.wf) wf (d.kd g.kd) (d.order g.wf g.ord) (by rw [d.limit]; exact g.lim) (by omega) h1 (hb.mono (by omega)) (by have:=cb.1; omega) (by have:=cb.2; omega)
theorem GI.new (limit l:Int) (hl:1≤l∧limit≤l):GI 0 (Tr.new limit) tab0 1 l where
 k0:=Int.le_refl _
 k1:=by decide
 wf:=Tr.new_wf limit
 kd:=Tr.KD.new limit
 ord:=Tr.Order.new limit
 lim:=by show min (max limit 1) 256≤l; omega
 hb:=Tr.HB.new limit
 c0:=Int.le_refl _
 c1:=Int.le_refl _
 pin:=pinv0
 top:=rfl
 mnt:=fun m hm=>by
  simp [tab0] at hm
  subst hm
  exact ⟨(Tr.new_wf limit).root.1,fun _=>rfl,fun h=>(h rfl).elim⟩
end
end Go.AM
end
section
namespace Go.AM
set_option maxRecDepth 20000
section
variable {X:List Res} {E:Sy} {H0 H H' H'':AH} {Q:Value→AH→Prop} {w t:Nat} {T T':Tr} {M M':List MntD} {nx nx' k l:Int}
def GwO (X:List Res) (H0 H:AH) (w t:Nat) (T:Tr) (M:List MntD) (nx:Int):Prop:=∃ nv mv Y,WkO (refR t nv mv nx (mntI M) Y T :: X) H0 H w T M nx∧Y.length=T.N.length∧T.N.length≤60000
theorem GwO.ext (h:GwO X H0 H w t T M nx):Ext H0 H:=by obtain ⟨_,_,_,h,_⟩:=h; exact h.ext
theorem GwO.box (h:GwO X H0 H w t T M nx) (c:List Value):GwO (X++[boxR H.next c]) H0 (H.new (.cells c none)) w t T M nx:=by obtain ⟨nv,mv,Y,h,a,b⟩:=h; exact ⟨nv,mv,Y,h.box c,a,b⟩
theorem GwO.drop {r:Res} (h:GwO (X++[r]) H0 H w t T M nx):GwO X H0 H w t T M nx:=by obtain ⟨nv,mv,Y,h,a,b⟩:=h; exact ⟨nv,mv,Y,WkO.drop (X:=refR t nv mv nx (mntI M) Y T :: X) h,a,b⟩
theorem GwO.held {b:Nat} {c:List Value} (h:GwO (X++[boxR b c]) H0 H w t T M nx):H.get b = .cells c none:=by obtain ⟨nv,mv,Y,h,_⟩:=h; exact WkO.held (X:=refR t nv mv nx (mntI M) Y T :: X) h
end
end Go.AM
end
section
namespace Go.AM
set_option maxRecDepth 20000
section
variable {X:List Res} {E:Sy} {H0 H H' H'':AH} {Q:Value→AH→Prop} {w t:Nat} {T T':Tr} {M M':List MntD} {nx nx' k l:Int}
theorem grow_new (hE:Fold E) (l:Int) {Q:Value→Value→AH→Prop} (hQ:∀ w t H',GwO [] H H' w t (Tr.new l) tab0 1→Q (ptr w 0) (ptr t 0) H') :
  E.call (E.fid i.f103) [vi l] H fun v1 H1=>E.call (E.fid i.f53) [vi l] H1 fun v2 H2=>Q v1 v2 H2:=by
 refine S.f103 hE l fun w H1 h1 =>?_
 refine S.f53 hE l fun t nv mv Y H2 e2 h2 f2 =>?_
 refine hQ w t H2 ⟨nv,mv,Y,?_,h2.len,h2.fit⟩
 obtain ⟨p,m,L,q,v,e,o,own,cov,tab⟩:=h1
 have o2:=o.ext e2
 have hm:mntI tab0=mntTop:=rfl
 rw [hm]
 have perm:(refR t nv mv 1 mntTop Y (Tr.new l) :: wkRs p m L (Tr.new l) q v tab0 1 w []).Perm (wkRs p m L (Tr.new l) q v tab0 1 w (refR t nv mv 1 mntTop Y (Tr.new l) :: [])):=by
  show List.Perm (_ :: ([_,_,_]++[])) ([_,_,_]++_ :: [])
  exact List.perm_middle.symm
 have ho:Ow (joinR (refR t nv mv 1 mntTop Y (Tr.new l) :: wkRs p m L (Tr.new l) q v tab0 1 w [])) H2:=by
  refine ⟨fun r hr =>?_,fun b hb =>?_,?_⟩
  ·rcases List.mem_cons.1 hr with rfl | hr
   ·exact h2.ow.holds
   ·exact o2.holds r hr
  ·have hb:b∈(refR t nv mv 1 mntTop Y (Tr.new l)).fp++(wkRs p m L (Tr.new l) q v tab0 1 w []).flatMap Res.fp:=hb
   rcases List.mem_append.1 hb with hb | hb
   ·exact h2.ow.lt b hb
   ·exact (o2.fp b hb).2
  ·show ((refR t nv mv 1 mntTop Y (Tr.new l)).fp++(wkRs p m L (Tr.new l) q v tab0 1 w []).flatMap Res.fp).Nodup
   rw [List.nodup_append]
   refine ⟨h2.ow.nd,o2.nd,fun a ha b hb =>?_⟩
   have h3:=f2 a ha
   have h4:=o.lt b hb
   omega
 refine ⟨p,m,L,q,v,e.trans e2,ho.perm perm,fun b hb =>?_,cov,tab⟩
 have hb:=((perm.flatMap_right Res.fp).mem_iff).2 hb
 rw [List.flatMap_cons,List.mem_append] at hb
 rcases hb with hb | hb
 ·exact Nat.le_trans e.1 (f2 b hb)
 ·exact own b hb
end
end Go.AM
end
section
namespace Go.AM
set_option maxRecDepth 20000
def mk5:List (BitVec 16×NameL×BitVec 8):=[(1#16,[97],2#8),(2#16,[98],2#8),(1#16,[102],1#8),(2#16,[103],1#8),(1#16,[99],2#8)]
def mkR (x:BitVec 16×NameL×BitVec 8):List Value:=[vi (x.1.toNat:Int),str x.2.1,u8 x.2.2]
def grownTo (j:Nat):Tr:=(mk5.take j).foldl (fun T x=>(T.make x.1 x.2.1 x.2.2 []).1) (Tr.new 80)
theorem grownTo_succ {j:Nat} (h:j<mk5.length):grownTo (j+1)=((grownTo j).make mk5[j].1 mk5[j].2.1 mk5[j].2.2 []).1:=by
 unfold grownTo
 rw [List.take_succ,List.getElem?_eq_getElem h,List.foldl_append]; rfl
section
variable {X:List Res} {E:Sy} {H0 H H' H'':AH} {Q:Value→AH→Prop} {w t:Nat} {T T':Tr} {M M':List MntD} {nx nx' k l:Int}
theorem grown_loop (hE:Fold E) (av:Value) (hQ:∀ w t H',GwO [] H H' w t (grownTo 5) tab0 1→GI 5 (grownTo 5) tab0 1 80→E.call (E.fid i.f46) [ptr w 0,ptr t 0,av] H' fun _ H5=>Q (.tuple #[ptr w 0,ptr t 0]) H5):E.call (E.fid i.f49) [av] H Q:=by
 apply hE.f49
 simp only [F.f49]
 have hbv:∀ (a:Int) (s:NameL) (c:BitVec 8),buildV [(0,1),(1,1),(2,1)] #[(.int .i64 0),(.string ⟨#[]⟩),(.int .u8 0)] [(0,vi a),(1,str s),(2,u8 c)]=some (.agg #[vi a,str s,u8 c]):=fun a s c=>rfl
 have b1:buildV [(0,1),(1,1),(2,1)] #[(.int .i64 0),(.string ⟨#[]⟩),(.int .u8 0)] [(0,(.int .i64 1)),(1,(.string ⟨#[97]⟩)),(2,(.int .u8 2))]=some (.agg (mkR (1#16,[97],2#8)).toArray):=rfl
 have b2:buildV [(0,1),(1,1),(2,1)] #[(.int .i64 0),(.string ⟨#[]⟩),(.int .u8 0)] [(0,(.int .i64 2)),(1,(.string ⟨#[98]⟩)),(2,(.int .u8 2))]=some (.agg (mkR (2#16,[98],2#8)).toArray):=rfl
 have b3:buildV [(0,1),(1,1),(2,1)] #[(.int .i64 0),(.string ⟨#[]⟩),(.int .u8 0)] [(0,(.int .i64 1)),(1,(.string ⟨#[102]⟩)),(2,(.int .u8 1))]=some (.agg (mkR (1#16,[102],1#8)).toArray):=rfl
 have b4:buildV [(0,1),(1,1),(2,1)] #[(.int .i64 0),(.string ⟨#[]⟩),(.int .u8 0)] [(0,(.int .i64 2)),(1,(.string ⟨#[103]⟩)),(2,(.int .u8 1))]=some (.agg (mkR (2#16,[103],1#8)).toArray):=rfl
 have b5:buildV [(0,1),(1,1),(2,1)] #[(.int .i64 0),(.string ⟨#[]⟩),(.int .u8 0)] [(0,(.int .i64 1)),(1,(.string ⟨#[99]⟩)),(2,(.int .u8 2))]=some (.agg (mkR (1#16,[99],2#8)).toArray):=rfl
 have hbs:=buildS_full 5 3 [vi 0,str [],u8 0#8] [(0,.agg (mkR (1#16,[97],2#8)).toArray),(1,.agg (mkR (2#16,[98],2#8)).toArray),(2,.agg (mkR (1#16,[102],1#8)).toArray),(3,.agg (mkR (2#16,[103],1#8)).toArray),(4,.agg (mkR (1#16,[99],2#8)).toArray)] (mk5.map fun x => .agg (mkR x).toArray) rfl rfl rfl rfl (by
  intro v hv
  obtain ⟨s,_,rfl⟩:=List.mem_map.1 hv
  rfl)
 have hbs:buildS 5 3 #[(.int .i64 0),(.string ⟨#[]⟩),(.int .u8 0)] [(0,.agg (mkR (1#16,[97],2#8)).toArray),(1,.agg (mkR (2#16,[98],2#8)).toArray),(2,.agg (mkR (1#16,[102],1#8)).toArray),(3,.agg (mkR (2#16,[103],1#8)).toArray),(4,.agg (mkR (1#16,[99],2#8)).toArray)]=some (.cells (mk5.map mkR).flatten none,mkSlc 5 5):=by
  rw [show (mk5.map mkR).flatten=(mk5.map fun x=>Value.agg (mkR x).toArray).flatMap vcells from rfl]
  exact hbs
 refine grow_new (Q:=fun v1 v2 H2=>_) hE 80 fun w t H1 h1 =>?_
 simp only [b1,b2,b3,b4,b5,hbs,stdZ]
 have h2:=h1.box (mk5.map mkR).flatten
 have hv2:Rows (H1.new (.cells (mk5.map mkR).flatten none)) 3 (slc H1.next 0 5 5) (mk5.map mkR):=Rows.made (f:=none) (by rw [AH.get_new_self]) (.inl rfl) rfl (by decide)
 have hls:AM.lenSlc (slc H1.next 0 5 5)=some (vi ((5:Nat):Int)):=rfl
 have i0:(.int .i64 0:Value)=vi ((0:Nat):Int):=rfl
 simp only [hls,i0,stdZ]
 generalize hbb:H1.next=bb at *
 generalize H1.new (.cells (mk5.map mkR).flatten none)=H2 at *
 have h2:GwO [boxR bb (mk5.map mkR).flatten] H H2 w t (grownTo 0) tab0 1:=h2
 refine LoopL.count 5 (fun j ls H'=>ls=[av,ptr w 0,ptr t 0,slc bb 0 5 5,vi ((5:Nat):Int),vi j]∧GwO [boxR bb (mk5.map mkR).flatten] H H' w t (grownTo j) tab0 1∧GI j (grownTo j) tab0 1 80) ?_ ⟨rfl,h2,GI.new 80 80 ⟨by omega,by omega⟩⟩
 rintro j _ H3 X hj hX ⟨rfl,h3,g⟩
 have hb3:=GwO.held (X:=[]) h3
 have hv3:Rows H3 3 (slc bb 0 5 5) (mk5.map mkR):=Rows.made (f:=none) (by rw [hb3]) (.inl rfl) rfl (by decide)
 rcases Nat.lt_or_ge j 5 with hj5 | hj5
 rotate_left
 ·have:j=5:=by omega
  subst this
  have hlt:¬ (((5:Nat):Int)<((5:Nat):Int)):=by omega
  simp only [F.f49_l1,i64_lss,hlt,decide_false,stdZ]
  exact hQ w t H3 (GwO.drop (X:=[]) h3) g
 have hX:=hX hj5
 have hjm:j<mk5.length:=hj5
 obtain ⟨b,o,p1,p2⟩:=hv3.ix (i:=j) (by simpa using hjm)
 rw [List.getElem_map] at p2
 rw [grownTo_succ hjm] at hX
 have hsl:(mk5[j]).2.1.length<2 ^ 63:=by
  have:∀ x∈mk5,x.2.1.length<2 ^ 63:=by decide
  exact this _ (List.getElem_mem hjm)
 generalize mk5[j]=x at *
 have hjj:=i64_inc (i:=j) (by omega)
 have hjl':((j:Nat):Int)<((5:Nat):Int):=by omega
 have hlo:loadN 3 (ptr b o) H3=some (.agg (mkR x).toArray):=by rw [loadN_ptr,p2]; rfl
 have hst:storeN 3 (ptr H3.next 0) (.agg (mkR x).toArray) (H3.new (.cells [(.int .i64 0),str [],(.int .u8 0)] none))=some (H3.new (.cells (mkR x) none)):=by
  rw [storeN_ptr,AH.get_new_self]
  have hs:AM.splice [(.int .i64 0),str [],(.int .u8 0)] 0 (mkR x)=mkR x:=rfl
  have hp:(mkR x).all plain1=true:=rfl
  have hl:(mkR x).length=3:=rfl
  simp only [List.size_toArray,List.toList_toArray,hl,hp,List.length_cons,List.length_nil,Nat.zero_add,Nat.reduceAdd,Nat.le_refl,and_self,if_true,hs,AH.new_put]
 have h4:=h3.box (mkR x)
 have hb4:=h4.held
 obtain ⟨rv,mv,Y,h4,hyl,hyf⟩:=h4
 obtain ⟨p',q',v,m,L,h5,back⟩:=h4.two hyl hyf
 have hw5:(H3.new (.cells (mkR x) none)).get w = .cells [ptr p' 0,ptr q' 0] none:=h5.ow.holds (boxR w [ptr p' 0,ptr q' 0]) (by simp)
 have c0:(mkR x)[0]? = some (vi (x.1.toNat:Int)):=rfl
 have c1:(mkR x)[1]? = some (str x.2.1):=rfl
 have c2:(mkR x)[2]? = some (u8 x.2.2):=rfl
 have s0:(.string ⟨#[]⟩:Value)=str []:=rfl
 have conv:convInt .u16 (vi (x.1.toNat:Int))=some (u16 x.1):=by
  rw [i64_to_u16]
  congr 2
  rw [BitVec.ofInt_natCast,BitVec.ofNat_toNat,BitVec.setWidth_eq]
 have hc:=g.co
 have hk0:=g.k0
 generalize hj1:j+1=j1 at *
 simp only [F.f49_l1,i64_lss,hjl',decide_true,p1,hlo,allocW_eq,hst,hw5,hb4,c0,c1,c2,conv,s0,stdZ]
 refine TwoX.cMake hE h5 g.wf x.1 x.2.1 hsl x.2.2 [] (by decide) ⟨hc.1,by have:=hc.2; omega⟩ fun L1 H5 h6 =>?_
 have hb6:H5.get H3.next = .cells (mkR x) none:=h6.ow.holds (boxR H3.next (mkR x)) (by simp)
 simp only [hb6,c0,c1,c2,u8_to_i64,stdZ]
 refine TwoX.rMake hE h6 g.wf x.1 x.2.1 hsl x.2.2 [] ⟨hc.1,by have:=hc.2; omega⟩ fun nv2 Y2 H6 h7 =>?_
 have h8:GwO ([boxR bb (mk5.map mkR).flatten]++[boxR H3.next (mkR x)]) H H6 w t ((grownTo j).make x.1 x.2.1 x.2.2 []).1 tab0 1:=⟨nv2,mv,Y2,back _ _ _ _ _ _ h7,h7.len,h7.fit⟩
 simp only [hjj,stdZ]
 refine hX _ _ ⟨rfl,h8.drop,?_⟩
 have:=g.did (.make x.1 x.2.1 x.2.2 []) (g.wf.make x.1 x.2.1 x.2.2 []) (.make x.1 x.2.1 x.2.2 []) ((g.hb.make (by omega) x.1 x.2.1 x.2.2 []).mono (by omega)) (by omega)
 rw [← hj1]
 exact this
theorem S.pinfoldlaw20_Grown_nil (hE:Fold E) (hQ:∀ w t H',GwO [] H H' w t (grownTo 5) tab0 1→GI 5 (grownTo 5) tab0 1 80→Q (.tuple #[ptr w 0,ptr t 0]) H'):E.call (E.fid i.f49) [nilS] H Q :=
 grown_loop hE nilS fun w t H' h g=>by
  apply hE.f46
  have hls:AM.lenSlc nilS=some (vi 0):=rfl
  simp only [F.f46,hls,stdZ]
  intro X hX
  refine hX _ _ ?_
  have hlt:¬ ((0:Int)<0):=by omega
  simp only [F.f46_l1,i64_lss,hlt,decide_false,stdZ]
  exact hQ w t H' h g
end
end Go.AM
end
section
namespace Go.AM
abbrev Keys (l:List (BitVec 16×BitVec 16)):Prop:=(l.map Prod.fst).Nodup
theorem lookK_mem:∀ {l:List (BitVec 16×BitVec 16)} (_:Keys l) {n v:BitVec 16},l.lookup n=some v↔(n,v)∈l
 | [],_,n,v=>by simp [List.lookup]
 | (a,b) :: l,hn,n,v=>by
  simp only [Keys,List.map_cons,List.nodup_cons] at hn
  have ih:=lookK_mem (l:=l) hn.2 (n:=n) (v:=v)
  simp only [List.lookup,List.mem_cons,Prod.mk.injEq]
  by_cases h:n=a
  ·subst h
   simp only [beq_self_eq_true,Option.some.injEq,true_and]
   constructor
   ·rintro rfl; exact .inl rfl
   ·rintro (h | h)
    ·exact h.symm
    ·exact (hn.1 (List.mem_map.2 ⟨_,h,rfl⟩)).elim
  ·have h2:(n == a)=false:=by simpa using h
   simp only [h2,h,false_and,false_or]
   exact ih
theorem getR_mem {l:List (BitVec 16×BitVec 16)} (hn:Keys l) {n v:BitVec 16} (h:(n,v)∈l):getR n l=v:=by
 unfold getR; rw [(lookK_mem hn).2 h]; rfl
theorem getR_out {l:List (BitVec 16×BitVec 16)} (hn:Keys l) {n:BitVec 16} (h:n ∉ l.map Prod.fst):getR n l=0#16:=by
 unfold getR
 cases hl:l.lookup n with
 | none=>rfl
 | some v=>exact (h (List.mem_map.2 ⟨_,(lookK_mem hn).1 hl,rfl⟩)).elim
structure SetD.OK (d:SetD):Prop where
 nd:Keys d.paths
 nz:∀ p∈d.paths,p.2≠0#16
 pd:Keys d.ports
theorem SetD.OK.key {d:SetD} (h:d.OK) (n:BitVec 16):n∈d.paths.map Prod.fst↔d.at_ n≠0#16:=by
 constructor
 ·intro hm
  obtain ⟨⟨a,v⟩,hp,rfl⟩:=List.mem_map.1 hm
  have:=getR_mem h.nd hp
  have h2:=h.nz _ hp
  unfold SetD.at_
  rw [this]; exact h2
 ·intro hz
  by_cases hm:n∈d.paths.map Prod.fst
  ·exact hm
  ·exact (hz (getR_out h.nd hm)).elim
theorem SetD.OK.mem_inodes {d:SetD} (h:d.OK) (n:BitVec 16):n∈d.inodes↔d.at_ n≠0#16:=by
 rw [← h.key]; exact (sort16_perm _).mem_iff
theorem rise_unique:∀ {l l':List (BitVec 16)},(l.Pairwise fun a b=>lt16 a b=true)→(l'.Pairwise fun a b=>lt16 a b=true)→(∀ n,n∈l↔n∈l')→l=l'
 | [],[],_,_,_=>rfl
 | [],b :: l',_,_,h=>by have:=(h b).2 (by simp); simp at this
 | a :: l,[],_,_,h=>by have:=(h a).1 (by simp); simp at this
 | a :: l,b :: l',h1,h2,h=>by
  rw [List.pairwise_cons] at h1 h2
  have irr:∀ x:BitVec 16,lt16 x x=true→False:=fun x hx=>by simp [lt16] at hx
  have asy:∀ x y:BitVec 16,lt16 x y=true→lt16 y x=true→False:=fun x y hx hy=>by simp [lt16] at hx hy; omega
  have e:a=b:=by
   have ha:=(h a).1 (by simp)
   have hb:=(h b).2 (by simp)
   rcases List.mem_cons.1 ha with e | ha
   ·exact e
   ·rcases List.mem_cons.1 hb with e | hb
    ·exact e.symm
    ·exact (asy _ _ (h1.1 _ hb) (h2.1 _ ha)).elim
  subst e
  congr 1
  refine rise_unique h1.2 h2.2 fun n =>?_
  have:=h n
  simp only [List.mem_cons] at this
  constructor
  ·intro hn
   rcases this.1 (.inr hn) with e | hn'
   ·subst e; exact (irr _ (h1.1 _ hn)).elim
   ·exact hn'
  ·intro hn
   rcases this.2 (.inr hn) with e | hn'
   ·subst e; exact (irr _ (h2.1 _ hn)).elim
   ·exact hn'
theorem SetD.same_iff {a b:SetD} (ha:a.OK) (hb:b.OK) {S:List (BitVec 16)} (ka:∀ p∈a.paths,p.1∈S) (kb:∀ p∈b.paths,p.1∈S) :
  a.same b=true↔a.h=b.h∧a.ports.length=b.ports.length∧(∀ n∈S,a.at_ n=b.at_ n)∧∀ p∈a.ports,p∈b.ports:=by
 unfold SetD.same
 simp only [Bool.and_eq_true,decide_eq_true_eq,List.all_eq_true,and_assoc]
 refine and_congr_right fun h1=>and_congr_right fun h2 =>?_
 have hp:(∀ x∈a.ports,b.ports.lookup x.1=some x.2)↔∀ p∈a.ports,p∈b.ports:=by
  constructor
  ·intro h p hp; exact (lookK_mem hb.pd).1 (h p hp)
  ·intro h p hp; exact (lookK_mem hb.pd).2 (h p hp)
 rw [hp,← and_assoc]
 refine and_congr_left fun _ =>?_
 constructor
 ·rintro ⟨h3,h4⟩ n _
  by_cases hz:a.at_ n=0#16
  ·have:¬ b.at_ n≠0#16:=fun hb'=>by
    have:=(hb.mem_inodes n).2 hb'
    rw [← h3] at this
    exact (ha.mem_inodes n).1 this hz
   rw [hz]; exact (Classical.not_not.1 this).symm
  ·have hm:=(ha.key n).2 hz
   obtain ⟨⟨m,v⟩,hp,rfl⟩:=List.mem_map.1 hm
   have e1:=getR_mem ha.nd hp
   have e2:=h4 _ hp
   unfold SetD.at_
   rw [e1]; exact e2.symm
 ·intro h
  have all:∀ n,a.at_ n=b.at_ n:=by
   intro n
   by_cases hs:n∈S
   ·exact h n hs
   ·have e1:a.at_ n=0#16:=getR_out ha.nd fun hm=>by
     obtain ⟨p,hp,rfl⟩:=List.mem_map.1 hm
     exact hs (ka p hp)
    have e2:b.at_ n=0#16:=getR_out hb.nd fun hm=>by
     obtain ⟨p,hp,rfl⟩:=List.mem_map.1 hm
     exact hs (kb p hp)
    rw [e1,e2]
  refine ⟨?_,fun p hp =>?_⟩
  ·refine rise_unique (sort16_rise ha.nd) (sort16_rise hb.nd) fun n =>?_
   show n∈a.inodes↔n∈b.inodes
   rw [ha.mem_inodes,hb.mem_inodes,all n]
  ·have:=all p.1
   unfold SetD.at_ at this
   rw [← this]; exact getR_mem ha.nd hp
theorem SetD.same_self {a:SetD} (ha:a.OK):a.same a=true:=(SetD.same_iff ha ha (S:=a.paths.map Prod.fst) (fun p hp=>List.mem_map.2 ⟨p,hp,rfl⟩) fun p hp=>List.mem_map.2 ⟨p,hp,rfl⟩).2 ⟨rfl,rfl,fun _ _=>rfl,fun _ h=>h⟩
section
variable {T:Tr} {M:List MntD}
theorem mem_aset {k v:BitVec 16} {l:List (BitVec 16×BitVec 16)} {p:BitVec 16×BitVec 16} (h:p∈aset k v l):p=(k,v)∨p∈l:=by
 induction l with
 | nil=>simp [aset] at h; exact .inl h
 | cons q l ih =>
  simp only [aset] at h
  split at h
  ·rcases List.mem_cons.1 h with h | h
   ·exact .inl h
   ·exact .inr (List.mem_cons.2 (.inr h))
  ·rcases List.mem_cons.1 h with h | h
   ·exact .inr (List.mem_cons.2 (.inl h))
   ·rcases ih h with h | h
    ·exact .inl h
    ·exact .inr (List.mem_cons.2 (.inr h))
theorem or_nz {a b:BitVec 16} (h:b≠0#16):a|||b≠0#16:=by
 intro h'
 apply h
 apply BitVec.eq_of_getLsbD_eq
 intro i _
 have:=congrArg (fun x=>BitVec.getLsbD x i) h'
 simp only [BitVec.getLsbD_or,BitVec.getLsbD_zero,Bool.or_eq_false_iff] at this
 simpa using this.2
theorem ofPaths_keys:∀ (bs:List (List UInt8×BitVec 16)) (_:∀ b∈bs,b.2≠0#16) (l:List (BitVec 16×BitVec 16)),Keys l→(∀ p∈l,p.2≠0#16∧(T.node p.1).kind≠0#8) →
  Keys (ofPaths T M topP l bs).1∧∀ p∈(ofPaths T M topP l bs).1,p.2≠0#16∧(T.node p.1).kind≠0#8
 | [],_,l,h1,h2=>⟨h1,h2⟩
 | b :: bs,hz,l,h1,h2=>by
  have step:Keys (ofStep T M topP l b).1∧∀ p∈(ofStep T M topP l b).1,p.2≠0#16∧(T.node p.1).kind≠0#8:=by
   unfold ofStep
   split
   ·exact ⟨h1,h2⟩
   ·rename_i hc
    split
    ·exact ⟨h1,h2⟩
    ·refine ⟨aset_nodup _ _ _ h1,fun p hp =>?_⟩
     rcases mem_aset hp with rfl | hp
     ·exact ⟨or_nz (hz b (by simp)),findW_kind T M topP b.1 true (Classical.not_not.1 hc)⟩
     ·exact h2 p hp
  rw [ofPaths]
  split
  ·exact step
  ·exact ofPaths_keys bs (fun x hx=>hz x (by simp [hx])) _ step.1 step.2
theorem ofPorts_eq (ps:List (BitVec 16×BitVec 16)) (h:Keys ps):ofPorts ps=ps:=by
 have key:∀ (ps l:List (BitVec 16×BitVec 16)),Keys (l++ps)→ps.foldl (fun l x=>addR x.1 x.2 l) l=l++ps:=by
  intro ps
  induction ps with
  | nil=>intro l _; simp
  | cons x ps ih =>
   intro l hk
   have hx:x.1 ∉ l.map Prod.fst:=by
    intro hm
    simp only [Keys,List.map_append,List.map_cons,List.nodup_append] at hk
    exact hk.2.2 _ hm _ (by simp) rfl
   have hkl:Keys l:=by
    simp only [Keys,List.map_append,List.nodup_append] at hk
    exact hk.1
   have e:addR x.1 x.2 l=l++[x]:=by
    unfold addR
    rw [getR_out hkl hx]
    have:=aset_new x.1 (0#16|||x.2) (fun v:BitVec 16=>v) l hx
    simp only [List.map_id'] at this
    rw [this]; simp
   rw [List.foldl_cons,e,ih _ (by simpa using hk)]
   simp
 have:=key ps [] (by simpa using h)
 simpa [ofPorts] using this
theorem Small.pol_nz (s:Small):∀ b∈s.pol.paths,b.2≠0#16:=by
 have key:∀ n,∀ b∈s.pathsTo n,b.2≠0#16:=by
  intro n
  induction n with
  | zero=>intro b hb; simp [Small.pathsTo] at hb
  | succ n ih =>
   intro b hb
   rw [pathsTo_succ] at hb
   unfold stepPath at hb
   simp only at hb
   split at hb
   ·rename_i hc
    rcases List.mem_append.1 hb with hb | hb
    ·exact ih b hb
    ·simp only [List.mem_singleton] at hb
     subst hb
     exact hc.2
   ·exact ih b hb
 exact key _
theorem Small.set_ok (s:Small) (T:Tr) (M:List MntD):(s.pol.set T M topP).1.OK∧(s.pol.set T M topP).1.ports=s.pol.ports∧∀ p∈(s.pol.set T M topP).1.paths,(T.node p.1).kind≠0#8:=by
 have h1:=ofPaths_keys (T:=T) (M:=M) s.pol.paths s.pol_nz [] (by simp [Keys]) (by simp)
 have h2:Keys s.pol.ports:=(portsTo_ok s s.ports.length).1
 have h3:=ofPorts_eq _ h2
 refine ⟨⟨h1.1,fun p hp=>(h1.2 p hp).1,?_⟩,h3,fun p hp=>(h1.2 p hp).2⟩
 show Keys (ofPorts s.pol.ports)
 rw [h3]; exact h2
end
end Go.AM
end
section
namespace Go.AM
set_option maxRecDepth 20000
def holdL (T:Tr) (more:Bool) (l:List (BitVec 16)):Tr:=l.foldl (fun T n=>(T.hold n more).1) T
section
variable {X:List Res} {E:Sy} {H0 H H' H'':AH} {Q:Value→AH→Prop} {w t s:Nat} {T T':Tr} {M M':List MntD} {nx nx' k:Int} {d:SetD}
theorem holdL_take (T:Tr) (more:Bool) (l:List (BitVec 16)) {j:Nat} (h:j<l.length):holdL T more (l.take (j+1))=((holdL T more (l.take j)).hold l[j] more).1:=by
 unfold holdL
 rw [List.take_succ_eq_append_getElem h,List.foldl_append]; rfl
theorem holdL_wf (w:T.WF) (more:Bool) (l:List (BitVec 16)):(holdL T more l).WF:=by
 unfold holdL
 induction l generalizing T with
 | nil=>exact w
 | cons n l ih=>exact ih (w.hold n more)
theorem S.f72 (hE:Fold E) (h:WkO X H0 H w T M nx) (wf:T.WF) (more:Bool) (hs:SetAt H s d) (hb:∀ j,j≤d.inodes.length→∀ n,((holdL T more (d.inodes.take j)).node n).held<9223372036854775807)
  (hQ:∀ H',WkO X H0 H' w (holdL T more d.inodes) M nx→Q (.tuple #[]) H'):E.call (E.fid i.f72) [ptr s 0,ptr w 0,vb more] H Q:=by
 apply hE.f72
 simp only [F.f72,nilq_p,stdZ]
 have hn1:d.inodes.length<2 ^ 62:=by
  obtain ⟨_,_,_,h2,_⟩:=hs
  have:=nodup16 (l:=d.paths.map Prod.fst) (by obtain ⟨_,_,_,_,_,_,h5⟩:=h2; exact h5)
  have:=(sort16_perm (d.paths.map Prod.fst)).length_eq
  unfold SetD.inodes
  omega
 refine S.f73 hE hs fun v H1 e1 r1 f1 =>?_
 have hl:=r1.lenSlc
 rw [u16R_length] at hl
 have i0:(.int .i64 0:Value)=vi ((0:Nat):Int):=rfl
 have h1:=h.frz e1
 have rz:=r1.since f1
 generalize d.inodes=l at *
 simp only [hl,i0,stdZ]
 refine LoopL.count l.length (fun j ls H'=>ls=[ptr w 0,vb more,v,vi l.length,vi j]∧WkO (X++[frR H.next H1]) H0 H' w (holdL T more (l.take j)) M nx) ?_ ⟨rfl,h1⟩
 rintro j _ H2 X0 hj hX ⟨rfl,h2⟩
 have sz:=h2.since (k:=X.length) (n:=H.next) (K:=H1) (by simp)
 rcases Nat.lt_or_ge j l.length with hjl | hjl
 ·have hX:=hX hjl
  have hjl':(j:Int)<l.length:=by omega
  have hjj:=i64_inc (i:=j) (by omega)
  obtain ⟨b,o,p1,p2⟩:=(rz.sub sz).ix (i:=j) (by rw [u16R_length]; exact hjl)
  have hrow:(u16R l)[j]'(by rw [u16R_length]; exact hjl)=[u16 l[j]]:=by simp [u16R]
  rw [hrow] at p2
  have p3:(H2.get b).cell o=some (u16 l[j]):=by have:=row_at p2 (j:=0) (by omega); simpa using this
  have hbj:=hb j (by omega) l[j]
  rw [holdL_take T more l hjl] at hX
  generalize l[j]=n at *
  obtain ⟨p,q,hw,⟨m,L,hi,ki⟩,_⟩:=h2.open_
  simp only [F.f72_l1,i64_lss,hjl',decide_true,p1,p3,hw,stdZ]
  refine Ino.cHold hE hi (holdL_wf wf more _) n more hbj fun L' H3 u3 =>?_
  simp only [hjj,stdZ]
  exact hX _ _ ⟨rfl,ki _ _ _ u3⟩
 ·have hjl':¬ (j:Int)<l.length:=by omega
  rw [List.take_of_length_le hjl] at h2
  simp only [F.f72_l1,i64_lss,hjl',decide_false,stdZ]
  exact hQ _ h2.drop
end
end Go.AM
end
section
namespace Go.AM
def subsL {α:Type}:List α→List (List α)
 | []=>[[]]
 | a :: l=>subsL l++(subsL l).map (a :: ·)
theorem subsL_mem {α:Type} {l L:List α} (h:l.Sublist L):l∈subsL L:=by
 induction h with
 | slnil=>simp [subsL]
 | cons a _ ih=>simp only [subsL,List.mem_append]; exact .inl ih
 | cons_cons a _ ih=>simp only [subsL,List.mem_append,List.mem_map]; exact .inr ⟨_,ih,rfl⟩
def nums6:List (BitVec 16):=[1#16,2#16,3#16,4#16,5#16,6#16]
def sMoved:NameL:=[109,111,118,101,100]
def held5 (l:List (BitVec 16)):Tr:=holdL (grownTo 5) true l
def moved5 (l:List (BitVec 16)):Tr:=((held5 l).move 1#16 [97] 1#16 sMoved).1
def same5 (l:List (BitVec 16)):Bool :=
 l.all (fun n=>decide (((held5 l).node n).held=1)&&decide (((held5 l).node n).kind≠0#8))&&decide ((held5 l).look 1#16 [97]=(2#16,0))&&decide ((moved5 l).look 1#16 sMoved=(2#16,0)) &&
 l.all (fun n=>decide (((holdL (moved5 l) false l).node n).held=0)&&decide (((holdL (moved5 l) false l).node n).kind≠0#8))&&decide ((held5 l).change=5)
theorem same5_all:(subsL nums6).all same5=true:=by decide +kernel
theorem grownTo_kinds {n:BitVec 16} (h:((grownTo 5).node n).kind≠0#8):n∈nums6:=by
 have hl:(grownTo 5).N.length=7:=by decide +kernel
 have hlt:n.toNat<7:=by
  rcases Nat.lt_or_ge n.toNat 7 with h7 | h7
  ·exact h7
  ·exfalso
   apply h
   unfold Tr.node
   rw [List.getD_eq_getElem?_getD,List.getElem?_eq_none (by omega)]
   rfl
 have h0:((grownTo 5).node 0#16).kind=0#8:=by decide +kernel
 have hne:n≠0#16:=by rintro rfl; exact h h0
 have:n=BitVec.ofNat 16 n.toNat:=by simp
 have hpos:n.toNat≠0:=fun e=>hne (BitVec.eq_of_toNat_eq (by simpa using e))
 generalize n.toNat=m at *
 subst this
 have:m=1∨m=2∨m=3∨m=4∨m=5∨m=6:=by omega
 rcases this with rfl | rfl | rfl | rfl | rfl | rfl <;> decide
theorem rise_sub {l:List (BitVec 16)} (hr:l.Pairwise fun a b=>lt16 a b=true) (hm:∀ n∈l,n∈nums6):l∈subsL nums6:=by
 have h6:nums6.Pairwise fun a b=>lt16 a b=true:=by decide
 have e:l=nums6.filter fun n=>decide (n∈l):=rise_unique hr (h6.filter _) fun n=>by
  simp only [List.mem_filter,decide_eq_true_eq]
  exact ⟨fun h=>⟨hm n h,h⟩,fun h=>h.2⟩
 rw [e]
 exact subsL_mem List.filter_sublist
structure Same5 (l:List (BitVec 16)):Prop where
 a:∀ n∈l,((held5 l).node n).held=1∧((held5 l).node n).kind≠0#8
 b:(held5 l).look 1#16 [97]=(2#16,0)
 c:(moved5 l).look 1#16 sMoved=(2#16,0)
 d:∀ n∈l,((holdL (moved5 l) false l).node n).held=0∧((holdL (moved5 l) false l).node n).kind≠0#8
 e:(held5 l).change=5
theorem same5_of {l:List (BitVec 16)} (h:l∈subsL nums6):Same5 l:=by
 have:=List.all_eq_true.1 same5_all l h
 unfold same5 at this
 simp only [Bool.and_eq_true,decide_eq_true_eq,List.all_eq_true] at this
 obtain ⟨⟨⟨⟨a,b⟩,c⟩,d⟩,e⟩:=this
 exact ⟨a,b,c,d,e⟩
theorem holdL_hb {T:Tr} {B:Int} (h:T.HB B) (hB:0≤B) (more:Bool):∀ (l:List (BitVec 16)),(holdL T more l).HB (B+l.length)
 | []=>by simpa [holdL] using h
 | n :: l=>by
  have:=holdL_hb (h.hold hB n more) (by omega) more l
  show (holdL (T.hold n more).1 more l).HB _
  refine this.mono ?_
  simp only [List.length_cons]
  omega
end Go.AM
end
section
namespace Go.AM
section
variable {E:Sy} {X:List Res} {H H' H0 Z:AH} {Q:Value→AH→Prop} {t w:Nat} {T T':Tr} {M M':List MntD} {nx nx':Int} {L:List Res} {s:Nat} {d:SetD}
theorem S.rule_Set_Hold_nil (hE:Fold E) (v:Value) (b:Bool) (hQ:Q (.tuple #[]) H):E.call (E.fid i.f72) [.pointer none,v,vb b] H Q:=by
 apply hE.f72
 have hn:binNil eqPtr .eql (.pointer none) (.pointer none)=some (vb true):=rfl
 simp only [F.f72,hn,stdZ]
 exact hQ
theorem S.rule_Same_nil (hE:Fold E) (v:Value) (x:Bool) (hx:binNil eqPtr .eql (.pointer none) v=some (vb x)) (hQ:Q (vb x) H):E.call (E.fid i.f67) [.pointer none,v] H Q:=by
 apply hE.f67
 have hn:binNil eqPtr .eql (.pointer none) (.pointer none)=some (vb true):=rfl
 simp only [F.f67,hn,hx,stdZ]
 exact hQ
end
end Go.AM
end
section
namespace Go.AM
set_option maxRecDepth 20000
theorem pair_eql (a b c d:BitVec 16):binAgg [0,0] .eql (.agg #[u16 a,u16 b]) (.agg #[u16 c,u16 d])=some (vb (decide ((a,b)=(c,d)))):=by
 simp [binAgg,Prod.mk.injEq]
def portR (l:List (BitVec 16×BitVec 16)):List (List Value):=l.map fun p=>[u16 p.1,u16 p.2]
theorem portR_length (l:List (BitVec 16×BitVec 16)):(portR l).length=l.length:=by simp [portR]
section
variable {X:List Res} {E:Sy} {H0 H H' H'':AH} {Q:Value→AH→Prop} {w t s s2:Nat} {T T':Tr} {M M':List MntD} {nx nx' k:Int} {d d2:SetD}
theorem SetAt.sub' {Z:AH} (h:SetAt Z s d) (z:Sub Z H):SetAt H s d:=by
 obtain ⟨r1,r2,h1,h2,h3⟩:=h
 have hm:∀ {r:Nat} {m:List (BitVec 16×BitVec 16)},MapAt u16 u16 Z r m→H.get r=Z.get r:=fun {r m} hm=>z.2 r (by
  obtain ⟨es,cl,hh,_⟩:=hm
  rw [hh]; simp)
 exact ⟨r1,r2,by rw [z.2 s (by rw [h1]; simp),h1],h2.keep (hm h2),h3.keep (hm h3)⟩
theorem rsame_l6 (hE:Fold E) {l:List (BitVec 16)} {v:Value} (h:WkAt H w T M) (hs:SetAt H s d) (hv:Rows H 1 v (u16R l)) (hl:l.length<2 ^ 62) (ht:∀ n∈l,(T.node n).held=0∧(T.node n).kind≠0#8) (n:BitVec 16) (hQ:Q (vb true) H) :
  LoopL (fun l H X0=>F.f50_l6 E Q (nth l 0) (nth l 1) (nth l 2) (nth l 3) (nth l 4) (nth l 5) (nth l 6) (nth l 7) H X0) [ptr w 0,ptr s 0,u16 n,u16 (d.at_ n),u16 n,v,vi l.length,(.int .i64 0)] H:=by
 have i0:(.int .i64 0:Value)=vi ((0:Nat):Int):=rfl
 rw [i0]
 refine LoopL.count l.length (fun j ls H'=>ls=[ptr w 0,ptr s 0,u16 n,u16 (d.at_ n),u16 n,v,vi l.length,vi j]∧H'=H) ?_ ⟨rfl,rfl⟩
 rintro j _ H1 X0 hj hX ⟨rfl,rfl⟩
 obtain ⟨⟨p,m,L,q,nx,q1,q2,q3⟩,_⟩:=h
 rcases Nat.lt_or_ge j l.length with hjl | hjl
 ·have hX:=hX hjl
  have hjl':(j:Int)<l.length:=by omega
  have hjj:=i64_inc (i:=j) (by omega)
  obtain ⟨b,o,p1,p2⟩:=hv.ix (i:=j) (by rw [u16R_length]; exact hjl)
  have hrow:(u16R l)[j]'(by rw [u16R_length]; exact hjl)=[u16 l[j]]:=by simp [u16R]
  rw [hrow] at p2
  have p3:(H1.get b).cell o=some (u16 l[j]):=by have:=row_at p2 (j:=0) (by omega); simpa using this
  have htj:=ht _ (List.getElem_mem hjl)
  generalize l[j]=a at *
  simp only [F.f50_l6,i64_lss,hjl',decide_true,p1,p3,q1,stdZ]
  refine S.f6 hE q2 a ?_
  rcases q2.get a with ⟨k0,_⟩ | ⟨kk,yy,k0,k1,k2,k3,k4⟩
  ·exact (htj.2 k0).elim
  have c7:(inC a (T.node a) yy)[7]? = some (vi 0):=by rw [← htj.1]; rfl
  simp only [nodeP_some q2.cov.nd k1,k3,c7,i64_neq,ne_eq,not_true,decide_false,hjj,stdZ]
  exact hX _ _ ⟨rfl,rfl⟩
 ·have hjl':¬ (j:Int)<l.length:=by omega
  simp only [F.f50_l6,i64_lss,hjl',u16_eql,decide_false,decide_true,stdZ]
  refine S.f68 hE hs n ?_
  simp only [u16_eql,decide_true,stdZ]
  exact hQ
theorem rsame_l5 (hE:Fold E) {v:Value} (h:WkO X H0 H w (held5 d.inodes) M nx) (hb0:(grownTo 5).WF∧(grownTo 5).HB 10) (hz:∃ Z,Sub Z H∧(∀ T H',WkO X H0 H' w T M nx→Sub Z H')∧SetAt Z s d∧Rows Z 1 v (u16R d.inodes)) (hl:d.inodes.length<2 ^ 60) (h5:Same5 d.inodes) (hQ:∀ H',Q (vb true) H') :
  LoopL (fun l H X0=>F.f50_l5 E Q (nth l 0) (nth l 1) (nth l 2) (nth l 3) (nth l 4) (nth l 5) H X0) [ptr w 0,ptr s 0,v,v,vi d.inodes.length,(.int .i64 0)] H:=by
 have i0:(.int .i64 0:Value)=vi ((0:Nat):Int):=rfl
 rw [i0]
 obtain ⟨Z,z0,z1,z2,z3⟩:=hz
 have hv:=z3.sub z0
 refine LoopL.count d.inodes.length (fun j ls H'=>ls=[ptr w 0,ptr s 0,v,v,vi d.inodes.length,vi j]∧H'=H) ?_ ⟨rfl,rfl⟩
 rintro j _ H1 X0 hj hX ⟨rfl,rfl⟩
 have hat:=h.at_
 obtain ⟨⟨p,m,L,q,nx',q1,q2,q3⟩,_⟩:=hat
 rcases Nat.lt_or_ge j d.inodes.length with hjl | hjl
 ·have hX:=hX hjl
  have hjl':(j:Int)<d.inodes.length:=by omega
  have hjj:=i64_inc (i:=j) (by omega)
  obtain ⟨b,o,p1,p2⟩:=hv.ix (i:=j) (by rw [u16R_length]; exact hjl)
  have hrow:(u16R d.inodes)[j]'(by rw [u16R_length]; exact hjl)=[u16 d.inodes[j]]:=by simp [u16R]
  rw [hrow] at p2
  have p3:(H1.get b).cell o=some (u16 d.inodes[j]):=by have:=row_at p2 (j:=0) (by omega); simpa using this
  have htj:=h5.a _ (List.getElem_mem hjl)
  generalize d.inodes[j]=a at *
  simp only [F.f50_l5,i64_lss,hjl',decide_true,p1,p3,q1,stdZ]
  refine S.f6 hE q2 a ?_
  rcases q2.get a with ⟨k0,_⟩ | ⟨kk,yy,k0,k1,k2,k3,k4⟩
  ·exact (htj.2 k0).elim
  have c7:(inC a ((held5 d.inodes).node a) yy)[7]? = some (vi 1):=by rw [← htj.1]; rfl
  simp only [nodeP_some q2.cov.nd k1,k3,c7,i64_neq,ne_eq,not_true,decide_false,hjj,stdZ]
  exact hX _ _ ⟨rfl,rfl⟩
 ·have hjl':¬ (j:Int)<d.inodes.length:=by omega
  have w1:(held5 d.inodes).WF:=holdL_wf hb0.1 true _
  have hb1:(held5 d.inodes).HB (10+d.inodes.length):=holdL_hb hb0.2 (by omega) true _
  have n1:(.int .u16 1:Value)=u16 1#16:=rfl
  have s97:(.string ⟨#[97]⟩:Value)=str [97]:=rfl
  have smv:(.string ⟨#[109,111,118,101,100]⟩:Value)=str sMoved:=rfl
  have hlv:=hv.lenSlc
  rw [u16R_length] at hlv
  simp only [F.f50_l5,i64_lss,hjl',decide_false,q1,n1,s97,smv,stdZ]
  refine S.f8 hE q2 1#16 [97] ?_
  rw [h5.b]
  simp only [stdZ]
  refine S.f68 hE (z2.sub' z0) 2#16 ?_
  obtain ⟨p',q',hw,⟨m',L',hi,ki⟩,_⟩:=h.open_
  simp only [hw,stdZ]
  refine Ino.cMove hE hi w1 1#16 1#16 [97] sMoved (by decide) ⟨by rw [h5.e]; decide,by rw [h5.e]; decide⟩ fun L2 H2 u2 =>?_
  have h2:WkO X H0 H2 w (moved5 d.inodes) M nx:=ki _ _ _ u2
  obtain ⟨⟨p3,m3,L3,q3,nx3,r1,r2,r3⟩,_⟩:=h2.at_
  have zs2:=z1 _ _ h2
  simp only [r1,stdZ]
  refine S.f8 hE r2 1#16 sMoved ?_
  rw [h5.c]
  simp only [stdZ]
  have w2:(moved5 d.inodes).WF:=w1.move _ _ _ _
  have hb2:(moved5 d.inodes).HB (10+d.inodes.length):=by
   unfold moved5
   exact hb1.move (by omega) _ _ _ _
  refine S.f72 hE h2 w2 false (z2.sub' zs2) (fun j hj n =>?_) fun H3 h3 =>?_
  ·have:=holdL_hb hb2 (by omega) false (d.inodes.take j) n
   rw [List.length_take] at this
   omega
  ·have zs3:=z1 _ _ h3
   simp only [hlv,stdZ]
   exact rsame_l6 hE h3.at_ (z2.sub' zs3) (z3.sub zs3) (by omega) h5.d 2#16 (hQ _)
theorem rsame_l4 (hE:Fold E) {v:Value} (h:WkO X H0 H w (grownTo 5) M nx) (hb0:(grownTo 5).WF∧(grownTo 5).HB 10) (hz:∃ Z,Sub Z H∧(∀ T H',WkO X H0 H' w T M nx→Sub Z H')∧SetAt Z s d∧Rows Z 1 v (u16R d.inodes)) (ok:d.OK) (h6:d.inodes∈subsL nums6) (hl:d.inodes.length<2 ^ 60) (hQ:∀ H',Q (vb true) H') :
  LoopL (fun l H X0=>F.f50_l4 E Q (nth l 0) (nth l 1) (nth l 2) (nth l 3) (nth l 4) (nth l 5) H X0) [ptr w 0,ptr s 0,v,v,vi d.inodes.length,(.int .i64 0)] H:=by
 have i0:(.int .i64 0:Value)=vi ((0:Nat):Int):=rfl
 rw [i0]
 have hz':=hz
 obtain ⟨Z,z0,z1,z2,z3⟩:=hz
 have hv:=z3.sub z0
 refine LoopL.count d.inodes.length (fun j ls H'=>ls=[ptr w 0,ptr s 0,v,v,vi d.inodes.length,vi j]∧H'=H) ?_ ⟨rfl,rfl⟩
 rintro j _ H1 X0 hj hX ⟨rfl,rfl⟩
 rcases Nat.lt_or_ge j d.inodes.length with hjl | hjl
 ·have hX:=hX hjl
  have hjl':(j:Int)<d.inodes.length:=by omega
  have hjj:=i64_inc (i:=j) (by omega)
  have elem:∀ {i:Nat} (hi:i<d.inodes.length),∃ b o,ixSlc 1 v (vi i)=some (ptr b o)∧(H1.get b).cell o=some (u16 d.inodes[i]):=fun {i} hi=>by
   obtain ⟨b,o,p1,p2⟩:=hv.ix (i:=i) (by rw [u16R_length]; exact hi)
   have hrow:(u16R d.inodes)[i]'(by rw [u16R_length]; exact hi)=[u16 d.inodes[i]]:=by simp [u16R]
   rw [hrow] at p2
   exact ⟨b,o,p1,by have:=row_at p2 (j:=0) (by omega); simpa using this⟩
  obtain ⟨b,o,p1,p3⟩:=elem hjl
  have hnz:=(ok.mem_inodes _).1 (List.getElem_mem hjl)
  have n0:(.int .u16 0:Value)=u16 0#16:=rfl
  by_cases hj0:j=0
  ·subst hj0
   generalize d.inodes[0]=a at *
   have hg:¬ ((0:Int)<((0:Nat):Int)):=by omega
   simp only [F.f50_l4,i64_lss,hjl',decide_true,p1,p3,i64_gtr,gt_iff_lt,hg,decide_false,stdZ]
   refine S.f68 hE (z2.sub' z0) a ?_
   simp only [n0,u16_eql,hnz,decide_false,stdZ]
   rw [hjj]
   simp only [stdZ]
   exact hX _ _ ⟨rfl,rfl⟩
  ·have hg:((0:Int)<(j:Int)):=by omega
   have s1:binInt .sub (vi j) (.int .i64 1)=some (vi ((j - 1:Nat):Int)):=by
    show binInt .sub (vi j) (vi 1)=_
    rw [i64_sub (by omega) (by omega)]; congr 2; omega
   obtain ⟨b2,o2,p4,p5⟩:=elem (i:=j - 1) (by omega)
   have hr:=List.pairwise_iff_getElem.1 (sort16_rise ok.nd) (j - 1) j (by show j - 1<d.inodes.length; omega) hjl (by omega)
   have hr:lt16 d.inodes[j - 1] d.inodes[j]=true:=hr
   simp only [lt16,decide_eq_true_eq] at hr
   generalize d.inodes[j - 1]=a0 at *
   generalize d.inodes[j]=a at *
   have hge:¬ (a.toNat≤a0.toNat):=by omega
   simp only [F.f50_l4,i64_lss,hjl',decide_true,p1,p3,i64_gtr,gt_iff_lt,hg,s1,p4,p5,u16_geq,ge_iff_le,hge,decide_false,stdZ]
   refine S.f68 hE (z2.sub' z0) a ?_
   simp only [n0,u16_eql,hnz,decide_false,hjj,stdZ]
   exact hX _ _ ⟨rfl,rfl⟩
 ·have hjl':¬ (j:Int)<d.inodes.length:=by omega
  have hlv:=hv.lenSlc
  rw [u16R_length] at hlv
  simp only [F.f50_l4,i64_lss,hjl',decide_false,stdZ]
  refine S.f72 hE h hb0.1 true (z2.sub' z0) (fun j hj n =>?_) fun H3 h3 =>?_
  ·have:=holdL_hb hb0.2 (by omega) true (d.inodes.take j) n
   rw [List.length_take] at this
   omega
  ·simp only [hlv,stdZ]
   exact rsame_l5 hE h3 hb0 ⟨Z,z1 _ _ h3,z1,z2,z3⟩ hl (same5_of h6) hQ
theorem rsame_end (hE:Fold E) {Ha:AH} (h:WkO [] H0 Ha w (grownTo 5) M nx) (e:Ext Ha H) (hb0:(grownTo 5).WF∧(grownTo 5).HB 10) (hs:SetAt (H.since Ha.next) s d) (hs2:SetAt H s2 d2) (ok:d.OK) (ok2:d2.OK) (h6:d.inodes∈subsL nums6) (acc:Bool) (hacc:d.same d2=acc) (hQ:∀ H',Q (vb true) H') :
  E.call (E.fid i.f67) [ptr s 0,ptr s2 0] H fun v8 H3 =>
  opt (binBool .neq v8 (vb acc)) fun v9 =>
  ifB v9 (
  Q (.bool false) H3) (
  E.call (E.fid i.f73) [ptr s 0] H3 fun v10 H4 =>
  opt (lenSlc v10) fun v11 =>
  LoopL (fun l H X0=>F.f50_l4 E Q (nth l 0) (nth l 1) (nth l 2) (nth l 3) (nth l 4) (nth l 5) H X0) [ptr w 0,ptr s 0,v10,v10,v11,(.int .i64 0)] H4):=by
 have hsH:SetAt H s d:=hs.sub' (since_sub H Ha.next)
 refine S.f67 hE hsH hs2 fun H3 e3 =>?_
 have hbn:binBool .neq (vb acc) (vb acc)=some (vb false):=by cases acc <;> rfl
 simp only [hacc,hbn,stdZ]
 refine S.f73 hE (hsH.mono e3) fun v H4 e4 r4 f4 =>?_
 have hlv:=r4.lenSlc
 rw [u16R_length] at hlv
 simp only [hlv,stdZ]
 have eA:Ext Ha H4:=e.trans (e3.trans e4)
 have h4:=h.frz eA
 have hl:d.inodes.length<2 ^ 60:=by
  have:=nodup16 (l:=d.paths.map Prod.fst) ok.nd
  have:=(sort16_perm (d.paths.map Prod.fst)).length_eq
  unfold SetD.inodes
  omega
 have hle:Ha.next≤H3.next:=(e.trans e3).1
 refine rsame_l4 hE h4 hb0 ⟨H4.since Ha.next,since_sub _ _,fun T H' h'=>h'.since (k:=0) rfl,hs.sub' (since_mono (Nat.le_refl _) (e3.trans e4)),r4.since fun b hb=>Nat.le_trans hle (f4 b hb)⟩ ok h6 hl hQ
theorem rsame_l3 (hE:Fold E) {qv:Value} {ql:List (BitVec 16×BitVec 16)} (hq:Rows H 2 qv (portR ql)) (hql:ql.length<2 ^ 62) {ab:Nat} {a:BitVec 16×BitVec 16} (ha:H.get ab = .cells [u16 a.1,u16 a.2] none) (acc:Bool)
  {X0:List Value→AH→Prop} {t7 t10 t11 t13 t117 t118:Value} {m:Nat} (hm:m<2 ^ 62)
  (next:∀ H',Ext H H'→X0 [t7,t10,t11,t13,vb (acc&&decide (a∈ql)),t117,t118,vi ((m+1:Nat):Int)] H') :
  LoopL (fun l H X1=>F.f50_l3 E Q X0 (nth l 0) (nth l 1) (nth l 2) (nth l 3) (nth l 4) (nth l 5) (nth l 6) (nth l 7) (nth l 8) (nth l 9) (nth l 10) (nth l 11) (nth l 12) H X1) [t7,t10,t11,t13,vb acc,ptr ab 0,(.bool false),t117,t118,vi m,qv,vi ql.length,(.int .i64 0)] H:=by
 have i0:(.int .i64 0:Value)=vi ((0:Nat):Int):=rfl
 have mm:=i64_inc (i:=m) (by omega)
 generalize hm1:m+1=m1 at *
 rw [i0]
 refine LoopL.count ql.length (fun j ls H'=>ls=[t7,t10,t11,t13,vb acc,ptr ab 0,vb (decide (a∈ql.take j)),t117,t118,vi m,qv,vi ql.length,vi j]∧Ext H H') ?_ ⟨by simp,Ext.refl _⟩
 rintro j _ H1 X1 hj hX ⟨rfl,e1⟩
 rcases Nat.lt_or_ge j ql.length with hjl | hjl
 ·have hX:=hX hjl
  have hjl':(j:Int)<ql.length:=by omega
  have hjj:=i64_inc (i:=j) (by omega)
  obtain ⟨b,o,p1,p2⟩:=(hq.mono e1).ix (i:=j) (by rw [portR_length]; exact hjl)
  have hrow:(portR ql)[j]'(by rw [portR_length]; exact hjl)=[u16 (ql[j]).1,u16 (ql[j]).2]:=by simp [portR]
  rw [hrow] at p2
  have htk:decide (a∈ql.take (j+1))=(decide (a∈ql.take j)||decide (ql[j]=a)):=by
   rw [List.take_succ_eq_append_getElem hjl,← Bool.decide_or,decide_eq_decide,List.mem_append,List.mem_singleton,eq_comm (a:=a)]
  rw [htk] at hX
  generalize ql[j]=y at *
  have hlo:loadN 2 (ptr b o) H1=some (.agg [u16 y.1,u16 y.2].toArray):=by rw [loadN_ptr,p2]; rfl
  have hz:([(.int .u16 0),(.int .u16 0)]:List Value).length=2:=rfl
  have hst:storeN 2 (ptr H1.next 0) (.agg [u16 y.1,u16 y.2].toArray) (H1.new (.cells [(.int .u16 0),(.int .u16 0)] none))=some (H1.new (.cells [u16 y.1,u16 y.2] none)):=two_store hz rfl rfl
  have x2:Ext H1 (H1.new (.cells [u16 y.1,u16 y.2] none)):=(Ext.refl _).new _
  have hb2:=AH.get_new_self H1 (.cells [u16 y.1,u16 y.2] none)
  have hlo2:loadN 2 (ptr H1.next 0) (H1.new (.cells [u16 y.1,u16 y.2] none))=some (.agg #[u16 y.1,u16 y.2]):=by rw [loadN_ptr,hb2]; rfl
  have hloa:loadN 2 (ptr ab 0) (H1.new (.cells [u16 y.1,u16 y.2] none))=some (.agg #[u16 a.1,u16 a.2]):=by rw [loadN_ptr,x2.cells (e1.cells ha)]; rfl
  have heq:decide (((a.1,a.2):BitVec 16×BitVec 16)=(y.1,y.2))=decide (y=a):=by rw [decide_eq_decide]; exact ⟨fun h=>h.symm,fun h=>h.symm⟩
  simp only [F.f50_l3,i64_lss,hjl',decide_true,p1,hlo,allocW_eq,hst,stdZ]
  cases hh:decide (a∈ql.take j) with
  | true =>
   rw [hh] at hX
   simp only [hjj,stdZ]
   exact hX _ _ ⟨rfl,e1.trans x2⟩
  | false =>
   rw [hh] at hX
   simp only [hlo2,hloa,pair_eql,heq,hjj,stdZ]
   exact hX _ _ ⟨rfl,e1.trans x2⟩
 ·have hjl':¬ (j:Int)<ql.length:=by omega
  rw [List.take_of_length_le hjl]
  cases acc with
  | true =>
   rw [Bool.true_and] at next
   simp only [F.f50_l3,i64_lss,hjl',decide_false,mm,stdZ]
   exact next _ e1
  | false =>
   rw [Bool.false_and] at next
   simp only [F.f50_l3,i64_lss,hjl',decide_false,mm,stdZ]
   exact next _ e1
theorem rsame_l2 (hE:Fold E) {Ha:AH} (h:WkO [] H0 Ha w (grownTo 5) M nx) (e:Ext Ha H) (hb0:(grownTo 5).WF∧(grownTo 5).HB 10) (hs:SetAt (H.since Ha.next) s d) (hs2:SetAt H s2 d2) (ok:d.OK) (ok2:d2.OK) (h6:d.inodes∈subsL nums6)
  {pv qv:Value} {pl ql:List (BitVec 16×BitVec 16)} (hp:Rows H 2 pv (portR pl)) (hpl:pl.length<2 ^ 62) (hq:Rows H 2 qv (portR ql)) (hql:ql.length<2 ^ 62) {c2:Nat} {cs2:List Value} (hc2:H.get c2 = .cells cs2 none) (hc5:cs2[5]? = some qv) (acc:Bool)
  (hacc:d.same d2=(acc&&pl.all fun a=>decide (a∈ql))) (hQ:∀ H',Q (vb true) H') :
  LoopL (fun l H X0=>F.f50_l2 E Q (nth l 0) (nth l 1) (nth l 2) (nth l 3) (nth l 4) (nth l 5) (nth l 6) (nth l 7) H X0) [ptr w 0,ptr c2 0,ptr s 0,ptr s2 0,vb acc,pv,vi pl.length,(.int .i64 0)] H:=by
 have i0:(.int .i64 0:Value)=vi ((0:Nat):Int):=rfl
 rw [i0]
 refine LoopL.count pl.length (fun j ls H'=>ls=[ptr w 0,ptr c2 0,ptr s 0,ptr s2 0,vb (acc&&(pl.take j).all fun a=>decide (a∈ql)),pv,vi pl.length,vi j]∧Ext H H') ?_ ⟨by simp,Ext.refl _⟩
 rintro j _ H1 X1 hj hX ⟨rfl,e1⟩
 rcases Nat.lt_or_ge j pl.length with hjl | hjl
 ·have hX:=hX hjl
  have hjl':(j:Int)<pl.length:=by omega
  obtain ⟨b,o,p1,p2⟩:=(hp.mono e1).ix (i:=j) (by rw [portR_length]; exact hjl)
  have hrow:(portR pl)[j]'(by rw [portR_length]; exact hjl)=[u16 (pl[j]).1,u16 (pl[j]).2]:=by simp [portR]
  rw [hrow] at p2
  have htk:(acc&&(pl.take (j+1)).all fun a=>decide (a∈ql))=((acc&&(pl.take j).all fun a=>decide (a∈ql))&&decide (pl[j]∈ql)):=by
   rw [List.take_succ_eq_append_getElem hjl,List.all_append]
   simp [Bool.and_assoc]
  rw [htk] at hX
  generalize pl[j]=y at *
  have hlo:loadN 2 (ptr b o) H1=some (.agg [u16 y.1,u16 y.2].toArray):=by rw [loadN_ptr,p2]; rfl
  have hz:([(.int .u16 0),(.int .u16 0)]:List Value).length=2:=rfl
  have hst:storeN 2 (ptr H1.next 0) (.agg [u16 y.1,u16 y.2].toArray) (H1.new (.cells [(.int .u16 0),(.int .u16 0)] none))=some (H1.new (.cells [u16 y.1,u16 y.2] none)):=two_store hz rfl rfl
  have x2:Ext H1 (H1.new (.cells [u16 y.1,u16 y.2] none)):=(Ext.refl _).new _
  have hb2:=AH.get_new_self H1 (.cells [u16 y.1,u16 y.2] none)
  have hlq:=(hq.mono (e1.trans x2)).lenSlc
  rw [portR_length] at hlq
  simp only [F.f50_l2,i64_lss,hjl',decide_true,p1,hlo,allocW_eq,hst,(x2.cells (e1.cells hc2)),hc5,hlq,stdZ]
  exact rsame_l3 hE (hq.mono (e1.trans x2)) hql hb2 _ (by omega) fun H' e'=>hX _ _ ⟨rfl,e1.trans (x2.trans e')⟩
 ·have hjl':¬ (j:Int)<pl.length:=by omega
  rw [List.take_of_length_le hjl]
  simp only [F.f50_l2,i64_lss,hjl',decide_false,stdZ]
  exact rsame_end hE h (e.trans e1) hb0 (hs.sub' (since_mono (Nat.le_refl _) e1)) (hs2.mono e1) ok ok2 h6 _ hacc hQ
theorem rsame_l1 (hE:Fold E) {Ha:AH} (h:WkO [] H0 Ha w (grownTo 5) M nx) (e:Ext Ha H) (hb0:(grownTo 5).WF∧(grownTo 5).HB 10) (hs:SetAt (H.since Ha.next) s d) (hs2:SetAt H s2 d2) (ok:d.OK) (ok2:d2.OK) (h6:d.inodes∈subsL nums6)
  {pv qv:Value} {pl ql:List (BitVec 16×BitVec 16)} (hp:Rows H 2 pv (portR pl)) (hpl:pl.length<2 ^ 62) (hq:Rows H 2 qv (portR ql)) (hql:ql.length<2 ^ 62) {c1 c2:Nat} {cs1 cs2:List Value} (hc1:H.get c1 = .cells cs1 none) (hc15:cs1[5]? = some pv) (hc2:H.get c2 = .cells cs2 none) (hc5:cs2[5]? = some qv) (acc:Bool)
  (hacc:d.same d2=((acc&&(List.range 7).all fun i=>decide (d.at_ (BitVec.ofNat 16 (1+i))=d2.at_ (BitVec.ofNat 16 (1+i))))&&pl.all fun a=>decide (a∈ql))) (hQ:∀ H',Q (vb true) H') :
  LoopL (fun l H X0=>F.f50_l1 E Q (nth l 0) (nth l 1) (nth l 2) (nth l 3) (nth l 4) (nth l 5) (nth l 6) H X0) [ptr w 0,ptr c1 0,ptr c2 0,ptr s 0,ptr s2 0,vb acc,(.int .u16 1)] H:=by
 have n1:(.int .u16 1:Value)=u16 (BitVec.ofNat 16 (1+0)):=rfl
 have hsH:SetAt H s d:=hs.sub' (since_sub H Ha.next)
 rw [n1]
 refine LoopL.count 7 (fun j ls H'=>ls=[ptr w 0,ptr c1 0,ptr c2 0,ptr s 0,ptr s2 0,vb (acc&&(List.range j).all fun i=>decide (d.at_ (BitVec.ofNat 16 (1+i))=d2.at_ (BitVec.ofNat 16 (1+i)))),u16 (BitVec.ofNat 16 (1+j))]∧H'=H) ?_ ⟨by simp,rfl⟩
 rintro j _ H1 X1 hj hX ⟨rfl,rfl⟩
 have n8:(.int .u16 8:Value)=u16 8#16:=rfl
 have n1':(.int .u16 1:Value)=u16 1#16:=rfl
 have hnn:(BitVec.ofNat 16 (1+j)).toNat=1+j:=by rw [BitVec.toNat_ofNat,Nat.mod_eq_of_lt (by omega)]
 rcases Nat.lt_or_ge j 7 with hjl | hjl
 ·have hX:=hX hjl
  have hlt:(BitVec.ofNat 16 (1+j)).toNat<(8#16).toNat:=by rw [hnn]; simp; omega
  have hadd:BitVec.ofNat 16 (1+(j+1))=BitVec.ofNat 16 (1+j)+1#16:=by apply BitVec.eq_of_toNat_eq; simp; omega
  have htk:(acc&&(List.range (j+1)).all fun i=>decide (d.at_ (BitVec.ofNat 16 (1+i))=d2.at_ (BitVec.ofNat 16 (1+i))))=((acc&&(List.range j).all fun i=>decide (d.at_ (BitVec.ofNat 16 (1+i))=d2.at_ (BitVec.ofNat 16 (1+i))))&&decide (d.at_ (BitVec.ofNat 16 (1+j))=d2.at_ (BitVec.ofNat 16 (1+j)))):=by
   rw [List.range_succ,List.all_append]; simp [Bool.and_assoc]
  rw [htk,hadd] at hX
  generalize (acc&&(List.range j).all fun i=>decide (d.at_ (BitVec.ofNat 16 (1+i))=d2.at_ (BitVec.ofNat 16 (1+i))))=ac at *
  generalize BitVec.ofNat 16 (1+j)=n at *
  cases ac with
  | true =>
   rw [Bool.true_and] at hX
   simp only [F.f50_l1,n8,n1',u16_lss,hlt,decide_true,stdZ]
   refine S.f68 hE hsH n ?_
   simp only [stdZ]
   refine S.f68 hE hs2 n ?_
   simp only [u16_eql,n1',u16_add,stdZ]
   exact hX _ _ ⟨rfl,rfl⟩
  | false =>
   rw [Bool.false_and] at hX
   simp only [F.f50_l1,n8,n1',u16_lss,hlt,decide_true,u16_add,stdZ]
   exact hX _ _ ⟨rfl,rfl⟩
 ·have:j=7:=by omega
  subst this
  have hlt:¬ ((BitVec.ofNat 16 (1+7)).toNat<(8#16).toNat):=by decide
  have hlp:=hp.lenSlc
  rw [portR_length] at hlp
  simp only [F.f50_l1,n8,u16_lss,hlt,decide_false,hc1,hc15,hlp,stdZ]
  exact rsame_l2 hE h e hb0 hs hs2 ok ok2 h6 hp hpl hq hql hc2 hc5 _ hacc hQ
theorem polx_cells {x:PolX} {cs:List Value} (h:PolXAt H x cs):cs.length=6∧cs.all plain1=true∧∃ rv pv qv,cs=[str x.name,u32 x.pol.default,rv,u16 x.handled,pv,qv]∧Rows H 2 qv (portR x.ports):=by
 obtain ⟨v,pv,qv,rfl,q1,q2,q3⟩:=h
 obtain ⟨rows,q1,_⟩:=q1
 refine ⟨rfl,?_,v,pv,qv,rfl,q3⟩
 simp only [List.all_cons,q1.plain,q2.plain,q3.plain,List.all_nil,Bool.and_true,Bool.true_and]; rfl
theorem small_paths (x:Small):(∀ b∈x.pol.paths,b.1.length<2 ^ 62)∧x.pol.paths.length<2 ^ 62∧x.pol.ports.length<2 ^ 62:=by
 have hlq:=portsTo_len x x.ports.length
 have hlr:=pathsTo_len x x.paths.length
 refine ⟨fun b hb =>?_,?_,?_⟩
 ·have h1:=(pathsTo_ok x x.paths.length).2 b.1 (List.mem_map_of_mem hb)
  have:∀ y∈sdirs,y.length<2 ^ 62:=by decide
  exact this _ h1
 ·show (x.pathsTo x.paths.length).length<_; omega
 ·show (x.portsTo x.ports.length).length<_; omega
theorem of_small (hE:Fold E) (h:WkO [] H0 H w (grownTo 5) tab0 1) (g:(grownTo 5).WF∧(grownTo 5).KD) (x:Small) {cs:List Value} (hx:PolXAt H x.pol cs) {Q:Value→AH→Prop}
  (hQ:∀ v H',Ext H H'→((x.pol.set (grownTo 5) tab0 topP).2=0→∃ s,v=ptr s 0∧SetAt (H'.since H.next) s (x.pol.set (grownTo 5) tab0 topP).1)→((x.pol.set (grownTo 5) tab0 topP).2≠0→v = .pointer none)→Q (.tuple #[v,vi (x.pol.set (grownTo 5) tab0 topP).2]) H'):E.call (E.fid i.f66) [.agg cs.toArray,ptr w 0,topP.v] H Q:=by
 obtain ⟨s1,s2,s3⟩:=small_paths x
 refine S.f66 hE h.at_ g.1 (Tr.KD.lt g.2) x.pol cs hx ⟨by omega,by omega⟩ (fun b hb=>by have:=s1 b hb; omega) topP (fun hbad H8 e8 =>?_) fun hgood s H8 e8 hz hs =>?_
 ·exact hQ _ _ e8 (fun h=>(hbad h).elim) fun _=>rfl
 ·have:=hQ (ptr s 0) _ e8 (fun _=>⟨s,rfl,hz⟩) fun h=>(h hgood).elim
  rw [hgood] at this
  exact this
theorem set_inodes6 (x:Small):(x.pol.set (grownTo 5) tab0 topP).1.inodes∈subsL nums6∧∀ p∈(x.pol.set (grownTo 5) tab0 topP).1.paths,p.1∈(List.range 7).map fun i=>BitVec.ofNat 16 (1+i):=by
 obtain ⟨ok,_,hk⟩:=Small.set_ok x (grownTo 5) tab0
 refine ⟨rise_sub (sort16_rise ok.nd) fun n hn =>?_,fun p hp =>?_⟩
 ·have hm:n∈(x.pol.set (grownTo 5) tab0 topP).1.paths.map Prod.fst:=(sort16_perm _).mem_iff.1 hn
  obtain ⟨p,hp,rfl⟩:=List.mem_map.1 hm
  exact grownTo_kinds (hk p hp)
 ·have h1:=grownTo_kinds (hk p hp)
  have:(nums6.all fun n=>((List.range 7).map fun i=>BitVec.ofNat 16 (1+i)).contains n)=true:=by decide +kernel
  exact List.contains_iff_mem.1 (List.all_eq_true.1 this _ h1)
theorem same_eq (x y:Small):((x.pol.set (grownTo 5) tab0 topP).1.same (y.pol.set (grownTo 5) tab0 topP).1) =
  (((decide (x.pol.handled=y.pol.handled)&&decide (x.pol.ports.length=y.pol.ports.length))&&(List.range 7).all fun i=>decide ((x.pol.set (grownTo 5) tab0 topP).1.at_ (BitVec.ofNat 16 (1+i))=(y.pol.set (grownTo 5) tab0 topP).1.at_ (BitVec.ofNat 16 (1+i))))&&x.pol.ports.all fun a=>decide (a∈y.pol.ports)):=by
 obtain ⟨ok1,p1,_⟩:=Small.set_ok x (grownTo 5) tab0
 obtain ⟨ok2,p2,_⟩:=Small.set_ok y (grownTo 5) tab0
 have h:=SetD.same_iff ok1 ok2 (set_inodes6 x).2 (set_inodes6 y).2
 rw [p1,p2] at h
 have e1:(x.pol.set (grownTo 5) tab0 topP).1.h=x.pol.handled:=rfl
 have e2:(y.pol.set (grownTo 5) tab0 topP).1.h=y.pol.handled:=rfl
 rw [e1,e2] at h
 rw [Bool.eq_iff_iff,h]
 simp only [Bool.and_eq_true,decide_eq_true_eq,List.all_eq_true,List.mem_map,List.mem_range,and_assoc]
 refine and_congr_right fun _=>and_congr_right fun _=>and_congr_left fun _ =>?_
 constructor
 ·intro h i hi; exact h _ ⟨i,hi,rfl⟩
 ·rintro h _ ⟨i,hi,rfl⟩; exact h i hi
theorem S.f50 (hE:Fold E) (x y:Small) (cs1 cs2:List Value) (hx:SmallAt H x cs1) (hy:SmallAt H y cs2) (nm:Value) (hQ:∀ H',Q (vb true) H'):E.call (E.fid i.f50) [.agg cs1.toArray,.agg cs2.toArray,nm] H Q:=by
 apply hE.f50
 have x1:Ext H (H.new (.cells cs1 none)):=(Ext.refl _).new _
 have hb1:=AH.get_new_self H (.cells cs1 none)
 have hlen1:cs1.length=8:=by
  obtain ⟨v,pv,rv,qv,rfl,_⟩:=hx
  rfl
 have hlen2:cs2.length=8:=by
  obtain ⟨v,pv,rv,qv,rfl,_⟩:=hy
  rfl
 simp only [F.f50,stdZ]
 generalize hA:H.next=A at *
 generalize H.new (.cells cs1 none)=H1 at *
 have x2:Ext H1 (H1.new (.cells cs2 none)):=(Ext.refl _).new _
 have hb2:=AH.get_new_self H1 (.cells cs2 none)
 generalize hB:H1.next=B at *
 generalize H1.new (.cells cs2 none)=H2 at *
 refine S.f48 hE fun H3 e3 =>?_
 have e13:=x1.trans (x2.trans e3)
 have zn:(.slice none 0 0:Value)=nilS:=rfl
 simp only [zn,stdZ]
 refine S.pinfoldlaw20_Grown_nil hE fun w t H4 h4 g =>?_
 have e34:=h4.ext
 have e14:=e13.trans e34
 have hlo1:∀ {H'},Ext H4 H'→loadN 8 (ptr A 0) H'=some (.agg cs1.toArray):=fun e=>by rw [loadN_ptr,(x2.trans (e3.trans (e34.trans e))).cells hb1,row_all _ _ 8 hlen1]; rfl
 have hlo2:∀ {H'},Ext H4 H'→loadN 8 (ptr B 0) H'=some (.agg cs2.toArray):=fun e=>by rw [loadN_ptr,(e3.trans (e34.trans e)).cells hb2,row_all _ _ 8 hlen2]; rfl
 have z6:([(.string ⟨#[]⟩),(.int .u32 0),nilS,(.int .u16 0),nilS,nilS]:List Value)=[str [],u32 0#32,nilS,u16 0#16,nilS,nilS]:=rfl
 simp only [hlo1 (Ext.refl _),hlo2 (Ext.refl _),z6,allocW_eq,stdZ]
 obtain ⟨rv,mv,Y,hw4,_⟩:=h4
 have w4:WkO [] H3 H4 w (grownTo 5) tab0 1:=WkO.drop (X:=[]) hw4
 clear hw4
 have g4:Has H4 H4 H4 []:=Has.start (Ext.refl _)
 have g5:=g4.newbox [str [],u32 0#32,nilS,u16 0#16,nilS,nilS]
 have g6:=g5.newbox [str [],u32 0#32,nilS,u16 0#16,nilS,nilS]
 have g6:Has H4 H4 ((H4.new (.cells [str [],u32 0#32,nilS,u16 0#16,nilS,nilS] none)).new (.cells [str [],u32 0#32,nilS,u16 0#16,nilS,nilS] none)) [boxR H4.next [str [],u32 0#32,nilS,u16 0#16,nilS,nilS],boxR (H4.new (.cells [str [],u32 0#32,nilS,u16 0#16,nilS,nilS] none)).next [str [],u32 0#32,nilS,u16 0#16,nilS,nilS]]:=g6
 have x6:Ext (H4.new (.cells [str [],u32 0#32,nilS,u16 0#16,nilS,nilS] none)) ((H4.new (.cells [str [],u32 0#32,nilS,u16 0#16,nilS,nilS] none)).new (.cells [str [],u32 0#32,nilS,u16 0#16,nilS,nilS] none)):=(Ext.refl _).new _
 have hb5:=AH.get_new_self H4 (.cells [str [],u32 0#32,nilS,u16 0#16,nilS,nilS] none)
 have hb6:=AH.get_new_self (H4.new (.cells [str [],u32 0#32,nilS,u16 0#16,nilS,nilS] none)) (.cells [str [],u32 0#32,nilS,u16 0#16,nilS,nilS] none)
 generalize hC:H4.next=C at *
 generalize H4.new (.cells [str [],u32 0#32,nilS,u16 0#16,nilS,nilS] none)=H5 at *
 generalize hD:H5.next=D at *
 generalize H5.new (.cells [str [],u32 0#32,nilS,u16 0#16,nilS,nilS] none)=H6 at *
 refine S.pinfoldlaw09_Small_PolicyZ hE x cs1 H4 g6.sub (hx.sub e14.sub) fun Z7 H7 cp1 e7 f7 z7 hp1 =>?_
 have g7:=g6.refreeze e7 f7 z7
 refine ⟨(e7.cells hb6).trans hb6.symm,((x6.trans e7).cells hb5).trans hb5.symm,(hlo2 g7.ext).trans (hlo2 (Ext.refl _)).symm,?_⟩
 refine S.pinfoldlaw09_Small_PolicyZ hE y cs2 Z7 z7 (hy.sub (e14.sub.trans f7.1)) fun Z8 H8 cp2 e8 f8 z8 hp2 =>?_
 have g8:=g7.refreeze e8 f8 z8
 have e68:=e7.trans e8
 refine ⟨(e68.cells hb6).trans hb6.symm,((x6.trans e68).cells hb5).trans hb5.symm,?_⟩
 have hp1:=hp1.sub f8.1
 obtain ⟨l1,l1p,rv1,pv1,qv1,c1,rq1⟩:=polx_cells hp1
 obtain ⟨l2,l2p,rv2,pv2,qv2,c2,rq2⟩:=polx_cells hp2
 have st6:∀ {K:AH} {b:Nat} {cp:List Value},K.get b = .cells [str [],u32 0#32,nilS,u16 0#16,nilS,nilS] none→cp.length=6→cp.all plain1=true→storeN 6 (ptr b 0) (.agg cp.toArray) K=some (K.put b (.cells cp none)):=by
  intro K b cp hb hl hp
  rw [storeN_ptr,hb]
  have h3:AM.splice [str [],u32 0#32,nilS,u16 0#16,nilS,nilS] 0 cp=cp:=by simp [splice,hl]
  have h4:([str [],u32 0#32,nilS,u16 0#16,nilS,nilS]:List Value).length=6:=rfl
  simp only [List.size_toArray,List.toList_toArray,hl,hp,h4,Nat.zero_add,Nat.le_refl,and_self,if_true,h3]
 have s1:=st6 (g8.box (k:=0) rfl) l1 l1p
 have g9:=g8.put (k:=0) (b:=C) rfl cp1
 have g9:Has H4 Z8 (H8.put C (.cells cp1 none)) [boxR C cp1,boxR D [str [],u32 0#32,nilS,u16 0#16,nilS,nilS]]:=g9
 have s2:=st6 (g9.box (k:=1) rfl) l2 l2p
 have g9:=g9.put (k:=1) (b:=D) rfl cp2
 have g9:Has H4 Z8 ((H8.put C (.cells cp1 none)).put D (.cells cp2 none)) [boxR C cp1,boxR D cp2]:=g9
 simp only [s1,s2,stdZ]
 generalize (H8.put C (.cells cp1 none)).put D (.cells cp2 none)=H9 at *
 have hp1:=hp1.sub g9.sub
 have hp2:=hp2.sub g9.sub
 have rq1:=rq1.sub g9.sub
 have rq2:=rq2.sub g9.sub
 have b9C:=g9.box (k:=0) (b:=C) rfl
 have b9D:=g9.box (k:=1) (b:=D) rfl
 have w9:=w4.mono g9.ext
 have lo1:∀ {H'},Ext H9 H'→loadN 6 (ptr C 0) H'=some (.agg cp1.toArray):=fun e=>by rw [loadN_ptr,e.cells b9C,row_all _ _ 6 l1]; rfl
 have lo2:∀ {H'},Ext H9 H'→loadN 6 (ptr D 0) H'=some (.agg cp2.toArray):=fun e=>by rw [loadN_ptr,e.cells b9D,row_all _ _ 6 l2]; rfl
 clear g4 g5 g6 g7 g8 g9 s1 s2 st6 hb5 hb6
 have gg:=And.intro g.wf g.kd
 simp only [lo1 (Ext.refl _),stdZ]
 refine S.f37 hE fun HA eA =>?_
 refine ⟨(lo1 eA).trans (lo1 (Ext.refl _)).symm,?_⟩
 refine of_small hE (w9.mono eA) gg x (hp1.mono eA) fun v1 HB eB ok1 no1 =>?_
 have e9B:=eA.trans eB
 simp only [lo2 e9B,stdZ]
 refine S.f37 hE fun HC eC =>?_
 have e9C:=e9B.trans eC
 refine ⟨(lo2 e9C).trans (lo2 e9B).symm,?_⟩
 refine of_small hE (w9.mono e9C) gg y (hp2.mono e9C) fun v2 HD eD ok2 no2 =>?_
 have e9D:=e9C.trans eD
 simp only [lo1 e9D,stdZ]
 refine S.f37 hE fun HE eE =>?_
 have e9E:=e9D.trans eE
 refine ⟨(lo1 e9E).trans (lo1 e9D).symm,?_⟩
 refine of_small hE (w9.mono e9E) gg x (hp1.mono e9E) fun v3 HF eF ok3 no3 =>?_
 have e9F:=e9E.trans eF
 have nilD:binNil eqPtr .eql (.pointer none) (.pointer none)=some (vb true):=rfl
 have hbn:binBool .neq (vb true) (vb true)=some (vb false):=rfl
 simp only [i64_neq,ne_eq,not_true,decide_false,stdZ]
 by_cases h1:(x.pol.set (grownTo 5) tab0 topP).2=0
 rotate_left
 ·have n1:=no1 h1
  have n3:=no3 h1
  subst n1 n3
  refine S.rule_Same_nil hE _ true rfl ?_
  simp only [i64_eql,i64_neq,ne_eq,h1,not_false_eq_true,decide_false,decide_true,nilD,hbn,stdZ]
  exact hQ _
 obtain ⟨s,rfl,hs⟩:=ok1 h1
 obtain ⟨s3,rfl,hs3⟩:=ok3 h1
 obtain ⟨okx,px,_⟩:=Small.set_ok x (grownTo 5) tab0
 obtain ⟨oky,py,_⟩:=Small.set_ok y (grownTo 5) tab0
 have hsF:SetAt (HF.since H9.next) s (x.pol.set (grownTo 5) tab0 topP).1:=hs.sub' (since_mono eA.1 (eC.trans (eD.trans (eE.trans eF))))
 refine S.f67 hE (hsF.sub' (since_sub _ _)) (hs3.sub' (since_sub _ _)) fun HG eG =>?_
 have e9G:=e9F.trans eG
 rw [SetD.same_self okx]
 simp only [h1,i64_eql,i64_neq,ne_eq,not_true,decide_true,decide_false,hbn,stdZ]
 by_cases h2:(y.pol.set (grownTo 5) tab0 topP).2=0
 rotate_left
 ·simp only [h2,not_false_eq_true,decide_true,stdZ]
  exact hQ _
 obtain ⟨s2,rfl,hs2⟩:=ok2 h2
 have hs2G:SetAt HG s2 (y.pol.set (grownTo 5) tab0 topP).1:=(hs2.sub' (since_sub _ _)).mono (eE.trans (eF.trans eG))
 have hsG:=hsF.sub' (since_mono (Nat.le_refl _) eG)
 obtain ⟨_,sx2,sx3⟩:=small_paths x
 obtain ⟨_,sy2,sy3⟩:=small_paths y
 have d13:cp1[3]? = some (u16 x.pol.handled):=by rw [c1]; rfl
 have d23:cp2[3]? = some (u16 y.pol.handled):=by rw [c2]; rfl
 have d15:cp1[5]? = some qv1:=by rw [c1]; rfl
 have d25:cp2[5]? = some qv2:=by rw [c2]; rfl
 have hl1:=(rq1.mono e9G).lenSlc
 have hl2:=(rq2.mono e9G).lenSlc
 rw [portR_length] at hl1 hl2
 have hb0:(grownTo 5).WF∧(grownTo 5).HB 10:=⟨g.wf,g.hb⟩
 have fin:=fun acc hacc=>rsame_l1 hE (w9) e9G hb0 hsG hs2G okx oky (set_inodes6 x).1 (rq1.mono e9G) sx3 (rq2.mono e9G) sy3 (e9G.cells b9C) d15 (e9G.cells b9D) d25 acc hacc hQ
 simp only [h2,not_true,decide_false,e9G.cells b9C,e9G.cells b9D,d13,d23,u16_eql,stdZ]
 by_cases h3:x.pol.handled=y.pol.handled
 ·have hii:decide ((x.pol.ports.length:Int)=y.pol.ports.length)=decide (x.pol.ports.length=y.pol.ports.length):=by rw [decide_eq_decide]; omega
  simp only [h3,decide_true,e9G.cells b9C,e9G.cells b9D,d15,d25,hl1,hl2,i64_eql,hii,stdZ]
  refine fin _ ?_
  rw [same_eq,h3]
  simp
 ·simp only [h3,decide_false,stdZ]
  refine fin false ?_
  rw [same_eq]
  simp [h3]
theorem S.law_RuleSame (hE:Fold E) (args:List Value) (ha:ArgsSV H [smallSh,smallSh,.int .u8] args) (hQ:∀ H',Q (vb true) H'):E.call (E.fid i.f50) args H Q:=by
 obtain ⟨v1,_,rfl,h1,ha⟩:=ha.cons_inv
 obtain ⟨v2,_,rfl,h2,ha⟩:=ha.cons_inv
 obtain ⟨v3,_,rfl,h3,ha⟩:=ha.cons_inv
 obtain rfl:=ha.nil_inv
 obtain ⟨x,cs,rfl,q⟩:=ArgSV.small h1
 obtain ⟨y,cs2,rfl,q2⟩:=ArgSV.small h2
 exact S.f50 hE x y cs cs2 q q2 v3 hQ
end
end Go.AM
end
