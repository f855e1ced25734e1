/- CONTRACTS ON THE PRINTED FUNCTIONS. -/
import Derived.Test.YtcodjlonfgiegaaGreatDoorCbd9fC0
set_option linter.all false
section
namespace Go.AM
set_option maxRecDepth 20000
theorem alook_asetG {K V:Type} [DecidableEq K] (k n:K) (v:V):∀ l:List (K×V),alook n (aset k v l)=if n=k then some v else alook n l
 | []=>by simp only [aset,alook_cons]
 | p :: l=>by
  simp only [aset]
  by_cases h:p.1=k
  ·rw [if_pos h,alook_cons,alook_cons]
   by_cases hn:n=k
   ·rw [if_pos hn,if_pos hn]
   ·rw [if_neg hn,if_neg hn,if_neg (by rw [h]; exact hn)]
  ·rw [if_neg h,alook_cons,alook_cons,alook_asetG k n v l]
   by_cases hn:n=p.1
   ·rw [if_pos hn,if_neg (by rw [hn]; exact h),if_pos hn]
   ·rw [if_neg hn,if_neg hn]
def MkD.okP (s:MkD):Prop:=∀ n k,alook n s.places=some k->k<=s.out.length
theorem MkD.okP.getD {s:MkD} (h:s.okP) (n:Int):(alook n s.places).getD 0<=s.out.length:=by
 cases hk:alook n s.places with
 | none=>exact Nat.zero_le _
 | some k=>exact h n k hk
theorem MkD.okP.push {s:MkD} (h:s.okP) (x:InsnD):MkD.okP ⟨x :: s.out,s.places⟩:=fun n k hk=>Nat.le_succ_of_le (h n k hk)
theorem cmp0_places (s:MkD) (x:InsnD) (a b:Int):(s.cmp0 x a b).places=s.places:=by
 unfold MkD.cmp0 MkD.cmp1 MkD.cmp2
 split <;> split <;> rfl
theorem cmp0_len (s:MkD) (x:InsnD) (a b:Int):s.out.length<(s.cmp0 x a b).out.length/\(s.cmp0 x a b).out.length<=s.out.length+3:=by
 unfold MkD.cmp0 MkD.cmp1 MkD.cmp2 MkD.hop
 split <;> split <;> simp <;> omega
theorem part_ok {s t:MkD} {p:PartD} (h:s.okP) (e:s.part p = .inr t):t.okP/\s.out.length<=t.out.length/\t.out.length<=s.out.length+3:=by
 unfold MkD.part at e
 split at e
 ·split at e
  ·cases e
  ·cases e
   refine ⟨fun n k hk =>?_,Nat.le_refl _,Nat.le_add_right _ _⟩
   simp only [alook_asetG] at hk
   split at hk
   ·cases hk; exact Nat.le_refl _
   ·exact h n k hk
 ·split at e
  ·split at e
   ·cases e
   ·cases e
    exact ⟨h.push _,by simp,by simp⟩
  ·split at e
   ·split at e
    ·cases e
     exact ⟨h.push _,by simp [MkD.hop],by simp [MkD.hop]⟩
    ·cases e
   ·split at e
    ·split at e
     ·cases e
     ·split at e
      ·cases e
      ·cases e
       have h2:=cmp0_len s p.insn (s.away p.to) (s.away p.els)
       refine ⟨fun n k hk =>?_,by omega,h2.2⟩
       rw [cmp0_places] at hk
       exact Nat.le_trans (h n k hk) (by omega)
    ·cases e
theorem makeF_ok:∀ {l:List PartD} {s:MkD},makeF l = .inr s->s.okP/\s.out.length<=4096
 | [],s,e=>by
  cases e
  exact ⟨fun n k hk=>by simp [alook] at hk,Nat.zero_le _⟩
 | p :: l,s,e=>by
  unfold makeF at e
  split at e
  ·cases e
  ·rename_i s1 h1
   have ih:=makeF_ok h1
   split at e
   ·cases e
   ·rename_i t h2
    split at e
    ·cases e
    ·cases e
     exact ⟨(part_ok ih.1 h2).1,by omega⟩
theorem makeF_app {e:Int} {b:List PartD} (h:makeF b = .inl e):∀ a:List PartD,makeF (a++b) = .inl e
 | []=>h
 | p :: a=>by
  show makeF (p :: (a++b))=_
  unfold makeF
  rw [makeF_app h a]
theorem makeF_err {e:Int} {l:List PartD} (k:Nat) (h:makeF (l.drop k) = .inl e):makeF l = .inl e:=by
 have:=makeF_app h (l.take k)
 rwa [List.take_append_drop] at this
section
variable {E:Sy} {H H' H0 Z:AH} {Q:Value->AH->Prop} {X:List Res} {mb pm:Nat} {s:MkD}
theorem Has.newroomc {L:List Res} (h:Has H0 Z H L) (sz n:Nat) (c:List Value) (hc:c.length=n*sz):Has H0 Z (H.new (.cells c none)) (L++[growR sz (slc H.next 0 0 n) []]) :=
 h.add _ ((Ext.refl H).new _) (Grow.room (zH_get _) (AH.get_new_self _ _) hc) (by simp [growR,blkL,blk]) (by simp [growR,blkL,blk])
theorem make_l2 (hE:Fold E) {ov rv:Value} (h:Has H0 Z H (mkL mb pm ov s++[growR 4 rv []])) (hl:s.out.length<=4096) (hQ:∀ v H',Ext H0 H'->Rows H' 4 v (insnR s.out)->Q (.tuple #[v,(.int .i64 0)]) H') :
  LoopL (fun l H X0=>F.f39_l2 E Q (nth l 0) (nth l 1) (nth l 2) H X0) [ptr mb 0,rv,vi ((s.out.length:Int) - 1)] H:=by
 refine LoopL.count s.out.length (fun k ls H'=>∃ rv,ls=[ptr mb 0,rv,vi ((s.out.length:Int) - 1 - k)]/\Has H0 Z H' (mkL mb pm ov s++[growR 4 rv (insnR (s.out.take k))])) ?_ ⟨rv,by simp,by simpa [insnR] using h⟩
 rintro k _ H1 X1 hk ih ⟨rv,rfl,g⟩
 have i0:(.int .i64 0:Value)=vi 0:=rfl
 have i1:(.int .i64 1:Value)=vi 1:=rfl
 rcases Nat.lt_or_ge k s.out.length with hlt | hge
 ·have hbx:=g.box (k:=0) (b:=mb) (c:=[ov,.map (some pm)]) rfl
  have hrw:=g.rows (k:=1) (sz:=4) (v:=ov) (rows:=insnR s.out.reverse) rfl
  have he:(s.out.length:Int) - 1 - k=((s.out.length - 1 - k:Nat):Int):=by omega
  have hd:decide ((0:Int)<=(s.out.length:Int) - 1 - k)=true:=decide_eq_true (by omega)
  have hs:binInt .sub (vi ((s.out.length:Int) - 1 - k)) (vi 1)=some (vi ((s.out.length:Int) - 1 - (k+1:Nat))):=by
   rw [i64_sub (by omega) (by omega)]; congr 2; omega
  have hjl:s.out.length - 1 - k<(insnR s.out.reverse).length:=by simp only [insnR,List.length_map,List.length_reverse]; omega
  obtain ⟨bb,o,f1,f2⟩:=hrw.ix (i:=s.out.length - 1 - k) hjl
  have hrow:(insnR s.out.reverse)[s.out.length - 1 - k]=s.out[k].cells:=by
   simp only [insnR,List.getElem_map,List.getElem_reverse]
   congr 2
   omega
  rw [hrow] at f2
  have lo:loadN 4 (ptr bb o) H1=some s.out[k].v:=by rw [loadN_ptr,f2]; rfl
  rw [<- he] at f1
  have hbS:buildS 1 4 #[(.int .u16 0),(.int .u8 0),(.int .u8 0),(.int .u32 0)] [(0,s.out[k].v)]=some (.cells s.out[k].cells none,mkSlc 1 1):=buildS_one 4 [u16 0#16,u8 0#8,u8 0#8,u32 0#32] s.out[k].cells rfl rfl
  obtain ⟨v',H2,a1,a2,g2⟩:=g.app1 (k:=3) (sz:=4) (v:=rv) (rows:=insnR (s.out.take k)) (bytes:=8) rfl s.out[k].cells rfl rfl (by decide) (by decide) (by simp only [insnR,List.length_map,List.length_take]; omega)
  have hst:s.out.take (k+1)=s.out.take k++[s.out[k]]:=by rw [List.take_succ,List.getElem?_eq_getElem hlt]; rfl
  simp only [F.f39_l2,i0,i1,i64_geq,hd,hbx,f1,lo,hbS,AM.mk_some,mkSlc_eq,a1,hs,stdZ]
  refine ih hlt _ _ ⟨v',rfl,?_⟩
  rw [hst]
  have:insnR (s.out.take k++[s.out[k]])=insnR (s.out.take k)++[s.out[k].cells]:=by unfold insnR; rw [List.map_append]; rfl
  rw [this]
  exact g2
 ·have hke:k=s.out.length:=by omega
  subst hke
  have hd:decide ((0:Int)<=(s.out.length:Int) - 1 - (s.out.length:Nat))=false:=decide_eq_false (by omega)
  rw [List.take_length] at g
  simp only [F.f39_l2,i0,i64_geq,hd,stdZ]
  exact hQ _ _ g.ext (g.rows (k:=3) (sz:=4) (v:=rv) (rows:=insnR s.out) rfl)
theorem S.f39 (hE:Fold E) {v:Value} {l:List PartD} (hv:Rows H 7 v (partR l)) (hl:l.length<2 ^ 26)
  (hQ:∀ H',Ext H H'->(∀ e,makeF l = .inl e->e≠0->Q (.tuple #[nilS,vi e]) H')/\(∀ s w,makeF l = .inr s->Rows H' 4 w (insnR s.out)->Q (.tuple #[w,(.int .i64 0)]) H')):E.call (E.fid i.f39) [v] H Q:=by
 apply hE.f39
 have hmw:∀ (H:AH) (K:Value->AH->Prop),mapW H K=K (.map (some H.next)) (H.new (.map [] 0 true)):=fun _ _=>rfl
 have hlv:=hv.lenSlc
 have hpl:(partR l).length=l.length:=by simp [partR]
 rw [hpl] at hlv
 have i0:(.int .i64 0:Value)=vi 0:=rfl
 have i1:(.int .i64 1:Value)=vi 1:=rfl
 have hbv:∀ n:Nat,buildV [(0,1),(1,1)] #[(.slice none 0 0),(.map none)] [(1,.map (some n))]=some (.agg [nilS,.map (some n)].toArray):=fun _=>rfl
 have hs:binInt .sub (vi (l.length:Int)) (vi 1)=some (vi ((l.length:Int) - 1)):=i64_sub (by omega) (by omega)
 simp only [F.f39,hmw,hbv,boxO_agg_z,AM.mk_some,mkPtr_eq_z,List.toList_toArray,hlv,i1,hs,stdZ]
 have g1:=(Has.begin (Ext.refl H) (Sub.refl H)).newmap vi natV
 have hn2:H.next+1=(H.new (.map [] 0 true)).next:=rfl
 rw [hn2]
 generalize H.new (.map [] 0 true)=H2 at *
 generalize H.next=pm at *
 clear hn2
 have g2:=(g1.newbox [nilS,.map (some pm)]).nils 4
 generalize H2.new (.cells [nilS,.map (some pm)] none)=H3 at *
 generalize H2.next=mb at *
 have g3:Mk H H H3 mb pm ⟨[],[]⟩ []:=⟨nilS,g2.perm ((List.Perm.swap _ _ _).trans ((List.Perm.swap _ _ _).cons _))⟩
 refine LoopL.ind (fun n ls H'=>∃ s,n<=l.length/\ls=[v,ptr mb 0,vi ((n:Int) - 1)]/\makeF (l.drop n) = .inr s/\Mk H H H' mb pm s []) ?_ l.length ⟨⟨[],[]⟩,Nat.le_refl _,rfl,by rw [List.drop_length]; rfl,g3⟩
 rintro n _ H4 X1 ih ⟨s,hn,rfl,hm,g⟩
 have hok:=makeF_ok hm
 have hmk:s.okM:=⟨by omega,hok.1.getD⟩
 have i4096:(.int .i64 4096:Value)=vi 4096:=rfl
 rcases Nat.eq_zero_or_pos n with h0 | h0
 ·subst h0
  rw [List.drop_zero] at hm
  have hd:decide ((0:Int)<=((0:Nat):Int) - 1)=false:=rfl
  obtain ⟨ov,g⟩:=g
  have hbx:=g.box (k:=0) (b:=mb) (c:=[ov,.map (some pm)]) rfl
  have hlo:=(g.rows (k:=1) (sz:=4) (v:=ov) (rows:=insnR s.out.reverse) rfl).lenSlc
  simp only [insnR,List.length_map,List.length_reverse] at hlo
  have hms:=makeS_room 4 8 s.out.length [(.int .u16 0),(.int .u8 0),(.int .u8 0),(.int .u32 0)] rfl (by omega) (by omega)
  have hms:makeS 4 8 #[(.int .u16 0),(.int .u8 0),(.int .u8 0),(.int .u32 0)] (vi 0) (vi s.out.length)=some (.cells (List.replicate s.out.length [(.int .u16 0),(.int .u8 0),(.int .u8 0),(.int .u32 0)]).flatten none,fun b=>slc b 0 0 s.out.length):=hms
  have g5:=g.newroomc 4 s.out.length (List.replicate s.out.length [(.int .u16 0),(.int .u8 0),(.int .u8 0),(.int .u32 0)]).flatten (by simp [List.length_flatten,List.map_replicate,List.sum_replicate_nat])
  have hb5:=g5.box (k:=0) (b:=mb) (c:=[ov,.map (some pm)]) rfl
  have hs2:binInt .sub (vi (s.out.length:Int)) (vi 1)=some (vi ((s.out.length:Int) - 1)):=i64_sub (by omega) (by omega)
  simp only [F.f39_l1,i0,i64_geq,hd,i1,hbx,hlo,hms,AM.mk_some,hb5,hs2,stdZ]
  exact make_l2 hE g5 hok.2 fun w H' e' r'=>(hQ H' e').2 s w hm r'
 ·have hd:decide ((0:Int)<=(n:Int) - 1)=true:=decide_eq_true (by omega)
  have hj:n - 1<l.length:=by omega
  have he:(n:Int) - 1=((n - 1:Nat):Int):=by omega
  have hv4:=hv.mono g.ext
  obtain ⟨bb,o,f1,f2⟩:=hv4.ix (i:=n - 1) (by omega)
  have hrow:(partR l)[n - 1]'(by omega)=l[n - 1].cells:=by simp [partR]
  rw [hrow] at f2
  have lo:loadN 7 (ptr bb o) H4=some l[n - 1].v:=by rw [loadN_ptr,f2]; rfl
  rw [<- he] at f1
  have hdr:l.drop (n - 1)=l[n - 1] :: l.drop n:=by
   rw [List.drop_eq_getElem_cons hj,show n - 1+1=n by omega]
  have hs1:binInt .sub (vi ((n:Int) - 1)) (vi 1)=some (vi (((n - 1:Nat):Int) - 1)):=by
   rw [i64_sub (by omega) (by omega)]; congr 2; omega
  generalize l[n - 1]=p at *
  simp only [F.f39_l1,i0,i64_geq,hd,f1,lo,stdZ]
  refine S.f46 hE g hmk p (fun e H5 h1 h2 e5 =>?_) fun t H5 h1 g5 =>?_
  ·have hd:decide (e≠0)=true:=decide_eq_true h2
   simp only [i0,i64_neq,hd,stdZ]
   refine (hQ H5 e5).1 e (makeF_err (n - 1) ?_) h2
   rw [hdr]
   unfold makeF
   simp only [hm,h1]
  ·have hd:decide ((0:Int)≠0)=false:=rfl
   obtain ⟨ov,hbx,hlo⟩:=g5.cells
   simp only [i0,i64_neq,hd,hbx,hlo,i4096,i64_gtr,stdZ]
   by_cases hbig:4096<t.out.length
   ·have hd:decide ((4096:Int)<t.out.length)=true:=decide_eq_true (by omega)
    simp only [hd,stdZ]
    refine (hQ H5 g5.ext).1 205 (makeF_err (n - 1) ?_) (by decide)
    rw [hdr]
    unfold makeF
    simp only [hm,h1,if_pos hbig]
   ·have hd:decide ((4096:Int)<t.out.length)=false:=decide_eq_false (by omega)
    simp only [hd,i1,hs1,stdZ]
    refine ih (n - 1) (by omega) _ _ ⟨t,by omega,rfl,?_,g5⟩
    rw [hdr]
    unfold makeF
    simp only [hm,h1,if_neg hbig]
end
end Go.AM
end
section
namespace Go.AM
set_option maxRecDepth 20000
def okI (x:InsnD) (left:Nat):Prop :=
 (x.code=32#16/\x.k.toNat % 4=0/\x.k.toNat<=60)\/x.code=84#16\/(x.code=5#16/\x.k.toNat<left) \/
 (x.code=21#16/\x.jt.toNat<left/\x.jf.toNat<left)\/(x.code=37#16/\x.jt.toNat<left/\x.jf.toNat<left)\/(x.code=53#16/\x.jt.toNat<left/\x.jf.toNat<left)\/x.code=6#16
def stepI (r:RecD) (x:InsnD) (a:BitVec 32):BitVec 32×Nat×Option (BitVec 32) :=
 if x.code=32#16 then ((rword r x.k).1,0,none)
 else if x.code=84#16 then (a&&&x.k,0,none)
 else if x.code=5#16 then (a,x.k.toNat,none)
 else if x.code=21#16 then (a,if a=x.k then x.jt.toNat else x.jf.toNat,none)
 else if x.code=37#16 then (a,if x.k.toNat<a.toNat then x.jt.toNat else x.jf.toNat,none)
 else if x.code=53#16 then (a,if x.k.toNat<=a.toNat then x.jt.toNat else x.jf.toNat,none)
 else (a,0,some x.k)
def runC (r:RecD):Nat->List InsnD->BitVec 32->BitVec 32
 | 0,_,_=>2147483648#32
 | _+1,[],_=>2147483648#32
 | f+1,x :: c,a=>match (stepI r x a).2.2 with
  | some o=>o
  | none=>runC r f (c.drop (stepI r x a).2.1) (stepI r x a).1
def mC (a:BitVec 32) (at_:Nat) (act:BitVec 32) (e:Bool) (rc:List Value):List Value :=
 u32 a :: u32 0#32 :: u32 0#32 :: u32 0#32 :: u32 0#32 :: u32 0#32 :: u32 0#32 :: u32 0#32 :: u32 0#32 :: u32 0#32 :: u32 0#32 :: u32 0#32 :: u32 0#32 :: u32 0#32 :: u32 0#32 :: u32 0#32 :: u32 0#32 :: u32 0#32 :: vi at_ :: (rc++[u32 act,vb e])
theorem rc_nine {rc:List Value} (h:rc.length=9):∃ c0 c1 c2 c3 c4 c5 c6 c7 c8,rc=[c0,c1,c2,c3,c4,c5,c6,c7,c8]:=by
 match rc,h with
 | [c0,c1,c2,c3,c4,c5,c6,c7,c8],_=>exact ⟨c0,c1,c2,c3,c4,c5,c6,c7,c8,rfl⟩
theorem rec_nine {r:RecD} (h:r.ok):r.cells.length=9:=by
 unfold RecD.ok at h
 simp [RecD.cells,h]
section
variable {E:Sy} {H H' H0 Z:AH} {Q:Value->AH->Prop} {X:List Res} {mb:Nat}
theorem S.f113 (hE:Fold E) (p:Value) (x:InsnD) (hx:x.code&&&8#16=0#16) (hQ:∀ H',Ext H H'->Q (u32 x.k) H'):E.call (E.fid i.f113) [p,x.v] H Q:=by
 apply hE.f113
 have b1:=AH.get_new_self H (.cells x.cells none)
 have c0:x.cells[0]? = some (u16 x.code):=rfl
 have c3:x.cells[3]? = some (u32 x.k):=rfl
 have k8:(.int .u16 8:Value)=u16 8#16:=rfl
 have k0:(.int .u16 0:Value)=u16 0#16:=rfl
 have hd:decide (x.code&&&8#16≠0#16)=false:=decide_eq_false (by simpa using hx)
 simp only [F.f113,boxO_agg_z,AM.mk_some,mkPtr_eq_z,List.toList_toArray,b1,c0,c3,k8,k0,u16_and,u16_neq,hd,stdZ]
 exact hQ _ ((Ext.refl H).new _)
theorem S.f112 (hE:Fold E) {r:RecD} (hr:r.ok) {a act:BitVec 32} {at_:Nat} (hb:H.get mb = .cells (mC a at_ act false r.cells) none) (x:InsnD) (hx:x.code=32#16) (hQ:∀ H',Ext H H'->Q (u32 (rword r x.k).1) H'):E.call (E.fid i.f112) [ptr mb 0,x.v] H Q:=by
 apply hE.f112
 have b1:=AH.get_new_self H (.cells x.cells none)
 have x1:Ext H (H.new (.cells x.cells none)):=(Ext.refl _).new _
 have bm:=x1.cells hb
 have c0:x.cells[0]? = some (u16 32#16):=by rw [<- hx]; rfl
 have c3:x.cells[3]? = some (u32 x.k):=rfl
 have k7:(.int .u16 7:Value)=u16 7#16:=rfl
 have k32:(.int .u16 32:Value)=u16 32#16:=rfl
 have hd:decide (32#16 &&& ~~~7#16=32#16)=true:=by decide
 have lo:loadN 9 (ptr mb 19) (H.new (.cells x.cells none))=some r.v:=by
  rw [loadN_ptr,bm]
  obtain ⟨c0,c1,c2,c3,c4,c5,c6,c7,c8,hc⟩:=rc_nine (rec_nine hr)
  unfold RecD.v
  rw [hc]; rfl
 simp only [F.f112,boxO_agg_z,AM.mk_some,mkPtr_eq_z,List.toList_toArray,b1,c0,c3,k7,k32,u16_andNot,u16_eql,hd,lo,stdZ]
 refine S.f84 hE r hr x.k fun H2 e2 =>?_
 simp only [stdZ]
 exact hQ _ (x1.trans e2)
end
end Go.AM
end
section
namespace Go.AM
set_option maxRecDepth 20000
section
variable {E:Sy} {H H' H0 Z:AH} {Q:Value->AH->Prop} {X:List Res} {mb:Nat}
theorem mC_at (a:BitVec 32) (at_:Nat) (act:BitVec 32) (e:Bool) (rc:List Value) (n:Nat):(mC a at_ act e rc).set 18 (vi n)=mC a n act e rc:=rfl
theorem mC_a (a b:BitVec 32) (at_:Nat) (act:BitVec 32) (e:Bool) (rc:List Value):(mC a at_ act e rc).set 0 (u32 b)=mC b at_ act e rc:=rfl
theorem mC_cells {a:BitVec 32} {at_:Nat} {act:BitVec 32} {e:Bool} {rc:List Value} (h:rc.length=9):(mC a at_ act e rc)[0]? = some (u32 a)/\(mC a at_ act e rc)[18]? = some (vi at_)/\(mC a at_ act e rc)[28]? = some (u32 act)/\(mC a at_ act e rc)[29]? = some (vb e) /\
  (mC a at_ act e rc).set 29 (vb true)=mC a at_ act true rc/\(∀ b,(mC a at_ act e rc).set 28 (u32 b)=mC a at_ b e rc)/\(mC a at_ act e rc).length=30:=by
 obtain ⟨c0,c1,c2,c3,c4,c5,c6,c7,c8,rfl⟩:=rc_nine h
 exact ⟨rfl,rfl,rfl,rfl,rfl,fun _=>rfl,rfl⟩
abbrev mR (mb:Nat) (a:BitVec 32) (at_:Nat) (act:BitVec 32) (e:Bool) (r:RecD):Res:=boxR mb (mC a at_ act e r.cells)
theorem Has.mset {a act:BitVec 32} {at_:Nat} {e:Bool} {r:RecD} (hr:r.ok) (h:Has H0 Z H (mR mb a at_ act e r :: X)) {k:Nat} {v:Value} (hv:plain1 v=true) {a' act':BitVec 32} {at':Nat} {e':Bool} (hk:k<30) (hs:(mC a at_ act e r.cells).set k v=mC a' at' act' e' r.cells) :
  ∃ H',store1 (ptr mb k) v H=some H'/\Has H0 Z H' (mR mb a' at' act' e' r :: X):=by
 have hb:=h.box (k:=0) (b:=mb) (c:=mC a at_ act e r.cells) rfl
 have g:=h.put (k:=0) (b:=mb) (c:=mC a at_ act e r.cells) rfl (mC a' at' act' e' r.cells)
 refine ⟨_,?_,g⟩
 rw [store1_ptr,if_pos hv,hb]
 have hl:=(mC_cells (a:=a) (at_:=at_) (act:=act) (e:=e) (rec_nine hr)).2.2.2.2.2.2
 simp only [hl,hk,if_true,hs]
theorem S.f114 (hE:Fold E) {r:RecD} (hr:r.ok) {a act:BitVec 32} {at_:Nat} (h:Has H0 Z H (mR mb a at_ act false r :: X)) (x:InsnD) (hx:x.code=84#16) (hQ:∀ H',Has H0 Z H' (mR mb (a&&&x.k) at_ act false r :: X)->Q (.tuple #[]) H'):E.call (E.fid i.f114) [ptr mb 0,x.v] H Q:=by
 apply hE.f114
 have b1:=AH.get_new_self H (.cells x.cells none)
 have c0:x.cells[0]? = some (u16 84#16):=by rw [<- hx]; rfl
 have lo:loadN 4 (ptr H.next 0) (H.new (.cells x.cells none))=some x.v:=by rw [loadN_ptr,b1,row_all _ _ 4 rfl]; rfl
 have k15:(.int .u16 15:Value)=u16 15#16:=rfl
 have k0:(.int .u16 0:Value)=u16 0#16:=rfl
 have k16:(.int .u16 16:Value)=u16 16#16:=rfl
 have k32:(.int .u16 32:Value)=u16 32#16:=rfl
 have k48:(.int .u16 48:Value)=u16 48#16:=rfl
 have k64:(.int .u16 64:Value)=u16 64#16:=rfl
 have k80:(.int .u16 80:Value)=u16 80#16:=rfl
 have d0:decide (84#16 &&& ~~~15#16=0#16)=false:=by decide
 have d16:decide (84#16 &&& ~~~15#16=16#16)=false:=by decide
 have d32:decide (84#16 &&& ~~~15#16=32#16)=false:=by decide
 have d48:decide (84#16 &&& ~~~15#16=48#16)=false:=by decide
 have d64:decide (84#16 &&& ~~~15#16=64#16)=false:=by decide
 have d80:decide (84#16 &&& ~~~15#16=80#16)=true:=by decide
 have g:=h.new (.cells x.cells none)
 simp only [F.f114,boxO_agg_z,AM.mk_some,mkPtr_eq_z,List.toList_toArray,lo,stdZ]
 generalize H.new (.cells x.cells none)=H1 at *
 generalize H.next=t at *
 refine S.f113 hE _ x (by rw [hx]; decide) fun H2 e2 =>?_
 have b2:=e2.cells b1
 have g2:=g.grow e2
 have bm:=g2.box (k:=0) (b:=mb) (c:=mC a at_ act false r.cells) rfl
 have hc:=mC_cells (a:=a) (at_:=at_) (act:=act) (e:=false) (rec_nine hr)
 have cm:=hc.1
 obtain ⟨H3,s3,g3⟩:=g2.mset hr (k:=0) (v:=u32 (a&&&x.k)) rfl (by decide) (mC_a a (a&&&x.k) at_ act false r.cells)
 simp only [b2,c0,k15,u16_andNot,k0,k16,k32,k48,k64,k80,u16_eql,d0,d16,d32,d48,d64,d80,bm,cm,u32_and,s3,stdZ]
 exact hQ _ g3
theorem jump_j1 (hE:Fold E) {r:RecD} (hr:r.ok) {a act:BitVec 32} {at_ t:Nat} (hat:at_<2 ^ 40) {x:InsnD} (h:Has H0 Z H (mR mb a at_ act false r :: X)) (hb:H.get t = .cells x.cells none) (b:Bool) (hQ:∀ H',Has H0 Z H' (mR mb a (at_+if b=true then x.jt.toNat else x.jf.toNat) act false r :: X)->Q (.tuple #[]) H'):F.f111_j1 E Q (ptr mb 0) (ptr t 0) (vb b) H:=by
 have bm:=h.box (k:=0) (b:=mb) (c:=mC a at_ act false r.cells) rfl
 have hc:=mC_cells (a:=a) (at_:=at_) (act:=act) (e:=false) (rec_nine hr)
 have cm:=hc.2.1
 have c1:x.cells[1]? = some (u8 x.jt):=rfl
 have c2:x.cells[2]? = some (u8 x.jf):=rfl
 have l1:=x.jt.isLt
 have l2:=x.jf.isLt
 cases b with
 | true =>
  have ha:binInt .add (vi at_) (vi x.jt.toNat)=some (vi ((at_+x.jt.toNat:Nat):Int)):=by rw [i64_add (by omega) (by omega)]; congr 2
  obtain ⟨H3,s3,g3⟩:=h.mset hr (k:=18) (v:=vi ((at_+x.jt.toNat:Nat):Int)) rfl (by decide) (mC_at a at_ act false r.cells _)
  simp only [F.f111_j1,bm,cm,hb,c1,u8_to_i64,ha,s3,stdZ]
  exact hQ _ g3
 | false =>
  have ha:binInt .add (vi at_) (vi x.jf.toNat)=some (vi ((at_+x.jf.toNat:Nat):Int)):=by rw [i64_add (by omega) (by omega)]; congr 2
  obtain ⟨H3,s3,g3⟩:=h.mset hr (k:=18) (v:=vi ((at_+x.jf.toNat:Nat):Int)) rfl (by decide) (mC_at a at_ act false r.cells _)
  simp only [F.f111_j1,bm,cm,hb,c2,u8_to_i64,ha,s3,stdZ]
  exact hQ _ g3
theorem S.f111 (hE:Fold E) {r:RecD} (hr:r.ok) {a act:BitVec 32} {at_:Nat} (hat:at_<2 ^ 40) (h:Has H0 Z H (mR mb a at_ act false r :: X)) (x:InsnD) (hx:x.code=5#16\/x.code=21#16\/x.code=37#16\/x.code=53#16) (hQ:∀ H',Has H0 Z H' (mR mb a (at_+(stepI r x a).2.1) act false r :: X)->Q (.tuple #[]) H'):E.call (E.fid i.f111) [ptr mb 0,x.v] H Q:=by
 apply hE.f111
 have b1:=AH.get_new_self H (.cells x.cells none)
 have c0:x.cells[0]? = some (u16 x.code):=rfl
 have c3:x.cells[3]? = some (u32 x.k):=rfl
 have lo:loadN 4 (ptr H.next 0) (H.new (.cells x.cells none))=some x.v:=by rw [loadN_ptr,b1,row_all _ _ 4 rfl]; rfl
 have k15:(.int .u16 15:Value)=u16 15#16:=rfl
 have k0:(.int .u16 0:Value)=u16 0#16:=rfl
 have k16:(.int .u16 16:Value)=u16 16#16:=rfl
 have k32:(.int .u16 32:Value)=u16 32#16:=rfl
 have k48:(.int .u16 48:Value)=u16 48#16:=rfl
 have g:=h.new (.cells x.cells none)
 have l3:=x.k.isLt
 simp only [F.f111,boxO_agg_z,AM.mk_some,mkPtr_eq_z,List.toList_toArray,lo,stdZ]
 generalize H.new (.cells x.cells none)=H1 at *
 generalize H.next=t at *
 refine S.f113 hE _ x (by rcases hx with h | h | h | h <;> rw [h] <;> decide) fun H2 e2 =>?_
 have b2:=e2.cells b1
 have g2:=g.grow e2
 have bm:=g2.box (k:=0) (b:=mb) (c:=mC a at_ act false r.cells) rfl
 have hc:=mC_cells (a:=a) (at_:=at_) (act:=act) (e:=false) (rec_nine hr)
 have cm:=hc.1
 have cm2:=hc.2.1
 rcases hx with hx | hx | hx | hx
 ·have hs:(stepI r x a).2.1=x.k.toNat:=by unfold stepI; rw [if_neg (by rw [hx]; decide),if_neg (by rw [hx]; decide),if_pos hx]
  rw [hs] at hQ
  have d0:decide (5#16 &&& ~~~15#16=0#16)=true:=by decide
  have ha:binInt .add (vi at_) (vi x.k.toNat)=some (vi ((at_+x.k.toNat:Nat):Int)):=by rw [i64_add (by omega) (by omega)]; congr 2
  obtain ⟨H3,s3,g3⟩:=g2.mset hr (k:=18) (v:=vi ((at_+x.k.toNat:Nat):Int)) rfl (by decide) (mC_at a at_ act false r.cells _)
  simp only [b2,c0,hx,k15,u16_andNot,k0,u16_eql,d0,bm,cm2,c3,u32_to_i64,ha,s3,stdZ]
  exact hQ _ g3
 ·have hs:(stepI r x a).2.1=if decide (a=x.k)=true then x.jt.toNat else x.jf.toNat:=by unfold stepI; rw [if_neg (by rw [hx]; decide),if_neg (by rw [hx]; decide),if_neg (by rw [hx]; decide),if_pos hx]; simp only [decide_eq_true_eq]
  rw [hs] at hQ
  have d0:decide (21#16 &&& ~~~15#16=0#16)=false:=by decide
  have d16:decide (21#16 &&& ~~~15#16=16#16)=true:=by decide
  simp only [b2,c0,hx,k15,u16_andNot,k0,k16,u16_eql,d0,d16,bm,cm,u32_eql,stdZ]
  exact jump_j1 hE hr hat g2 b2 _ hQ
 ·have hs:(stepI r x a).2.1=if decide (x.k.toNat<a.toNat)=true then x.jt.toNat else x.jf.toNat:=by unfold stepI; rw [if_neg (by rw [hx]; decide),if_neg (by rw [hx]; decide),if_neg (by rw [hx]; decide),if_neg (by rw [hx]; decide),if_pos hx]; simp only [decide_eq_true_eq]
  rw [hs] at hQ
  have d0:decide (37#16 &&& ~~~15#16=0#16)=false:=by decide
  have d16:decide (37#16 &&& ~~~15#16=16#16)=false:=by decide
  have d32:decide (37#16 &&& ~~~15#16=32#16)=true:=by decide
  simp only [b2,c0,hx,k15,u16_andNot,k0,k16,k32,u16_eql,d0,d16,d32,bm,cm,u32_gtr,stdZ]
  exact jump_j1 hE hr hat g2 b2 _ hQ
 ·have hs:(stepI r x a).2.1=if decide (x.k.toNat<=a.toNat)=true then x.jt.toNat else x.jf.toNat:=by unfold stepI; rw [if_neg (by rw [hx]; decide),if_neg (by rw [hx]; decide),if_neg (by rw [hx]; decide),if_neg (by rw [hx]; decide),if_neg (by rw [hx]; decide),if_pos hx]; simp only [decide_eq_true_eq]
  rw [hs] at hQ
  have d0:decide (53#16 &&& ~~~15#16=0#16)=false:=by decide
  have d16:decide (53#16 &&& ~~~15#16=16#16)=false:=by decide
  have d32:decide (53#16 &&& ~~~15#16=32#16)=false:=by decide
  have d48:decide (53#16 &&& ~~~15#16=48#16)=true:=by decide
  simp only [b2,c0,hx,k15,u16_andNot,k0,k16,k32,k48,u16_eql,d0,d16,d32,d48,bm,cm,u32_geq,stdZ]
  exact jump_j1 hE hr hat g2 b2 _ hQ
end
end Go.AM
end
section
namespace Go.AM
set_option maxRecDepth 20000
section
variable {E:Sy} {H H' H0 Z:AH} {Q:Value->AH->Prop} {X:List Res} {mb:Nat}
theorem Has.lastBox {L:List Res} {t:Nat} {c:List Value} (h:Has H0 Z H (L++[boxR t c])):H.get t = .cells c none:=(h.all (boxR t c) (by simp)).1
theorem insn_load {x:InsnD} {t:Nat} (hb:H.get t = .cells x.cells none):loadN 4 (ptr t 0) H=some x.v:=by rw [loadN_ptr,hb,row_all _ _ 4 rfl]; rfl
theorem S.f115 (hE:Fold E) {r:RecD} (hr:r.ok) {a act:BitVec 32} {at_:Nat} (hat:at_<2 ^ 39) (h:Has H0 Z H (mR mb a at_ act false r :: X)) (x:InsnD) {left:Nat} (hx:okI x left)
  (hQ:∀ H',Has H0 Z H' (mR mb (stepI r x a).1 (at_+1+(stepI r x a).2.1) (((stepI r x a).2.2).getD act) ((stepI r x a).2.2).isSome r :: X)->Q (.tuple #[]) H'):E.call (E.fid i.f115) [ptr mb 0,x.v] H Q:=by
 apply hE.f115
 have g:=h.newbox x.cells
 have bm:=g.box (k:=0) (b:=mb) (c:=mC a at_ act false r.cells) rfl
 have hc:=mC_cells (a:=a) (at_:=at_) (act:=act) (e:=false) (rec_nine hr)
 have cm2:=hc.2.1
 have hinc:=i64_inc (i:=at_) (by omega)
 obtain ⟨H2,s2,g2⟩:=Has.mset (X:=X++[boxR H.next x.cells]) hr g (k:=18) (v:=vi ((at_+1:Nat):Int)) rfl (by decide) (mC_at a at_ act false r.cells _)
 have b2:=Has.lastBox (L:=mR mb a (at_+1) act false r :: X) g2
 have c0:x.cells[0]? = some (u16 x.code):=rfl
 have c3:x.cells[3]? = some (u32 x.k):=rfl
 have k0:(.int .u16 0:Value)=u16 0#16:=rfl
 have k1:(.int .u16 1:Value)=u16 1#16:=rfl
 have k2:(.int .u16 2:Value)=u16 2#16:=rfl
 have k3:(.int .u16 3:Value)=u16 3#16:=rfl
 have k4:(.int .u16 4:Value)=u16 4#16:=rfl
 have k5:(.int .u16 5:Value)=u16 5#16:=rfl
 have k6:(.int .u16 6:Value)=u16 6#16:=rfl
 have k22:(.int .u16 22:Value)=u16 22#16:=rfl
 have l2:=insn_load b2
 have g2':Has H0 Z H2 (mR mb a (at_+1) act false r :: (X++[boxR H.next x.cells])):=g2
 simp only [F.f115,boxO_agg_z,AM.mk_some,mkPtr_eq_z,List.toList_toArray,bm,cm2,hinc,s2,b2,c0,stdZ]
 generalize H.next=t at *
 refine S.f15 hE _ ?_
 have hcc:=mC_cells (a:=a) (at_:=at_+1) (act:=act) (e:=false) (rec_nine hr)
 rcases hx with ⟨hx,_,_⟩ | hx | ⟨hx,_⟩ | ⟨hx,_⟩ | ⟨hx,_⟩ | ⟨hx,_⟩ | hx
 ·have hs:stepI r x a=((rword r x.k).1,0,none):=by unfold stepI; rw [if_pos hx]
  rw [hs] at hQ
  have d0:decide (iclass x.code=0#16)=true:=by rw [hx]; decide
  simp only [k0,u16_eql,d0,l2,stdZ]
  have bm2:=g2'.box (k:=0) (b:=mb) (c:=mC a (at_+1) act false r.cells) rfl
  refine S.f112 hE hr bm2 x hx fun H3 e3 =>?_
  obtain ⟨H4,s4,g4⟩:=Has.mset hr (g2'.grow e3) (k:=0) (v:=u32 (rword r x.k).1) rfl (by decide) (mC_a a _ (at_+1) act false r.cells)
  simp only [s4,stdZ]
  exact hQ _ (Has.dropLast (L:=_ :: X) g4)
 ·have hs:stepI r x a=(a&&&x.k,0,none):=by unfold stepI; rw [if_neg (by rw [hx]; decide),if_pos hx]
  rw [hs] at hQ
  have d0:decide (iclass x.code=0#16)=false:=by rw [hx]; decide
  have d1:decide (iclass x.code=1#16)=false:=by rw [hx]; decide
  have d2:decide (iclass x.code=2#16)=false:=by rw [hx]; decide
  have d3:decide (iclass x.code=3#16)=false:=by rw [hx]; decide
  have d4:decide (iclass x.code=4#16)=true:=by rw [hx]; decide
  simp only [k0,k1,k2,k3,k4,u16_eql,d0,d1,d2,d3,d4,l2,stdZ]
  refine S.f114 hE hr g2' x hx fun H4 g4 =>?_
  exact hQ _ (Has.dropLast (L:=_ :: X) g4)
 all_goals try
  have d0:decide (iclass x.code=0#16)=false:=by rw [hx]; decide
  have d1:decide (iclass x.code=1#16)=false:=by rw [hx]; decide
  have d2:decide (iclass x.code=2#16)=false:=by rw [hx]; decide
  have d3:decide (iclass x.code=3#16)=false:=by rw [hx]; decide
  have d4:decide (iclass x.code=4#16)=false:=by rw [hx]; decide
  have d5:decide (iclass x.code=5#16)=true:=by rw [hx]; decide
  have hs:(stepI r x a).1=a/\(stepI r x a).2.2=none:=by unfold stepI; rw [hx]; exact ⟨rfl,rfl⟩
  rw [hs.1,hs.2] at hQ
  simp only [k0,k1,k2,k3,k4,k5,u16_eql,d0,d1,d2,d3,d4,d5,l2,stdZ]
  refine S.f111 hE hr (by omega) g2' x (by rw [hx]; decide) fun H4 g4 =>?_
  exact hQ _ (Has.dropLast (L:=_ :: X) g4)
 have d0:decide (iclass x.code=0#16)=false:=by rw [hx]; decide
 have d1:decide (iclass x.code=1#16)=false:=by rw [hx]; decide
 have d2:decide (iclass x.code=2#16)=false:=by rw [hx]; decide
 have d3:decide (iclass x.code=3#16)=false:=by rw [hx]; decide
 have d4:decide (iclass x.code=4#16)=false:=by rw [hx]; decide
 have d5:decide (iclass x.code=5#16)=false:=by rw [hx]; decide
 have d6:decide (iclass x.code=6#16)=true:=by rw [hx]; decide
 have hs:stepI r x a=(a,0,some x.k):=by unfold stepI; rw [hx]; rfl
 rw [hs] at hQ
 obtain ⟨H3,s3,g3⟩:=Has.mset hr g2' (k:=29) (v:=vb true) rfl (by decide) hcc.2.2.2.2.1
 have b3:=Has.lastBox (L:=mR mb a (at_+1) act true r :: X) g3
 obtain ⟨H4,s4,g4⟩:=Has.mset hr g3 (k:=28) (v:=u32 x.k) rfl (by decide) ((mC_cells (a:=a) (at_:=at_+1) (act:=act) (e:=true) (rec_nine hr)).2.2.2.2.2.1 x.k)
 have b4:=Has.lastBox (L:=mR mb a (at_+1) x.k true r :: X) g4
 have s3:store1 (ptr mb 29) (.bool true) H2=some H3:=s3
 have d22:decide (x.code=22#16)=false:=by rw [hx]; decide
 simp only [k0,k1,k2,k3,k4,k5,k6,u16_eql,d0,d1,d2,d3,d4,d5,d6,b2,c3,s3,stdZ]
 refine ⟨by rw [b3]; rfl,?_⟩
 simp only [s4,b4,c0,k22,u16_eql,d22,stdZ]
 exact hQ _ (Has.dropLast (L:=_ :: X) g4)
end
end Go.AM
end
section
namespace Go.AM
set_option maxRecDepth 20000
def insnsOk (c:List InsnD):Prop:=∀ k (h:k<c.length),okI c[k] (c.length - k - 1)
def Fil (H0 Z H:AH) (fb:Nat) (c:List InsnD) (X:List Res):Prop:=∃ lv n1 n2,Has H0 Z H (boxR fb [lv,vi n1,vi n2] :: growR 4 lv (insnR c) :: X)
section
variable {E:Sy} {H H' H0 Z:AH} {Q:Value->AH->Prop} {X:List Res} {fb:Nat}
theorem Fil.grow {c:List InsnD} (h:Fil H0 Z H fb c X) (e:Ext H H'):Fil H0 Z H' fb c X:=by
 obtain ⟨lv,n1,n2,h⟩:=h
 exact ⟨lv,n1,n2,h.grow e⟩
theorem Fil.ext {c:List InsnD} (h:Fil H0 Z H fb c X):Ext H0 H:=by
 obtain ⟨lv,n1,n2,h⟩:=h
 exact h.ext
theorem S.sync_atomic_Int64_Add_at (hE:Fold E) {b o:Nat} {c:List Value} {n d:Int} (hb:H.get b = .cells c none) (hc:c[o]? = some (vi n)) (hQ:∀ v,Q v (H.put b (.cells (c.set o (vi (IntKind.i64.wrap (n+d)))) none))):E.call (E.fid i.f107) [ptr b o,vi d] H Q:=by
 apply hE.f107
 simp only [F.f107,nilCk_p,tk_eq,opt_some]
 rw [addOff_ptr,opt_some]
 apply hE.f106
 have hc:c[o+0]? = some (.int .i64 n):=hc
 simp only [atomicAdd,ptr,vi,hb,hc]
 exact hQ _
theorem runC_over (r:RecD):∀ (f:Nat) (a:BitVec 32),runC r f [] a=2147483648#32
 | 0,_=>rfl
 | _+1,_=>rfl
theorem S.f109 (hE:Fold E) {r:RecD} (hr:r.ok) {c:List InsnD} (hok:insnsOk c) (hlen:c.length<=4096) (h:Fil H0 Z H fb c X) (hQ:∀ n H',n<=c.length->Fil H0 Z H' fb c X->Q (.tuple #[u32 (runC r c.length c 0#32),vi (n:Nat)]) H'):E.call (E.fid i.f109) [ptr fb 0,r.v] H Q:=by
 apply hE.f109
 obtain ⟨lv,n1,n2,h⟩:=h
 have g:=h.new (.cells r.cells none)
 have b1:=AH.get_new_self H (.cells r.cells none)
 have lo:loadN 9 (ptr H.next 0) (H.new (.cells r.cells none))=some r.v:=by rw [loadN_ptr,b1,row_all _ _ 9 (rec_nine hr)]; rfl
 obtain ⟨c0,c1,c2,c3,c4,c5,c6,c7,c8,hrc⟩:=rc_nine (rec_nine hr)
 have hp:r.cells.all plain1=true:=by simp [RecD.cells]
 have hbv:buildV [(0,1),(1,1),(2,16),(18,1),(19,9),(28,1),(29,1)] #[(.int .u32 0),(.int .u32 0),(.int .u32 0),(.int .u32 0),(.int .u32 0),(.int .u32 0),(.int .u32 0),(.int .u32 0),(.int .u32 0),(.int .u32 0),(.int .u32 0),(.int .u32 0),(.int .u32 0),(.int .u32 0),(.int .u32 0),(.int .u32 0),(.int .u32 0),(.int .u32 0),(.int .i64 0),(.int .u32 0),(.int .u32 0),(.int .u64 0),(.int .u64 0),(.int .u64 0),(.int .u64 0),(.int .u64 0),(.int .u64 0),(.int .u64 0),(.int .u32 0),(.bool false)] [(4,r.v)]=some (.agg (mC 0#32 0 0#32 false r.cells).toArray):=by
  unfold RecD.v
  rw [buildV_eq,hrc]; rfl
 simp only [F.f109,boxO_agg_z,AM.mk_some,mkPtr_eq_z,List.toList_toArray,ptr_eql_nil,lo,hbv,allocW_eq,stdZ]
 have hn1:H.next+1=(H.new (.cells r.cells none)).next:=rfl
 rw [hn1]
 clear hn1
 generalize H.new (.cells r.cells none)=H1 at *
 have hst:storeN 30 (ptr H1.next 0) (.agg (mC 0#32 0 0#32 false r.cells).toArray) (H1.new (.cells [(.int .u32 0),(.int .u32 0),(.int .u32 0),(.int .u32 0),(.int .u32 0),(.int .u32 0),(.int .u32 0),(.int .u32 0),(.int .u32 0),(.int .u32 0),(.int .u32 0),(.int .u32 0),(.int .u32 0),(.int .u32 0),(.int .u32 0),(.int .u32 0),(.int .u32 0),(.int .u32 0),(.int .i64 0),(.int .u32 0),(.int .u32 0),(.int .u64 0),(.int .u64 0),(.int .u64 0),(.int .u64 0),(.int .u64 0),(.int .u64 0),(.int .u64 0),(.int .u32 0),(.bool false)] none))=some (H1.new (.cells (mC 0#32 0 0#32 false r.cells) none)):=by
  rw [storeN_ptr,AH.get_new_self]
  have hl:=(mC_cells (a:=0#32) (at_:=0) (act:=0#32) (e:=false) (rec_nine hr)).2.2.2.2.2.2
  have hpl:(mC 0#32 0 0#32 false r.cells).all plain1=true:=by simp [mC,hp]
  have hsp:∀ z:List Value,z.length=30->AM.splice z 0 (mC 0#32 0 0#32 false r.cells)=mC 0#32 0 0#32 false r.cells:=fun z hz=>by simp [splice,hz,hl]
  simp only [List.size_toArray,List.toList_toArray,hl,hpl,List.length_cons,List.length_nil,Nat.zero_add,Nat.le_refl,and_self,if_true]
  rw [hsp _ rfl,AH.new_put]
 have g2:Has H0 Z (H1.new (.cells (mC 0#32 0 0#32 false r.cells) none)) (mR H1.next 0#32 0 0#32 false r :: boxR fb [lv,vi n1,vi n2] :: growR 4 lv (insnR c) :: X):=(g.newbox (mC 0#32 0 0#32 false r.cells)).perm (List.perm_append_singleton _ _)
 simp only [hst,stdZ]
 generalize H1.new (.cells (mC 0#32 0 0#32 false r.cells) none)=H2 at *
 generalize H1.next=mb at *
 have i0:(.int .i64 0:Value)=vi ((0:Nat):Int):=rfl
 have i1:(.int .i64 1:Value)=vi 1:=rfl
 have kK:(.int .u32 2147483648:Value)=u32 2147483648#32:=rfl
 rw [i0]
 refine LoopL.ind (fun m ls H'=>∃ (a:BitVec 32) (at_:Nat) (act:BitVec 32) (e:Bool) (n:Nat),ls=[ptr fb 0,ptr mb 0,vi n]/\Has H0 Z H' (mR mb a at_ act e r :: boxR fb [lv,vi n1,vi n2] :: growR 4 lv (insnR c) :: X)/\at_<=c.length/\n<=at_ /\
   (e=true->m=0/\act=runC r c.length c 0#32)/\(e=false->m=c.length - at_+1/\∃ f,c.length - at_<=f/\runC r f (c.drop at_) a=runC r c.length c 0#32)) ?_ (c.length+1)
  ⟨0#32,0,0#32,false,0,rfl,g2,Nat.zero_le _,Nat.le_refl _,by simp,fun _=>⟨by omega,c.length,by omega,by rw [List.drop_zero]⟩⟩
 rintro m _ H3 X1 ih ⟨a,at_,act,e,n,rfl,g3,hat,hn,he1,he2⟩
 have bm:=g3.box (k:=0) (b:=mb) (c:=mC a at_ act e r.cells) rfl
 have bf:=g3.box (k:=1) (b:=fb) (c:=[lv,vi n1,vi n2]) rfl
 have hc:=mC_cells (a:=a) (at_:=at_) (act:=act) (e:=e) (rec_nine hr)
 have hlv:=(g3.rows (k:=2) (sz:=4) (v:=lv) (rows:=insnR c) rfl).lenSlc
 have hil:(insnR c).length=c.length:=by simp [insnR]
 rw [hil] at hlv
 have fin:∀ res:BitVec 32,res=runC r c.length c 0#32->(e=true->act=res)->(e=false->res=2147483648#32) ->
   E.call (E.fid i.f107) [ptr fb 1,vi 1] H3 fun v24 H10 =>
    opt (nilCk (ptr fb 0)) fun v25=>opt (addOff v25 2) fun v26 =>
    E.call (E.fid i.f107) [v26,vi n] H10 fun v27 H11 =>
    opt (addOff (ptr mb 0) 29) fun v28=>opt (load1 v28 H11) fun v29=>opt (un .not v29) fun v30 =>
    ifB v30 (Q (.tuple #[(.int .u32 2147483648),vi n]) H11) (opt (addOff (ptr mb 0) 28) fun v31=>opt (load1 v31 H11) fun v32=>Q (.tuple #[v32,vi n]) H11):=by
  intro res hres ha hb
  refine S.sync_atomic_Int64_Add_at hE bf (n:=n1) rfl fun _ =>?_
  have g4:=g3.put (k:=1) (b:=fb) (c:=[lv,vi n1,vi n2]) rfl [lv,vi (IntKind.i64.wrap (n1+1)),vi n2]
  have bf4:=g4.box (k:=1) (b:=fb) (c:=[lv,vi (IntKind.i64.wrap (n1+1)),vi n2]) rfl
  simp only [stdZ]
  refine S.sync_atomic_Int64_Add_at hE bf4 (n:=n2) rfl fun _ =>?_
  have g5:=g4.put (k:=1) (b:=fb) (c:=[lv,vi (IntKind.i64.wrap (n1+1)),vi n2]) rfl [lv,vi (IntKind.i64.wrap (n1+1)),vi (IntKind.i64.wrap (n2+n))]
  have bm5:=g5.box (k:=0) (b:=mb) (c:=mC a at_ act e r.cells) rfl
  have g6:=g5.drop 0
  have hq:=hQ n _ (Nat.le_trans hn hat) ⟨lv,_,_,g6⟩
  rw [<- hres] at hq
  have bm5':=bm5
  simp only [List.set_cons_succ,List.set_cons_zero] at bm5' hq ⊢
  simp only [bm5',hc.2.2.2.1,stdZ]
  cases e with
  | true =>
   rw [ha rfl] at hc bm5'
   simp only [bm5',hc.2.2.1,stdZ]
   exact hq
  | false =>
   rw [hb rfl] at hq
   simp only [kK,stdZ]
   exact hq
 cases e with
 | true =>
  obtain ⟨_,hact⟩:=he1 rfl
  simp only [F.f109_l1,bm,hc.2.2.2.1,i1,stdZ]
  exact fin _ rfl (fun _=>hact) (fun h=>by cases h)
 | false =>
  obtain ⟨hm,f,hf,hrun⟩:=he2 rfl
  rcases Nat.lt_or_ge at_ c.length with hlt | hge
  ·have hlt':decide ((at_:Int)<c.length)=true:=decide_eq_true (by omega)
   obtain ⟨bb,o,f1,f2⟩:=(g3.rows (k:=2) (sz:=4) (v:=lv) (rows:=insnR c) rfl).ix (i:=at_) (by omega)
   have hrow:(insnR c)[at_]'(by omega)=c[at_].cells:=by simp [insnR]
   rw [hrow] at f2
   have lo3:loadN 4 (ptr bb o) H3=some c[at_].v:=by rw [loadN_ptr,f2]; rfl
   have hokx:=hok at_ hlt
   have hinc:=i64_inc (i:=n) (by omega)
   have hdr:c.drop at_=c[at_] :: c.drop (at_+1):=List.drop_eq_getElem_cons hlt
   have hskip:at_+1+(stepI r c[at_] a).2.1<=c.length:=by
    unfold stepI
    rcases hokx with ⟨hx,_,_⟩ | hx | ⟨hx,h1⟩ | ⟨hx,h1,h2⟩ | ⟨hx,h1,h2⟩ | ⟨hx,h1,h2⟩ | hx <;> rw [hx] <;> simp only [BitVec.reduceEq,if_true,if_false,Nat.add_zero] <;> try omega
    all_goals split <;> omega
   rw [hdr] at hrun
   generalize c[at_]=x at *
   simp only [F.f109_l1,bm,bf,hc.2.1,hc.2.2.2.1,hlv,i64_lss,hlt',f1,lo3,stdZ]
   refine S.f115 hE hr (by omega) g3 x hokx fun H4 g4 =>?_
   simp only [hinc,stdZ]
   obtain ⟨f,rfl⟩:∃ f',f=f'+1:=⟨f - 1,by omega⟩
   have hrun:(match (stepI r x a).2.2 with | some o=>o | none=>runC r f ((c.drop (at_+1)).drop (stepI r x a).2.1) (stepI r x a).1)=runC r c.length c 0#32:=hrun
   cases ho:(stepI r x a).2.2 with
   | some res =>
    rw [ho] at hrun g4
    have hrun:res=_:=hrun
    exact ih 0 (by omega) _ _ ⟨_,_,_,true,n+1,rfl,g4,hskip,by omega,fun _=>⟨rfl,hrun⟩,fun h=>by cases h⟩
   | none =>
    rw [ho] at hrun g4
    have hrun:runC r f ((c.drop (at_+1)).drop (stepI r x a).2.1) (stepI r x a).1=_:=hrun
    rw [List.drop_drop] at hrun
    exact ih (c.length - (at_+1+(stepI r x a).2.1)+1) (by omega) _ _ ⟨_,_,_,false,n+1,rfl,g4,hskip,by omega,(fun h=>by cases h),fun _=>⟨rfl,f,by omega,hrun⟩⟩
  ·have hlt':decide ((at_:Int)<c.length)=false:=decide_eq_false (by omega)
   rw [List.drop_eq_nil_of_le hge,runC_over] at hrun
   simp only [F.f109_l1,bm,bf,hc.2.1,hc.2.2.2.1,hlv,i64_lss,hlt',i1,stdZ]
   exact fin _ hrun.symm.symm (fun h=>by cases h) (fun _=>rfl)
end
end Go.AM
end
section
namespace Go.AM
set_option maxRecDepth 20000
def max8 (a b:BitVec 8):BitVec 8:=if a.toNat<b.toNat then b else a
section
variable {E:Sy} {H H' H0 Z:AH} {Q:Value->AH->Prop} {X:List Res}
theorem u8_max (a b:BitVec 8):fold2 max2 [u8 a,u8 b]=some (u8 (max8 a b)):=by
 unfold max8
 have h0:fold2 max2 [u8 a,u8 b]=some (.int .u8 (if (b.toNat:Int) > (a.toNat:Int) then (b.toNat:Int) else (a.toNat:Int))):=by simp only [u8_def]; rfl
 rw [h0]
 by_cases h:a.toNat<b.toNat
 ·rw [if_pos h,if_pos (by omega),u8_def]
 ·rw [if_neg h,if_neg (by omega),u8_def]
theorem S.f4 (hE:Fold E) (c:BitVec 16) (h1:c≠96#16) (h2:c≠97#16) (h3:c≠2#16) (h4:c≠3#16) (hQ:Q (vb false) H):E.call (E.fid i.f4) [u16 c] H Q:=by
 apply hE.f4
 have k1:(.int .u16 96:Value)=u16 96#16:=rfl
 have k2:(.int .u16 97:Value)=u16 97#16:=rfl
 have k3:(.int .u16 2:Value)=u16 2#16:=rfl
 have k4:(.int .u16 3:Value)=u16 3#16:=rfl
 simp only [F.f4,F.f4_j1,k1,k2,k3,k4,u16_eql,decide_eq_false h1,decide_eq_false h2,decide_eq_false h3,decide_eq_false h4,stdZ]
 exact hQ
theorem S.f3 (hE:Fold E) (x:InsnD) {at_ n:Nat} (hx:okI x (n - at_ - 1)) (hat:at_<n) (hn:n<=4096) (hQ:∀ H',Ext H H'->Q (.int .i64 0) H'):E.call (E.fid i.f3) [x.v,vi at_,vi n] H Q:=by
 apply hE.f3
 have b1:=AH.get_new_self H (.cells x.cells none)
 have x1:Ext H (H.new (.cells x.cells none)):=(Ext.refl _).new _
 have c0:x.cells[0]? = some (u16 x.code):=rfl
 have c1:x.cells[1]? = some (u8 x.jt):=rfl
 have c2:x.cells[2]? = some (u8 x.jf):=rfl
 have c3:x.cells[3]? = some (u32 x.k):=rfl
 have k1:(.int .i64 1:Value)=vi 1:=rfl
 have k5:(.int .u16 5:Value)=u16 5#16:=rfl
 have k32:(.int .u16 32:Value)=u16 32#16:=rfl
 have k52:(.int .u16 52:Value)=u16 52#16:=rfl
 have k100:(.int .u16 100:Value)=u16 100#16:=rfl
 have k116:(.int .u16 116:Value)=u16 116#16:=rfl
 have q4:(.int .u32 4:Value)=u32 4#32:=rfl
 have q0:(.int .u32 0:Value)=u32 0#32:=rfl
 have q60:(.int .u32 60:Value)=u32 60#32:=rfl
 have s1:binInt .sub (vi (n:Int)) (vi (at_:Int))=some (vi ((n:Int) - at_)):=i64_sub (by omega) (by omega)
 have s2:binInt .sub (vi ((n:Int) - at_)) (vi 1)=some (vi ((n - at_ - 1:Nat):Int)):=by rw [i64_sub (by omega) (by omega)]; congr 2; omega
 have hrem:binInt .rem (u32 x.k) (u32 4#32)=some (u32 (x.k % 4#32)):=u32_rem _ _ (by decide)
 have hln:n - at_ - 1<4096:=by omega
 have known:inames.contains x.code||iknown1 x.code:=by
  rcases hx with ⟨h,_⟩ | h | ⟨h,_⟩ | ⟨h,_⟩ | ⟨h,_⟩ | ⟨h,_⟩ | h <;> rw [h] <;> decide +kernel
 have e52:decide (x.code=52#16)=false:=by rcases hx with ⟨h,_⟩ | h | ⟨h,_⟩ | ⟨h,_⟩ | ⟨h,_⟩ | ⟨h,_⟩ | h <;> rw [h] <;> decide
 have e100:decide (x.code=100#16)=false:=by rcases hx with ⟨h,_⟩ | h | ⟨h,_⟩ | ⟨h,_⟩ | ⟨h,_⟩ | ⟨h,_⟩ | h <;> rw [h] <;> decide
 have e116:decide (x.code=116#16)=false:=by rcases hx with ⟨h,_⟩ | h | ⟨h,_⟩ | ⟨h,_⟩ | ⟨h,_⟩ | ⟨h,_⟩ | h <;> rw [h] <;> decide
 have e96:x.code≠96#16:=by rcases hx with ⟨h,_⟩ | h | ⟨h,_⟩ | ⟨h,_⟩ | ⟨h,_⟩ | ⟨h,_⟩ | h <;> rw [h] <;> decide
 have e97:x.code≠97#16:=by rcases hx with ⟨h,_⟩ | h | ⟨h,_⟩ | ⟨h,_⟩ | ⟨h,_⟩ | ⟨h,_⟩ | h <;> rw [h] <;> decide
 have e2:x.code≠2#16:=by rcases hx with ⟨h,_⟩ | h | ⟨h,_⟩ | ⟨h,_⟩ | ⟨h,_⟩ | ⟨h,_⟩ | h <;> rw [h] <;> decide
 have e3:x.code≠3#16:=by rcases hx with ⟨h,_⟩ | h | ⟨h,_⟩ | ⟨h,_⟩ | ⟨h,_⟩ | ⟨h,_⟩ | h <;> rw [h] <;> decide
 simp only [F.f3,boxO_agg_z,AM.mk_some,mkPtr_eq_z,List.toList_toArray,k1,s1,s2,b1,c0,stdZ]
 generalize H.new (.cells x.cells none)=H1 at *
 generalize H.next=t at *
 refine S.f17 hE _ ?_
 rw [known]
 have tail:∀ (Q':Prop),(Q (.int .i64 0) H1->Q')->Q':=fun Q' f=>f (hQ _ x1)
 have ec32:∀ b:Bool,decide (x.code=32#16)=b->(b=true->decide (x.k % 4#32≠0#32)=false/\decide ((60#32).toNat<x.k.toNat)=false):=by
  intro b hb ht
  subst ht
  have h32:x.code=32#16:=of_decide_eq_true hb
  rcases hx with ⟨_,h1,h2⟩ | h | ⟨h,_⟩ | ⟨h,_⟩ | ⟨h,_⟩ | ⟨h,_⟩ | h
  rotate_left
  all_goals first
   | (rw [h32] at h; exact absurd h (by decide))
   | skip
  refine ⟨decide_eq_false ?_,decide_eq_false ?_⟩
  ·intro hne
   apply hne
   apply BitVec.eq_of_toNat_eq
   rw [BitVec.toNat_umod]
   exact h1
  ·show ¬ 60<_
   omega
 have fin:∀ b:Bool,decide (x.code=32#16)=b->Q (.int .i64 0) H1:=fun _ _=>hQ _ x1
 rcases hx with ⟨hc,h1,h2⟩ | hc | ⟨hc,h1⟩ | ⟨hc,h1,h2⟩ | ⟨hc,h1,h2⟩ | ⟨hc,h1,h2⟩ | hc
 ·
  have a5:decide (x.code=5#16)=false:=by rw [hc]; decide
  have cl:decide (iclass x.code=5#16)=false:=by rw [hc]; decide
  have c32:decide (x.code=32#16)=true:=by rw [hc]; decide
  obtain ⟨m1,m2⟩:=ec32 _ c32 rfl
  simp only [b1,c0,k5,u16_eql,a5,stdZ]
  refine S.f15 hE _ ?_
  simp only [k5,u16_eql,cl,b1,c0,c3,k32,c32,q4,q0,q60,hrem,u32_neq,u32_gtr,m1,m2,stdZ]
  refine S.f4 hE _ e96 e97 e2 e3 ?_
  simp only [b1,c0,k52,k100,k116,u16_eql,e52,e100,e116,stdZ]
  exact hQ _ x1
 all_goals try
  have a5:decide (x.code=5#16)=false:=by rw [hc]; decide
  have n5:decide (x.code≠5#16)=true:=by rw [hc]; decide
  have cl:decide (iclass x.code=5#16)=true:=by rw [hc]; decide
  have c32:decide (x.code=32#16)=false:=by rw [hc]; decide
  have hmx:decide (((n - at_ - 1:Nat):Int)<=((max8 x.jt x.jf).toNat:Int))=false:=decide_eq_false (by
   unfold max8
   split <;> omega)
  simp only [b1,c0,k5,u16_eql,a5,stdZ]
  refine S.f15 hE _ ?_
  simp only [k5,u16_eql,u16_neq,cl,n5,b1,c0,c1,c2,u8_max,u8_to_i64,i64_geq,hmx,k32,c32,stdZ]
  refine S.f4 hE _ e96 e97 e2 e3 ?_
  simp only [b1,c0,k52,k100,k116,u16_eql,e52,e100,e116,stdZ]
  exact hQ _ x1
 ·have a5:decide (x.code=5#16)=false:=by rw [hc]; decide
  have cl:decide (iclass x.code=5#16)=false:=by rw [hc]; decide
  have c32:decide (x.code=32#16)=false:=by rw [hc]; decide
  simp only [b1,c0,k5,u16_eql,a5,stdZ]
  refine S.f15 hE _ ?_
  simp only [k5,u16_eql,cl,b1,c0,k32,c32,stdZ]
  refine S.f4 hE _ e96 e97 e2 e3 ?_
  simp only [b1,c0,k52,k100,k116,u16_eql,e52,e100,e116,stdZ]
  exact hQ _ x1
 ·have a5:decide (x.code=5#16)=true:=by rw [hc]; decide
  have n5:decide (x.code≠5#16)=false:=by rw [hc]; decide
  have cl:decide (iclass x.code=5#16)=true:=by rw [hc]; decide
  have c32:decide (x.code=32#16)=false:=by rw [hc]; decide
  have hlt:decide ((BitVec.ofInt 64 ((n - at_ - 1:Nat):Int)).toNat<=(x.k.setWidth 64).toNat)=false:=decide_eq_false (by
   have:=x.k.isLt
   rw [BitVec.toNat_setWidth,BitVec.ofInt_natCast,BitVec.toNat_ofNat,Nat.mod_eq_of_lt (by omega),Nat.mod_eq_of_lt (by omega)]
   omega)
  simp only [b1,c0,c3,k5,u16_eql,a5,u32_to_u64,i64_to_u64,u64_geq,hlt,stdZ]
  refine S.f15 hE _ ?_
  simp only [k5,u16_eql,u16_neq,cl,n5,b1,c0,k32,c32,stdZ]
  refine S.f4 hE _ e96 e97 e2 e3 ?_
  simp only [b1,c0,k52,k100,k116,u16_eql,e52,e100,e116,stdZ]
  exact hQ _ x1
 ·have a5:decide (x.code=5#16)=false:=by rw [hc]; decide
  have cl:decide (iclass x.code=5#16)=false:=by rw [hc]; decide
  have c32:decide (x.code=32#16)=false:=by rw [hc]; decide
  simp only [b1,c0,k5,u16_eql,a5,stdZ]
  refine S.f15 hE _ ?_
  simp only [k5,u16_eql,cl,b1,c0,k32,c32,stdZ]
  refine S.f4 hE _ e96 e97 e2 e3 ?_
  simp only [b1,c0,k52,k100,k116,u16_eql,e52,e100,e116,stdZ]
  exact hQ _ x1
end
end Go.AM
end
section
namespace Go.AM
set_option maxRecDepth 20000
section
variable {E:Sy} {H H' H0 Z:AH} {Q:Value->AH->Prop} {X:List Res}
theorem ix_slc1 (b n c k:Nat) (hk:k<n):ixSlc 1 (slc b 0 n c) (vi k)=some (ptr b k):=by
 simp only [ixSlc,slc,vi,ptr]
 have h1:(0:Int)<=(k:Int)/\(k:Int).toNat<n:=⟨by omega,by omega⟩
 simp [Addr.add,hk]
 exact fun h=>h.symm
def natR (l:List Nat):List (List Value):=l.map fun k=>[vi (k:Nat)]
theorem Has.newnats {L:List Res} (h:Has H0 Z H L) {n:Nat} (l:List Nat) (hn:l.length=n) {cs:List Value} (hc:(natR l).flatten=cs):Has H0 Z (H.new (.cells cs none)) (L++[growR 1 (slc H.next 0 n n) (natR l)]) :=
 h.add _ ((Ext.refl H).new _) (Grow.made (f:=none) (zH_get _) (by rw [AH.get_new_self,hc]) (.inl rfl) (by simp [natR,hn]) (by intro r hr; obtain ⟨x,_,rfl⟩:=List.mem_map.1 hr; exact ⟨rfl,rfl⟩)) (by simp [growR,blkL,blk]) (by simp [growR,blkL,blk])
theorem S.f1 (hE:Fold E) (x:InsnD) (hQ:∀ H',Ext H H'->Q (vb (decide (iclass x.code=6#16))) H'):E.call (E.fid i.f1) [x.v] H Q:=by
 apply hE.f1
 have b1:=AH.get_new_self H (.cells x.cells none)
 have x1:Ext H (H.new (.cells x.cells none)):=(Ext.refl _).new _
 have c0:x.cells[0]? = some (u16 x.code):=rfl
 have k6:(.int .u16 6:Value)=u16 6#16:=rfl
 simp only [F.f1,boxO_agg_z,AM.mk_some,mkPtr_eq_z,List.toList_toArray,b1,c0,stdZ]
 refine S.f15 hE _ ?_
 simp only [k6,u16_eql,stdZ]
 exact hQ _ x1
theorem S.f5 (hE:Fold E) (x:InsnD) {at_ n:Nat} (hx:okI x (n - at_ - 1)) (hat:at_<n) (hn:n<=4096) (hl:x.code=6#16\/at_+1<n) {L:List Res} (h:Has H0 Z H L) (hQ:∀ v (l:List Nat) H',Has H0 Z H' (L++[growR 1 v (natR l)])->(∀ k∈l,k<n)->l.length<=2->Q v H'):E.call (E.fid i.f5) [x.v,vi at_] H Q:=by
 apply hE.f5
 have b1:=AH.get_new_self H (.cells x.cells none)
 have x1:Ext H (H.new (.cells x.cells none)):=(Ext.refl _).new _
 have lo:=insn_load b1
 have c0:x.cells[0]? = some (u16 x.code):=rfl
 have c1:x.cells[1]? = some (u8 x.jt):=rfl
 have c2:x.cells[2]? = some (u8 x.jf):=rfl
 have c3:x.cells[3]? = some (u32 x.k):=rfl
 have k5:(.int .u16 5:Value)=u16 5#16:=rfl
 have hinc:=i64_inc (i:=at_) (by omega)
 simp only [F.f5,boxO_agg_z,AM.mk_some,mkPtr_eq_z,List.toList_toArray,lo,stdZ]
 generalize H.new (.cells x.cells none)=H1 at *
 generalize H.next=t at *
 refine S.f1 hE x fun H2 e2 =>?_
 have b2:=e2.cells b1
 have x2:=x1.trans e2
 have lone:∀ m:Nat,buildS 1 1 #[(.int .i64 0)] [(0,vi m)]=some (.cells [vi m] none,mkSlc 1 1):=fun m=>buildS_one 1 [vi 0] [vi m] rfl rfl
 have ltwo:∀ m k:Nat,buildS 2 1 #[(.int .i64 0)] [(0,vi m),(1,vi k)]=some (.cells [vi m,vi k] none,mkSlc 2 2):=fun m k=>buildS_full 2 1 [vi 0] [(0,vi m),(1,vi k)] [vi m,vi k] rfl rfl rfl rfl (by simp)
 have g2:=h.grow x2
 have one:∀ m:Nat,m<n->Q (slc H2.next 0 1 1) (H2.new (.cells [vi m] none)):=fun m hm =>
  hQ _ [m] _ (g2.newnats [m] rfl rfl) (by simpa using hm) (by simp)
 have two:∀ m k:Nat,m<n->k<n->Q (slc H2.next 0 2 2) (H2.new (.cells [vi m,vi k] none)):=fun m k hm hk =>
  hQ _ [m,k] _ (g2.newnats [m,k] rfl rfl) (by simp [hm,hk]) (by simp)
 rcases hx with ⟨hc,_⟩ | hc | ⟨hc,h1⟩ | ⟨hc,h1,h2⟩ | ⟨hc,h1,h2⟩ | ⟨hc,h1,h2⟩ | hc
 rotate_left 6
 ·have a6:decide (iclass x.code=6#16)=true:=by rw [hc]; decide
  simp only [a6,stdZ]
  exact hQ nilS [] _ (g2.nils 1) (by simp) (by simp)
 ·have a6:decide (iclass x.code=6#16)=false:=by rw [hc]; decide
  have a5:decide (x.code=5#16)=false:=by rw [hc]; decide
  have cl:decide (iclass x.code=5#16)=false:=by rw [hc]; decide
  have hl:at_+1<n:=hl.resolve_left (by rw [hc]; decide)
  simp only [a6,b2,c0,k5,u16_eql,a5,stdZ]
  refine S.f15 hE _ ?_
  simp only [k5,u16_eql,cl,hinc,lone,AM.mk_some,mkSlc_eq,stdZ]
  exact one _ hl
 ·have a6:decide (iclass x.code=6#16)=false:=by rw [hc]; decide
  have a5:decide (x.code=5#16)=false:=by rw [hc]; decide
  have cl:decide (iclass x.code=5#16)=false:=by rw [hc]; decide
  have hl:at_+1<n:=hl.resolve_left (by rw [hc]; decide)
  simp only [a6,b2,c0,k5,u16_eql,a5,stdZ]
  refine S.f15 hE _ ?_
  simp only [k5,u16_eql,cl,hinc,lone,AM.mk_some,mkSlc_eq,stdZ]
  exact one _ hl
 ·have a6:decide (iclass x.code=6#16)=false:=by rw [hc]; decide
  have a5:decide (x.code=5#16)=true:=by rw [hc]; decide
  have ha:binInt .add (vi ((at_+1:Nat):Int)) (vi x.k.toNat)=some (vi ((at_+1+x.k.toNat:Nat):Int)):=by rw [i64_add (by omega) (by omega)]; congr 2
  simp only [a6,b2,c0,c3,k5,u16_eql,a5,hinc,u32_to_i64,ha,lone,AM.mk_some,mkSlc_eq,stdZ]
  exact one _ (by omega)
 all_goals
  have a6:decide (iclass x.code=6#16)=false:=by rw [hc]; decide
  have a5:decide (x.code=5#16)=false:=by rw [hc]; decide
  have cl:decide (iclass x.code=5#16)=true:=by rw [hc]; decide
  have ha1:binInt .add (vi ((at_+1:Nat):Int)) (vi x.jt.toNat)=some (vi ((at_+1+x.jt.toNat:Nat):Int)):=by rw [i64_add (by omega) (by omega)]; congr 2
  have ha2:binInt .add (vi ((at_+1:Nat):Int)) (vi x.jf.toNat)=some (vi ((at_+1+x.jf.toNat:Nat):Int)):=by rw [i64_add (by omega) (by omega)]; congr 2
  simp only [a6,b2,c0,k5,u16_eql,a5,stdZ]
  refine S.f15 hE _ ?_
  simp only [k5,u16_eql,cl,b2,c1,c2,hinc,u8_to_i64,ha1,ha2,ltwo,AM.mk_some,mkSlc_eq,stdZ]
  exact two _ _ (by omega) (by omega)
end
end Go.AM
end
section
namespace Go.AM
set_option maxRecDepth 20000
def endOk (c:List InsnD):Prop:=∃ h:0<c.length,(c[c.length - 1]'(by omega)).code=6#16
section
variable {E:Sy} {H H' H0 Z:AH} {Q:Value->AH->Prop} {X:List Res}
abbrev u16L (ws:List (BitVec 16)):List Value:=ws.map u16
theorem Has.setW {sb k:Nat} {ws:List (BitVec 16)} {wb:Nat} {wc:List Value} (h:Has H0 Z H (boxR wb wc :: boxR sb (u16L ws) :: X)) (hk:k<ws.length) (w:BitVec 16):∃ H',store1 (ptr sb k) (u16 w) H=some H'/\Has H0 Z H' (boxR wb wc :: boxR sb (u16L (ws.set k w)) :: X):=by
 have hb:=h.box (k:=1) (b:=sb) (c:=u16L ws) rfl
 refine ⟨H.put sb (.cells (u16L (ws.set k w)) none),?_,h.put (k:=1) (b:=sb) (c:=u16L ws) rfl _⟩
 rw [store1_ptr,if_pos (show plain1 (u16 w)=true from rfl),hb]
 simp only [u16L,List.length_map,hk,if_true,List.map_set]
theorem S.f2 (hE:Fold E) {v:Value} {c:List InsnD} (hv:Rows H 4 v (insnR c)) (hok:insnsOk c) (hend:endOk c) (hlen:c.length<=4096) (hQ:∀ H',Ext H H'->Q (.agg #[vi 0,vi 0]) H'):E.call (E.fid i.f2) [v] H Q:=by
 apply hE.f2
 obtain ⟨h0,hend⟩:=hend
 have hlv:=hv.lenSlc
 have hil:(insnR c).length=c.length:=by simp [insnR]
 rw [hil] at hlv
 have hms:=makeS_all 1 2 c.length [u16 0#16] rfl (by omega) (by omega)
 rw [flatten_repl] at hms
 have hms:makeS 1 2 #[(.int .u16 0)] (vi c.length) (vi c.length)=some (.cells (u16L (List.replicate c.length 0#16)) none,fun b=>slc b 0 c.length c.length):=by rw [u16L,List.map_replicate]; exact hms
 have i0:(.int .i64 0:Value)=vi ((0:Nat):Int):=rfl
 have q0:(.int .u16 0:Value)=u16 0#16:=rfl
 have qf:(.int .u16 65535:Value)=u16 65535#16:=rfl
 have g:=((Has.begin (Ext.refl H) (Sub.refl H)).newbox [(.int .i64 0),(.int .i64 0)]).newbox (u16L (List.replicate c.length 0#16))
 have hls:∀ b n m,lenSlc (slc b 0 n m)=some (vi n):=fun _ _ _=>rfl
 simp only [F.f2,allocW_eq,hlv,hms,AM.mk_some,hls,stdZ]
 have hn1:H.next+1=(H.new (.cells [(.int .i64 0),(.int .i64 0)] none)).next:=rfl
 rw [hn1]
 clear hn1
 generalize (H.new (.cells [(.int .i64 0),(.int .i64 0)] none)).new (.cells (u16L (List.replicate c.length 0#16)) none)=H2 at *
 generalize (H.new (.cells [(.int .i64 0),(.int .i64 0)] none)).next=sb at *
 generalize H.next=wb at *
 rw [i0]
 refine LoopL.count c.length (fun k ls H'=>ls=[v,ptr wb 0,slc sb 0 c.length c.length,vi c.length,vi k]/\∃ ws:List (BitVec 16),ws.length=c.length/\Has H H H' [boxR wb [vi 0,vi 0],boxR sb (u16L ws)]) ?_ ⟨rfl,_,by simp,g⟩
 rintro k _ H3 X1 hk ih ⟨rfl,ws,hws,g3⟩
 rcases Nat.lt_or_ge k c.length with hlt | hge
 ·have hlt':decide ((k:Int)<c.length)=true:=decide_eq_true (by omega)
  have hix:=ix_slc1 sb c.length c.length k hlt
  have hinc:=i64_inc (i:=k) (by omega)
  obtain ⟨H4,s4,g4⟩:=g3.setW (k:=k) (by omega) 65535#16
  simp only [F.f2_l1,i64_lss,hlt',hix,qf,s4,hinc,stdZ]
  exact ih hlt _ _ ⟨rfl,_,by simp [hws],g4⟩
 have hke:k=c.length:=by omega
 subst hke
 have hlt':decide ((c.length:Int)<c.length)=false:=decide_eq_false (by omega)
 have hix0:ixSlc 1 (slc sb 0 c.length c.length) (.int .i64 0)=some (ptr sb 0):=ix_slc1 sb c.length c.length 0 h0
 obtain ⟨H4,s4,g4⟩:=g3.setW (k:=0) (by omega) 0#16
 simp only [F.f2_l1,i64_lss,hlt',hix0,q0,s4,hlv,stdZ]
 have hw4:(ws.set 0 0#16).length=c.length:=by simp [hws]
 generalize ws.set 0 0#16=ws at *
 rw [i0]
 refine LoopL.count c.length (fun k ls H'=>ls=[ptr wb 0,slc sb 0 c.length c.length,v,vi c.length,vi k]/\∃ ws:List (BitVec 16),ws.length=c.length/\Has H H H' [boxR wb [vi 0,vi 0],boxR sb (u16L ws)]) ?_ ⟨rfl,ws,hw4,g4⟩
 clear g4 g3 ih s4 hw4 hws ws
 rintro k _ H5 X2 hk ih ⟨rfl,ws,hws,g5⟩
 rcases Nat.lt_or_ge k c.length with hlt | hge
 rotate_left
 ·have hke:k=c.length:=by omega
  subst hke
  have hb:=g5.box (k:=0) (b:=wb) (c:=[vi 0,vi 0]) rfl
  have hbv:buildV [(0,1),(1,1)] #[(.int .i64 0),(.int .i64 0)] []=some (.agg #[vi 0,vi 0]):=rfl
  have hst:storeN 2 (ptr wb 0) (.agg #[vi 0,vi 0]) H5=some (H5.put wb (.cells [vi 0,vi 0] none)):=by
   rw [storeN_ptr,hb]; rfl
  have g6:=g5.put (k:=0) (b:=wb) (c:=[vi 0,vi 0]) rfl [vi 0,vi 0]
  have hb6:=g6.box (k:=0) (b:=wb) (c:=[vi 0,vi 0]) rfl
  have lo6:loadN 2 (ptr wb 0) (H5.put wb (.cells [vi 0,vi 0] none))=some (.agg #[vi 0,vi 0]):=by rw [loadN_ptr,hb6]; rfl
  simp only [F.f2_l2,i64_lss,hlt',hbv,hst,lo6,stdZ]
  exact hQ _ g6.ext
 have hlt':decide ((k:Int)<c.length)=true:=decide_eq_true (by omega)
 obtain ⟨bb,o,f1,f2⟩:=hv.ix (i:=k) (by omega)
 have hrow:(insnR c)[k]'(by omega)=c[k].cells:=by simp [insnR]
 rw [hrow] at f2
 have f2:(H5.get bb).row o 4=some c[k].cells:=by
  have:H5.get bb=H.get bb:=g5.ext.obj (o:=H.get bb) (fun hd=>by rw [hd] at f2; cases f2) rfl
  rw [this]; exact f2
 have lo:loadN 4 (ptr bb o) H5=some c[k].v:=by rw [loadN_ptr,f2]; rfl
 have hokx:=hok k hlt
 have hl6:c[k].code=6#16\/k+1<c.length:=by
  rcases Nat.lt_or_ge (k+1) c.length with h | h
  ·exact .inr h
  ·have:k=c.length - 1:=by omega
   subst this
   exact .inl hend
 have hix:=ix_slc1 sb c.length c.length k hlt
 have hinc:=i64_inc (i:=k) (by omega)
 generalize c[k]=x at *
 have hst:=insn_new x H5
 have g6:=g5.new (.cells x.cells none)
 have bx:=AH.get_new_self H5 (.cells x.cells none)
 have bs:=g6.box (k:=1) (b:=sb) (c:=u16L ws) rfl
 have cx:x.cells[0]? = some (u16 x.code):=rfl
 have cs:(u16L ws)[k]? = some (u16 (ws[k]'(by omega))):=by simp [u16L,List.getElem?_eq_getElem (show k<ws.length by omega)]
 have k96:(.int .u16 96:Value)=u16 96#16:=rfl
 have k97:(.int .u16 97:Value)=u16 97#16:=rfl
 have k2:(.int .u16 2:Value)=u16 2#16:=rfl
 have k3:(.int .u16 3:Value)=u16 3#16:=rfl
 have e96:decide (x.code=96#16)=false:=by rcases hokx with ⟨h,_⟩ | h | ⟨h,_⟩ | ⟨h,_⟩ | ⟨h,_⟩ | ⟨h,_⟩ | h <;> rw [h] <;> decide
 have e97:decide (x.code=97#16)=false:=by rcases hokx with ⟨h,_⟩ | h | ⟨h,_⟩ | ⟨h,_⟩ | ⟨h,_⟩ | ⟨h,_⟩ | h <;> rw [h] <;> decide
 have e2:decide (x.code=2#16)=false:=by rcases hokx with ⟨h,_⟩ | h | ⟨h,_⟩ | ⟨h,_⟩ | ⟨h,_⟩ | ⟨h,_⟩ | h <;> rw [h] <;> decide
 have e3:decide (x.code=3#16)=false:=by rcases hokx with ⟨h,_⟩ | h | ⟨h,_⟩ | ⟨h,_⟩ | ⟨h,_⟩ | ⟨h,_⟩ | h <;> rw [h] <;> decide
 have lox:=insn_load bx
 generalize ws[k]'(by omega)=w at *
 simp only [F.f2_l2,i64_lss,hlt',f1,lo,allocW_eq,hst,hix,bs,cs,bx,cx,k96,k97,u16_eql,e96,e97,F.f2_j2,F.f2_j3,F.f2_j1,k2,k3,e2,e3,lox,stdZ]
 generalize H5.new (.cells x.cells none)=H6 at *
 refine S.f5 hE x hokx hlt hlen hl6 g6 fun wv l H7 g7 hl hl2 =>?_
 have hwl:=(g7.rows (k:=2) (sz:=1) (v:=wv) (rows:=natR l) rfl).lenSlc
 have hnl:(natR l).length=l.length:=by simp [natR]
 rw [hnl] at hwl
 simp only [hwl,i0,stdZ]
 refine LoopL.count l.length (fun q ls H'=>ls=[ptr wb 0,slc sb 0 c.length c.length,u16 w,v,vi c.length,vi k,wv,vi l.length,vi q]/\∃ ws:List (BitVec 16),ws.length=c.length/\Has H H H' (boxR wb [vi 0,vi 0] :: boxR sb (u16L ws) :: [growR 1 wv (natR l)])) ?_ ⟨rfl,ws,hws,g7⟩
 rintro q _ H8 X3 hq ih2 ⟨rfl,ws,hws,g8⟩
 rcases Nat.lt_or_ge q l.length with hql | hqg
 ·have hql':decide ((q:Int)<l.length)=true:=decide_eq_true (by omega)
  obtain ⟨b3,o3,n1,n2⟩:=(g8.rows (k:=2) (sz:=1) (v:=wv) (rows:=natR l) rfl).ix (i:=q) (by omega)
  have hnr:(natR l)[q]'(by omega)=[vi (l[q]:Nat)]:=by simp [natR]
  rw [hnr] at n2
  have hce:((H8.get b3).cell o3)=some (vi (l[q]:Nat)):=by have:=row_at n2 (j:=0) (by omega); simpa using this
  have hlq:=hl l[q] (List.getElem_mem hql)
  have hqi:=i64_inc (i:=q) (by omega)
  generalize l[q]=y at *
  have hiy:=ix_slc1 sb c.length c.length y hlq
  have bs:=g8.box (k:=1) (b:=sb) (c:=u16L ws) rfl
  have cs:(u16L ws)[y]? = some (u16 (ws[y]'(by omega))):=by simp [u16L,List.getElem?_eq_getElem (show y<ws.length by omega)]
  obtain ⟨H9,s9,g9⟩:=Has.setW (X:=[growR 1 wv (natR l)]) g8 (k:=y) (by omega) ((ws[y]'(by omega))&&&w)
  simp only [F.f2_l3,i64_lss,hql',n1,hce,hiy,bs,cs,u16_and,s9,hqi,stdZ]
  exact ih2 hql _ _ ⟨rfl,_,by simp [hws],g9⟩
 ·have hql':decide ((q:Int)<l.length)=false:=decide_eq_false (by omega)
  simp only [F.f2_l3,i64_lss,hql',hinc,stdZ]
  exact ih hlt _ _ ⟨rfl,ws,hws,Has.dropLast (L:=[_,_]) g8⟩
theorem S.f0 (hE:Fold E) {v:Value} {c:List InsnD} (hv:Rows H 4 v (insnR c)) (hok:insnsOk c) (hend:endOk c) (hlen:c.length<=4096) (hQ:∀ H',Ext H H'->Q (.agg #[vi 0,vi 0]) H'):E.call (E.fid i.f0) [v] H Q:=by
 apply hE.f0
 have hend':=hend
 obtain ⟨h0,hend⟩:=hend
 have hlv:=hv.lenSlc
 have hil:(insnR c).length=c.length:=by simp [insnR]
 rw [hil] at hlv
 have i0:(.int .i64 0:Value)=vi ((0:Nat):Int):=rfl
 have i1:(.int .i64 1:Value)=vi 1:=rfl
 have i4096:(.int .i64 4096:Value)=vi 4096:=rfl
 have d0:decide ((c.length:Int)=((0:Nat):Int))=false:=decide_eq_false (by omega)
 have d1:decide ((4096:Int)<c.length)=false:=decide_eq_false (by omega)
 have g:=(Has.begin (Ext.refl H) (Sub.refl H)).newbox [(.int .i64 0),(.int .i64 0)]
 simp only [F.f0,allocW_eq,hlv,i0,i4096,i64_eql,i64_gtr,d0,d1,stdZ]
 have g:Has H H (H.new (.cells [vi ((0:Nat):Int),vi ((0:Nat):Int)] none)) [boxR H.next [vi 0,vi 0]]:=g
 generalize H.new (.cells [vi ((0:Nat):Int),vi ((0:Nat):Int)] none)=H1 at *
 generalize H.next=wb at *
 refine LoopL.count c.length (fun k ls H'=>ls=[v,ptr wb 0,v,vi c.length,vi k]/\Has H H H' [boxR wb [vi 0,vi 0]]) ?_ ⟨rfl,g⟩
 clear g
 rintro k _ H5 X2 hk ih ⟨rfl,g5⟩
 have hv5:=hv.mono g5.ext
 have row:∀ j (hj:j<c.length),∃ bb o,ixSlc 4 v (vi j)=some (ptr bb o)/\loadN 4 (ptr bb o) H5=some c[j].v:=by
  intro j hj
  obtain ⟨bb,o,f1,f2⟩:=hv5.ix (i:=j) (by omega)
  have hrow:(insnR c)[j]'(by omega)=c[j].cells:=by simp [insnR]
  rw [hrow] at f2
  exact ⟨bb,o,f1,by rw [loadN_ptr,f2]; rfl⟩
 have hw:∀ {H':AH},Has H H H' [boxR wb [vi 0,vi 0]]->∃ H'',storeN 2 (ptr wb 0) (.agg #[vi 0,vi 0]) H'=some H''/\loadN 2 (ptr wb 0) H''=some (.agg #[vi 0,vi 0])/\Ext H H'':=by
  intro H' g'
  have hb:=g'.box (k:=0) (b:=wb) (c:=[vi 0,vi 0]) rfl
  have g6:=g'.put (k:=0) (b:=wb) (c:=[vi 0,vi 0]) rfl [vi 0,vi 0]
  have hb6:=g6.box (k:=0) (b:=wb) (c:=[vi 0,vi 0]) rfl
  exact ⟨_,by rw [storeN_ptr,hb]; rfl,by rw [loadN_ptr,hb6]; rfl,g6.ext⟩
 rcases Nat.lt_or_ge k c.length with hlt | hge
 ·have hlt':decide ((k:Int)<c.length)=true:=decide_eq_true (by omega)
  obtain ⟨bb,o,f1,lo⟩:=row k hlt
  have hokx:=hok k hlt
  have hinc:=i64_inc (i:=k) (by omega)
  generalize c[k]=x at *
  have hst:=insn_new x H5
  have g6:=g5.new (.cells x.cells none)
  have lox:=insn_load (AH.get_new_self H5 (.cells x.cells none))
  simp only [F.f0_l1,i64_lss,hlt',f1,lo,allocW_eq,hst,lox,hlv,stdZ]
  generalize H5.new (.cells x.cells none)=H6 at *
  refine S.f3 hE x hokx hlt hlen fun H7 e7 =>?_
  have d7:decide (((0:Nat):Int)≠((0:Nat):Int))=false:=rfl
  simp only [i0,i64_neq,d7,hinc,stdZ]
  exact ih hlt _ _ ⟨rfl,g6.grow e7⟩
 ·have hke:k=c.length:=by omega
  subst hke
  have hlt':decide ((c.length:Int)<c.length)=false:=decide_eq_false (by omega)
  obtain ⟨bb,o,f1,lo⟩:=row (c.length - 1) (by omega)
  have hs:binInt .sub (vi (c.length:Int)) (vi 1)=some (vi ((c.length - 1:Nat):Int)):=by rw [i64_sub (by omega) (by omega)]; congr 2; omega
  have he6:decide (iclass (c[c.length - 1]'(by omega)).code=6#16)=true:=by rw [hend]; decide
  simp only [F.f0_l1,i64_lss,hlt',hlv,i1,hs,f1,lo,stdZ]
  refine S.f1 hE _ fun H6 e6 =>?_
  rw [he6]
  simp only [stdZ]
  have g6:=g5.grow e6
  refine S.f2 hE (hv.mono g6.ext) hok hend' hlen fun H7 e7 =>?_
  obtain ⟨H8,s8,l8,e8⟩:=hw (g6.grow e7)
  simp only [s8,l8,stdZ]
  exact hQ _ e8
theorem S.f110 (hE:Fold E) {v:Value} {c:List InsnD} (hv:Rows H 4 v (insnR c)) (hok:insnsOk c) (hend:endOk c) (hlen:c.length<=4096) (hQ:∀ fb H',Fil H H H' fb c []->Q (.tuple #[ptr fb 0,.agg #[vi 0,vi 0]]) H'):E.call (E.fid i.f110) [v] H Q:=by
 apply hE.f110
 have g1:=(Has.begin (Ext.refl H) (Sub.refl H)).newbox [(.int .i64 0),(.int .i64 0)]
 have x1:Ext H (H.new (.cells [(.int .i64 0),(.int .i64 0)] none)):=(Ext.refl H).new _
 simp only [F.f110,allocW_eq,stdZ]
 generalize H.new (.cells [(.int .i64 0),(.int .i64 0)] none)=H1 at *
 generalize H.next=wb at *
 refine S.f0 hE (hv.mono x1) hok hend hlen fun H2 e2 =>?_
 have g2:=g1.grow e2
 have s2:storeN 2 (ptr H2.next 0) (.agg #[vi 0,vi 0]) (H2.new (.cells [(.int .i64 0),(.int .i64 0)] none))=some (H2.new (.cells [vi 0,vi 0] none)):=two_store (z:=[(.int .i64 0),(.int .i64 0)]) (c:=[vi 0,vi 0]) rfl rfl rfl
 have l2:loadN 2 (ptr H2.next 0) (H2.new (.cells [vi 0,vi 0] none))=some (.agg #[vi 0,vi 0]):=by rw [loadN_ptr,AH.get_new_self]; rfl
 have hbv:buildV [(0,1),(1,1)] #[(.int .i64 0),(.int .i64 0)] []=some (.agg #[vi 0,vi 0]):=rfl
 have hne:binAgg [0,0] .neq (.agg #[vi 0,vi 0]) (.agg #[vi 0,vi 0])=some (vb false):=rfl
 have g3:=g2.new (.cells [vi 0,vi 0] none)
 simp only [allocW_eq,s2,l2,hbv,hne,stdZ]
 generalize H2.new (.cells [vi 0,vi 0] none)=H3 at *
 have g4:=g3.newroom 4
 have hbS:buildS 0 4 #[(.int .u16 0),(.int .u8 0),(.int .u8 0),(.int .u32 0)] []=some (.cells [] none,mkSlc 0 0):=buildS0 4 [u16 0#16,u8 0#8,u8 0#8,u32 0#32] rfl
 obtain ⟨lv,H5,a1,a2,g5⟩:=g4.app (k:=1) (sz:=4) (v:=slc H3.next 0 0 0) (rows:=[]) (new:=insnR c) (x:=v) (bytes:=8) rfl (hv.mono g4.ext) (by intro r hr; obtain ⟨y,_,rfl⟩:=List.mem_map.1 hr; rfl) (by decide) (by decide) (by simp [insnR]; omega) (by simp [insnR]; omega)
 have hbv2:buildV [(0,1),(1,1),(2,1)] #[(.slice none 0 0),(.int .i64 0),(.int .i64 0)] [(0,lv)]=some (.agg #[lv,vi 0,vi 0]):=by
  have:=(g5.rows (k:=1) (sz:=4) (v:=lv) (rows:=[]++insnR c) rfl).at_
  rcases this with ⟨_,c',rfl⟩ | ⟨b,o,c',rfl,_⟩ <;> rfl
 have g6:=g5.newbox [lv,vi 0,vi 0]
 simp only [hbS,AM.mk_some,mkSlc_eq,a1,hbv2,boxO_agg_z,mkPtr_eq_z,List.toList_toArray,stdZ]
 generalize H5.new (.cells [lv,vi 0,vi 0] none)=H6 at *
 generalize H5.next=fb at *
 have hb6:=g6.box (k:=0) (b:=wb) (c:=[(.int .i64 0),(.int .i64 0)]) rfl
 have g7:=g6.put (k:=0) (b:=wb) (c:=[(.int .i64 0),(.int .i64 0)]) rfl [vi 0,vi 0]
 have s7:storeN 2 (ptr wb 0) (.agg #[vi 0,vi 0]) H6=some (H6.put wb (.cells [vi 0,vi 0] none)):=by rw [storeN_ptr,hb6]; rfl
 have b7:=g7.box (k:=0) (b:=wb) (c:=[vi 0,vi 0]) rfl
 have l7:loadN 2 (ptr wb 0) (H6.put wb (.cells [vi 0,vi 0] none))=some (.agg #[vi 0,vi 0]):=by rw [loadN_ptr,b7]; rfl
 simp only [hbv,s7,l7,stdZ]
 exact hQ _ _ ⟨lv,0,0,(g7.drop 0).perm (List.Perm.swap _ _ _)⟩
end
end Go.AM
end
section
namespace Go.AM
set_option maxRecDepth 20000
def partOk (p:PartD):Prop :=
 p.kind=1#8\/p.kind=4#8\/(p.kind=2#8/\((p.insn.code=32#16/\p.insn.k.toNat % 4=0/\p.insn.k.toNat<=60)\/p.insn.code=84#16\/p.insn.code=6#16)) \/
 (p.kind=3#8/\(p.insn.code=21#16\/p.insn.code=37#16\/p.insn.code=53#16))
theorem ok_cons {x:InsnD} {c:List InsnD} (h:okI x c.length) (hc:insnsOk c):insnsOk (x :: c):=by
 intro k hk
 cases k with
 | zero=>simpa using h
 | succ k =>
  have:=hc k (by simpa using hk)
  simp only [List.getElem_cons_succ,List.length_cons]
  have e:c.length+1 - (k+1) - 1=c.length - k - 1:=by omega
  rw [e]; exact this
end Go.AM
end
section
namespace Go.AM
set_option maxRecDepth 20000
def heres (l:List PartD):List Int:=l.filterMap fun p=>if p.kind=1#8 then some p.to else none
end Go.AM
end
section
namespace Go.AM
set_option maxRecDepth 20000
section
variable {E:Sy} {H H' H0 Z:AH} {Q:Value->AH->Prop} {X:List Res} {lw m:Nat} {s:LwD}
theorem big_put (s:LwD) (p:PartD):(s.put p).big=s.big+1:=by simp only [LwD.big,LwD.put,List.length_append,List.length_cons,List.length_nil]; omega
theorem big_new (s:LwD):s.new.big=s.big+1:=by simp only [LwD.big,LwD.new]; omega
theorem big_act (s:LwD) (a:BitVec 32):(s.act a).1.big<=s.big+2:=by
 unfold LwD.act
 split
 ·exact Nat.le_add_right _ _
 ·simp only [LwD.big,List.length_append,List.length_cons,List.length_nil]; omega
theorem Lw.cells (h:Lw H0 Z H lw m s X):∃ lv ov,H.get lw = .cells [lv,vi s.last,vi s.other,.map (some m),ov] none:=by
 obtain ⟨lv,ov,h⟩:=h
 exact ⟨lv,ov,h.box (k:=0) rfl⟩
theorem MapAt.look_nat {r:Nat} {l:List (BitVec 32×Nat)} (h:MapAt u32 natV H r l) (a:BitVec 32) (ok:Bool):AM.look 0 (.int .i64 0) ok (.map (some r)) (u32 a) H=some (if ok then .tuple #[vi ((alook a l).getD 0:Nat),.bool (alook a l).isSome] else vi ((alook a l).getD 0:Nat)):=by
 have:=h.look (kd:=0) same_u32 a (.int .i64 0) ok
 cases hk:alook a l with
 | none=>unfold alook at hk; rw [hk] at this; rw [this]; cases ok <;> rfl
 | some n=>unfold alook at hk; rw [hk] at this; rw [this]; cases ok <;> rfl
theorem Lw.look (h:Lw H0 Z H lw m s X) (a:BitVec 32) (ok:Bool):AM.look 0 (.int .i64 0) ok (.map (some m)) (u32 a) H=some (if ok then .tuple #[vi ((alook a s.acts).getD 0:Nat),.bool (alook a s.acts).isSome] else vi ((alook a s.acts).getD 0:Nat)):=by
 obtain ⟨lv,ov,h⟩:=h
 exact (h.mapAt (k:=2) (fk:=u32) (fv:=natV) (r:=m) (l:=s.acts) rfl).look_nat a ok
theorem S.f50 (hE:Fold E) (h:Lw H0 Z H lw m s X) (hb:s.big<2 ^ 29) (a:BitVec 32) (hQ:∀ H',Lw H0 Z H' lw m (s.act a).1 X->Q (vi ((s.act a).2:Nat)) H'):E.call (E.fid i.f50) [ptr lw 0,u32 a] H Q:=by
 apply hE.f50
 obtain ⟨lv,ov,hbx⟩:=h.cells
 have hl:=h.look a true
 cases hf:alook a s.acts with
 | some n =>
  have hact:s.act a=(s,n):=by unfold LwD.act; rw [hf]
  rw [hf] at hl
  rw [hact] at hQ
  have hl:AM.look 0 (.int .i64 0) true (.map (some m)) (u32 a) H=some (.tuple #[vi n,.bool true]):=hl
  simp only [F.f50,hbx,hl,stdZ]
  exact hQ _ h
 | none =>
  have hact:s.act a=({ s with last:=s.last+1,acts:=aset a (s.last+1) s.acts,order:=s.order++[a] },s.last+1):=by unfold LwD.act; rw [hf]
  rw [hf] at hl
  rw [hact] at hQ
  have hl:AM.look 0 (.int .i64 0) true (.map (some m)) (u32 a) H=some (.tuple #[vi (0:Nat),.bool false]):=hl
  simp only [F.f50,hbx,hl,stdZ]
  refine S.f35 hE h (by omega) fun H1 g =>?_
  obtain ⟨lv,ov,g⟩:=g
  have hb1:=g.box (k:=0) rfl
  obtain ⟨H2,m1,g2⟩:=g.mapset (n:=2) (r:=m) (l:=s.acts) (fk:=u32) (fv:=natV) rfl same_u32 a (s.last+1)
  have m1:setMap 0 (.map (some m)) (u32 a) (vi ((s.last+1:Nat):Int)) H1=some H2:=m1
  have g2:Has H0 Z H2 ([boxR lw [lv,vi ((s.last+1:Nat):Int),vi s.other,.map (some m),ov],growR 7 lv (partR s.parts),mapR u32 natV m (aset a (s.last+1) s.acts),growR 1 ov (a32R s.order)]++X):=g2
  have hb2:=g2.box (k:=0) rfl
  have hlen:(a32R s.order).length<2 ^ 29:=by unfold LwD.big at hb; simp only [a32R,List.length_map]; omega
  obtain ⟨v',H3,a1,a2,g3⟩:=g2.app1 (k:=3) (sz:=1) (v:=ov) (rows:=a32R s.order) (bytes:=4) rfl [u32 a] rfl rfl (by decide) (by decide) (by omega)
  have hbS:buildS 1 1 #[(.int .u32 0)] [(0,u32 a)]=some (.cells [u32 a] none,mkSlc 1 1):=buildS_one 1 [u32 0#32] [u32 a] rfl rfl
  have g3:Has H0 Z H3 ([boxR lw [lv,vi ((s.last+1:Nat):Int),vi s.other,.map (some m),ov],growR 7 lv (partR s.parts),mapR u32 natV m (aset a (s.last+1) s.acts),growR 1 v' (a32R s.order++[[u32 a]])]++X):=g3
  have hb3:=g3.box (k:=0) rfl
  have hst:store1 (ptr lw 4) v' H3=some (H3.put lw (.cells [lv,vi ((s.last+1:Nat):Int),vi s.other,.map (some m),v'] none)):=by
   rw [store1_ptr,if_pos a2,hb3]; rfl
  have g4:=g3.put (k:=0) rfl [lv,vi ((s.last+1:Nat):Int),vi s.other,.map (some m),v']
  simp only [hb1,m1,hb2,hbS,mkSlc_eq,AM.mk_some,a1,hst,stdZ]
  refine hQ _ ⟨lv,v',?_⟩
  have hr:a32R (s.order++[a])=a32R s.order++[[u32 a]]:=by simp [a32R]
  show Has H0 Z _ (boxR lw [lv,vi ((s.last+1:Nat):Int),vi s.other,.map (some m),v'] :: growR 7 lv (partR s.parts) :: mapR u32 natV m (aset a (s.last+1) s.acts) :: growR 1 v' (a32R (s.order++[a])) :: X)
  rw [hr]
  exact g4
theorem S.f56 (hE:Fold E) (h:Lw H0 Z H lw m s X) (hb:s.big<2 ^ 29) (c:CondD) (n:Nat) (hQ:∀ H',Lw H0 Z H' lw m (s.second c n) X->Q (.tuple #[]) H'):E.call (E.fid i.f56) [ptr lw 0,c.v,vi n] H Q:=by
 apply hE.f56
 have h1:=h.newbox c.cells
 simp only [F.f56,boxO_agg_z,AM.mk_some,mkPtr_eq_z,List.toList_toArray,stdZ]
 generalize H.new (.cells c.cells none)=H1 at *
 generalize H.next=t at *
 refine S.f33 hE h1 (by omega) n fun H2 h2 =>?_
 have hbx:=h2.box
 have c0:c.cells[0]? = some (vi c.arg):=rfl
 simp only [hbx,c0,stdZ]
 refine S.f82 hE c.arg false ?_
 refine S.f18 hE _ fun H3 e3 =>?_
 have hv:∀ k,insnV 32 0 0 k=(iLoad k).v:=fun _=>rfl
 rw [hv]
 refine S.f37 hE (h2.grow e3) (by rw [big_put]; omega) _ fun H4 h4 =>?_
 exact hQ _ h4.dropLast
theorem big_second (s:LwD) (c:CondD) (n:Nat):(s.second c n).big=s.big+2:=by unfold LwD.second; rw [big_put,big_put]
end
end Go.AM
end
section
namespace Go.AM
set_option maxRecDepth 20000
section
variable {E:Sy} {H H' H0 Z:AH} {Q:Value->AH->Prop} {X:List Res} {lw m:Nat} {s:LwD}
theorem Lw.cload {t:Nat} {c:CondD} (h:Lw H0 Z H lw m s (X++[boxR t c.cells])):loadN 4 (ptr t 0) H=some c.v:=by
 rw [loadN_ptr,h.box,row_all _ _ 4 rfl]; rfl
theorem S.f55 (hE:Fold E) (h:Lw H0 Z H lw m s X) (hb:s.big<2 ^ 28) (c:CondD) (how:BitVec 16) (yes no:Nat) (hQ:∀ H',Lw H0 Z H' lw m (s.order64 c how yes no) X->Q (.tuple #[]) H'):E.call (E.fid i.f55) [ptr lw 0,c.v,u16 how,vi yes,vi no] H Q:=by
 apply hE.f55
 have h1:=h.newbox c.cells
 have hb1:=AH.get_new_self H (.cells c.cells none)
 have c3:c.cells[3]? = some (u64 c.value):=rfl
 have k32:(.int .u16 32:Value)=u16 32#16:=rfl
 have k16:(.int .u16 16:Value)=u16 16#16:=rfl
 have ks:binInt .shr (u64 c.value) (.int .u64 32)=some (u64 (c.value >>> 32)):=u64_shr_lit _ _ 32
 have kh:convInt .u32 (u64 (c.value >>> 32))=some (u32 (hi32 c.value)):=u64_to_u32 _
 have kl:convInt .u32 (u64 c.value)=some (u32 (lo32 c.value)):=u64_to_u32 _
 simp only [F.f55,boxO_agg_z,AM.mk_some,mkPtr_eq_z,List.toList_toArray,hb1,c3,ks,kh,kl,k32,k16,stdZ]
 generalize H.new (.cells c.cells none)=H1 at *
 generalize H.next=t at *
 refine S.f35 hE h1 (by omega) fun H2 h2 =>?_
 refine S.f35 hE h2 (by rw [big_new]; omega) fun H3 h3 =>?_
 refine S.f34 hE h3 (by simp only [big_new]; omega) 32#16 _ _ _ fun H4 h4 =>?_
 refine S.f33 hE h4 (by simp only [big_new,big_put]; omega) _ fun H5 h5 =>?_
 refine S.f34 hE h5 (by simp only [big_new,big_put]; omega) 16#16 _ _ _ fun H6 h6 =>?_
 have b6:=h6.cload
 simp only [b6,stdZ]
 refine S.f56 hE h6 (by simp only [big_new,big_put]; omega) c _ fun H7 h7 =>?_
 refine S.f34 hE h7 (by simp only [big_new,big_put,big_second]; omega) how _ _ _ fun H8 h8 =>?_
 exact hQ _ h8.dropLast
theorem big_order64 (s:LwD) (c:CondD) (how:BitVec 16) (yes no:Nat):(s.order64 c how yes no).big=s.big+8:=by
 unfold LwD.order64
 simp only [big_new,big_put,big_second]
theorem big_condOn (s:LwD) (c:CondD) (next yes no:Nat):(s.condOn c next yes no).big<=s.big+8:=by
 unfold LwD.condOn
 repeat' split
 all_goals simp only [big_new,big_put,big_second,big_order64] <;> omega
theorem big_cond (s:LwD) (c:CondD) (yes no:Nat):(s.cond c yes no).big<=s.big+10:=by
 unfold LwD.cond
 have:=big_condOn (s.new.put (pPlain (iLoad (halfOf c.arg true)))) c (s.last+1) yes no
 simp only [big_new,big_put] at this
 omega
theorem S.f53 (hE:Fold E) (h:Lw H0 Z H lw m s X) (hb:s.big<2 ^ 27) (c:CondD) (yes no:Nat) (hQ:∀ H',Lw H0 Z H' lw m (s.cond c yes no) X->Q (.tuple #[]) H'):E.call (E.fid i.f53) [ptr lw 0,c.v,vi yes,vi no] H Q:=by
 apply hE.f53
 have h1:=h.newbox c.cells
 have hb1:=AH.get_new_self H (.cells c.cells none)
 have c0:c.cells[0]? = some (vi c.arg):=rfl
 have c1:c.cells[1]? = some (u8 c.op):=rfl
 have c2:c.cells[2]? = some (u64 c.mask):=rfl
 have c3:c.cells[3]? = some (u64 c.value):=rfl
 have k16:(.int .u16 16:Value)=u16 16#16:=rfl
 have k32:(.int .u16 32:Value)=u16 32#16:=rfl
 have k48:(.int .u16 48:Value)=u16 48#16:=rfl
 have q1:(.int .u8 1:Value)=u8 1#8:=rfl
 have q2:(.int .u8 2:Value)=u8 2#8:=rfl
 have q3:(.int .u8 3:Value)=u8 3#8:=rfl
 have q4:(.int .u8 4:Value)=u8 4#8:=rfl
 have q5:(.int .u8 5:Value)=u8 5#8:=rfl
 have q6:(.int .u8 6:Value)=u8 6#8:=rfl
 have q7:(.int .u8 7:Value)=u8 7#8:=rfl
 have ks:∀ x:BitVec 64,binInt .shr (u64 x) (.int .u64 32)=some (u64 (x >>> 32)):=fun x=>u64_shr_lit _ _ 32
 have kh:∀ x:BitVec 64,convInt .u32 (u64 (x >>> 32))=some (u32 (hi32 x)):=fun x=>u64_to_u32 _
 have kl:∀ x:BitVec 64,convInt .u32 (u64 x)=some (u32 (lo32 x)):=fun x=>u64_to_u32 _
 simp only [F.f53,boxO_agg_z,AM.mk_some,mkPtr_eq_z,List.toList_toArray,hb1,c3,ks,kh,kl,stdZ]
 generalize H.new (.cells c.cells none)=H1 at *
 generalize H.next=t at *
 refine S.f35 hE h1 (by omega) fun H2 h2 =>?_
 have b2:=h2.box
 simp only [b2,c0,stdZ]
 refine S.f82 hE c.arg true ?_
 refine S.f18 hE _ fun H3 e3 =>?_
 have hv:∀ k,insnV 32 0 0 k=(iLoad k).v:=fun _=>rfl
 rw [hv]
 refine S.f37 hE (h2.grow e3) (by rw [big_new]; omega) _ fun H5 h5 =>?_
 have b5:=h5.box
 have l5:=h5.cload
 have hbg:(s.new.put (pPlain (iLoad (halfOf c.arg true)))).big=s.big+2:=by simp only [big_new,big_put]
 have h5:Lw H0 Z H5 lw m (s.new.put (pPlain (iLoad (halfOf c.arg true)))) (X++[boxR t c.cells]):=h5
 unfold LwD.cond at hQ
 generalize s.new.put (pPlain (iLoad (halfOf c.arg true)))=s5 at *
 simp only [b5,c1,q1,u8_eql,stdZ]
 by_cases o1:c.op=1#8
 ·have hc:∀ n,s5.condOn c n yes no=((s5.put (pIf 16#16 (hi32 c.value) n no)).second c n).put (pIf 16#16 (lo32 c.value) yes no):=fun n=>by unfold LwD.condOn; rw [if_pos o1]
  have hd:decide (c.op=1#8)=true:=by simpa using o1
  rw [hc] at hQ
  simp only [hd,k16,stdZ]
  refine S.f34 hE h5 (by omega) 16#16 _ _ _ fun H6 h6 =>?_
  have b6:=h6.cload
  simp only [b6,stdZ]
  refine S.f56 hE h6 (by simp only [big_put]; omega) c _ fun H7 h7 =>?_
  refine S.f34 hE h7 (by simp only [big_put,big_second]; omega) 16#16 _ _ _ fun H8 h8 =>?_
  exact hQ _ h8.dropLast
 have hd1:decide (c.op=1#8)=false:=by simpa using o1
 simp only [hd1,q2,u8_eql,stdZ]
 by_cases o2:c.op=2#8
 ·have hc:∀ n,s5.condOn c n yes no=((s5.put (pIf 16#16 (hi32 c.value) n yes)).second c n).put (pIf 16#16 (lo32 c.value) no yes):=fun n=>by unfold LwD.condOn; rw [if_neg o1,if_pos o2]
  have hd:decide (c.op=2#8)=true:=by simpa using o2
  rw [hc] at hQ
  simp only [hd,k16,stdZ]
  refine S.f34 hE h5 (by omega) 16#16 _ _ _ fun H6 h6 =>?_
  have b6:=h6.cload
  simp only [b6,stdZ]
  refine S.f56 hE h6 (by simp only [big_put]; omega) c _ fun H7 h7 =>?_
  refine S.f34 hE h7 (by simp only [big_put,big_second]; omega) 16#16 _ _ _ fun H8 h8 =>?_
  exact hQ _ h8.dropLast
 have hd2:decide (c.op=2#8)=false:=by simpa using o2
 simp only [hd2,q5,u8_eql,stdZ]
 by_cases o5:c.op=5#8
 ·have hc:∀ n,s5.condOn c n yes no=s5.order64 c 32#16 yes no:=fun n=>by unfold LwD.condOn; rw [if_neg o1,if_neg o2,if_pos o5]
  have hd:decide (c.op=5#8)=true:=by simpa using o5
  rw [hc] at hQ
  simp only [hd,l5,k32,stdZ]
  exact S.f55 hE h5 (by omega) c 32#16 _ _ fun H6 h6=>hQ _ h6.dropLast
 have hd5:decide (c.op=5#8)=false:=by simpa using o5
 simp only [hd5,q6,u8_eql,stdZ]
 by_cases o6:c.op=6#8
 ·have hc:∀ n,s5.condOn c n yes no=s5.order64 c 48#16 yes no:=fun n=>by unfold LwD.condOn; rw [if_neg o1,if_neg o2,if_neg o5,if_pos o6]
  have hd:decide (c.op=6#8)=true:=by simpa using o6
  rw [hc] at hQ
  simp only [hd,l5,k48,stdZ]
  exact S.f55 hE h5 (by omega) c 48#16 _ _ fun H6 h6=>hQ _ h6.dropLast
 have hd6:decide (c.op=6#8)=false:=by simpa using o6
 simp only [hd6,q3,u8_eql,stdZ]
 by_cases o3:c.op=3#8
 ·have hc:∀ n,s5.condOn c n yes no=s5.order64 c 48#16 no yes:=fun n=>by unfold LwD.condOn; rw [if_neg o1,if_neg o2,if_neg o5,if_neg o6,if_pos o3]
  have hd:decide (c.op=3#8)=true:=by simpa using o3
  rw [hc] at hQ
  simp only [hd,l5,k48,stdZ]
  exact S.f55 hE h5 (by omega) c 48#16 _ _ fun H6 h6=>hQ _ h6.dropLast
 have hd3:decide (c.op=3#8)=false:=by simpa using o3
 simp only [hd3,q4,u8_eql,stdZ]
 by_cases o4:c.op=4#8
 ·have hc:∀ n,s5.condOn c n yes no=s5.order64 c 32#16 no yes:=fun n=>by unfold LwD.condOn; rw [if_neg o1,if_neg o2,if_neg o5,if_neg o6,if_neg o3,if_pos o4]
  have hd:decide (c.op=4#8)=true:=by simpa using o4
  rw [hc] at hQ
  simp only [hd,l5,k32,stdZ]
  exact S.f55 hE h5 (by omega) c 32#16 _ _ fun H6 h6=>hQ _ h6.dropLast
 have hd4:decide (c.op=4#8)=false:=by simpa using o4
 simp only [hd4,q7,u8_eql,stdZ]
 by_cases o7:c.op=7#8
 ·have hc:∀ n,s5.condOn c n yes no=((((s5.put (pPlain (iMask (hi32 c.mask)))).put (pIf 16#16 (hi32 c.value) n no)).second c n).put (pPlain (iMask (lo32 c.mask)))).put (pIf 16#16 (lo32 c.value) yes no):=fun n=>by unfold LwD.condOn; rw [if_neg o1,if_neg o2,if_neg o5,if_neg o6,if_neg o3,if_neg o4,if_pos o7]
  have hd:decide (c.op=7#8)=true:=by simpa using o7
  have hm:∀ k,insnV 84 0 0 k=(iMask k).v:=fun _=>rfl
  rw [hc] at hQ
  simp only [hd,b5,c2,ks,kh,stdZ]
  refine S.f19 hE _ fun H6 e6 =>?_
  rw [hm]
  refine S.f37 hE (h5.grow e6) (by omega) _ fun H7 h7 =>?_
  simp only [k16,stdZ]
  refine S.f34 hE h7 (by simp only [big_put]; omega) 16#16 _ _ _ fun H8 h8 =>?_
  have b8:=h8.cload
  simp only [b8,stdZ]
  refine S.f56 hE h8 (by simp only [big_put]; omega) c _ fun H9 h9 =>?_
  have b9:=h9.box
  simp only [b9,c2,kl,stdZ]
  refine S.f19 hE _ fun H10 e10 =>?_
  rw [hm]
  refine S.f37 hE (h9.grow e10) (by simp only [big_put,big_second]; omega) _ fun H11 h11 =>?_
  simp only [k16,stdZ]
  refine S.f34 hE h11 (by simp only [big_put,big_second]; omega) 16#16 _ _ _ fun H12 h12 =>?_
  exact hQ _ h12.dropLast
 have hd7:decide (c.op=7#8)=false:=by simpa using o7
 have hc:∀ n,s5.condOn c n yes no=s5.put (pGoto no):=fun n=>by unfold LwD.condOn; rw [if_neg o1,if_neg o2,if_neg o5,if_neg o6,if_neg o3,if_neg o4,if_neg o7]
 rw [hc] at hQ
 simp only [hd7,stdZ]
 exact S.f32 hE h5 (by omega) no fun H6 h6=>hQ _ h6.dropLast
end
end Go.AM
end
section
namespace Go.AM
set_option maxRecDepth 20000
def wC (b:BranchD):Nat:=12*b.conds.length+5
def wB (l:List BranchD):Nat:=(l.map wC).sum+1
section
variable {E:Sy} {H H' H0 Z:AH} {Q:Value->AH->Prop} {X:List Res} {lw m:Nat} {s:LwD}
theorem Ext.row (e:Ext H H') {b o n:Nat} {c:List Value} (hr:(H.get b).row o n=some c):(H'.get b).row o n=some c:=by
 have:H'.get b=H.get b:=e.obj (o:=H.get b) (fun hd=>by rw [hd] at hr; cases hr) rfl
 rw [this]; exact hr
theorem conds_take (no:Nat) (l:List CondD) (s:LwD) {j:Nat} (hj:j<l.length):LwD.conds no (l.take (j+1)) s=LwD.condStep no (LwD.conds no (l.take j) s) l[j]:=by
 unfold LwD.conds
 rw [List.take_succ,List.getElem?_eq_getElem hj,List.foldl_append]; rfl
theorem big_conds (no:Nat):∀ (l:List CondD) (s:LwD),(LwD.conds no l s).big<=s.big+12*l.length
 | [],s=>by simp [LwD.conds]
 | c :: l,s=>by
  have h1:=big_conds no l (LwD.condStep no s c)
  have h2:(LwD.condStep no s c).big<=s.big+12:=by
   unfold LwD.condStep
   have:=big_cond s.new c (s.last+1) no
   simp only [big_put,big_new] at *
   omega
  show (LwD.conds no l (LwD.condStep no s c)).big<=_
  simp only [List.length_cons]
  omega
theorem big_branch (s:LwD) (b:BranchD):(s.branch b).big<=s.big+wC b:=by
 unfold LwD.branch wC
 have h1:=big_conds (s.last+1) b.conds s.new
 have h2:=big_act (LwD.conds (s.last+1) b.conds s.new) b.action
 simp only [big_put,big_new] at *
 omega
theorem big_foldb:∀ (l:List BranchD) (s:LwD),(l.foldl LwD.branch s).big<=s.big+(l.map wC).sum
 | [],s=>by simp
 | b :: l,s=>by
  have h1:=big_foldb l (s.branch b)
  have h2:=big_branch s b
  simp only [List.foldl_cons,List.map_cons,List.sum_cons]
  omega
theorem big_branches (l:List BranchD) (s:LwD):(LwD.branches l s).big<=s.big+wB l:=by
 unfold LwD.branches wB
 have:=big_foldb l s
 simp only [big_put]
 omega
theorem branches_l2 (hE:Fold E) {b:BranchD} {cv:Value} (hv:Rows H0 4 cv (condR b.conds)) {tb:Nat} (h:Lw H0 Z H lw m s (X++[boxR tb [cv,u32 b.action]])) (hb:s.big+12*b.conds.length<2 ^ 25) (no:Nat) (hl:b.conds.length<2 ^ 30) {t10:Value} {ln j:Nat} (hj:j<2 ^ 30) {X0:List Value->AH->Prop}
  (next:∀ H',Lw H0 Z H' lw m ((((LwD.conds no b.conds s).act b.action).1.put (pGoto ((LwD.conds no b.conds s).act b.action).2)).put (pHere no)) X->X0 [ptr lw 0,t10,vi ln,vi ((j+1:Nat):Int)] H') :
  LoopL (fun l H X1=>F.f51_l2 E Q X0 (nth l 0) (nth l 1) (nth l 2) (nth l 3) (nth l 4) (nth l 5) (nth l 6) (nth l 7) (nth l 8) H X1) [ptr lw 0,ptr tb 0,vi no,t10,vi ln,vi j,cv,vi b.conds.length,(.int .i64 0)] H:=by
 have i0:(.int .i64 0:Value)=vi ((0:Nat):Int):=rfl
 rw [i0]
 refine LoopL.count b.conds.length (fun k ls H'=>ls=[ptr lw 0,ptr tb 0,vi no,t10,vi ln,vi j,cv,vi b.conds.length,vi k]/\Lw H0 Z H' lw m (LwD.conds no (b.conds.take k) s) (X++[boxR tb [cv,u32 b.action]])) ?_ ⟨rfl,by simpa [LwD.conds] using h⟩
 rintro k _ H1 X1 hk ih ⟨rfl,g⟩
 rcases Nat.lt_or_ge k b.conds.length with hlt | hge
 ·have hc:=hv.mono g.ext
  obtain ⟨bb,o,f1,f2⟩:=hc.ix (i:=k) (by simpa [condR] using hlt)
  have hrow:(condR b.conds)[k]'(by simpa [condR] using hlt)=b.conds[k].cells:=by simp [condR]
  rw [hrow] at f2
  have lo:loadN 4 (ptr bb o) H1=some b.conds[k].v:=by rw [loadN_ptr,f2]; rfl
  have hlt':(k:Int)<b.conds.length:=by omega
  have hbg:=big_conds no (b.conds.take k) s
  have hln:(b.conds.take k).length=k:=by rw [List.length_take]; omega
  rw [hln] at hbg
  have hnext:=conds_take no b.conds s hlt
  have hinc:=i64_inc (i:=k) (by omega)
  generalize b.conds[k]=c at *
  generalize LwD.conds no (b.conds.take k) s=s1 at *
  have g1:=g.newbox c.cells
  have hst:=cond_new c H1
  simp only [F.f51_l2,i64_lss,hlt',decide_true,f1,lo,allocW_eq,hst,stdZ]
  generalize H1.new (.cells c.cells none)=H2 at *
  generalize H1.next=t at *
  refine S.f35 hE g1 (by omega) fun H3 g2 =>?_
  have l2:=g2.cload
  simp only [l2,stdZ]
  refine S.f53 hE g2 (by simp only [big_new]; omega) c _ _ fun H4 g3 =>?_
  have hb4:=big_cond s1.new c (s1.last+1) no
  simp only [big_new] at hb4
  simp only [stdZ]
  refine S.f33 hE g3 (by omega) _ fun H5 g4 =>?_
  simp only [hinc,stdZ]
  refine ih hlt _ _ ⟨rfl,?_⟩
  rw [hnext]
  exact g4.dropLast
 ·have hke:k=b.conds.length:=by omega
  subst hke
  rw [List.take_length] at g
  have hlt':¬ ((b.conds.length:Int)<b.conds.length):=by omega
  have hbg:=big_conds no b.conds s
  have hbx:=g.box
  have hinc:=i64_inc (i:=j) (by omega)
  generalize LwD.conds no b.conds s=s1 at *
  simp only [F.f51_l2,i64_lss,hlt',decide_false,hbx,stdZ]
  refine S.f50 hE g (by omega) _ fun H2 g2 =>?_
  have hb2:=big_act s1 b.action
  refine S.f32 hE g2 (by omega) _ fun H3 g3 =>?_
  simp only [stdZ]
  refine S.f33 hE g3 (by simp only [big_put]; omega) _ fun H4 g4 =>?_
  simp only [hinc,stdZ]
  exact next _ g4.dropLast
theorem S.f51 (hE:Fold E) {l:List BranchD} {v:Value} (hv:SliceOf (BranchAt 0) H0 2 v l) (h:Lw H0 Z H lw m s X) (hb:s.big+wB l<2 ^ 25) (hl:l.length<2 ^ 30) (hQ:∀ H',Lw H0 Z H' lw m (LwD.branches l s) X->Q (.tuple #[]) H'):E.call (E.fid i.f51) [ptr lw 0,v] H Q:=by
 apply hE.f51
 have i0:(.int .i64 0:Value)=vi ((0:Nat):Int):=rfl
 have hlv:=hv.lenSlc
 simp only [F.f51,hlv,i0,stdZ]
 refine LoopL.count l.length (fun k ls H'=>ls=[ptr lw 0,v,vi l.length,vi k]/\Lw H0 Z H' lw m ((l.take k).foldl LwD.branch s) X) ?_ ⟨rfl,by simpa using h⟩
 rintro k _ H1 X1 hk ih ⟨rfl,g⟩
 have hbg:=big_foldb (l.take k) s
 rcases Nat.lt_or_ge k l.length with hlt | hge
 ·obtain ⟨bb,o,cs,f1,f2,f3⟩:=hv.ix hlt
  have f2:=g.ext.row f2
  obtain ⟨f0,cv,rfl,f5,_⟩:=f3
  have hcv:plain1 cv=true:=f5.plain
  have lo:loadN 2 (ptr bb o) H1=some (.agg [cv,u32 l[k].action].toArray):=by rw [loadN_ptr,f2]; rfl
  have hlt':(k:Int)<l.length:=by omega
  have hsum:((l.take k).map wC).sum+wC l[k]<=(l.map wC).sum:=by
   have h1:l=l.take k++l[k] :: l.drop (k+1):=by rw [List.getElem_cons_drop,List.take_append_drop]
   conv=>rhs; rw [h1]
   simp only [List.map_append,List.map_cons,List.sum_append,List.sum_cons]
   omega
  have hstep:(l.take (k+1)).foldl LwD.branch s=((l.take k).foldl LwD.branch s).branch l[k]:=by
   rw [List.take_succ,List.getElem?_eq_getElem hlt,List.foldl_append]; rfl
  have hbr:=big_branch ((l.take k).foldl LwD.branch s) l[k]
  unfold wB at hb
  generalize l[k]=b at *
  generalize (l.take k).foldl LwD.branch s=s1 at *
  have hst:storeN 2 (ptr H1.next 0) (.agg [cv,u32 b.action].toArray) (H1.new (.cells [(.slice none 0 0),(.int .u32 0)] none))=some (H1.new (.cells [cv,u32 b.action] none)):=two_store rfl rfl (by simp [hcv])
  have g1:=g.newbox [cv,u32 b.action]
  simp only [F.f51_l1,i64_lss,hlt',decide_true,f1,lo,allocW_eq,hst,stdZ]
  generalize H1.new (.cells [cv,u32 b.action] none)=H2 at *
  generalize H1.next=t at *
  have hwc:wC b=12*b.conds.length+5:=rfl
  rw [hwc] at hsum hbr
  refine S.f35 hE g1 (by omega) fun H3 g2 =>?_
  have b3:=g2.box
  have hcl:=f5.lenSlc
  have hcl2:(condR b.conds).length=b.conds.length:=by simp [condR]
  rw [hcl2] at hcl
  simp only [b3,hcl,stdZ]
  refine branches_l2 hE f5 g2 (by simp only [big_new]; omega) _ f0 (by omega) fun H4 g3 =>?_
  refine ih hlt _ _ ⟨rfl,?_⟩
  rw [hstep]
  exact g3
 ·have hke:k=l.length:=by omega
  subst hke
  rw [List.take_length] at g hbg
  have hlt':¬ ((l.length:Int)<l.length):=by omega
  obtain ⟨lv,ov,hbx⟩:=g.cells
  unfold wB at hb
  unfold LwD.branches at hQ
  simp only [F.f51_l1,i64_lss,hlt',decide_false,hbx,stdZ]
  exact S.f32 hE g (by omega) _ hQ
end
end Go.AM
end
section
namespace Go.AM
set_option maxRecDepth 20000
section
variable {E:Sy} {H H' H0 Z:AH} {Q:Value->AH->Prop} {X:List Res} {lw m:Nat} {s:LwD}
theorem SliceOf.cut {α:Type} {R:AH->α->List Value->Prop} {sz:Nat} {v:Value} {l:List α} (h:SliceOf R H sz v l) {lo hi:Option Value} {i j:Nat} (hlo:lo=some (vi i)\/lo=none/\i=0) (hhi:hi=some (vi j)\/hi=none/\j=l.length) (hij:i<=j) (hj:j<=l.length) :
  SliceOf R H sz (sliceV sz v i j) ((l.take j).drop i):=by
 obtain ⟨rows,h1,h2,h3⟩:=h
 obtain ⟨a,b⟩:=h1.slice' (lo:=some (vi i)) (hi:=some (vi j)) (.inl rfl) (.inl rfl) hij (by omega)
 refine ⟨_,b,by simp [h2],fun k k1 k2 =>?_⟩
 simp only [List.getElem_drop,List.getElem_take]
 exact h3 _ _ _
theorem SliceOf.sl {α:Type} {R:AH->α->List Value->Prop} {sz:Nat} {v:Value} {l:List α} (h:SliceOf R H0 sz v l) (hm:∀ (H H':AH) (a:α) (c:List Value),R H a c->Sub H H'->R H' a c) (e:Ext H0 H) {lo hi:Option Value} {i j:Nat} (hlo:lo=some (vi i)\/lo=none/\i=0) (hhi:hi=some (vi j)\/hi=none/\j=l.length) (hij:i<=j) (hj:j<=l.length) :
  slSlc sz v lo hi none H=some (sliceV sz v i j):=by
 obtain ⟨rows,h1,h2,h3⟩:=h.sub hm e.sub
 exact (h1.slice' hlo (by rw [h2]; exact hhi) hij (by omega)).1
theorem CaseAt.sub':∀ (H H':AH) (a:CaseD) (c:List Value),CaseAt 0 H a c->Sub H H'->CaseAt 0 H' a c:=fun _ _ _ _ h e=>h.sub e
theorem numAt_eq {l:List CaseD} {k:Nat} (hk:k<l.length):numAt l k=l[k].number:=by simp [numAt,hk]
theorem big_choose (st:List (BitVec 32×Nat)):∀ (f:Nat) (l:List CaseD) (s:LwD),l.length<f->(LwD.choose st f l s).big+(if l.length=0 then 0 else 6)<=s.big+7*l.length+1
 | 0,l,s,h=>by omega
 | f+1,l,s,h=>by
  unfold LwD.choose
  split
  ·rename_i h0
   rw [big_put]; omega
  ·rename_i h0
   split
   ·rw [big_put]; omega
   ·have h1:=big_choose st f (l.take (l.length / 2)) ((s.new.new.put (pIf 48#16 (numAt l (l.length / 2)) (s.last+2) (s.last+1))).put (pHere (s.last+1))) (by rw [List.length_take]; omega)
    have h2:=big_choose st f (l.drop (l.length / 2)) ((LwD.choose st f (l.take (l.length / 2)) ((s.new.new.put (pIf 48#16 (numAt l (l.length / 2)) (s.last+2) (s.last+1))).put (pHere (s.last+1)))).put (pHere (s.last+2))) (by rw [List.length_drop]; omega)
    rw [if_neg (by rw [List.length_take]; omega),List.length_take] at h1
    rw [if_neg (by rw [List.length_drop]; omega),List.length_drop] at h2
    simp only [big_put,big_new] at *
    omega
theorem S.f52 (hE:Fold E) {st:List (BitVec 32×Nat)} {sm:Nat}:∀ (f:Nat) {l:List CaseD} {v:Value} {s:LwD} {H:AH} {Q:Value->AH->Prop},l.length<f->SliceOf (CaseAt 0) H0 2 v l->Lw H0 Z H lw m s (mapR u32 natV sm st :: X)->s.big+7*l.length+1<2 ^ 25 ->
  (∀ H',Lw H0 Z H' lw m (LwD.choose st f l s) (mapR u32 natV sm st :: X)->Q (.tuple #[]) H')->E.call (E.fid i.f52) [ptr lw 0,v,.map (some sm)] H Q
 | 0,_,_,_,_,_,hf,_,_,_,_=>by omega
 | f+1,l,v,s,H,Q,hf,hv,h,hb,hQ=>by
  apply hE.f52
  have hlv:=hv.lenSlc
  have i0:(.int .i64 0:Value)=vi ((0:Nat):Int):=rfl
  have i1:(.int .i64 1:Value)=vi ((1:Nat):Int):=rfl
  obtain ⟨lv,ov,hbx⟩:=h.cells
  have k16:(.int .u16 16:Value)=u16 16#16:=rfl
  have k48:(.int .u16 48:Value)=u16 48#16:=rfl
  unfold LwD.choose at hQ
  simp only [F.f52,hlv,i0,i64_eql,stdZ]
  by_cases h0:l.length=0
  ·have hd:decide ((l.length:Int)=((0:Nat):Int))=true:=decide_eq_true (by omega)
   rw [if_pos h0] at hQ
   simp only [hd,hbx,stdZ]
   exact S.f32 hE h (by omega) _ hQ
  have hd0:decide ((l.length:Int)=((0:Nat):Int))=false:=decide_eq_false (by omega)
  rw [if_neg h0] at hQ
  simp only [hd0,i1,i64_eql,stdZ]
  by_cases h1:l.length=1
  ·have hd:decide ((l.length:Int)=((1:Nat):Int))=true:=decide_eq_true (by omega)
   rw [if_pos h1,numAt_eq (by omega)] at hQ
   obtain ⟨bb,o,cs,f1,f2,f3⟩:=hv.ix (i:=0) (by omega)
   have f2:=h.ext.row f2
   have f1:ixSlc 2 v (.int .i64 0)=some (ptr bb o):=f1
   obtain ⟨bv,rfl,_⟩:=f3
   have hce:((H.get bb).cell o)=some (u32 l[0].number):=by have:=row_at f2 (j:=0) (by omega); simpa using this
   have hlk:AM.look 0 (.int .i64 0) false (.map (some sm)) (u32 l[0].number) H=some (vi (getN l[0].number st:Nat)):=by
    obtain ⟨lv,ov,h⟩:=h
    exact (h.mapAt (k:=4) (fk:=u32) (fv:=natV) (r:=sm) (l:=st) rfl).look_nat l[0].number false
   simp only [hd,f1,hce,hlk,hbx,k16,stdZ]
   exact S.f34 hE h (by omega) 16#16 _ _ _ hQ
  have hd1:decide ((l.length:Int)=((1:Nat):Int))=false:=decide_eq_false (by omega)
  rw [if_neg h1] at hQ
  have hq:=i64_quo_num l.length 2 (by decide) (by omega)
  have hhl:l.length / 2<l.length:=by omega
  have hcl:(l.take (l.length / 2)).length=l.length / 2:=by rw [List.length_take]; omega
  have hcr:(l.drop (l.length / 2)).length=l.length - l.length / 2:=by rw [List.length_drop]
  rw [numAt_eq hhl] at hQ
  obtain ⟨bb,o,cs,f1,f2,f3⟩:=hv.ix (i:=l.length / 2) hhl
  obtain ⟨bv,rfl,_⟩:=f3
  have hlow:=hv.cut (lo:=none) (hi:=some (vi (l.length / 2:Nat))) (i:=0) (j:=l.length / 2) (.inr ⟨rfl,rfl⟩) (.inl rfl) (Nat.zero_le _) (by omega)
  have hhigh:=hv.cut (lo:=some (vi (l.length / 2:Nat))) (hi:=none) (i:=l.length / 2) (j:=l.length) (.inl rfl) (.inr ⟨rfl,rfl⟩) (by omega) (Nat.le_refl _)
  have slow:∀ {H1:AH},Ext H0 H1->slSlc 2 v none (some (vi (l.length / 2:Nat))) none H1=some (sliceV 2 v 0 (l.length / 2)):=fun e=>hv.sl CaseAt.sub' e (.inr ⟨rfl,rfl⟩) (.inl rfl) (Nat.zero_le _) (by omega)
  have shigh:∀ {H1:AH},Ext H0 H1->slSlc 2 v (some (vi (l.length / 2:Nat))) none none H1=some (sliceV 2 v (l.length / 2) l.length):=fun e=>hv.sl CaseAt.sub' e (.inl rfl) (.inr ⟨rfl,rfl⟩) (by omega) (Nat.le_refl _)
  rw [List.drop_zero] at hlow
  rw [List.take_length] at hhigh
  have hbg:=big_choose st f (l.take (l.length / 2)) ((s.new.new.put (pIf 48#16 l[l.length / 2].number (s.last+2) (s.last+1))).put (pHere (s.last+1))) (by omega)
  generalize hhf:l.length / 2=half at *
  simp only [hd1,hlv,hq,stdZ]
  refine S.f35 hE h (by omega) fun H3 g3 =>?_
  refine S.f35 hE g3 (by rw [big_new]; omega) fun H4 g4 =>?_
  have f2:=g4.ext.row f2
  have hce:((H4.get bb).cell o)=some (u32 l[half].number):=by have:=row_at f2 (j:=0) (by omega); simpa using this
  simp only [f1,hce,k48,stdZ]
  refine S.f34 hE g4 (by simp only [big_new]; omega) 48#16 _ _ _ fun H5 g5 =>?_
  refine S.f33 hE g5 (by simp only [big_new,big_put]; omega) _ fun H6 g6 =>?_
  have sl6:=slow g6.ext
  simp only [sl6,stdZ]
  refine S.f52 hE f (by omega) hlow g6 (by simp only [big_new,big_put]; omega) fun H7 g7 =>?_
  simp only [stdZ]
  have hlow0:(l.take half).length≠0:=by omega
  rw [if_neg hlow0] at hbg
  simp only [big_new,big_put] at hbg
  refine S.f33 hE g7 (by show _<_; exact Nat.lt_of_le_of_lt (Nat.le_trans (Nat.le_add_right _ 6) hbg) (by omega)) _ fun H8 g8 =>?_
  have sl8:=shigh g8.ext
  simp only [sl8,stdZ]
  refine S.f52 hE f (by omega) hhigh g8 (by rw [big_put]; exact Nat.lt_of_le_of_lt (Nat.add_le_add_right (Nat.add_le_add_right (Nat.add_le_add_right (Nat.le_sub_of_add_le hbg) 1) _) 1) (by omega)) hQ
end
end Go.AM
end
section
namespace Go.AM
set_option maxRecDepth 20000
section
variable {E:Sy} {H H' H0 Z:AH} {Q:Value->AH->Prop} {X:List Res} {lw m:Nat} {s:LwD}
theorem big_ends:∀ (l:List (BitVec 32)) (A:List (BitVec 32×Nat)) (s:LwD),(l.foldl (LwD.end1 A) s).big=s.big+2*l.length
 | [],_,s=>by simp
 | a :: l,A,s=>by
  rw [List.foldl_cons,big_ends l A _]
  simp only [LwD.end1,big_put,List.length_cons]; omega
theorem S.f54 (hE:Fold E) (h:Lw H0 Z H lw m s X) (hb:s.big<2 ^ 26) (hQ:∀ H',Lw H0 Z H' lw m s.ends X->Q (.tuple #[]) H'):E.call (E.fid i.f54) [ptr lw 0] H Q:=by
 apply hE.f54
 obtain ⟨lv,ov,h⟩:=h
 have hbx:=h.box (k:=0) rfl
 have hrw:=h.rows (k:=3) (sz:=1) (v:=ov) (rows:=a32R s.order) rfl
 have hlen:(a32R s.order).length=s.order.length:=by simp [a32R]
 have hlv:=hrw.lenSlc
 rw [hlen] at hlv
 have i0:(.int .i64 0:Value)=vi ((0:Nat):Int):=rfl
 simp only [F.f54,hbx,hlv,i0,stdZ]
 refine LoopL.count s.order.length (fun k ls H'=>ls=[ptr lw 0,ov,vi s.order.length,vi k]/\∃ s1,s1=(s.order.take k).foldl (LwD.end1 s.acts) s/\s1.acts=s.acts/\s1.order=s.order/\LwO H0 Z H' lw m ov s1 X) ?_ ⟨rfl,s,by simp,rfl,rfl,lv,h⟩
 rintro k _ H1 X1 hk ih ⟨rfl,s1,hs1,ha,ho,lv1,g⟩
 have hob:s.order.length<=s.big:=by unfold LwD.big; omega
 rcases Nat.lt_or_ge k s.order.length with hlt | hge
 ·have hlt':(k:Int)<s.order.length:=by omega
  have hbg:=big_ends (s.order.take k) s.acts s
  rw [<- hs1,List.length_take] at hbg
  have hrw:=g.rows (k:=3) (sz:=1) (v:=ov) (rows:=a32R s1.order) rfl
  rw [ho] at hrw
  obtain ⟨bb,o,f1,f2⟩:=hrw.ix (i:=k) (by omega)
  have hrow:(a32R s.order)[k]'(by omega)=[u32 s.order[k]]:=by simp [a32R]
  rw [hrow] at f2
  have hce:((H1.get bb).cell o)=some (u32 s.order[k]):=by have:=row_at f2 (j:=0) (by omega); simpa using this
  have hb1:=g.box (k:=0) rfl
  have hlk:AM.look 0 (.int .i64 0) false (.map (some m)) (u32 s.order[k]) H1=some (vi (getN s.order[k] s.acts:Nat)):=by
   have:=(g.mapAt (k:=2) (fk:=u32) (fv:=natV) (r:=m) (l:=s1.acts) rfl).look_nat s.order[k] false
   rw [ha] at this
   exact this
  have hstep:(s.order.take (k+1)).foldl (LwD.end1 s.acts) s=LwD.end1 s.acts s1 s.order[k]:=by
   rw [List.take_succ,List.getElem?_eq_getElem hlt,List.foldl_append,<- hs1]; rfl
  have hinc:=i64_inc (i:=k) (by omega)
  generalize s.order[k]=a at *
  simp only [F.f54_l1,i64_lss,hlt',decide_true,f1,hce,hb1,hlk,stdZ]
  refine here_o hE ⟨lv1,g⟩ (by omega) _ fun H2 g2 =>?_
  simp only [stdZ]
  refine S.f20 hE a fun H3 e3 =>?_
  have hv:insnV 6 0 0 a=(iRet a).v:=rfl
  rw [hv]
  refine plain_o hE (g2.grow e3) (by rw [big_put]; omega) _ fun H4 g4 =>?_
  simp only [hinc,stdZ]
  exact ih hlt _ _ ⟨rfl,_,hstep.symm,ha,ho,g4⟩
 ·have hke:k=s.order.length:=by omega
  subst hke
  rw [List.take_length] at hs1
  have hlt':¬ ((s.order.length:Int)<s.order.length):=by omega
  simp only [F.f54_l1,i64_lss,hlt',decide_false,stdZ]
  refine hQ _ ⟨lv1,ov,?_⟩
  unfold LwD.ends
  rw [<- hs1]
  exact g
theorem S.f36 (hE:Fold E) (h:Lw H0 Z H lw m s X) (hb:s.big<2 ^ 30) (hQ:∀ v H',Ext H0 H'->Rows H' 7 v (partR s.parts)->Q v H'):E.call (E.fid i.f36) [ptr lw 0] H Q:=by
 apply hE.f36
 obtain ⟨lv,ov,h⟩:=h
 have g:=h.newroom 7
 have hbx:=g.box (k:=0) (b:=lw) (c:=[lv,vi s.last,vi s.other,.map (some m),ov]) rfl
 have hrw:=g.rows (k:=1) (sz:=7) (v:=lv) (rows:=partR s.parts) rfl
 have hlen:(partR s.parts).length<2 ^ 30:=by unfold LwD.big at hb; simp only [partR,List.length_map]; omega
 have hbS:buildS 0 7 #[(.int .u8 0),(.int .i64 0),(.int .i64 0),(.int .u16 0),(.int .u8 0),(.int .u8 0),(.int .u32 0)] []=some (.cells [] none,mkSlc 0 0):=buildS0 7 [u8 0#8,vi 0,vi 0,u16 0#16,u8 0#8,u8 0#8,u32 0#32] rfl
 have hk:(lwL lw m lv ov s++X++[growR 7 (slc H.next 0 0 0) []])[4+X.length]? = some (growR 7 (slc H.next 0 0 0) []):=by
  have hll:(lwL lw m lv ov s++X).length=4+X.length:=by rw [List.length_append]; rfl
  rw [List.getElem?_append_right (by omega),hll,Nat.sub_self]; rfl
 obtain ⟨v',H3,a1,a2,g2⟩:=g.app (k:=4+X.length) (bytes:=32) hk hrw (by simp [partR,PartD.cells]) (by decide) (by decide) (by simp; omega) (by simp; omega)
 simp only [F.f36,ptr_eql_nil,hbS,AM.mk_some,mkSlc_eq,hbx,a1,stdZ]
 have hl4:4+X.length<(lwL lw m lv ov s++X++[growR 7 (slc H.next 0 0 0) []]).length:=by
  have hll:(lwL lw m lv ov s++X).length=4+X.length:=by rw [List.length_append]; rfl
  rw [List.length_append,hll]; simp
 refine hQ _ _ g2.ext (g2.rows (k:=4+X.length) (sz:=7) ?_)
 rw [List.getElem?_set_self hl4,List.nil_append]
end
end Go.AM
end
section
namespace Go.AM
set_option maxRecDepth 20000
def wK (c:CaseD):Nat:=wB c.branches+1
def wP (p:PlanD):Nat:=20+8*p.cases.length+(p.cases.map wK).sum
section
variable {E:Sy} {H H' H0 Z:AH} {Q:Value->AH->Prop} {X:List Res} {lw m:Nat} {s:LwD}
theorem big_starts:∀ (l:List CaseD) (x:LwD×List (BitVec 32×Nat)),(LwD.starts l x).1.big=x.1.big+l.length
 | [],x=>by simp [LwD.starts]
 | c :: l,x=>by
  show (LwD.starts l (LwD.start1 x c)).1.big=_
  rw [big_starts l]
  simp only [LwD.start1,big_new,List.length_cons]; omega
theorem big_case1 (st:List (BitVec 32×Nat)) (s:LwD) (c:CaseD):(LwD.case1 st s c).big<=s.big+wK c:=by
 unfold LwD.case1 wK
 have:=big_branches c.branches (s.put (pHere (getN c.number st)))
 rw [big_put] at this
 omega
theorem big_cases (st:List (BitVec 32×Nat)):∀ (l:List CaseD) (s:LwD),(LwD.cases st l s).big<=s.big+(l.map wK).sum
 | [],s=>by simp [LwD.cases]
 | c :: l,s=>by
  have h1:=big_cases st l (LwD.case1 st s c)
  have h2:=big_case1 st s c
  show (LwD.cases st l (LwD.case1 st s c)).big<=_
  simp only [List.map_cons,List.sum_cons]
  omega
theorem big_setO (s:LwD) (n:Nat):(s.setO n).big=s.big:=rfl
theorem big_low1 (d:BitVec 32):(low1 d).big<=2:=by
 unfold low1
 have h1:=big_act LwD.zero d
 have h0:LwD.zero.big=0:=rfl
 rw [big_setO]; omega
theorem big_low2 (d:BitVec 32):(low2 d).1.big<=4:=by
 unfold low2
 have h1:=big_act (low1 d) 2147483648#32
 have h0:=big_low1 d
 omega
theorem big_lower0 (d:BitVec 32):(lower0 d).big<=8:=by
 unfold lower0
 have h1:=big_low2 d
 simp only [big_put,big_new]
 omega
theorem Lw.mapset {st:List (BitVec 32×Nat)} {sm:Nat} (h:Lw H0 Z H lw m s (mapR u32 natV sm st :: X)) (k:BitVec 32) (v:Nat):∃ H',setMap 0 (.map (some sm)) (u32 k) (vi v) H=some H'/\Lw H0 Z H' lw m s (mapR u32 natV sm (aset k v st) :: X):=by
 obtain ⟨lv,ov,h⟩:=h
 obtain ⟨H2,m1,g2⟩:=h.mapset (n:=4) (r:=sm) (l:=st) (fk:=u32) (fv:=natV) rfl same_u32 k v
 exact ⟨H2,m1,lv,ov,g2⟩
theorem Lw.look2 {st:List (BitVec 32×Nat)} {sm:Nat} (h:Lw H0 Z H lw m s (mapR u32 natV sm st :: X)) (k:BitVec 32):AM.look 0 (.int .i64 0) false (.map (some sm)) (u32 k) H=some (vi (getN k st:Nat)):=by
 obtain ⟨lv,ov,h⟩:=h
 exact (h.mapAt (k:=4) (fk:=u32) (fv:=natV) (r:=sm) (l:=st) rfl).look_nat k false
theorem Lw.setOther (h:Lw H0 Z H lw m s X) (n:Nat):∃ H',store1 (ptr lw 2) (vi n) H=some H'/\Lw H0 Z H' lw m (s.setO n) X:=by
 obtain ⟨lv,ov,h⟩:=h
 have hbx:=h.box (k:=0) rfl
 have hst:store1 (ptr lw 2) (vi n) H=some (H.put lw (.cells [lv,vi s.last,vi n,.map (some m),ov] none)):=by
  rw [store1_ptr,if_pos (show plain1 (vi n)=true from rfl),hbx]; rfl
 exact ⟨_,hst,lv,ov,h.put (k:=0) rfl [lv,vi s.last,vi n,.map (some m),ov]⟩
theorem sum_take {α:Type} (f:α->Nat) {l:List α} {k:Nat} (hk:k<l.length):((l.take k).map f).sum+f l[k]<=(l.map f).sum:=by
 have h1:l=l.take k++l[k] :: l.drop (k+1):=by rw [List.getElem_cons_drop,List.take_append_drop]
 conv=>rhs; rw [h1]
 simp only [List.map_append,List.map_cons,List.sum_append,List.sum_cons]
 omega
theorem parts_l2 (hE:Fold E) {l:List CaseD} {v:Value} (hv:SliceOf (CaseAt 0) H0 2 v l) (hl:l.length<2 ^ 24) (hlb:∀ c∈l,c.branches.length<2 ^ 30) {st:List (BitVec 32×Nat)} {sm:Nat} (h:Lw H0 Z H lw m s [mapR u32 natV sm st]) (hb:s.big+(l.map wK).sum<2 ^ 25)
  (hQ:∀ v H',Ext H0 H'->Rows H' 7 v (partR (LwD.cases st l s).ends.parts)->Q v H') :
  LoopL (fun l H X0=>F.f49_l2 E Q (nth l 0) (nth l 1) (nth l 2) (nth l 3) (nth l 4) H X0) [ptr lw 0,.map (some sm),v,vi l.length,(.int .i64 0)] H:=by
 have i0:(.int .i64 0:Value)=vi ((0:Nat):Int):=rfl
 rw [i0]
 refine LoopL.count l.length (fun k ls H'=>ls=[ptr lw 0,.map (some sm),v,vi l.length,vi k]/\Lw H0 Z H' lw m (LwD.cases st (l.take k) s) [mapR u32 natV sm st]) ?_ ⟨rfl,by simpa [LwD.cases] using h⟩
 rintro k _ H1 X1 hk ih ⟨rfl,g⟩
 have hbg:=big_cases st (l.take k) s
 rcases Nat.lt_or_ge k l.length with hlt | hge
 ·obtain ⟨bb,o,cs,f1,f2,f3⟩:=hv.ix hlt
  have f2:=g.ext.row f2
  obtain ⟨bv,rfl,f4⟩:=f3
  have hbv:plain1 bv=true:=by obtain ⟨rows,h1,_⟩:=f4; exact h1.plain
  have lo:loadN 2 (ptr bb o) H1=some (.agg [u32 l[k].number,bv].toArray):=by rw [loadN_ptr,f2]; rfl
  have hlt':(k:Int)<l.length:=by omega
  have hsum:=sum_take wK hlt
  have hstep:LwD.cases st (l.take (k+1)) s=LwD.case1 st (LwD.cases st (l.take k) s) l[k]:=by
   unfold LwD.cases
   rw [List.take_succ,List.getElem?_eq_getElem hlt,List.foldl_append]; rfl
  have hlk:=hlb l[k] (List.getElem_mem hlt)
  have hinc:=i64_inc (i:=k) (by omega)
  generalize l[k]=c at *
  generalize LwD.cases st (l.take k) s=s1 at *
  have hst:storeN 2 (ptr H1.next 0) (.agg [u32 c.number,bv].toArray) (H1.new (.cells [(.int .u32 0),(.slice none 0 0)] none))=some (H1.new (.cells [u32 c.number,bv] none)):=two_store rfl rfl (by simp [hbv])
  have g1:=g.newbox [u32 c.number,bv]
  have b1:=g1.box
  have k1:=g1.look2 c.number
  have hw:wK c=wB c.branches+1:=rfl
  simp only [F.f49_l2,i64_lss,hlt',decide_true,f1,lo,allocW_eq,hst,b1,k1,stdZ]
  generalize H1.new (.cells [u32 c.number,bv] none)=H2 at *
  generalize H1.next=t at *
  refine S.f33 hE g1 (by omega) _ fun H3 g2 =>?_
  have b3:=g2.box
  simp only [b3,stdZ]
  refine S.f51 hE f4 g2 (by rw [big_put]; omega) hlk fun H4 g3 =>?_
  simp only [hinc,stdZ]
  refine ih hlt _ _ ⟨rfl,?_⟩
  rw [hstep]
  exact g3.dropLast (X:=[mapR u32 natV sm st])
 ·have hke:k=l.length:=by omega
  subst hke
  rw [List.take_length] at g hbg
  have hlt':¬ ((l.length:Int)<l.length):=by omega
  simp only [F.f49_l2,i64_lss,hlt',decide_false,stdZ]
  refine S.f54 hE g (by omega) fun H2 g2 =>?_
  have hbe:=big_ends (LwD.cases st l s).order (LwD.cases st l s).acts (LwD.cases st l s)
  have hob:(LwD.cases st l s).order.length<=(LwD.cases st l s).big:=by unfold LwD.big; omega
  simp only [stdZ]
  refine S.f36 hE g2 ?_ hQ
  show ((LwD.cases st l s).order.foldl (LwD.end1 (LwD.cases st l s).acts) (LwD.cases st l s)).big<_
  omega
theorem S.f49 (hE:Fold E) (p:PlanD) (cs:List Value) (hp:PlanAt H p cs) (hb:wP p<2 ^ 24) (hQ:∀ v H',Ext H H'->Rows H' 7 v (partR (lowerF p).parts)->Q v H'):E.call (E.fid i.f49) [.agg cs.toArray] H Q:=by
 apply hE.f49
 obtain ⟨v,rfl,hv⟩:=hp
 have x1:Ext H (H.new (.cells [v,u32 p.default] none)):=(Ext.refl _).new _
 have hb1:=AH.get_new_self H (.cells [v,u32 p.default] none)
 have hlv:=hv.lenSlc
 have hv1:=hv.sub (fun _ _ _ _ h e=>CaseAt.sub h e) x1.sub
 have hmw:∀ (H:AH) (K:Value->AH->Prop),mapW H K=K (.map (some H.next)) (H.new (.map [] 0 true)):=fun _ _=>rfl
 simp only [F.f49,boxO_agg_z,AM.mk_some,mkPtr_eq_z,List.toList_toArray,hmw,stdZ]
 have hn1:H.next+1=(H.new (.cells [v,u32 p.default] none)).next:=rfl
 rw [hn1]
 generalize H.new (.cells [v,u32 p.default] none)=H1 at *
 generalize H.next=t1 at *
 clear hn1
 have g1:=(Has.begin (Ext.refl H1) (Sub.refl H1)).newmap u32 natV
 have hbv:∀ n:Nat,buildV [(0,2),(2,1),(3,1),(4,1)] #[(.slice none 0 0),(.int .i64 0),(.int .i64 0),(.map none),(.slice none 0 0)] [(2,.map (some n))]=some (.agg [nilS,vi ((0:Nat):Int),vi ((0:Nat):Int),.map (some n),nilS].toArray):=fun _=>rfl
 have x2:Ext H1 (H1.new (.map [] 0 true)):=(Ext.refl H1).new _
 have hb2:=x2.cells hb1
 simp only [hbv,boxO_agg_z,AM.mk_some,mkPtr_eq_z,List.toList_toArray,stdZ]
 have hnx:(H1.new (.map [] 0 true)).next=H1.next+1:=rfl
 generalize H1.new (.map [] 0 true)=H2 at *
 generalize H1.next=m at *
 have g2:=((g1.newbox [nilS,vi ((0:Nat):Int),vi ((0:Nat):Int),.map (some m),nilS]).nils 7).nils 1
 have x3:=x2.new (.cells [nilS,vi ((0:Nat):Int),vi ((0:Nat):Int),.map (some m),nilS] none)
 generalize H2.new (.cells [nilS,vi ((0:Nat):Int),vi ((0:Nat):Int),.map (some m),nilS] none)=H3 at *
 generalize H2.next=lw at *
 have g3:Lw H1 H1 H3 lw m LwD.zero []:=⟨nilS,nilS,g2.perm ((List.Perm.swap _ _ _).trans ((List.Perm.swap _ _ _).cons _))⟩
 have hb3:=x3.cells hb1
 have kK:(.int .u32 2147483648:Value)=u32 2147483648#32:=rfl
 have kA:(.int .u32 3221225534:Value)=u32 3221225534#32:=rfl
 have k16:(.int .u16 16:Value)=u16 16#16:=rfl
 have k4:(.int .u32 4:Value)=u32 4#32:=rfl
 have k0:(.int .u32 0:Value)=u32 0#32:=rfl
 have i0:(.int .i64 0:Value)=vi ((0:Nat):Int):=rfl
 have hpc:wP p=20+8*p.cases.length+(p.cases.map wK).sum:=rfl
 have hv4:∀ k,insnV 32 0 0 k=(iLoad k).v:=fun _=>rfl
 simp only [hb3,stdZ]
 refine S.f50 hE g3 (by decide) p.default fun H4 g4 =>?_
 obtain ⟨H5,st5,g5⟩:=g4.setOther (LwD.zero.act p.default).2
 have g5:Lw H1 H1 H5 lw m (low1 p.default) []:=g5
 have hg1:=big_low1 p.default
 have hg2:=big_low2 p.default
 simp only [st5,kK,stdZ]
 refine S.f50 hE g5 (by omega) 2147483648#32 fun H6 g6 =>?_
 have g6:Lw H1 H1 H6 lw m (low2 p.default).1 []:=g6
 simp only [stdZ]
 refine S.f35 hE g6 (by omega) fun H7 g7 =>?_
 simp only [k4,stdZ]
 refine S.f18 hE 4#32 fun H8 e8 =>?_
 rw [hv4]
 refine S.f37 hE (g7.grow e8) (by simp only [big_new]; omega) _ fun H9 g9 =>?_
 simp only [k16,kA,stdZ]
 refine S.f34 hE g9 (by simp only [big_new,big_put]; omega) 16#16 _ _ _ fun H10 g10 =>?_
 simp only [stdZ]
 refine S.f33 hE g10 (by simp only [big_new,big_put]; omega) _ fun H11 g11 =>?_
 have g11:Lw H1 H1 H11 lw m (lower0 p.default) []:=g11
 have hg0:=big_lower0 p.default
 simp only [hmw,stdZ]
 have g12:Lw H1 H1 (H11.new (.map [] 0 true)) lw m (lower0 p.default) [mapR u32 natV H11.next ([]:List (BitVec 32×Nat))]:=by
  obtain ⟨lv,ov,g⟩:=g11
  have:=g.newmap u32 natV
  rw [List.append_assoc] at this
  exact ⟨lv,ov,this⟩
 have hb12:=g12.ext.cells hb1
 generalize H11.new (.map [] 0 true)=H12 at *
 generalize H11.next=sm at *
 simp only [hb12,hlv,i0,stdZ]
 have hlow3:low3 p=LwD.starts p.cases (lower0 p.default,[]):=rfl
 have hbs:(LwD.starts p.cases (lower0 p.default,[])).1.big=(lower0 p.default).big+p.cases.length:=big_starts p.cases (lower0 p.default,[])
 refine LoopL.count p.cases.length (fun k ls H'=>ls=[ptr t1 0,ptr lw 0,.map (some sm),v,vi p.cases.length,vi k]/\Lw H1 H1 H' lw m (LwD.starts (p.cases.take k) (lower0 p.default,[])).1 [mapR u32 natV sm (LwD.starts (p.cases.take k) (lower0 p.default,[])).2]) ?_ ⟨rfl,by simpa [LwD.starts] using g12⟩
 rintro k _ H13 X1 hk ih ⟨rfl,g⟩
 have hbg:(LwD.starts (p.cases.take k) (lower0 p.default,[])).1.big=(lower0 p.default).big+(p.cases.take k).length:=big_starts (p.cases.take k) (lower0 p.default,[])
 rw [List.length_take] at hbg
 rcases Nat.lt_or_ge k p.cases.length with hlt | hge
 ·obtain ⟨bb,o,cs,f1,f2,f3⟩:=hv1.ix hlt
  have f2:=g.ext.row f2
  obtain ⟨bv,rfl,f4⟩:=f3
  have hbv:plain1 bv=true:=by obtain ⟨rows,h1,_⟩:=f4; exact h1.plain
  have lo:loadN 2 (ptr bb o) H13=some (.agg [u32 p.cases[k].number,bv].toArray):=by rw [loadN_ptr,f2]; rfl
  have hlt':(k:Int)<p.cases.length:=by omega
  have hstep:LwD.starts (p.cases.take (k+1)) (lower0 p.default,[])=LwD.start1 (LwD.starts (p.cases.take k) (lower0 p.default,[])) p.cases[k]:=by
   unfold LwD.starts
   rw [List.take_succ,List.getElem?_eq_getElem hlt,List.foldl_append]; rfl
  have hinc:=i64_inc (i:=k) (by omega)
  generalize p.cases[k]=c at *
  generalize LwD.starts (p.cases.take k) (lower0 p.default,[])=x1 at *
  have hst:storeN 2 (ptr H13.next 0) (.agg [u32 c.number,bv].toArray) (H13.new (.cells [(.int .u32 0),(.slice none 0 0)] none))=some (H13.new (.cells [u32 c.number,bv] none)):=two_store rfl rfl (by simp [hbv])
  have g1:=g.newbox [u32 c.number,bv]
  have b1:=g1.box
  simp only [F.f49_l1,i64_lss,hlt',decide_true,f1,lo,allocW_eq,hst,b1,stdZ]
  generalize H13.new (.cells [u32 c.number,bv] none)=H14 at *
  generalize H13.next=t at *
  refine S.f35 hE g1 (by omega) fun H15 g2 =>?_
  have b2:=g2.box
  refine ⟨by rw [load1_ptr,load1_ptr,b1,b2],?_⟩
  obtain ⟨H16,m1,g3⟩:=g2.mapset (X:=[boxR t [u32 c.number,bv]]) c.number (x1.1.last+1)
  simp only [m1,hinc,stdZ]
  refine ih hlt _ _ ⟨rfl,?_⟩
  rw [hstep]
  exact g3.dropLast (X:=[mapR u32 natV sm _])
 ·have hke:k=p.cases.length:=by omega
  subst hke
  rw [List.take_length] at g hbg
  have hlt':¬ ((p.cases.length:Int)<p.cases.length):=by omega
  simp only [F.f49_l1,i64_lss,hlt',decide_false,k0,stdZ]
  have g:Lw H1 H1 H13 lw m (low3 p).1 [mapR u32 natV sm (low3 p).2]:=g
  refine S.f18 hE 0#32 fun H14 e14 =>?_
  rw [hv4]
  have hb3:(low3 p).1.big<=8+p.cases.length:=by rw [hlow3,hbs]; omega
  refine S.f37 hE (g.grow e14) (by omega) _ fun H15 g2 =>?_
  have hb15:=g2.ext.cells hb1
  simp only [hb15,stdZ]
  refine S.f52 hE (X:=[]) (p.cases.length+1) (Nat.lt_succ_self _) hv1 g2 (by rw [big_put]; omega) fun H16 g3 =>?_
  have hbc:=big_choose (low3 p).2 (p.cases.length+1) p.cases ((low3 p).1.put (pPlain (iLoad 0#32))) (Nat.lt_succ_self _)
  rw [big_put] at hbc
  have g3:Lw H1 H1 H16 lw m (low4 p) [mapR u32 natV sm (low3 p).2]:=g3
  have hbc:(low4 p).big+(if p.cases.length=0 then 0 else 6)<=(low3 p).1.big+1+7*p.cases.length+1:=hbc
  have hb16:=g3.ext.cells hb1
  simp only [hb16,hlv,stdZ]
  refine parts_l2 hE hv1 (by omega) (fun c hc =>?_) g3 (by omega) fun v' H' e' r'=>hQ v' H' (x1.trans e') r'
  have h1:wK c<=(p.cases.map wK).sum:=by
   obtain ⟨j,hj,rfl⟩:=List.getElem_of_mem hc
   have:=sum_take wK hj
   omega
  have h2:c.branches.length<=(c.branches.map wC).sum:=by
   generalize c.branches=bs
   induction bs with
   | nil=>simp
   | cons b bs ih =>
    have:wC b=12*b.conds.length+5:=rfl
    simp only [List.length_cons,List.map_cons,List.sum_cons]; omega
  have h3:wK c=(c.branches.map wC).sum+1+1:=rfl
  omega
end
end Go.AM
end
section
namespace Go.AM
set_option maxRecDepth 20000
def castN (R:List Nat):List Int:=R.map fun (n:Nat)=>(n:Int)
structure LI (P:List PartD) (last:Nat) (R:List Nat):Prop where
 nd:(heres P++castN R).Nodup
 le:∀ n∈R,n<=last
 hle:∀ n∈heres P,n<=(last:Int)
 fw:∀ a p b,P=a++p :: b->(p.kind=4#8->p.to∈heres b++castN R)/\(p.kind=3#8->p.to∈heres b++castN R/\p.els∈heres b++castN R)
 ok:∀ p∈P,partOk p
def actN (s:LwD):List Nat:=s.acts.map Prod.snd
end Go.AM
end
section
namespace Go.AM
set_option maxRecDepth 20000
def LA (s:LwD):Prop:=s.order=s.acts.map Prod.fst/\(s.acts.map Prod.fst).Nodup
structure LT (s:LwD) (pend:List Nat):Prop where
 li:LI s.parts s.last (pend++actN s)
 la:LA s
end Go.AM
end
section
namespace Go.AM
set_option maxRecDepth 20000
section
variable {E:Sy} {H H' H0 Z:AH} {Q:Value->AH->Prop} {X:List Res} {fb:Nat} {c:List InsnD}
theorem fresh_store {H:AH} {z c:List Value} {n:Nat} (hz:z.length=n) (hc:c.length=n) (hp:c.all plain1=true):storeN n (ptr H.next 0) (.agg c.toArray) (H.new (.cells z none))=some (H.new (.cells c none)):=by
 rw [storeN_ptr,AH.get_new_self]
 have:AM.splice z 0 c=c:=by simp [splice,hz,hc]
 simp only [List.size_toArray,List.toList_toArray,hc,hz,hp,Nat.zero_add,Nat.le_refl,and_self,if_true,this,AH.new_put]
theorem fresh_load {H:AH} {c:List Value} {n:Nat} (hc:c.length=n):loadN n (ptr H.next 0) (H.new (.cells c none))=some (.agg c.toArray):=by rw [loadN_ptr,AH.get_new_self,row_all _ _ n hc]; rfl
theorem Fil.add (h:Fil H0 Z H fb c X) (r:Res) (e:Ext H H') (hp:r.P H') (hf:∀ b∈r.fp,H.next<=b/\b<H'.next) (hn:r.fp.Nodup):Fil H0 Z H' fb c (X++[r]):=by
 obtain ⟨lv,n1,n2,h⟩:=h
 exact ⟨lv,n1,n2,h.add r e hp hf hn⟩
theorem Fil.newbox (h:Fil H0 Z H fb c X) (cs:List Value):Fil H0 Z (H.new (.cells cs none)) fb c (X++[boxR H.next cs]):=by
 obtain ⟨lv,n1,n2,h⟩:=h
 exact ⟨lv,n1,n2,h.newbox cs⟩
theorem Fil.dropLast {r:Res} (h:Fil H0 Z H fb c (X++[r])):Fil H0 Z H fb c X:=by
 obtain ⟨lv,n1,n2,h⟩:=h
 exact ⟨lv,n1,n2,Has.dropLast (L:=_ :: _ :: X) h⟩
end
end Go.AM
end
section
namespace Go.AM
set_option maxRecDepth 20000
def setArg (b:RecD) (k:Nat) (n:BitVec 64):RecD:=⟨b.number,b.arch,b.at_,b.args.set k n⟩
theorem setArg_ok {b:RecD} (h:b.ok) (k:Nat) (n:BitVec 64):(setArg b k n).ok:=by simpa [setArg,RecD.ok] using h
def edgeVals (c:CondD):List (BitVec 64):=[c.value - 1#64,c.value+1#64,c.value ^^^ 4294967296#64,c.value ||| ~~~c.mask,0#64]
def condEdges (b:RecD) (c:CondD):List RecD:=if 0<=c.arg/\c.arg<=5 then (edgeVals c).map (setArg b c.arg.toNat) else []
def baseStep (b:RecD) (c:CondD):RecD:=if 0<=c.arg/\c.arg<=5 then setArg b c.arg.toNat c.value else b
def baseOf (x:RuleD):RecD:=x.conds.foldl baseStep ⟨x.number,3221225534#32,0#64,[0#64,0#64,0#64,0#64,0#64,0#64]⟩
def ruleEdges (x:RuleD):List RecD:=baseOf x :: x.conds.flatMap (condEdges (baseOf x))
def edgesF (p:PolD):List RecD:=[⟨0#32,3221225534#32,0#64,[0#64,0#64,0#64,0#64,0#64,0#64]⟩,⟨0#32,3221225535#32,0#64,[0#64,0#64,0#64,0#64,0#64,0#64]⟩]++p.rules.flatMap ruleEdges
def recR (l:List RecD):List (List Value):=l.map RecD.cells
theorem baseStep_ok {b:RecD} (h:b.ok) (c:CondD):(baseStep b c).ok:=by
 unfold baseStep
 split
 ·exact setArg_ok h _ _
 ·exact h
theorem base_fold:∀ (l:List CondD) {b:RecD},b.ok->(l.foldl baseStep b).ok
 | [],_,h=>h
 | c :: l,_,h=>base_fold l (baseStep_ok h c)
theorem condEdges_len (b:RecD) (c:CondD):(condEdges b c).length<=5:=by
 unfold condEdges
 split
 ·simp [edgeVals]
 ·simp
theorem rec_set {b:RecD} (h:b.ok) {k:Nat} (hk:k<6) (n:BitVec 64):b.cells.set (3+k*1) (u64 n)=(setArg b k n).cells/\3+k*1<b.cells.length:=by
 refine ⟨?_,?_⟩
 ·rw [show 3+k*1=k+1+1+1 by omega]
  simp [RecD.cells,setArg,List.map_set]
 ·have:=rec_nine h
  omega
end Go.AM
end
section
namespace Go.AM
set_option maxRecDepth 20000
section
variable {E:Sy} {H H' H0 Z:AH} {Q:Value->AH->Prop}
def egL (t6 tc:Nat) (ov:Value) (out:List RecD) (b:RecD) (c:CondD) (nv:Value) (vals:List (BitVec 64)):List Res:=[growR 9 ov (recR out),boxR t6 b.cells,boxR tc c.cells,growR 1 nv (vals.map fun n=>[u64 n])]
theorem edges_l4 (hE:Fold E) {t6 tc:Nat} {ov:Value} {out:List RecD} {b:RecD} (hb:b.ok) {c:CondD} (h0:0<=c.arg) (h5:c.arg<=5) {nv:Value} {vals:List (BitVec 64)} (hvl:vals.length<=10) (hol:out.length<2 ^ 30) (g0:Has H0 Z H (egL t6 tc ov out b c nv vals)) {t18 t19 t20 t54 t55:Value} {q:Nat} (hq:q<2 ^ 30) {X0 X1:List Value->AH->Prop}
  (next:∀ ov' H',Has H0 Z H' (egL t6 tc ov' (out++vals.map (setArg b c.arg.toNat)) b c nv vals)->X1 [ov',ptr t6 0,t18,t19,t20,t54,t55,vi ((q+1:Nat):Int)] H') :
  LoopL (fun l H X2=>F.f11_l4 E Q X0 X1 (nth l 0) (nth l 1) (nth l 2) (nth l 3) (nth l 4) (nth l 5) (nth l 6) (nth l 7) (nth l 8) (nth l 9) (nth l 10) (nth l 11) H X2) [ov,ptr t6 0,ptr tc 0,t18,t19,t20,t54,t55,vi q,nv,vi vals.length,(.int .i64 0)] H:=by
 have i0:(.int .i64 0:Value)=vi ((0:Nat):Int):=rfl
 rw [i0]
 refine LoopL.count vals.length (fun k ls H'=>∃ ov,ls=[ov,ptr t6 0,ptr tc 0,t18,t19,t20,t54,t55,vi q,nv,vi vals.length,vi k]/\Has H0 Z H' (egL t6 tc ov (out++(vals.take k).map (setArg b c.arg.toNat)) b c nv vals)) ?_ ⟨ov,rfl,by simpa using g0⟩
 rintro k _ H1 X2 hk ih ⟨ov,rfl,g⟩
 rcases Nat.lt_or_ge k vals.length with hlt | hge
 rotate_left
 ·have hke:k=vals.length:=by omega
  subst hke
  have hlt':decide ((vals.length:Int)<vals.length)=false:=decide_eq_false (by omega)
  have hinc:=i64_inc (i:=q) (by omega)
  rw [List.take_length] at g
  simp only [F.f11_l4,i64_lss,hlt',hinc,stdZ]
  exact next _ _ g
 have hlt':decide ((k:Int)<vals.length)=true:=decide_eq_true (by omega)
 obtain ⟨bb,o,f1,f2⟩:=(g.rows (k:=3) (sz:=1) (v:=nv) (rows:=vals.map fun n=>[u64 n]) rfl).ix (i:=k) (by simpa using hlt)
 have hrow:(vals.map fun n=>[u64 n])[k]'(by simpa using hlt)=[u64 vals[k]]:=by simp
 rw [hrow] at f2
 have hce:((H1.get bb).cell o)=some (u64 vals[k]):=by have:=row_at f2 (j:=0) (by omega); simpa using this
 have hinc:=i64_inc (i:=k) (by omega)
 have htk:(vals.take (k+1)).map (setArg b c.arg.toNat)=(vals.take k).map (setArg b c.arg.toNat)++[setArg b c.arg.toNat vals[k]]:=by
  rw [List.take_succ,List.getElem?_eq_getElem hlt,List.map_append]; rfl
 have hl2:((vals.take k).map (setArg b c.arg.toNat)).length<=10:=by rw [List.length_map,List.length_take]; omega
 have ih:=ih hlt
 rw [htk,<- List.append_assoc] at ih
 generalize vals[k]=n at *
 have hout:(out++(vals.take k).map (setArg b c.arg.toNat)).length<2 ^ 31:=by rw [List.length_append]; omega
 generalize out++(vals.take k).map (setArg b c.arg.toNat)=out1 at *
 have hb6:=g.box (k:=1) (b:=t6) (c:=b.cells) rfl
 have lo6:loadN 9 (ptr t6 0) H1=some b.v:=by rw [loadN_ptr,hb6,row_all _ _ 9 (rec_nine hb)]; rfl
 have hst:storeN 9 (ptr H1.next 0) b.v (H1.new (.cells [(.int .u32 0),(.int .u32 0),(.int .u64 0),(.int .u64 0),(.int .u64 0),(.int .u64 0),(.int .u64 0),(.int .u64 0),(.int .u64 0)] none))=some (H1.new (.cells b.cells none)):=fresh_store rfl (rec_nine hb) (by simp [RecD.cells])
 have g2:=g.newbox b.cells
 have hbc:=g2.box (k:=2) (b:=tc) (c:=c.cells) rfl
 have c0:c.cells[0]? = some (vi c.arg):=rfl
 have hk6:c.arg.toNat<6:=by omega
 have hix:∀ t,ixArr 6 1 (ptr t 3) (vi c.arg)=some (ptr t (3+c.arg.toNat*1)):=fun t=>ixArr_ptr 6 1 t 3 c.arg.toNat _ (by omega) hk6
 simp only [F.f11_l4,i64_lss,hlt',f1,hce,lo6,allocW_eq,hst,hbc,c0,hix,stdZ]
 generalize H1.new (.cells b.cells none)=H2 at *
 generalize H1.next=t at *
 obtain ⟨hset,hlt3⟩:=rec_set hb hk6 n
 have hbt:=g2.box (k:=4) (b:=t) (c:=b.cells) rfl
 have hs:store1 (ptr t (3+c.arg.toNat*1)) (u64 n) H2=some (H2.put t (.cells (setArg b c.arg.toNat n).cells none)):=by
  rw [store1_ptr,if_pos (show plain1 (u64 n)=true from rfl),hbt]
  simp only [hlt3,if_true,hset]
 have g3:=g2.put (k:=4) (b:=t) (c:=b.cells) rfl (setArg b c.arg.toNat n).cells
 have hok:=setArg_ok hb c.arg.toNat n
 generalize setArg b c.arg.toNat n=r at *
 have hb3:=g3.box (k:=4) (b:=t) (c:=r.cells) rfl
 simp only [hs,stdZ]
 generalize H2.put t (.cells r.cells none)=H3 at *
 have lo3:loadN 9 (ptr t 0) H3=some r.v:=by rw [loadN_ptr,hb3,row_all _ _ 9 (rec_nine hok)]; rfl
 have hbS:buildS 1 9 #[(.int .u32 0),(.int .u32 0),(.int .u64 0),(.int .u64 0),(.int .u64 0),(.int .u64 0),(.int .u64 0),(.int .u64 0),(.int .u64 0)] [(0,r.v)]=some (.cells r.cells none,mkSlc 1 1):=buildS_one 9 [u32 0#32,u32 0#32,u64 0#64,u64 0#64,u64 0#64,u64 0#64,u64 0#64,u64 0#64,u64 0#64] r.cells rfl (rec_nine hok)
 obtain ⟨w,H4,a1,p1,g4⟩:=g3.app1 (k:=0) (sz:=9) (v:=ov) (rows:=recR out1) (bytes:=64) rfl r.cells (rec_nine hok) (by simp [RecD.cells]) (by decide) (by decide) (by simp only [recR,List.length_map]; omega)
 have hr:recR (out1++[r])=recR out1++[r.cells]:=by simp [recR]
 simp only [lo3,hbS,AM.mk_some,mkSlc_eq,a1,hinc,stdZ]
 refine ih _ _ ⟨w,rfl,?_⟩
 show Has H0 Z H4 [growR 9 w (recR (out1++[r])),boxR t6 b.cells,boxR tc c.cells,growR 1 nv (vals.map fun n=>[u64 n])]
 rw [hr]
 exact g4.drop 4
end
end Go.AM
end
section
namespace Go.AM
set_option maxRecDepth 20000
section
variable {E:Sy} {H H' H0 Z:AH} {Q:Value->AH->Prop}
theorem u64_compl (x:BitVec 64):un .xor (u64 x)=some (u64 (~~~x)):=by
 have h:(BitVec.ofInt 64 (18446744073709551615:Int) ^^^ BitVec.ofInt 64 (x.toNat:Int)) = ~~~x:=by
  have h1:BitVec.ofInt 64 (18446744073709551615:Int)=BitVec.allOnes 64:=by decide
  have h2:BitVec.ofInt 64 (x.toNat:Int)=x:=by rw [BitVec.ofInt_natCast,BitVec.ofNat_toNat,BitVec.setWidth_eq]
  rw [h1,h2,BitVec.allOnes_xor]
 have h3:un .xor (.int .u64 (x.toNat:Int))=some (.int .u64 (IntKind.u64.wrap ((BitVec.ofInt 64 (18446744073709551615:Int) ^^^ BitVec.ofInt 64 (x.toNat:Int)).toNat:Nat))):=rfl
 rw [u64_def,u64_def,h3,h]
 have h4:IntKind.u64.wrap ((~~~x).toNat:Int)=((~~~x).toNat:Int):=by
  have:=(~~~x).isLt
  simp only [IntKind.wrap,IntKind.bits,IntKind.signed]
  first
   | omega
   | simp; omega
 rw [h4]
def eg2L (t6:Nat) (ov:Value) (out:List RecD) (b:RecD):List Res:=[growR 9 ov (recR out),boxR t6 b.cells]
theorem flat_len (b:RecD):∀ l:List CondD,(l.flatMap (condEdges b)).length<=5*l.length
 | []=>Nat.le_refl _
 | c :: l=>by
  have h1:=flat_len b l
  have h2:=condEdges_len b c
  simp only [List.flatMap_cons,List.length_append,List.length_cons]
  omega
theorem edges_l3 (hE:Fold E) {t6:Nat} {ov:Value} {out:List RecD} {b:RecD} (hb:b.ok) {cv:Value} {cs:List CondD} (hv:Rows H0 4 cv (condR cs)) (hcl:cs.length<=1000) (hol:out.length<2 ^ 28) (g0:Has H0 Z H (eg2L t6 ov out b)) {t18 t19:Value} {q:Nat} (hq:q<2 ^ 30) {X0:List Value->AH->Prop}
  (next:∀ ov' H',Has H0 Z H' [growR 9 ov' (recR (out++cs.flatMap (condEdges b)))]->X0 [ov',t18,t19,vi ((q+1:Nat):Int)] H') :
  LoopL (fun l H X1=>F.f11_l3 E Q X0 (nth l 0) (nth l 1) (nth l 2) (nth l 3) (nth l 4) (nth l 5) (nth l 6) (nth l 7) H X1) [ov,ptr t6 0,t18,t19,vi q,cv,vi cs.length,(.int .i64 0)] H:=by
 have i0:(.int .i64 0:Value)=vi ((0:Nat):Int):=rfl
 rw [i0]
 refine LoopL.count cs.length (fun k ls H'=>∃ ov,ls=[ov,ptr t6 0,t18,t19,vi q,cv,vi cs.length,vi k]/\Has H0 Z H' (eg2L t6 ov (out++(cs.take k).flatMap (condEdges b)) b)) ?_ ⟨ov,rfl,by simpa using g0⟩
 rintro k _ H1 X1 hk ih ⟨ov,rfl,g⟩
 rcases Nat.lt_or_ge k cs.length with hlt | hge
 rotate_left
 ·have hke:k=cs.length:=by omega
  subst hke
  have hlt':decide ((cs.length:Int)<cs.length)=false:=decide_eq_false (by omega)
  have hinc:=i64_inc (i:=q) (by omega)
  rw [List.take_length] at g
  simp only [F.f11_l3,i64_lss,hlt',hinc,stdZ]
  exact next _ _ (g.drop 1)
 have hlt':decide ((k:Int)<cs.length)=true:=decide_eq_true (by omega)
 obtain ⟨bb,o,f1,f2⟩:=cond_ix hv hlt
 have lo:=f2 H1 g.ext
 have hinc:=i64_inc (i:=k) (by omega)
 have htk:(cs.take (k+1)).flatMap (condEdges b)=(cs.take k).flatMap (condEdges b)++condEdges b cs[k]:=by
  rw [List.take_succ,List.getElem?_eq_getElem hlt,List.flatMap_append]
  simp
 have hfl:=flat_len b (cs.take k)
 rw [List.length_take] at hfl
 have hol2:(out++(cs.take k).flatMap (condEdges b)).length<2 ^ 29:=by rw [List.length_append]; omega
 have ih:=ih hlt
 rw [htk,<- List.append_assoc] at ih
 generalize cs[k]=c at *
 generalize out++(cs.take k).flatMap (condEdges b)=out1 at *
 have hst:=cond_new c H1
 have g2:=g.newbox c.cells
 have bx:=AH.get_new_self H1 (.cells c.cells none)
 have c0:c.cells[0]? = some (vi c.arg):=rfl
 have c2:c.cells[2]? = some (u64 c.mask):=rfl
 have c3:c.cells[3]? = some (u64 c.value):=rfl
 have z0:(.int .i64 0:Value)=vi 0:=rfl
 have z5:(.int .i64 5:Value)=vi 5:=rfl
 simp only [F.f11_l3,i64_lss,hlt',f1,lo,allocW_eq,hst,bx,c0,z0,stdZ]
 generalize H1.new (.cells c.cells none)=H2 at *
 generalize H1.next=tc at *
 have skip:¬ (0<=c.arg/\c.arg<=5)->X1 [ov,ptr t6 0,t18,t19,vi q,cv,vi cs.length,vi ((k+1:Nat):Int)] H2:=fun hn=>by
  have:condEdges b c=[]:=by unfold condEdges; rw [if_neg hn]
  rw [this,List.append_nil] at ih
  exact ih _ _ ⟨ov,rfl,Has.dropLast (L:=eg2L t6 ov out1 b) g2⟩
 by_cases h0:c.arg<0
 ·have d0:decide (c.arg<0)=true:=decide_eq_true h0
  simp only [d0,hinc,stdZ]
  exact skip (by omega)
 have d0:decide (c.arg<0)=false:=decide_eq_false h0
 simp only [d0,bx,c0,z5,i64_gtr,stdZ]
 by_cases h5:5<c.arg
 ·have d5:decide (5<c.arg)=true:=decide_eq_true h5
  simp only [d5,hinc,stdZ]
  exact skip (by omega)
 have d5:decide (5<c.arg)=false:=decide_eq_false h5
 have h0:0<=c.arg:=by omega
 have h5:c.arg<=5:=by omega
 have hce:condEdges b c=(edgeVals c).map (setArg b c.arg.toNat):=by unfold condEdges; rw [if_pos ⟨h0,h5⟩]
 rw [hce] at ih
 have w1:(.int .u64 1:Value)=u64 1#64:=rfl
 have w32:(.int .u64 4294967296:Value)=u64 4294967296#64:=rfl
 have hxor:un .xor (u64 c.mask)=some (u64 (~~~c.mask)):=u64_compl c.mask
 have hbS:buildS 5 1 #[(.int .u64 0)] [(0,u64 (c.value - 1#64)),(1,u64 (c.value+1#64)),(2,u64 (c.value ^^^ 4294967296#64)),(3,u64 (c.value ||| ~~~c.mask)),(4,(.int .u64 0))]=some (.cells ((edgeVals c).map u64) none,mkSlc 5 5):=buildS_full 5 1 [u64 0#64] [(0,u64 (c.value - 1#64)),(1,u64 (c.value+1#64)),(2,u64 (c.value ^^^ 4294967296#64)),(3,u64 (c.value ||| ~~~c.mask)),(4,u64 0#64)] [u64 (c.value - 1#64),u64 (c.value+1#64),u64 (c.value ^^^ 4294967296#64),u64 (c.value ||| ~~~c.mask),u64 0#64] rfl rfl rfl rfl (by simp)
 have hls:∀ b n m,lenSlc (slc b 0 n m)=some (vi n):=fun _ _ _=>rfl
 have g3:=g2.add (growR 1 (slc H2.next 0 5 5) ((edgeVals c).map fun n=>[u64 n])) ((Ext.refl H2).new (.cells ((edgeVals c).map u64) none)) (Grow.made (f:=none) (zH_get _) (by rw [AH.get_new_self]; rfl) (.inl rfl) rfl (by intro r hr; obtain ⟨y,_,rfl⟩:=List.mem_map.1 hr; exact ⟨rfl,rfl⟩)) (by simp [growR,blkL,blk]) (by simp [growR,blkL,blk])
 simp only [d5,bx,c2,c3,w1,w32,u64_sub,u64_add,u64_xor,hxor,u64_or,hbS,AM.mk_some,mkSlc_eq,hls,stdZ]
 exact edges_l4 hE hb h0 h5 (vals:=edgeVals c) (by simp [edgeVals]) (by omega) g3 (by omega) fun ov' H' g'=>ih _ _ ⟨ov',rfl,(g'.drop 3).drop 2⟩
end
end Go.AM
end
section
namespace Go.AM
set_option maxRecDepth 20000
section
variable {E:Sy} {H H' H0 Z:AH} {Q:Value->AH->Prop}
def rec0 (n:BitVec 32):RecD:=⟨n,3221225534#32,0#64,[0#64,0#64,0#64,0#64,0#64,0#64]⟩
def eg4L (t5 t6:Nat) (rc:List Value) (ov:Value) (out:List RecD) (b:RecD):List Res:=[growR 9 ov (recR out),boxR t5 rc,boxR t6 b.cells]
theorem edges_l2 (hE:Fold E) {x:RuleD} {cv:Value} (hv:Rows H0 4 cv (condR x.conds)) (hcl:x.conds.length<=1000) {t5 t6:Nat} {ov:Value} {out:List RecD} (hol:out.length<2 ^ 27) (g0:Has H0 Z H (eg4L t5 t6 [u32 x.number,u32 x.action,cv] ov out (rec0 x.number))) {t18 t19:Value} {q:Nat} (hq:q<2 ^ 30) {X0:List Value->AH->Prop}
  (next:∀ ov' H',Has H0 Z H' [growR 9 ov' (recR (out++ruleEdges x))]->X0 [ov',t18,t19,vi ((q+1:Nat):Int)] H') :
  LoopL (fun l H X1=>F.f11_l2 E Q X0 (nth l 0) (nth l 1) (nth l 2) (nth l 3) (nth l 4) (nth l 5) (nth l 6) (nth l 7) (nth l 8) H X1) [ov,ptr t5 0,ptr t6 0,t18,t19,vi q,cv,vi x.conds.length,(.int .i64 0)] H:=by
 have i0:(.int .i64 0:Value)=vi ((0:Nat):Int):=rfl
 rw [i0]
 refine LoopL.count x.conds.length (fun k ls H'=>ls=[ov,ptr t5 0,ptr t6 0,t18,t19,vi q,cv,vi x.conds.length,vi k]/\Has H0 Z H' (eg4L t5 t6 [u32 x.number,u32 x.action,cv] ov out ((x.conds.take k).foldl baseStep (rec0 x.number)))) ?_ ⟨rfl,g0⟩
 rintro k _ H1 X1 hk ih ⟨rfl,g⟩
 have hbo:((x.conds.take k).foldl baseStep (rec0 x.number)).ok:=base_fold _ rfl
 rcases Nat.lt_or_ge k x.conds.length with hlt | hge
 rotate_left
 ·have hke:k=x.conds.length:=by omega
  subst hke
  have hlt':decide ((x.conds.length:Int)<x.conds.length)=false:=decide_eq_false (by omega)
  rw [List.take_length] at g hbo
  have hbe:x.conds.foldl baseStep (rec0 x.number)=baseOf x:=rfl
  rw [hbe] at g hbo
  have hre:ruleEdges x=baseOf x :: x.conds.flatMap (condEdges (baseOf x)):=rfl
  rw [hre,show out++baseOf x :: x.conds.flatMap (condEdges (baseOf x))=(out++[baseOf x])++x.conds.flatMap (condEdges (baseOf x)) by simp] at next
  generalize baseOf x=r at *
  have hb6:=g.box (k:=2) (b:=t6) (c:=r.cells) rfl
  have lo6:loadN 9 (ptr t6 0) H1=some r.v:=by rw [loadN_ptr,hb6,row_all _ _ 9 (rec_nine hbo)]; rfl
  have hbS:buildS 1 9 #[(.int .u32 0),(.int .u32 0),(.int .u64 0),(.int .u64 0),(.int .u64 0),(.int .u64 0),(.int .u64 0),(.int .u64 0),(.int .u64 0)] [(0,r.v)]=some (.cells r.cells none,mkSlc 1 1):=buildS_one 9 [u32 0#32,u32 0#32,u64 0#64,u64 0#64,u64 0#64,u64 0#64,u64 0#64,u64 0#64,u64 0#64] r.cells rfl (rec_nine hbo)
  obtain ⟨w,H4,a1,p1,g4⟩:=g.app1 (k:=0) (sz:=9) (v:=ov) (rows:=recR out) (bytes:=64) rfl r.cells (rec_nine hbo) (by simp [RecD.cells]) (by decide) (by decide) (by simp only [recR,List.length_map]; omega)
  have hr:recR (out++[r])=recR out++[r.cells]:=by simp [recR]
  have g5:Has H0 Z H4 [growR 9 w (recR (out++[r])),boxR t5 [u32 x.number,u32 x.action,cv],boxR t6 r.cells]:=by rw [hr]; exact g4.drop 3
  have hb5:=g5.box (k:=1) (b:=t5) (c:=[u32 x.number,u32 x.action,cv]) rfl
  have c2:[u32 x.number,u32 x.action,cv][2]? = some cv:=rfl
  have hlv:=(hv.mono g5.ext).lenSlc
  rw [condR_length] at hlv
  simp only [F.f11_l2,i64_lss,hlt',lo6,hbS,AM.mk_some,mkSlc_eq,a1,hb5,c2,hlv,stdZ]
  exact edges_l3 hE hbo hv hcl (by rw [List.length_append]; simp; omega) (g5.drop 1) hq next
 have hlt':decide ((k:Int)<x.conds.length)=true:=decide_eq_true (by omega)
 obtain ⟨bb,o,f1,f2⟩:=cond_ix hv hlt
 have lo:=f2 H1 g.ext
 have hinc:=i64_inc (i:=k) (by omega)
 have htk:(x.conds.take (k+1)).foldl baseStep (rec0 x.number)=baseStep ((x.conds.take k).foldl baseStep (rec0 x.number)) x.conds[k]:=by
  rw [List.take_succ,List.getElem?_eq_getElem hlt,List.foldl_append]
  rfl
 have ih:=ih hlt
 rw [htk] at ih
 generalize x.conds[k]=c at *
 generalize (x.conds.take k).foldl baseStep (rec0 x.number)=r at *
 have hst:=cond_new c H1
 have g2:=g.newbox c.cells
 have bx:=AH.get_new_self H1 (.cells c.cells none)
 have c0:c.cells[0]? = some (vi c.arg):=rfl
 have c3:c.cells[3]? = some (u64 c.value):=rfl
 simp only [F.f11_l2,i64_lss,hlt',f1,lo,allocW_eq,hst,bx,c0,i64_geq,stdZ]
 generalize H1.new (.cells c.cells none)=H2 at *
 generalize H1.next=tc at *
 have skip:¬ (0<=c.arg/\c.arg<=5)->X1 [ov,ptr t5 0,ptr t6 0,t18,t19,vi q,cv,vi x.conds.length,vi ((k+1:Nat):Int)] H2:=fun hn=>by
  have:baseStep r c=r:=by unfold baseStep; rw [if_neg hn]
  rw [this] at ih
  exact ih _ _ ⟨rfl,Has.dropLast (L:=eg4L t5 t6 [u32 x.number,u32 x.action,cv] ov out r) g2⟩
 by_cases h0:0<=c.arg
 rotate_left
 ·have d0:decide (0<=c.arg)=false:=decide_eq_false h0
  simp only [d0,hinc,stdZ]
  exact skip (by omega)
 have d0:decide (0<=c.arg)=true:=decide_eq_true h0
 simp only [d0,bx,c0,i64_leq,stdZ]
 by_cases h5:c.arg<=5
 rotate_left
 ·have d5:decide (c.arg<=5)=false:=decide_eq_false h5
  simp only [d5,hinc,stdZ]
  exact skip (by omega)
 have d5:decide (c.arg<=5)=true:=decide_eq_true h5
 have hbs:baseStep r c=setArg r c.arg.toNat c.value:=by unfold baseStep; rw [if_pos ⟨h0,h5⟩]
 rw [hbs] at ih
 have hk6:c.arg.toNat<6:=by omega
 have hix:ixArr 6 1 (ptr t6 3) (vi c.arg)=some (ptr t6 (3+c.arg.toNat*1)):=ixArr_ptr 6 1 t6 3 c.arg.toNat _ (by omega) hk6
 obtain ⟨hset,hlt3⟩:=rec_set hbo hk6 c.value
 have hbt:=g2.box (k:=2) (b:=t6) (c:=r.cells) rfl
 have hs:store1 (ptr t6 (3+c.arg.toNat*1)) (u64 c.value) H2=some (H2.put t6 (.cells (setArg r c.arg.toNat c.value).cells none)):=by
  rw [store1_ptr,if_pos (show plain1 (u64 c.value)=true from rfl),hbt]
  simp only [hlt3,if_true,hset]
 have g3:=g2.put (k:=2) (b:=t6) (c:=r.cells) rfl (setArg r c.arg.toNat c.value).cells
 simp only [d5,bx,c0,c3,hix,hs,hinc,stdZ]
 exact ih _ _ ⟨rfl,g3.drop 3⟩
theorem rules_flat:∀ l:List RuleD,(∀ x∈l,x.conds.length<=1000)->(l.flatMap ruleEdges).length<=5001*l.length
 | [],_=>Nat.le_refl _
 | x :: l,h=>by
  have h1:=rules_flat l fun y hy=>h y (List.mem_cons_of_mem _ hy)
  have h2:=flat_len (baseOf x) x.conds
  have h3:=h x List.mem_cons_self
  simp only [List.flatMap_cons,List.length_append,List.length_cons,ruleEdges]
  omega
theorem row_ext {H H':AH} (e:Ext H H') {b o n:Nat} {l:List Value} (h:(H.get b).row o n=some l):(H'.get b).row o n=some l:=by rw [e.get (AH.lt_of_get (row_notdead h))]; exact h
theorem S.f11 (hE:Fold E) (p:PolD) (cs:List Value) (hp:PolAt H p cs) (hrl:p.rules.length<=1000) (hc:∀ r∈p.rules,r.conds.length<=1000)
  (hQ:∀ w H',Ext H H'->Grow zH H' 9 w (recR (edgesF p))->FreshV H.next w->Q w H'):E.call (E.fid i.f11) [.agg cs.toArray] H Q:=by
 obtain ⟨hl63,c0,v,c3,c4,c5,rfl,hv⟩:=id hp
 apply hE.f11
 have hbv1:buildV [(0,1),(1,1),(2,1),(3,6)] #[(.int .u32 0),(.int .u32 0),(.int .u64 0),(.int .u64 0),(.int .u64 0),(.int .u64 0),(.int .u64 0),(.int .u64 0),(.int .u64 0)] [(1,(.int .u32 3221225534))]=some (rec0 0#32).v:=rfl
 have hbv2:buildV [(0,1),(1,1),(2,1),(3,6)] #[(.int .u32 0),(.int .u32 0),(.int .u64 0),(.int .u64 0),(.int .u64 0),(.int .u64 0),(.int .u64 0),(.int .u64 0),(.int .u64 0)] [(1,(.int .u32 3221225535))]=some (RecD.v ⟨0#32,3221225535#32,0#64,[0#64,0#64,0#64,0#64,0#64,0#64]⟩):=rfl
 have hbS:=buildS_full 2 9 [u32 0#32,u32 0#32,u64 0#64,u64 0#64,u64 0#64,u64 0#64,u64 0#64,u64 0#64,u64 0#64] [(0,(rec0 0#32).v),(1,RecD.v ⟨0#32,3221225535#32,0#64,[0#64,0#64,0#64,0#64,0#64,0#64]⟩)] [(rec0 0#32).v,RecD.v ⟨0#32,3221225535#32,0#64,[0#64,0#64,0#64,0#64,0#64,0#64]⟩] rfl rfl rfl rfl (by simp [RecD.v,RecD.cells,rec0])
 have hbS:buildS 2 9 #[(.int .u32 0),(.int .u32 0),(.int .u64 0),(.int .u64 0),(.int .u64 0),(.int .u64 0),(.int .u64 0),(.int .u64 0),(.int .u64 0)] [(0,(rec0 0#32).v),(1,RecD.v ⟨0#32,3221225535#32,0#64,[0#64,0#64,0#64,0#64,0#64,0#64]⟩)]=some (.cells ((rec0 0#32).cells++RecD.cells ⟨0#32,3221225535#32,0#64,[0#64,0#64,0#64,0#64,0#64,0#64]⟩) none,mkSlc 2 2):=hbS
 have b1:=AH.get_new_self H (.cells [c0,u32 p.default,v,c3,c4,c5] none)
 have x1:Ext H (H.new (.cells [c0,u32 p.default,v,c3,c4,c5] none)):=(Ext.refl _).new _
 have q2:[c0,u32 p.default,v,c3,c4,c5][2]? = some v:=rfl
 have hn1:H.next<=(H.new (.cells [c0,u32 p.default,v,c3,c4,c5] none)).next:=x1.1
 simp only [F.f11,boxO_agg_z,AM.mk_some,mkPtr_eq_z,List.toList_toArray,hbv1,hbv2,hbS,mkSlc_eq,stdZ]
 generalize H.new (.cells [c0,u32 p.default,v,c3,c4,c5] none)=H1 at *
 generalize H.next=t1 at *
 have g1:=(Has.begin (Ext.refl H1) (Sub.refl H1)).add (growR 9 (slc H1.next 0 2 2) (recR [rec0 0#32,⟨0#32,3221225535#32,0#64,[0#64,0#64,0#64,0#64,0#64,0#64]⟩])) ((Ext.refl H1).new (.cells ((rec0 0#32).cells++RecD.cells ⟨0#32,3221225535#32,0#64,[0#64,0#64,0#64,0#64,0#64,0#64]⟩) none)) (Grow.made (f:=none) (zH_get _) (by rw [AH.get_new_self]; rfl) (.inl rfl) rfl (by intro r hr; simp [recR] at hr; rcases hr with rfl | rfl <;> exact ⟨rfl,rfl⟩)) (by simp [growR,blkL,blk]) (by simp [growR,blkL,blk])
 generalize hH2:H1.new (.cells ((rec0 0#32).cells++RecD.cells ⟨0#32,3221225535#32,0#64,[0#64,0#64,0#64,0#64,0#64,0#64]⟩) none)=H2 at *
 have b2:=g1.ext.cells b1
 have hv1:=hv.sub (fun _ _ _ _ h e=>RuleAt.sub h e) x1.sub
 have hlv:=SliceOf.lenSlc (hv1.sub (fun _ _ _ _ h e=>RuleAt.sub h e) g1.ext.sub)
 have i0:(.int .i64 0:Value)=vi ((0:Nat):Int):=rfl
 simp only [b2,q2,hlv,mkSlc_eq,i0,stdZ]
 refine LoopL.count p.rules.length (fun k ls H'=>∃ ov,ls=[ov,v,vi p.rules.length,vi k]/\Has H1 H1 H' [growR 9 ov (recR ([rec0 0#32,⟨0#32,3221225535#32,0#64,[0#64,0#64,0#64,0#64,0#64,0#64]⟩]++(p.rules.take k).flatMap ruleEdges))]) ?_ ⟨_,rfl,by simpa using g1⟩
 rintro k _ H3 X1 hk ih ⟨ov,rfl,g⟩
 rcases Nat.lt_or_ge k p.rules.length with hlt | hge
 rotate_left
 ·have hke:k=p.rules.length:=by omega
  subst hke
  have hlt':decide ((p.rules.length:Int)<p.rules.length)=false:=decide_eq_false (by omega)
  rw [List.take_length] at g
  simp only [F.f11_l1,i64_lss,hlt',stdZ]
  have hr:=g.all (growR 9 ov (recR (edgesF p))) (by simp [edgesF,rec0])
  exact hQ ov H3 (x1.trans g.ext) hr.1 fun b hb=>Nat.le_trans hn1 (hr.2 b (mem_blkL.2 hb)).1
 have hlt':decide ((k:Int)<p.rules.length)=true:=decide_eq_true (by omega)
 obtain ⟨b,o,rc,f1,f2,f3⟩:=(hv1.sub (fun _ _ _ _ h e=>RuleAt.sub h e) g.ext.sub).ix hlt
 obtain ⟨hxl,cv,rfl,_⟩:=id f3
 have lo:loadN 3 (ptr b o) H3=some (.agg [u32 p.rules[k].number,u32 p.rules[k].action,cv].toArray):=by rw [loadN_ptr,f2]; rfl
 have htk:(p.rules.take (k+1)).flatMap ruleEdges=(p.rules.take k).flatMap ruleEdges++ruleEdges p.rules[k]:=by
  rw [List.take_succ,List.getElem?_eq_getElem hlt,List.flatMap_append]
  simp
 have hcx:=hc p.rules[k] (List.getElem_mem hlt)
 have hrf:=rules_flat (p.rules.take k) fun y hy=>hc y (List.mem_of_mem_take hy)
 rw [List.length_take] at hrf
 have hol:([rec0 0#32,⟨0#32,3221225535#32,0#64,[0#64,0#64,0#64,0#64,0#64,0#64]⟩]++(p.rules.take k).flatMap ruleEdges).length<2 ^ 27:=by rw [List.length_append]; show 2+_<_; omega
 have ih:=ih hlt
 rw [htk,<- List.append_assoc] at ih
 have hinc:=i64_inc (i:=k) (by omega)
 have hv2:Rows H1 4 cv (condR p.rules[k].conds):=by
  obtain ⟨b',o',rc',e1,e2,e3⟩:=hv1.ix hlt
  obtain ⟨_,cv',rfl,e4⟩:=e3
  rw [f1] at e1
  have hb:=Option.some.inj e1
  simp only [ptr,Value.pointer.injEq,Option.some.injEq,Addr.mk.injEq] at hb
  obtain ⟨rfl,rfl,_⟩:=hb
  have:=row_ext g.ext e2
  rw [this] at f2
  have h3:=Option.some.inj f2
  simp only [List.cons.injEq] at h3
  obtain ⟨_,_,rfl,_⟩:=h3
  exact e4
 generalize p.rules[k]=x at *
 generalize [rec0 0#32,⟨0#32,3221225535#32,0#64,[0#64,0#64,0#64,0#64,0#64,0#64]⟩]++(p.rules.take k).flatMap ruleEdges=out at *
 have hcp:plain1 cv=true:=hv2.plain
 have st3:storeN 3 (ptr H3.next 0) (.agg [u32 x.number,u32 x.action,cv].toArray) (H3.new (.cells [(.int .u32 0),(.int .u32 0),(.slice none 0 0)] none))=some (H3.new (.cells [u32 x.number,u32 x.action,cv] none)):=fresh_store (n:=3) rfl rfl (by simp [hcp])
 have g2:=g.newbox [u32 x.number,u32 x.action,cv]
 have bx:=AH.get_new_self H3 (.cells [u32 x.number,u32 x.action,cv] none)
 have c0':[u32 x.number,u32 x.action,cv][0]? = some (u32 x.number):=rfl
 have c2':[u32 x.number,u32 x.action,cv][2]? = some cv:=rfl
 have hbv:buildV [(0,1),(1,1),(2,1),(3,6)] #[(.int .u32 0),(.int .u32 0),(.int .u64 0),(.int .u64 0),(.int .u64 0),(.int .u64 0),(.int .u64 0),(.int .u64 0),(.int .u64 0)] [(1,(.int .u32 3221225534)),(0,u32 x.number)]=some (rec0 x.number).v:=by rw [buildV_eq]; rfl
 simp only [F.f11_l1,i64_lss,hlt',f1,lo,allocW_eq,st3,bx,c0',hbv,stdZ]
 rw [show H3.next+1=(H3.new (.cells [u32 x.number,u32 x.action,cv] none)).next from rfl]
 generalize H3.new (.cells [u32 x.number,u32 x.action,cv] none)=H4 at *
 generalize H3.next=t5 at *
 have st9:storeN 9 (ptr H4.next 0) (rec0 x.number).v (H4.new (.cells [(.int .u32 0),(.int .u32 0),(.int .u64 0),(.int .u64 0),(.int .u64 0),(.int .u64 0),(.int .u64 0),(.int .u64 0),(.int .u64 0)] none))=some (H4.new (.cells (rec0 x.number).cells none)):=fresh_store rfl rfl (by simp [RecD.cells,rec0])
 have g3:=g2.newbox (rec0 x.number).cells
 have bx3:=g3.box (k:=1) (b:=t5) (c:=[u32 x.number,u32 x.action,cv]) rfl
 have hlc:=(hv2.mono g3.ext).lenSlc
 rw [condR_length] at hlc
 simp only [st9,bx3,c2',hlc,stdZ]
 exact edges_l2 hE hv2 hcx hol g3 (by omega) fun ov' H' g'=>ih _ _ ⟨ov',rfl,g'⟩
end
end Go.AM
end
section
namespace Go.AM
set_option maxRecDepth 20000
def followsF:List PartD->Int->Bool
 | [],_=>false
 | p :: l,n=>if p.kind=1#8 then (if p.to=n then true else followsF l n) else false
def alongF (m:List (Int×Int)):Nat->Int->Int
 | 0,n=>n
 | f+1,n=>match alook n m with
  | none=>n
  | some t=>alongF m f t
def peepF:List PartD->Option (BitVec 32)->List PartD
 | [],_=>[]
 | p :: l,now =>
  if p.kind=1#8 then p :: peepF l none
  else if p.kind=2#8/\p.insn.code=32#16 then (if now=some p.insn.k then peepF l now else p :: peepF l (some p.insn.k))
  else if p.kind=2#8 then p :: peepF l none
  else p :: peepF l now
section
variable {E:Sy} {H H' H0 Z:AH} {Q:Value->AH->Prop} {X:List Res}
theorem part_new (x:PartD) (H:AH):storeN 7 (ptr H.next 0) x.v (H.new (.cells [(.int .u8 0),(.int .i64 0),(.int .i64 0),(.int .u16 0),(.int .u8 0),(.int .u8 0),(.int .u32 0)] none))=some (H.new (.cells x.cells none)):=by
 rw [storeN_ptr,AH.get_new_self]
 have h3:AM.splice [(.int .u8 0),(.int .i64 0),(.int .i64 0),(.int .u16 0),(.int .u8 0),(.int .u8 0),(.int .u32 0)] 0 x.cells=x.cells:=rfl
 have h4:x.cells.all plain1=true:=rfl
 have h5:x.cells.length=7:=rfl
 simp only [List.size_toArray,List.toList_toArray,h4,h5,List.length_cons,List.length_nil,Nat.zero_add,Nat.le_refl,and_self,if_true,h3,AH.new_put]
theorem part_ix {v:Value} {l:List PartD} (hv:Rows H 7 v (partR l)) {k:Nat} (hk:k<l.length):∃ b o,ixSlc 7 v (vi k)=some (ptr b o)/\(H.get b).row o 7=some l[k].cells/\loadN 7 (ptr b o) H=some l[k].v:=by
 obtain ⟨b,o,f1,f2⟩:=hv.ix (i:=k) (by simpa [partR] using hk)
 have hrow:(partR l)[k]'(by simpa [partR] using hk)=l[k].cells:=by simp [partR]
 rw [hrow] at f2
 exact ⟨b,o,f1,f2,by rw [loadN_ptr,f2]; rfl⟩
theorem S.f42 (hE:Fold E) {v:Value} {l:List PartD} (hv:Rows H 7 v (partR l)) (hl:l.length<2 ^ 30) (n:Int) (hQ:∀ H',Ext H H'->Q (vb (followsF l n)) H'):E.call (E.fid i.f42) [v,vi n] H Q:=by
 apply hE.f42
 have i0:(.int .i64 0:Value)=vi ((0:Nat):Int):=rfl
 have hlv:=hv.lenSlc
 have hpl:(partR l).length=l.length:=by simp [partR]
 rw [hpl] at hlv
 simp only [F.f42,hlv,i0,stdZ]
 refine LoopL.count l.length (fun k ls H'=>ls=[vi n,v,vi l.length,vi k]/\Ext H H'/\followsF l n=followsF (l.drop k) n) ?_ ⟨rfl,Ext.refl _,rfl⟩
 rintro k _ H1 X1 hk ih ⟨rfl,e1,hf⟩
 rcases Nat.lt_or_ge k l.length with hlt | hge
 ·have hlt':decide ((k:Int)<l.length)=true:=decide_eq_true (by omega)
  obtain ⟨b,o,f1,_,f2⟩:=part_ix (hv.mono e1) hlt
  have hinc:=i64_inc (i:=k) (by omega)
  rw [List.drop_eq_getElem_cons hlt] at hf
  generalize l[k]=p at *
  have hst:=part_new p H1
  have bp:=AH.get_new_self H1 (.cells p.cells none)
  have x1:Ext H1 (H1.new (.cells p.cells none)):=(Ext.refl _).new _
  have c0:p.cells[0]? = some (u8 p.kind):=rfl
  have c1:p.cells[1]? = some (vi p.to):=rfl
  have q1:(.int .u8 1:Value)=u8 1#8:=rfl
  simp only [F.f42_l1,i64_lss,hlt',f1,f2,allocW_eq,hst,bp,c0,q1,u8_neq,stdZ]
  have hcons:followsF (p :: l.drop (k+1)) n=if p.kind=1#8 then (if p.to=n then true else followsF (l.drop (k+1)) n) else false:=rfl
  rw [hcons] at hf
  by_cases o1:p.kind=1#8
  ·have hd:decide (p.kind≠1#8)=false:=decide_eq_false (by simpa using o1)
   rw [if_pos o1] at hf
   simp only [hd,bp,c1,i64_eql,stdZ]
   by_cases o2:p.to=n
   ·have hd2:decide (p.to=n)=true:=decide_eq_true o2
    rw [if_pos o2] at hf
    rw [hf] at hQ
    simp only [hd2,stdZ]
    exact hQ _ (e1.trans x1)
   ·have hd2:decide (p.to=n)=false:=decide_eq_false o2
    rw [if_neg o2] at hf
    simp only [hd2,hinc,stdZ]
    exact ih hlt _ _ ⟨rfl,e1.trans x1,hf⟩
  ·have hd:decide (p.kind≠1#8)=true:=decide_eq_true o1
   rw [if_neg o1] at hf
   rw [hf] at hQ
   simp only [hd,stdZ]
   exact hQ _ (e1.trans x1)
 ·have hlt':decide ((k:Int)<l.length)=false:=decide_eq_false (by omega)
  rw [List.drop_eq_nil_of_le hge] at hf
  rw [hf] at hQ
  simp only [F.f42_l1,i64_lss,hlt',stdZ]
  exact hQ _ e1
theorem MapAt.look_ints {r:Nat} {l:List (Int×Int)} (h:MapAt vi vi H r l) (a:Int):AM.look 0 (.int .i64 0) true (.map (some r)) (vi a) H=some (.tuple #[vi ((alook a l).getD 0),.bool (alook a l).isSome]):=by
 have:=h.look (kd:=0) same_vi a (.int .i64 0) true
 cases hk:alook a l with
 | none=>unfold alook at hk; rw [hk] at this; rw [this]; rfl
 | some n=>unfold alook at hk; rw [hk] at this; rw [this]; rfl
theorem S.f41 (hE:Fold E) {r:Nat} {m:List (Int×Int)} (hm:MapAt vi vi H r m) (hl:m.length<2 ^ 30) (n:Int) (hQ:Q (vi (alongF m m.length n)) H):E.call (E.fid i.f41) [.map (some r),vi n] H Q:=by
 apply hE.f41
 have i0:(.int .i64 0:Value)=vi ((0:Nat):Int):=rfl
 have hlm:=hm.len
 simp only [F.f41,hlm,i0,stdZ]
 refine LoopL.count m.length (fun k ls H'=>∃ x,ls=[.map (some r),vi x,vi m.length,vi k]/\H=H'/\alongF m m.length n=alongF m (m.length - k) x) ?_ ⟨n,rfl,rfl,rfl⟩
 rintro k _ _ X1 hk ih ⟨x,rfl,rfl,hf⟩
 rcases Nat.lt_or_ge k m.length with hlt | hge
 ·have hlt':decide ((k:Int)<m.length)=true:=decide_eq_true (by omega)
  have hlk:=hm.look_ints x
  have hinc:=i64_inc (i:=k) (by omega)
  obtain ⟨f,hfe⟩:∃ f,m.length - k=f+1:=⟨m.length - k - 1,by omega⟩
  rw [hfe] at hf
  have hsucc:alongF m (f+1) x=match alook x m with | none=>x | some t=>alongF m f t:=rfl
  rw [hsucc] at hf
  simp only [F.f41_l1,i64_lss,hlt',hlk,stdZ]
  cases ha:alook x m with
  | none =>
   rw [ha] at hf
   have hf:alongF m m.length n=x:=hf
   simp only [Option.isSome_none,stdZ]
   rw [<- hf]
   exact hQ
  | some t =>
   rw [ha] at hf
   have hf:alongF m m.length n=alongF m f t:=hf
   simp only [Option.isSome_some,Option.getD_some,hinc,stdZ]
   exact ih hlt _ _ ⟨t,rfl,rfl,by rw [hf,show m.length - (k+1)=f by omega]⟩
 ·have hlt':decide ((k:Int)<m.length)=false:=decide_eq_false (by omega)
  have h0:m.length - k=0:=by omega
  rw [h0] at hf
  have hf:alongF m m.length n=x:=hf
  simp only [F.f41_l1,i64_lss,hlt',stdZ]
  rw [<- hf]
  exact hQ
end
end Go.AM
end
section
namespace Go.AM
set_option maxRecDepth 20000
def nowC (o:Option (BitVec 32)):List Value:=[vb o.isSome,u32 (o.getD 0#32)]
section
variable {E:Sy} {H H' H0 Z:AH} {Q:Value->AH->Prop} {X:List Res}
theorem now_same (o:Option (BitVec 32)) (k:BitVec 32):binAgg [2,0] .eql (.agg (nowC o).toArray) (.agg [vb true,u32 k].toArray)=some (vb (decide (o=some k))):=by
 have hb:∀ a:Bool,sameCell 2 (vb a) (vb true)=some (a == true):=fun _=>rfl
 simp only [binAgg,nowC,List.toList_toArray,sameCells,hb,same_u32,Option.bind_some,Option.map_some]
 cases o with
 | none=>simp
 | some x=>simp
def peL (nb:Nat) (o:Option (BitVec 32)) (ov:Value) (out:List PartD):List Res:=[boxR nb (nowC o),growR 7 ov (partR out)]
theorem Has.setNow {nb:Nat} {o:Option (BitVec 32)} {ov:Value} {out:List PartD} (h:Has H0 Z H (peL nb o ov out++X)) (o':Option (BitVec 32)):∃ H',storeN 2 (ptr nb 0) (.agg (nowC o').toArray) H=some H'/\Has H0 Z H' (peL nb o' ov out++X):=by
 have hb:=h.box (k:=0) (b:=nb) (c:=nowC o) rfl
 refine ⟨H.put nb (.cells (nowC o') none),by rw [storeN_ptr,hb]; rfl,h.put (k:=0) (b:=nb) (c:=nowC o) rfl (nowC o')⟩
theorem peL_push {nb:Nat} {o:Option (BitVec 32)} {ov:Value} {out:List PartD} (h:Has H0 Z H (peL nb o ov out++X)) (hl:out.length<2 ^ 30) (p:PartD):∃ v' H',app 7 32 ov (slc H.next 0 1 1) (H.new (.cells p.cells none))=some (v',H')/\Has H0 Z H' (peL nb o v' (out++[p])++X):=by
 obtain ⟨v',H3,a1,a2,g⟩:=h.app1 (k:=1) (sz:=7) (v:=ov) (rows:=partR out) (bytes:=32) rfl p.cells rfl (by simp [PartD.cells]) (by decide) (by decide) (by simp only [partR,List.length_map]; omega)
 refine ⟨v',H3,a1,?_⟩
 have hr:partR (out++[p])=partR out++[p.cells]:=by simp [partR]
 show Has H0 Z H3 (boxR nb (nowC o) :: growR 7 v' (partR (out++[p])) :: X)
 rw [hr]
 exact g
theorem part_ext {b o:Nat} {p:PartD} (e:Ext H0 H) (hr:(H0.get b).row o 7=some p.cells):loadN 7 (ptr b o) H=some p.v:=by
 have:H.get b=H0.get b:=e.obj (o:=H0.get b) (fun hd=>by rw [hd] at hr; cases hr) rfl
 rw [loadN_ptr,this,hr]; rfl
theorem S.f14 (hE:Fold E) {v:Value} {l:List PartD} (hv:Rows H 7 v (partR l)) (hl:l.length<2 ^ 29) (hQ:∀ w H',Ext H H'->Rows H' 7 w (partR (peepF l none))->Q w H'):E.call (E.fid i.f14) [v] H Q:=by
 apply hE.f14
 have i0:(.int .i64 0:Value)=vi ((0:Nat):Int):=rfl
 have hlv:=hv.lenSlc
 have hpl:(partR l).length=l.length:=by simp [partR]
 rw [hpl] at hlv
 have g1:=((Has.begin (Ext.refl H) (Sub.refl H)).newbox [(.bool false),(.int .u32 0)]).nils 7
 simp only [F.f14,allocW_eq,hlv,i0,stdZ]
 generalize H.new (.cells [(.bool false),(.int .u32 0)] none)=H2 at *
 generalize H.next=nb at *
 refine LoopL.count l.length (fun k ls H'=>∃ ov out now,ls=[ov,ptr nb 0,v,vi l.length,vi k]/\Has H H H' (peL nb now ov out++[])/\out.length<=k/\out++peepF (l.drop k) now=peepF l none) ?_ ⟨nilS,[],none,rfl,g1,Nat.le_refl _,rfl⟩
 rintro k _ H3 X1 hk ih ⟨ov,out,now,rfl,g,hol,hpe⟩
 rcases Nat.lt_or_ge k l.length with hlt | hge
 rotate_left
 ·have hlt':decide ((k:Int)<l.length)=false:=decide_eq_false (by omega)
  rw [List.drop_eq_nil_of_le hge] at hpe
  have hpe:out=peepF l none:=by rw [<- hpe]; simp [peepF]
  simp only [F.f14_l1,i64_lss,hlt',stdZ]
  refine hQ _ _ g.ext ?_
  rw [<- hpe]
  exact g.rows (k:=1) (sz:=7) (v:=ov) (rows:=partR out) rfl
 have hlt':decide ((k:Int)<l.length)=true:=decide_eq_true (by omega)
 obtain ⟨b,o,f1,f2,_⟩:=part_ix hv hlt
 have lo:=part_ext g.ext f2
 have hinc:=i64_inc (i:=k) (by omega)
 rw [List.drop_eq_getElem_cons hlt] at hpe
 generalize l[k]=p at *
 have hst:=part_new p H3
 have bp:=AH.get_new_self H3 (.cells p.cells none)
 have g4:Has H H (H3.new (.cells p.cells none)) (peL nb now ov out++[boxR H3.next p.cells]):=g.newbox p.cells
 have c0:p.cells[0]? = some (u8 p.kind):=rfl
 have c3:p.cells[3]? = some (u16 p.insn.code):=rfl
 have c6:p.cells[6]? = some (u32 p.insn.k):=rfl
 have q1:(.int .u8 1:Value)=u8 1#8:=rfl
 have q2:(.int .u8 2:Value)=u8 2#8:=rfl
 have q32:(.int .u16 32:Value)=u16 32#16:=rfl
 have hbv0:buildV [(0,1),(1,1)] #[(.bool false),(.int .u32 0)] []=some (.agg (nowC none).toArray):=rfl
 have hbv1:buildV [(0,1),(1,1)] #[(.bool false),(.int .u32 0)] [(0,(.bool true)),(1,u32 p.insn.k)]=some (.agg (nowC (some p.insn.k)).toArray):=rfl
 simp only [F.f14_l1,i64_lss,hlt',f1,lo,allocW_eq,hst,bp,c0,q1,u8_eql,stdZ]
 generalize H3.new (.cells p.cells none)=H4 at *
 generalize H3.next=t at *
 have fin:∀ (now':Option (BitVec 32)) (K:AH),Has H H K (peL nb now' ov out++[boxR t p.cells])->(out++[p])++peepF (l.drop (k+1)) now'=peepF l none->F.f14_j1 E Q X1 ov (ptr nb 0) (ptr t 0) v (vi l.length) (vi k) K:=by
  intro now' K gk hk'
  have hbt:=gk.box (k:=2) (b:=t) (c:=p.cells) rfl
  have lot:loadN 7 (ptr t 0) K=some p.v:=by rw [loadN_ptr,hbt,row_all _ _ 7 rfl]; rfl
  have hbS:buildS 1 7 #[(.int .u8 0),(.int .i64 0),(.int .i64 0),(.int .u16 0),(.int .u8 0),(.int .u8 0),(.int .u32 0)] [(0,p.v)]=some (.cells p.cells none,mkSlc 1 1):=buildS_one 7 [u8 0#8,vi 0,vi 0,u16 0#16,u8 0#8,u8 0#8,u32 0#32] p.cells rfl rfl
  obtain ⟨w,K2,a1,g5⟩:=peL_push gk (by omega) p
  simp only [F.f14_j1,lot,hbS,AM.mk_some,mkSlc_eq,a1,hinc,stdZ]
  exact ih hlt _ _ ⟨w,out++[p],now',rfl,Has.dropLast (L:=peL nb now' w (out++[p])) g5,by simp; omega,hk'⟩
 have hcons:peepF (p :: l.drop (k+1)) now=if p.kind=1#8 then p :: peepF (l.drop (k+1)) none
  else if p.kind=2#8/\p.insn.code=32#16 then (if now=some p.insn.k then peepF (l.drop (k+1)) now else p :: peepF (l.drop (k+1)) (some p.insn.k))
  else if p.kind=2#8 then p :: peepF (l.drop (k+1)) none
  else p :: peepF (l.drop (k+1)) now:=rfl
 rw [hcons] at hpe
 by_cases o1:p.kind=1#8
 ·have hd:decide (p.kind=1#8)=true:=decide_eq_true o1
  rw [if_pos o1] at hpe
  obtain ⟨K,s1,gk⟩:=g4.setNow none
  simp only [hd,hbv0,s1,stdZ]
  exact fin none K gk (by rw [List.append_assoc]; exact hpe)
 have hd1:decide (p.kind=1#8)=false:=decide_eq_false o1
 rw [if_neg o1] at hpe
 simp only [hd1,bp,c0,q2,u8_eql,stdZ]
 by_cases o2:p.kind=2#8
 ·have hd:decide (p.kind=2#8)=true:=decide_eq_true o2
  simp only [hd,bp,c3,q32,u16_eql,stdZ]
  by_cases o3:p.insn.code=32#16
  ·have hd3:decide (p.insn.code=32#16)=true:=decide_eq_true o3
   rw [if_pos ⟨o2,o3⟩] at hpe
   have hbn:=g4.box (k:=0) (b:=nb) (c:=nowC now) rfl
   have lon:loadN 2 (ptr nb 0) H4=some (.agg (nowC now).toArray):=by rw [loadN_ptr,hbn,row_all _ _ 2 rfl]; rfl
   have hsame:binAgg [2,0] .eql (.agg (nowC now).toArray) (.agg (nowC (some p.insn.k)).toArray)=some (vb (decide (now=some p.insn.k))):=now_same now p.insn.k
   simp only [hd3,lon,bp,c6,hbv1,hsame,stdZ]
   by_cases o4:now=some p.insn.k
   ·have hd4:decide (now=some p.insn.k)=true:=decide_eq_true o4
    rw [if_pos o4] at hpe
    simp only [hd4,hinc,stdZ]
    exact ih hlt _ _ ⟨ov,out,now,rfl,Has.dropLast (L:=peL nb now ov out) g4,by omega,hpe⟩
   ·have hd4:decide (now=some p.insn.k)=false:=decide_eq_false o4
    rw [if_neg o4] at hpe
    obtain ⟨K,s1,gk⟩:=g4.setNow (some p.insn.k)
    simp only [hd4,bp,c6,hbv1,s1,stdZ]
    exact fin (some p.insn.k) K gk (by rw [List.append_assoc]; exact hpe)
  ·have hd3:decide (p.insn.code=32#16)=false:=decide_eq_false o3
   rw [if_neg (fun h=>o3 h.2),if_pos o2] at hpe
   obtain ⟨K,s1,gk⟩:=g4.setNow none
   simp only [hd3,hd,bp,c0,q2,u8_eql,hbv0,s1,stdZ]
   exact fin none K gk (by rw [List.append_assoc]; exact hpe)
 ·have hd:decide (p.kind=2#8)=false:=decide_eq_false o2
  rw [if_neg (fun h=>o2 h.1),if_neg o2] at hpe
  simp only [hd,bp,c0,q2,u8_eql,stdZ]
  exact fin now H4 g4 (by rw [List.append_assoc]; exact hpe)
end
end Go.AM
end
section
namespace Go.AM
set_option maxRecDepth 20000
def skipF:List PartD->List PartD
 | []=>[]
 | p :: l=>if p.kind=1#8 then skipF l else p :: l
def thread1 (p:PartD) (l:List PartD) (m:List (Int×Int)):List (Int×Int) :=
 if p.kind=1#8 then (match (skipF l).head? with
  | some q=>if q.kind=4#8 then aset p.to q.to m else m
  | none=>m) else m
def threadsF:List PartD->List (Int×Int)->List (Int×Int)
 | [],m=>m
 | p :: l,m=>threadsF l (thread1 p l m)
section
variable {E:Sy} {H H' H0 Z:AH} {Q:Value->AH->Prop} {X:List Res}
theorem threads_l2 (hE:Fold E) {v:Value} {l:List PartD} (hv:Rows H0 7 v (partR l)) (hl:l.length<2 ^ 29) {k:Nat} (hk:k<l.length) (h1:l[k].kind=1#8) {r t:Nat} {m:List (Int×Int)} (g:Has H0 Z H [mapR vi vi r m,boxR t l[k].cells]) {X0:List Value->AH->Prop}
  (next:∀ H',Has H0 Z H' [mapR vi vi r (thread1 l[k] (l.drop (k+1)) m)]->X0 [v,.map (some r),v,vi l.length,vi ((k+1:Nat):Int)] H') :
  LoopL (fun l H X1=>F.f48_l2 E Q X0 (nth l 0) (nth l 1) (nth l 2) (nth l 3) (nth l 4) (nth l 5) (nth l 6) H X1) [v,.map (some r),ptr t 0,vi k,v,vi l.length,vi k] H:=by
 have hlv:=hv.lenSlc
 have hpl:(partR l).length=l.length:=by simp [partR]
 rw [hpl] at hlv
 have hinck:=i64_inc (i:=k) (by omega)
 have hth:thread1 l[k] (l.drop (k+1)) m=match (skipF (l.drop k)).head? with
  | some q=>if q.kind=4#8 then aset l[k].to q.to m else m
  | none=>m:=by
  have:skipF (l.drop k)=skipF (l.drop (k+1)):=by
   rw [List.drop_eq_getElem_cons hk]
   show (if l[k].kind=1#8 then _ else _)=_
   rw [if_pos h1]
  unfold thread1
  rw [if_pos h1,this]
 refine LoopL.ind (fun n ls H'=>H=H'/\∃ j:Nat,n=l.length - j/\j<=l.length/\skipF (l.drop k)=skipF (l.drop j)/\ls=[v,.map (some r),ptr t 0,vi j,v,vi l.length,vi k]) ?_ (l.length - k) ⟨rfl,k,rfl,by omega,rfl,rfl⟩
 rintro n _ _ X1 ih ⟨rfl,j,rfl,hj,hs,rfl⟩
 have q1:(.int .u8 1:Value)=u8 1#8:=rfl
 have q4:(.int .u8 4:Value)=u8 4#8:=rfl
 rcases Nat.lt_or_ge j l.length with hlt | hge
 ·have hlt':decide ((j:Int)<l.length)=true:=decide_eq_true (by omega)
  obtain ⟨b,o,f1,f2,_⟩:=part_ix (hv.mono g.ext) hlt
  have c0:((H.get b).cell o)=some (u8 l[j].kind):=by have:=row_at f2 (j:=0) (by omega); simpa [PartD.cells] using this
  have c1:((H.get b).cell (o+1))=some (vi l[j].to):=by have:=row_at f2 (j:=1) (by omega); simpa [PartD.cells] using this
  have hinc:=i64_inc (i:=j) (by omega)
  have hdr:l.drop j=l[j] :: l.drop (j+1):=List.drop_eq_getElem_cons hlt
  have hsk:skipF (l.drop j)=if l[j].kind=1#8 then skipF (l.drop (j+1)) else l[j] :: l.drop (j+1):=by rw [hdr]; rfl
  generalize l[j]=p at *
  simp only [F.f48_l2,hlv,i64_lss,hlt',f1,c0,q1,u8_eql,stdZ]
  by_cases o1:p.kind=1#8
  ·have hd:decide (p.kind=1#8)=true:=decide_eq_true o1
   rw [if_pos o1] at hsk
   simp only [hd,hinc,stdZ]
   exact ih _ (by omega) _ _ ⟨rfl,j+1,rfl,by omega,by rw [hs,hsk],rfl⟩
  ·have hd:decide (p.kind=1#8)=false:=decide_eq_false o1
   rw [if_neg o1] at hsk
   rw [hs,hsk] at hth
   simp only [hd,hlv,i64_lss,hlt',f1,c0,q4,u8_eql,stdZ]
   by_cases o4:p.kind=4#8
   ·have hd4:decide (p.kind=4#8)=true:=decide_eq_true o4
    have hbt:=g.box (k:=1) (b:=t) (c:=l[k].cells) rfl
    have ct:l[k].cells[1]? = some (vi l[k].to):=rfl
    obtain ⟨H2,m1,g2⟩:=g.mapset (n:=0) (r:=r) (l:=m) (fk:=vi) (fv:=vi) rfl same_vi l[k].to p.to
    have hth:thread1 l[k] (l.drop (k+1)) m=aset l[k].to p.to m:=by rw [hth]; show (if p.kind=4#8 then _ else _)=_; rw [if_pos o4]
    rw [hth] at next
    simp only [hd4,hbt,ct,f1,c1,m1,hinck,stdZ]
    exact next _ (g2.drop 1)
   ·have hd4:decide (p.kind=4#8)=false:=decide_eq_false o4
    have hth:thread1 l[k] (l.drop (k+1)) m=m:=by rw [hth]; show (if p.kind=4#8 then _ else _)=_; rw [if_neg o4]
    rw [hth] at next
    simp only [hd4,hinck,stdZ]
    exact next _ (g.drop 1)
 ·have hlt':decide ((j:Int)<l.length)=false:=decide_eq_false (by omega)
  rw [hs,List.drop_eq_nil_of_le hge] at hth
  have hth:thread1 l[k] (l.drop (k+1)) m=m:=hth
  rw [hth] at next
  simp only [F.f48_l2,hlv,i64_lss,hlt',hinck,stdZ]
  exact next _ (g.drop 1)
theorem S.f48 (hE:Fold E) {v:Value} {l:List PartD} (hv:Rows H 7 v (partR l)) (hl:l.length<2 ^ 29) (hQ:∀ r H',Has H H H' [mapR vi vi r (threadsF l [])]->Q (.map (some r)) H'):E.call (E.fid i.f48) [v] H Q:=by
 apply hE.f48
 have hlv:=hv.lenSlc
 have hpl:(partR l).length=l.length:=by simp [partR]
 rw [hpl] at hlv
 have i0:(.int .i64 0:Value)=vi ((0:Nat):Int):=rfl
 have hmw:∀ (H:AH) (K:Value->AH->Prop),mapW H K=K (.map (some H.next)) (H.new (.map [] 0 true)):=fun _ _=>rfl
 have g1:=(Has.begin (Ext.refl H) (Sub.refl H)).newmap vi vi
 simp only [F.f48,hmw,hlv,i0,stdZ]
 generalize H.new (.map [] 0 true)=H1 at *
 generalize H.next=r at *
 refine LoopL.count l.length (fun k ls H'=>ls=[v,.map (some r),v,vi l.length,vi k]/\∃ m,Has H H H' [mapR vi vi r m]/\threadsF (l.drop k) m=threadsF l []) ?_ ⟨rfl,[],g1,rfl⟩
 rintro k _ H2 X1 hk ih ⟨rfl,m,g,hm⟩
 rcases Nat.lt_or_ge k l.length with hlt | hge
 ·have hlt':decide ((k:Int)<l.length)=true:=decide_eq_true (by omega)
  obtain ⟨b,o,f1,f2,_⟩:=part_ix hv hlt
  have lo:=part_ext g.ext f2
  have hinc:=i64_inc (i:=k) (by omega)
  rw [List.drop_eq_getElem_cons hlt] at hm
  have hm:threadsF (l.drop (k+1)) (thread1 l[k] (l.drop (k+1)) m)=threadsF l []:=hm
  have hst:=part_new l[k] H2
  have bp:=AH.get_new_self H2 (.cells l[k].cells none)
  have g3:=g.newbox l[k].cells
  have c0:l[k].cells[0]? = some (u8 l[k].kind):=rfl
  have q1:(.int .u8 1:Value)=u8 1#8:=rfl
  simp only [F.f48_l1,i64_lss,hlt',f1,lo,allocW_eq,hst,bp,c0,q1,u8_neq,stdZ]
  generalize H2.new (.cells l[k].cells none)=H3 at *
  generalize H2.next=t at *
  by_cases o1:l[k].kind=1#8
  ·have hd:decide (l[k].kind≠1#8)=false:=decide_eq_false (by simpa using o1)
   simp only [hd,stdZ]
   exact threads_l2 hE hv hl hlt o1 g3 fun H' g'=>ih hlt _ _ ⟨rfl,_,g',hm⟩
  ·have hd:decide (l[k].kind≠1#8)=true:=decide_eq_true o1
   have ht:thread1 l[k] (l.drop (k+1)) m=m:=by unfold thread1; rw [if_neg o1]
   rw [ht] at hm
   simp only [hd,hinc,stdZ]
   exact ih hlt _ _ ⟨rfl,m,g3.drop 1,hm⟩
 ·have hlt':decide ((k:Int)<l.length)=false:=decide_eq_false (by omega)
  rw [List.drop_eq_nil_of_le hge] at hm
  have hm:m=threadsF l []:=hm
  simp only [F.f48_l1,i64_lss,hlt',stdZ]
  rw [hm] at g
  exact hQ _ _ g
end
end Go.AM
end
section
namespace Go.AM
set_option maxRecDepth 20000
def redirF (w:List (Int×Int)) (p:PartD):PartD :=
 if p.kind=4#8 then { p with to:=alongF w w.length p.to }
 else if p.kind=3#8 then { p with to:=alongF w w.length p.to,els:=alongF w w.length p.els }
 else p
def used1 (u:List (Int×Bool)) (p:PartD):List (Int×Bool) :=
 if p.kind=4#8 then aset p.to true u
 else if p.kind=3#8 then aset p.els true (aset p.to true u)
 else u
def keepF (u:List (Int×Bool)):List PartD->Bool->List PartD
 | [],_=>[]
 | p :: l,dead =>
  if p.kind=1#8 then (if (alook p.to u).getD false=true then p :: keepF u l false else keepF u l dead)
  else if dead=true\/(p.kind=4#8/\followsF l p.to=true) then keepF u l dead
  else p :: keepF u l (decide (p.kind=4#8)||(decide (p.kind=2#8)&&decide (iclass p.insn.code=6#16)))
def onceF (l:List PartD):List PartD :=
 let out:=l.map (redirF (threadsF l []))
 keepF (out.foldl used1 []) out false
section
variable {E:Sy} {H H' H0 Z:AH} {Q:Value->AH->Prop} {X:List Res}
theorem Has.bset {L:List Res} {n t k:Nat} {c c':List Value} {v:Value} (h:Has H0 Z H L) (hn:L[n]? = some (boxR t c)) (hp:plain1 v=true) (hk:k<c.length) (hc:c.set k v=c'):∃ H',store1 (ptr t k) v H=some H'/\Has H0 Z H' (L.set n (boxR t c')):=by
 subst hc
 have hb:=h.box hn
 refine ⟨H.put t (.cells (c.set k v) none),?_,h.put hn _⟩
 rw [store1_ptr,if_pos hp,hb]
 simp only [hk,if_true]
def onL (r ur:Nat) (w:List (Int×Int)) (u:List (Int×Bool)) (ov:Value) (out:List PartD):List Res:=[mapR vi vi r w,mapR vi vb ur u,growR 7 ov (partR out)]
theorem once_j1 (hE:Fold E) {r ur t:Nat} {w:List (Int×Int)} {u:List (Int×Bool)} {ov v:Value} {out:List PartD} {p:PartD} (g:Has H0 Z H (onL r ur w u ov out++[boxR t p.cells])) (hl:out.length<2 ^ 30) {ln k:Nat} (hk:k<2 ^ 30) {X0:List Value->AH->Prop}
  (next:∀ ov' H',Has H0 Z H' (onL r ur w u ov' (out++[p]))->X0 [.map (some r),.map (some ur),ov',v,vi ln,vi ((k+1:Nat):Int)] H'):F.f47_j1 E Q X0 (.map (some r)) (.map (some ur)) ov (ptr t 0) v (vi ln) (vi k) H:=by
 have hbt:=g.box (k:=3) (b:=t) (c:=p.cells) rfl
 have lot:loadN 7 (ptr t 0) H=some p.v:=by rw [loadN_ptr,hbt,row_all _ _ 7 rfl]; rfl
 have hbS:buildS 1 7 #[(.int .u8 0),(.int .i64 0),(.int .i64 0),(.int .u16 0),(.int .u8 0),(.int .u8 0),(.int .u32 0)] [(0,p.v)]=some (.cells p.cells none,mkSlc 1 1):=buildS_one 7 [u8 0#8,vi 0,vi 0,u16 0#16,u8 0#8,u8 0#8,u32 0#32] p.cells rfl rfl
 have hinc:=i64_inc (i:=k) (by omega)
 obtain ⟨v',H3,a1,a2,g2⟩:=g.app1 (k:=2) (sz:=7) (v:=ov) (rows:=partR out) (bytes:=32) rfl p.cells rfl (by simp [PartD.cells]) (by decide) (by decide) (by simp only [partR,List.length_map]; omega)
 have hr:partR (out++[p])=partR out++[p.cells]:=by simp [partR]
 simp only [F.f47_j1,lot,hbS,AM.mk_some,mkSlc_eq,a1,hinc,stdZ]
 refine next v' H3 ?_
 show Has H0 Z H3 [mapR vi vi r w,mapR vi vb ur u,growR 7 v' (partR (out++[p]))]
 rw [hr]
 exact Has.dropLast (L:=[mapR vi vi r w,mapR vi vb ur u,growR 7 v' (partR out++[p.cells])]) g2
theorem once_l1 (hE:Fold E) {v:Value} {l:List PartD} (hv:Rows H0 7 v (partR l)) (hl:l.length<2 ^ 29) {r ur:Nat} {w:List (Int×Int)} (hw:w.length<2 ^ 30) (g0:Has H0 Z H (onL r ur w [] nilS []))
  {R:List Value->AH->Prop} (hR:∀ ov H',Has H0 Z H' (onL r ur w ((l.map (redirF w)).foldl used1 []) ov (l.map (redirF w))) ->
   (opt (lenSlc ov) fun v27=>LoopL (fun l H X0=>F.f47_l2 E Q (nth l 0) (nth l 1) (nth l 2) (nth l 3) (nth l 4) (nth l 5) (nth l 6) H X0) [.map (some ur),ov,(.slice none 0 0),(.bool false),ov,v27,(.int .i64 0)] H')) :
  LoopL (fun l H X0=>F.f47_l1 E Q (nth l 0) (nth l 1) (nth l 2) (nth l 3) (nth l 4) (nth l 5) H X0) [.map (some r),.map (some ur),(.slice none 0 0),v,vi l.length,(.int .i64 0)] H:=by
 have i0:(.int .i64 0:Value)=vi ((0:Nat):Int):=rfl
 rw [i0]
 refine LoopL.count l.length (fun k ls H'=>∃ ov,ls=[.map (some r),.map (some ur),ov,v,vi l.length,vi k]/\Has H0 Z H' (onL r ur w (((l.take k).map (redirF w)).foldl used1 []) ov ((l.take k).map (redirF w)))) ?_ ⟨nilS,rfl,g0⟩
 rintro k _ H1 X1 hk ih ⟨ov,rfl,g⟩
 rcases Nat.lt_or_ge k l.length with hlt | hge
 rotate_left
 ·have hke:k=l.length:=by omega
  subst hke
  have hlt':decide ((l.length:Int)<l.length)=false:=decide_eq_false (by omega)
  rw [List.take_length] at g
  simp only [F.f47_l1,i64_lss,hlt',stdZ]
  exact hR _ _ g
 have hlt':decide ((k:Int)<l.length)=true:=decide_eq_true (by omega)
 obtain ⟨b,o,f1,f2,_⟩:=part_ix hv hlt
 have lo:=part_ext g.ext f2
 have htk:(l.take (k+1)).map (redirF w)=(l.take k).map (redirF w)++[redirF w l[k]]:=by
  rw [List.take_succ,List.getElem?_eq_getElem hlt,List.map_append]; rfl
 have hlen:((l.take k).map (redirF w)).length<2 ^ 30:=by rw [List.length_map,List.length_take]; omega
 have hus:((l.take (k+1)).map (redirF w)).foldl used1 []=used1 (((l.take k).map (redirF w)).foldl used1 []) (redirF w l[k]):=by rw [htk,List.foldl_append]; rfl
 have ih:=ih hlt
 rw [htk] at ih
 rw [htk] at hus
 generalize l[k]=p at *
 rw [hus] at ih
 generalize (l.take k).map (redirF w)=out at *
 generalize out.foldl used1 []=u at *
 have hst:=part_new p H1
 have g2:=g.newbox p.cells
 have bp:=AH.get_new_self H1 (.cells p.cells none)
 have c0:p.cells[0]? = some (u8 p.kind):=rfl
 have c1:p.cells[1]? = some (vi p.to):=rfl
 have c2:p.cells[2]? = some (vi p.els):=rfl
 have q4:(.int .u8 4:Value)=u8 4#8:=rfl
 have q3:(.int .u8 3:Value)=u8 3#8:=rfl
 simp only [F.f47_l1,i64_lss,hlt',f1,lo,allocW_eq,hst,bp,c0,q4,u8_eql,stdZ]
 generalize H1.new (.cells p.cells none)=H2 at *
 generalize H1.next=t at *
 have hmw:MapAt vi vi H2 r w:=g2.mapAt (k:=0) rfl
 by_cases o4:p.kind=4#8
 ·have hd:decide (p.kind=4#8)=true:=decide_eq_true o4
  have hrd:redirF w p={ p with to:=alongF w w.length p.to }:=by unfold redirF; rw [if_pos o4]
  have hu1:used1 u (redirF w p)=aset (alongF w w.length p.to) true u:=by rw [hrd]; unfold used1; rw [if_pos (show PartD.kind { p with to:=alongF w w.length p.to }=4#8 from o4)]
  rw [hu1,hrd] at ih
  simp only [hd,bp,c1,stdZ]
  refine S.f41 hE hmw hw p.to ?_
  obtain ⟨H4,s4,g4⟩:=g2.bset (n:=3) (t:=t) (k:=1) (c:=p.cells) (c':=PartD.cells { p with to:=alongF w w.length p.to }) (v:=vi (alongF w w.length p.to)) rfl rfl (by simp [PartD.cells]) rfl
  have b4:=g4.box (k:=3) (b:=t) (c:=PartD.cells { p with to:=alongF w w.length p.to }) rfl
  have d1:(PartD.cells { p with to:=alongF w w.length p.to })[1]? = some (vi (alongF w w.length p.to)):=rfl
  obtain ⟨H5,m5,g5⟩:=g4.mapset (n:=1) (r:=ur) (l:=u) (fk:=vi) (fv:=vb) rfl same_vi (alongF w w.length p.to) true
  have m5:setMap 0 (.map (some ur)) (vi (alongF w w.length p.to)) (.bool true) H4=some H5:=m5
  simp only [s4,b4,d1,m5,stdZ]
  exact once_j1 hE (p:={ p with to:=alongF w w.length p.to }) g5 hlen (by omega) fun ov' H' g'=>ih _ _ ⟨ov',rfl,g'⟩
 have hd4:decide (p.kind=4#8)=false:=decide_eq_false o4
 simp only [hd4,q3,u8_eql,stdZ]
 by_cases o3:p.kind=3#8
 ·have hd:decide (p.kind=3#8)=true:=decide_eq_true o3
  have hrd:redirF w p={ p with to:=alongF w w.length p.to,els:=alongF w w.length p.els }:=by unfold redirF; rw [if_neg o4,if_pos o3]
  have hu1:used1 u (redirF w p)=aset (alongF w w.length p.els) true (aset (alongF w w.length p.to) true u):=by
   rw [hrd]; unfold used1
   rw [if_neg (show ¬ PartD.kind { p with to:=alongF w w.length p.to,els:=alongF w w.length p.els }=4#8 from o4),if_pos (show PartD.kind { p with to:=alongF w w.length p.to,els:=alongF w w.length p.els }=3#8 from o3)]
  rw [hu1,hrd] at ih
  simp only [hd,bp,c1,c2,stdZ]
  refine S.f41 hE hmw hw p.to ?_
  refine ⟨rfl,?_⟩
  simp only [stdZ]
  refine S.f41 hE hmw hw p.els ?_
  obtain ⟨H4,s4,g4⟩:=g2.bset (n:=3) (t:=t) (k:=1) (c:=p.cells) (c':=PartD.cells { p with to:=alongF w w.length p.to }) (v:=vi (alongF w w.length p.to)) rfl rfl (by simp [PartD.cells]) rfl
  obtain ⟨H5,s5,g5⟩:=g4.bset (n:=3) (t:=t) (k:=2) (c:=PartD.cells { p with to:=alongF w w.length p.to }) (c':=PartD.cells { p with to:=alongF w w.length p.to,els:=alongF w w.length p.els }) (v:=vi (alongF w w.length p.els)) rfl rfl (by simp [PartD.cells]) rfl
  have b5:=g5.box (k:=3) (b:=t) (c:=PartD.cells { p with to:=alongF w w.length p.to,els:=alongF w w.length p.els }) rfl
  have d1:(PartD.cells { p with to:=alongF w w.length p.to,els:=alongF w w.length p.els })[1]? = some (vi (alongF w w.length p.to)):=rfl
  have d2:(PartD.cells { p with to:=alongF w w.length p.to,els:=alongF w w.length p.els })[2]? = some (vi (alongF w w.length p.els)):=rfl
  obtain ⟨H6,m6,g6⟩:=g5.mapset (n:=1) (r:=ur) (l:=u) (fk:=vi) (fv:=vb) rfl same_vi (alongF w w.length p.to) true
  have m6:setMap 0 (.map (some ur)) (vi (alongF w w.length p.to)) (.bool true) H5=some H6:=m6
  have b6:=g6.box (k:=3) (b:=t) (c:=PartD.cells { p with to:=alongF w w.length p.to,els:=alongF w w.length p.els }) rfl
  obtain ⟨H7,m7,g7⟩:=g6.mapset (n:=1) (r:=ur) (l:=aset (alongF w w.length p.to) true u) (fk:=vi) (fv:=vb) rfl same_vi (alongF w w.length p.els) true
  have m7:setMap 0 (.map (some ur)) (vi (alongF w w.length p.els)) (.bool true) H6=some H7:=m7
  simp only [s4,s5,b5,d1,d2,m6,stdZ]
  refine ⟨by rw [b6]; rfl,?_⟩
  simp only [m7,stdZ]
  exact once_j1 hE (p:={ p with to:=alongF w w.length p.to,els:=alongF w w.length p.els }) g7 hlen (by omega) fun ov' H' g'=>ih _ _ ⟨ov',rfl,g'⟩
 ·have hd:decide (p.kind=3#8)=false:=decide_eq_false o3
  have hrd:redirF w p=p:=by unfold redirF; rw [if_neg o4,if_neg o3]
  have hu1:used1 u p=u:=by unfold used1; rw [if_neg o4,if_neg o3]
  rw [hrd,hu1] at ih
  simp only [hd,stdZ]
  exact once_j1 hE (p:=p) g2 hlen (by omega) fun ov' H' g'=>ih _ _ ⟨ov',rfl,g'⟩
end
end Go.AM
end
section
namespace Go.AM
set_option maxRecDepth 20000
section
variable {E:Sy} {H H' H0 Z:AH} {Q:Value->AH->Prop} {X:List Res}
theorem MapAt.look_bool {r:Nat} {l:List (Int×Bool)} (h:MapAt vi vb H r l) (a:Int):AM.look 0 (.bool false) false (.map (some r)) (vi a) H=some (vb ((alook a l).getD false)):=by
 have:=h.look (kd:=0) same_vi a (.bool false) false
 cases hk:alook a l with
 | none=>unfold alook at hk; rw [hk] at this; rw [this]; rfl
 | some n=>unfold alook at hk; rw [hk] at this; rw [this]; rfl
def kpL (ur:Nat) (u:List (Int×Bool)) (ov:Value) (out:List PartD) (kv:Value) (kept:List PartD):List Res:=[mapR vi vb ur u,growR 7 ov (partR out),growR 7 kv (partR kept)]
theorem once_j2 (hE:Fold E) {ur t:Nat} {u:List (Int×Bool)} {ov kv:Value} {out kept:List PartD} {p:PartD} (g:Has H0 Z H (kpL ur u ov out kv kept++[boxR t p.cells])) (hl:kept.length<2 ^ 30) {t9 t56:Value} {ln k:Nat} (hk:k<2 ^ 30) (dead:Value) {X0:List Value->AH->Prop}
  (next:∀ kv' H',Has H0 Z H' (kpL ur u ov out kv' (kept++[p]))->X0 [.map (some ur),ov,kv',dead,t56,vi ln,vi ((k+1:Nat):Int)] H'):F.f47_j2 E Q X0 (.map (some ur)) ov kv dead (ptr t 0) t56 (vi ln) (vi k) H:=by
 have hbt:=g.box (k:=3) (b:=t) (c:=p.cells) rfl
 have lot:loadN 7 (ptr t 0) H=some p.v:=by rw [loadN_ptr,hbt,row_all _ _ 7 rfl]; rfl
 have hbS:buildS 1 7 #[(.int .u8 0),(.int .i64 0),(.int .i64 0),(.int .u16 0),(.int .u8 0),(.int .u8 0),(.int .u32 0)] [(0,p.v)]=some (.cells p.cells none,mkSlc 1 1):=buildS_one 7 [u8 0#8,vi 0,vi 0,u16 0#16,u8 0#8,u8 0#8,u32 0#32] p.cells rfl rfl
 have hinc:=i64_inc (i:=k) (by omega)
 obtain ⟨v',H3,a1,a2,g2⟩:=g.app1 (k:=2) (sz:=7) (v:=kv) (rows:=partR kept) (bytes:=32) rfl p.cells rfl (by simp [PartD.cells]) (by decide) (by decide) (by simp only [partR,List.length_map]; omega)
 have hr:partR (kept++[p])=partR kept++[p.cells]:=by simp [partR]
 simp only [F.f47_j2,lot,hbS,AM.mk_some,mkSlc_eq,a1,hinc,stdZ]
 refine next v' H3 ?_
 show Has H0 Z H3 [mapR vi vb ur u,growR 7 ov (partR out),growR 7 v' (partR (kept++[p]))]
 rw [hr]
 exact Has.dropLast (L:=[mapR vi vb ur u,growR 7 ov (partR out),growR 7 v' (partR kept++[p.cells])]) g2
theorem once_l2 (hE:Fold E) {ur:Nat} {u:List (Int×Bool)} {ov:Value} {out:List PartD} (hl:out.length<2 ^ 29) (g0:Has H0 Z H (kpL ur u ov out nilS []))
    (hQ:∀ w H',Ext H0 H'->Rows H' 7 w (partR (keepF u out false))->Q w H') :
    LoopL (fun l H X0=>F.f47_l2 E Q (nth l 0) (nth l 1) (nth l 2) (nth l 3) (nth l 4) (nth l 5) (nth l 6) H X0) [.map (some ur),ov,(.slice none 0 0),(.bool false),ov,vi out.length,(.int .i64 0)] H:=by
  have i0:(.int .i64 0:Value)=vi ((0:Nat):Int):=rfl
  rw [i0]
  refine LoopL.count out.length (fun k ls H'=>∃ kv kept dead,ls=[.map (some ur),ov,kv,vb dead,ov,vi out.length,vi k]/\Has H0 Z H' (kpL ur u ov out kv kept)/\kept.length<=k/\kept++keepF u (out.drop k) dead=keepF u out false) ?_ ⟨nilS,[],false,rfl,g0,Nat.le_refl _,rfl⟩
  rintro k _ H1 X1 hk ih ⟨kv,kept,dead,rfl,g,hkl,hkp⟩
  rcases Nat.lt_or_ge k out.length with hlt | hge
  rotate_left
  · have hlt':decide ((k:Int)<out.length)=false:=decide_eq_false (by omega)
    rw [List.drop_eq_nil_of_le hge] at hkp
    have hkp:kept=keepF u out false:=by rw [<- hkp]; simp [keepF]
    simp only [F.f47_l2,i64_lss,hlt',stdZ]
    refine hQ _ _ g.ext ?_
    rw [<- hkp]
    exact g.rows (k:=2) (sz:=7) (v:=kv) (rows:=partR kept) rfl
  have hlt':decide ((k:Int)<out.length)=true:=decide_eq_true (by omega)
  have hrw:=g.rows (k:=1) (sz:=7) (v:=ov) (rows:=partR out) rfl
  obtain ⟨b,o,f1,_,lo⟩:=part_ix hrw hlt
  have hinc:=i64_inc (i:=k) (by omega)
  have ih:=ih hlt
  have hpo:(partR out).length=out.length:=by simp [partR]
  have hdt:((partR out).take out.length).drop (k+1)=partR (out.drop (k+1)):=by
    rw [<- hpo,List.take_length]; simp [partR]
  rw [List.drop_eq_getElem_cons hlt] at hkp
  generalize out[k]=p at *
  have hst:=part_new p H1
  have g2:=g.newbox p.cells
  have bp:=AH.get_new_self H1 (.cells p.cells none)
  have c0:p.cells[0]? = some (u8 p.kind):=rfl
  have c1:p.cells[1]? = some (vi p.to):=rfl
  have c3:p.cells[3]? = some (u16 p.insn.code):=rfl
  have q1:(.int .u8 1:Value)=u8 1#8:=rfl
  have q2:(.int .u8 2:Value)=u8 2#8:=rfl
  have q4:(.int .u8 4:Value)=u8 4#8:=rfl
  have q6:(.int .u16 6:Value)=u16 6#16:=rfl
  simp only [F.f47_l2,i64_lss,hlt',f1,lo,allocW_eq,hst,bp,c0,q1,u8_eql,stdZ]
  generalize H1.new (.cells p.cells none)=H2 at *
  generalize H1.next=t at *
  have skip:∀ {K:AH},Has H0 Z K (kpL ur u ov out kv kept++[boxR t p.cells])->kept++keepF u (out.drop (k+1)) dead=keepF u out false->X1 [.map (some ur),ov,kv,vb dead,ov,vi out.length,vi ((k+1:Nat):Int)] K:=fun gK h=>ih _ _ ⟨kv,kept,dead,rfl,Has.dropLast (L:=kpL ur u ov out kv kept) gK,by omega,h⟩
  have push:∀ {K:AH} (d':Bool),Has H0 Z K (kpL ur u ov out kv kept++[boxR t p.cells])->(kept++[p])++keepF u (out.drop (k+1)) d'=keepF u out false->F.f47_j2 E Q X1 (.map (some ur)) ov kv (vb d') (ptr t 0) ov (vi out.length) (vi k) K:=fun d' gK h =>
    once_j2 hE gK (by omega) (t9:=nilS) (by omega) (vb d') fun kv' H' g'=>ih _ _ ⟨kv',kept++[p],d',rfl,g',by simp; omega,h⟩
  have hcons:keepF u (p :: out.drop (k+1)) dead=if p.kind=1#8 then (if (alook p.to u).getD false=true then p :: keepF u (out.drop (k+1)) false else keepF u (out.drop (k+1)) dead)
    else if dead=true\/(p.kind=4#8/\followsF (out.drop (k+1)) p.to=true) then keepF u (out.drop (k+1)) dead
    else p :: keepF u (out.drop (k+1)) (decide (p.kind=4#8)||(decide (p.kind=2#8)&&decide (iclass p.insn.code=6#16))):=rfl
  rw [hcons] at hkp
  by_cases o1:p.kind=1#8
  · have hd:decide (p.kind=1#8)=true:=decide_eq_true o1
    have hlk:=(g2.mapAt (k:=0) (fk:=vi) (fv:=vb) (r:=ur) (l:=u) rfl).look_bool p.to
    rw [if_pos o1] at hkp
    simp only [hd,bp,c1,hlk,stdZ]
    cases hu:(alook p.to u).getD false with
    | true =>
      rw [hu,if_pos rfl] at hkp
      simp only [stdZ]
      exact push false g2 (by rw [List.append_assoc]; exact hkp)
    | false =>
      rw [hu,if_neg (by decide)] at hkp
      simp only [hinc,stdZ]
      exact skip g2 hkp
  have hd1:decide (p.kind=1#8)=false:=decide_eq_false o1
  rw [if_neg o1] at hkp
  simp only [hd1,stdZ]
  have stay:∀ {K:AH},Has H0 Z K (kpL ur u ov out kv kept++[boxR t p.cells])->¬ (dead=true\/(p.kind=4#8/\followsF (out.drop (k+1)) p.to=true))->F.f47_j3 E Q X1 (.map (some ur)) ov kv (vb dead) (ptr t 0) ov (vi out.length) (vi k) (vb false) K:=by
    intro K gK hn
    rw [if_neg hn] at hkp
    have bK:=gK.box (k:=3) (b:=t) (c:=p.cells) rfl
    simp only [F.f47_j3,bK,c0,q4,u8_eql,stdZ]
    by_cases o4:p.kind=4#8
    · have hd4:decide (p.kind=4#8)=true:=decide_eq_true o4
      rw [hd4,Bool.true_or] at hkp
      simp only [hd4,stdZ]
      exact push true gK (by rw [List.append_assoc]; exact hkp)
    · have hd4:decide (p.kind=4#8)=false:=decide_eq_false o4
      rw [hd4,Bool.false_or] at hkp
      simp only [hd4,bK,c0,q2,u8_eql,stdZ]
      by_cases o2:p.kind=2#8
      · have hd2:decide (p.kind=2#8)=true:=decide_eq_true o2
        rw [hd2,Bool.true_and] at hkp
        simp only [hd2,bK,c3,stdZ]
        refine S.f15 hE _ ?_
        simp only [q6,u16_eql,hd4,hd2,stdZ]
        exact push _ gK (by rw [List.append_assoc]; exact hkp)
      · have hd2:decide (p.kind=2#8)=false:=decide_eq_false o2
        rw [hd2,Bool.false_and] at hkp
        simp only [hd2,hd4,stdZ]
        exact push false gK (by rw [List.append_assoc]; exact hkp)
  have go:∀ {K:AH},Has H0 Z K (kpL ur u ov out kv kept++[boxR t p.cells])->(dead=true\/(p.kind=4#8/\followsF (out.drop (k+1)) p.to=true))->F.f47_j3 E Q X1 (.map (some ur)) ov kv (vb dead) (ptr t 0) ov (vi out.length) (vi k) (vb true) K:=by
    intro K gK hy
    rw [if_pos hy] at hkp
    simp only [F.f47_j3,hinc,stdZ]
    exact skip gK hkp
  cases dead with
  | true =>
    simp only [stdZ]
    exact go g2 (.inl rfl)
  | false =>
    simp only [bp,c0,q4,u8_eql,stdZ]
    by_cases o4:p.kind=4#8
    · have hd4:decide (p.kind=4#8)=true:=decide_eq_true o4
      have i1:(.int .i64 1:Value)=vi 1:=rfl
      obtain ⟨sl,rl⟩:=(g2.rows (k:=1) (sz:=7) (v:=ov) (rows:=partR out) rfl).slice' (lo:=some (vi ((k+1:Nat):Int))) (hi:=none) (i:=k+1) (j:=out.length) (.inl rfl) (.inr ⟨rfl,hpo.symm⟩) (by omega) (by omega)
      rw [hdt] at rl
      simp only [hd4,hinc,sl,bp,c1,stdZ]
      refine S.f42 hE rl (by rw [List.length_drop]; omega) p.to fun H3 e3 =>?_
      have g3:=g2.grow e3
      cases hf:followsF (out.drop (k+1)) p.to with
      | true =>
        simp only [hd4,stdZ]
        exact go g3 (.inr ⟨o4,hf⟩)
      | false =>
        simp only [hd4,stdZ]
        exact stay g3 (by rintro (h | h); · cases h
                          · rw [hf] at h; cases h.2)
    · have hd4:decide (p.kind=4#8)=false:=decide_eq_false o4
      simp only [hd4,stdZ]
      exact stay g2 (by rintro (h | h); · cases h
                        · exact o4 h.1)
end
end Go.AM
end
section
namespace Go.AM
set_option maxRecDepth 20000
def tidyF:Nat->List PartD->List PartD
 | 0,l=>l
 | f+1,l=>if (onceF l).length=l.length then onceF l else tidyF f (onceF l)
theorem keepF_len (u:List (Int×Bool)):∀ (l:List PartD) (d:Bool),(keepF u l d).length<=l.length
 | [],_=>Nat.le_refl _
 | p :: l,d=>by
  unfold keepF
  have h:=keepF_len u l
  split
  ·split
   ·have:=h false; simp only [List.length_cons]; omega
   ·have:=h d; simp only [List.length_cons]; omega
  ·split
   ·have:=h d; simp only [List.length_cons]; omega
   ·have:=h (decide (p.kind=4#8)||(decide (p.kind=2#8)&&decide (iclass p.insn.code=6#16))); simp only [List.length_cons]; omega
theorem onceF_len (l:List PartD):(onceF l).length<=l.length:=by
 unfold onceF
 have:=keepF_len ((l.map (redirF (threadsF l []))).foldl used1 []) (l.map (redirF (threadsF l []))) false
 rw [List.length_map] at this
 exact this
theorem aset_len {K V:Type} [DecidableEq K] (k:K) (v:V):∀ l:List (K×V),(aset k v l).length<=l.length+1
 | []=>by simp [aset]
 | p :: l=>by
  simp only [aset]
  split
  ·simp
  ·have:=aset_len k v l; simp only [List.length_cons]; omega
theorem threadsF_len:∀ (l:List PartD) (m:List (Int×Int)),(threadsF l m).length<=m.length+l.length
 | [],_=>Nat.le_refl _
 | p :: l,m=>by
  have h1:=threadsF_len l (thread1 p l m)
  have h2:(thread1 p l m).length<=m.length+1:=by
   unfold thread1
   split
   ·split
    ·split
     ·exact aset_len _ _ _
     ·exact Nat.le_succ _
    ·exact Nat.le_succ _
   ·exact Nat.le_succ _
  show (threadsF l (thread1 p l m)).length<=_
  simp only [List.length_cons]
  omega
section
variable {E:Sy} {H H' H0 Z:AH} {Q:Value->AH->Prop} {X:List Res}
theorem S.f47 (hE:Fold E) {v:Value} {l:List PartD} (hv:Rows H 7 v (partR l)) (hl:l.length<2 ^ 29) (hQ:∀ w H',Ext H H'->Rows H' 7 w (partR (onceF l))->Q w H'):E.call (E.fid i.f47) [v] H Q:=by
 apply hE.f47
 have hlv:=hv.lenSlc
 have hpl:(partR l).length=l.length:=by simp [partR]
 rw [hpl] at hlv
 have hmw:∀ (H:AH) (K:Value->AH->Prop),mapW H K=K (.map (some H.next)) (H.new (.map [] 0 true)):=fun _ _=>rfl
 simp only [F.f47,stdZ]
 refine S.f48 hE hv hl fun r H1 g1 =>?_
 have g2:=(g1.newmap vi vb).nils 7
 simp only [hmw,hlv,stdZ]
 generalize H1.new (.map [] 0 true)=H2 at *
 generalize H1.next=ur at *
 have hwl:=threadsF_len l []
 simp only [List.length_nil,Nat.zero_add] at hwl
 refine once_l1 hE hv hl (by omega) g2 (R:=fun _ _=>True) fun ov H3 g3 =>?_
 have hlo:=(g3.rows (k:=2) (sz:=7) (v:=ov) (rows:=partR (l.map (redirF (threadsF l [])))) rfl).lenSlc
 have hpo:(partR (l.map (redirF (threadsF l [])))).length=(l.map (redirF (threadsF l []))).length:=by simp [partR]
 rw [hpo] at hlo
 simp only [hlo,stdZ]
 exact once_l2 hE (by rw [List.length_map]; exact hl) ((g3.drop 0).nils 7) hQ
theorem S.f40 (hE:Fold E) {v:Value} {l:List PartD} (hv:Rows H 7 v (partR l)) (hl:l.length<2 ^ 29) (hQ:∀ w H',Ext H H'->Rows H' 7 w (partR (tidyF (l.length+1) l))->Q w H'):E.call (E.fid i.f40) [v] H Q:=by
 apply hE.f40
 simp only [F.f40,stdZ]
 refine LoopL.ind (fun n ls H'=>∃ tv l',ls=[tv]/\n=l'.length/\Ext H H'/\Rows H' 7 tv (partR l')/\l'.length<=l.length/\∃ f,l'.length<f/\tidyF f l'=tidyF (l.length+1) l) ?_ l.length ⟨v,l,rfl,rfl,Ext.refl _,hv,Nat.le_refl _,l.length+1,Nat.lt_succ_self _,rfl⟩
 rintro n _ H1 X1 ih ⟨tv,l',rfl,rfl,e1,hr,hll,f,hf,ht⟩
 obtain ⟨f,rfl⟩:∃ g,f=g+1:=⟨f - 1,by omega⟩
 have hts:tidyF (f+1) l'=if (onceF l').length=l'.length then onceF l' else tidyF f (onceF l'):=rfl
 rw [hts] at ht
 have hol:=onceF_len l'
 have hlv:=hr.lenSlc
 have hpl:∀ l:List PartD,(partR l).length=l.length:=fun l=>by simp [partR]
 rw [hpl] at hlv
 simp only [F.f40_l1,stdZ]
 refine S.f47 hE hr (by omega) fun w H2 e2 hw =>?_
 have hlw:=hw.lenSlc
 rw [hpl] at hlw
 simp only [hlw,hlv,i64_eql,stdZ]
 by_cases he:(onceF l').length=l'.length
 ·have hd:decide (((onceF l').length:Int)=(l'.length:Int))=true:=decide_eq_true (by omega)
  rw [if_pos he] at ht
  rw [ht] at hw
  simp only [hd,stdZ]
  exact hQ _ _ (e1.trans e2) hw
 ·have hd:decide (((onceF l').length:Int)=(l'.length:Int))=false:=decide_eq_false (by omega)
  rw [if_neg he] at ht
  simp only [hd,stdZ]
  exact ih (onceF l').length (by omega) _ _ ⟨w,onceF l',rfl,rfl,e1.trans e2,hw,by omega,f,by omega,ht⟩
end
end Go.AM
end
section
namespace Go.AM
set_option maxRecDepth 20000
section
variable {E:Sy} {H H' H0 Z:AH} {Q:Value->AH->Prop}
theorem S.names_Word_p (hE:Fold E) (hQ:∀ H',Ext H H'->Q (vb true) H'):E.call (E.fid i.f62) [(.string ⟨#[112]⟩)] H Q:=by
 apply hE.f62
 have k1:lenStr (.string ⟨#[112]⟩)=some (.int .i64 1):=rfl
 have k2:binInt .lss (.int .i64 1) (.int .i64 1)=some (vb false):=rfl
 have k3:binInt .gtr (.int .i64 1) (.int .i64 14)=some (vb false):=rfl
 have k4:ixStr (.string ⟨#[112]⟩) (.int .i64 0)=some (.int .u8 112):=rfl
 have k5:binInt .lss (.int .u8 112) (.int .u8 97)=some (vb false):=rfl
 have k6:binInt .gtr (.int .u8 112) (.int .u8 122)=some (vb false):=rfl
 have k7:rangeS (.string ⟨#[112]⟩)=some (.siter ⟨#[112]⟩ 0,mkPtr):=rfl
 simp only [F.f62,k1,k2,k3,k4,k5,k6,k7,AM.mk_some,mkPtr_eq_z,stdZ]
 have h1:(H.new (.siter ⟨#[112]⟩ 0)).get H.next = .siter ⟨#[112]⟩ 0:=AH.get_new_self _ _
 have x1:Ext H (H.new (.siter ⟨#[112]⟩ 0)):=(Ext.refl _).new _
 have hlt:H.next<(H.new (.siter ⟨#[112]⟩ 0)).next:=by rw [AH.next_new]; omega
 generalize hH1:H.new (.siter ⟨#[112]⟩ 0)=H1 at *
 have n1:nextS (ptr H.next 0) H1=some (.tuple #[.bool true,.int .i64 0,.int .i32 112],H1.put H.next (.siter ⟨#[112]⟩ 1)):=by
  simp only [nextS,ptr,h1]; rfl
 have x2:Ext H (H1.put H.next (.siter ⟨#[112]⟩ 1)):=x1.put (Nat.le_refl _) _
 have h2:(H1.put H.next (.siter ⟨#[112]⟩ 1)).get H.next = .siter ⟨#[112]⟩ 1:=AH.get_put_self _ _ hlt
 have n2:nextS (ptr H.next 0) (H1.put H.next (.siter ⟨#[112]⟩ 1))=some (.tuple #[.bool false],H1.put H.next (.siter ⟨#[112]⟩ 1)):=by
  simp only [nextS,ptr,h2]; rfl
 refine LoopL.step fun X hX =>?_
 have e0:ext (.tuple #[.bool true,.int .i64 0,.int .i32 112]) 0=some (.bool true):=rfl
 have e2:ext (.tuple #[.bool true,.int .i64 0,.int .i32 112]) 2=some (.int .i32 112):=rfl
 have e3:ext (.tuple #[.bool false]) 0=some (.bool false):=rfl
 have c1:binInt .lss (.int .i32 112) (.int .i32 97)=some (vb false):=rfl
 have c2:binInt .gtr (.int .i32 112) (.int .i32 122)=some (vb false):=rfl
 simp only [F.f62_l1,n1,opt2_some,e0,e2,c1,c2,stdZ]
 refine hX _ _ ?_
 refine LoopL.step fun X' hX' =>?_
 simp only [F.f62_l1,n2,opt2_some,e3,stdZ]
 exact hQ _ x2
theorem S.policy_action_allow (hE:Fold E) (hQ:Q (vb true) H):E.call (E.fid i.f79) [u32 2147418112#32] H Q:=by
 apply hE.f79
 have k1:(.int .u32 2147483648:Value)=u32 2147483648#32:=rfl
 have k2:(.int .u32 2147221504:Value)=u32 2147221504#32:=rfl
 have k3:(.int .u32 2147418112:Value)=u32 2147418112#32:=rfl
 have d1:decide (2147418112#32=2147483648#32)=false:=by decide
 have d2:decide (2147418112#32=2147221504#32)=false:=by decide
 have d3:decide (2147418112#32=2147418112#32)=true:=by decide
 simp only [F.f79,F.f79_j1,k1,k2,k3,u32_eql,d1,d2,d3,stdZ]
 exact hQ
def pc0:List Value:=[(.string ⟨#[112]⟩),u32 2147418112#32,nilS,u16 0#16,nilS,nilS]
theorem S.policy_Policy_Check_0 (hE:Fold E) (t:Nat) (hQ:∀ H',Ext H H'->Q (.int .i64 0) H'):E.call (E.fid i.f74) [.agg pc0.toArray,ptr t 0] H Q:=by
 apply hE.f74
 have b1:=AH.get_new_self H (.cells pc0 none)
 have x1:Ext H (H.new (.cells pc0 none)):=(Ext.refl _).new _
 have c0:pc0[0]? = some (.string ⟨#[112]⟩):=rfl
 have c1:pc0[1]? = some (u32 2147418112#32):=rfl
 have c2:pc0[2]? = some nilS:=rfl
 have c3:pc0[3]? = some (u16 0#16):=rfl
 have c4:pc0[4]? = some nilS:=rfl
 have c5:pc0[5]? = some nilS:=rfl
 have ln:lenSlc nilS=some (.int .i64 0):=rfl
 have g1:binInt .gtr (.int .i64 0) (.int .i64 64)=some (vb false):=rfl
 have g2:binInt .gtr (.int .i64 0) (.int .i64 32)=some (vb false):=rfl
 have g3:binInt .lss (.int .i64 0) (.int .i64 0)=some (vb false):=rfl
 have g4:binInt .neq (.int .i64 0) (.int .i64 0)=some (vb false):=rfl
 simp only [F.f74,boxO_agg_z,AM.mk_some,mkPtr_eq_z,List.toList_toArray,ptr_eql_nil,b1,c0,stdZ]
 generalize H.new (.cells pc0 none)=H1 at *
 generalize H.next=t1 at *
 refine S.names_Word_p hE fun H2 e2 =>?_
 have b2:=e2.cells b1
 have x2:=x1.trans e2
 simp only [b2,c1,stdZ]
 refine S.policy_action_allow hE ?_
 simp only [b2,c2,c4,c5,ln,g1,g2,c3,stdZ]
 apply hE.f87
 have v1:binInt .andNot (u16 0#16) (.int .u16 51199)=some (u16 0#16):=rfl
 have v2:binInt .eql (u16 0#16) (.int .u16 0)=some (vb true):=rfl
 simp only [F.f87,v1,v2,b2,c2,ln,stdZ]
 refine LoopL.step fun X hX =>?_
 have lo:∀ {K:AH},Ext H2 K->loadN 6 (ptr t1 0) K=some (.agg pc0.toArray):=fun e=>by rw [loadN_ptr,e.cells b2]; rfl
 simp only [F.f74_l1,g3,lo (Ext.refl _),stdZ]
 apply hE.f76
 have hmw:∀ (H:AH) (K:Value->AH->Prop),mapW H K=K (.map (some H.next)) (H.new (.map [] 0 true)):=fun _ _=>rfl
 have y1:Ext H2 ((H2.new (.cells pc0 none)).new (.map [] 0 true)):=((Ext.refl _).new _).new _
 have b3:((H2.new (.cells pc0 none)).new (.map [] 0 true)).get H2.next = .cells pc0 none:=by rw [AH.get_new_ne _ _ (by rw [AH.next_new]; omega),AH.get_new_self]
 simp only [F.f76,boxO_agg_z,AM.mk_some,mkPtr_eq_z,List.toList_toArray,hmw,b3,c4,ln,stdZ]
 generalize (H2.new (.cells pc0 none)).new (.map [] 0 true)=H3 at *
 refine LoopL.step fun X2 hX2 =>?_
 simp only [F.f76_l1,g3,g4,lo y1,stdZ]
 apply hE.f77
 have y2:Ext H3 ((H3.new (.cells pc0 none)).new (.map [] 0 true)):=((Ext.refl _).new _).new _
 have b4:((H3.new (.cells pc0 none)).new (.map [] 0 true)).get H3.next = .cells pc0 none:=by rw [AH.get_new_ne _ _ (by rw [AH.next_new]; omega),AH.get_new_self]
 simp only [F.f77,boxO_agg_z,AM.mk_some,mkPtr_eq_z,List.toList_toArray,hmw,b4,c5,ln,stdZ]
 generalize (H3.new (.cells pc0 none)).new (.map [] 0 true)=H4 at *
 refine LoopL.step fun X3 hX3 =>?_
 simp only [F.f77_l1,g3,stdZ]
 exact hQ _ ((x2.trans y1).trans y2)
end
end Go.AM
end
section
namespace Go.AM
set_option maxRecDepth 20000
def pol0:PolD:=⟨2147418112#32,[]⟩
def plan0:PlanD:=⟨[],2147418112#32⟩
def parts0:List PartD:=peepF (lowerF plan0).parts none
def tidy0:List PartD:=tidyF (parts0.length+1) parts0
def code5:List InsnD:=[⟨32#16,0#8,0#8,4#32⟩,⟨21#16,0#8,2#8,3221225534#32⟩,⟨32#16,0#8,0#8,0#32⟩,⟨6#16,0#8,0#8,2147418112#32⟩,⟨6#16,0#8,0#8,2147483648#32⟩]
def code6:List InsnD:=[⟨32#16,0#8,0#8,4#32⟩,⟨21#16,0#8,3#8,3221225534#32⟩,⟨32#16,0#8,0#8,0#32⟩,⟨5#16,0#8,0#8,0#32⟩,⟨6#16,0#8,0#8,2147418112#32⟩,⟨6#16,0#8,0#8,2147483648#32⟩]
def outIs (x:Int ⊕ MkD) (c:List InsnD):Bool:=match x with
 | .inl _=>false
 | .inr s=>decide (s.out=c)
theorem outIs_inr {x:Int ⊕ MkD} {c:List InsnD} (h:outIs x c=true):∃ s,x = .inr s/\s.out=c:=by
 cases x with
 | inl e=>cases h
 | inr s=>exact ⟨s,rfl,of_decide_eq_true h⟩
theorem made5:outIs (makeF tidy0) code5=true:=by decide +kernel
theorem made6:outIs (makeF parts0) code6=true:=by decide +kernel
theorem len0:(lowerF plan0).parts.length<100:=by decide +kernel
theorem lenP:parts0.length<100:=by decide +kernel
theorem lenT:tidy0.length<100:=by decide +kernel
theorem code5_ok:insnsOk code5:=by
 have h0:insnsOk []:=fun k hk=>by simp at hk
 have h1:=ok_cons (x:=⟨6#16,0#8,0#8,2147483648#32⟩) (.inr (.inr (.inr (.inr (.inr (.inr rfl)))))) h0
 have h2:=ok_cons (x:=⟨6#16,0#8,0#8,2147418112#32⟩) (.inr (.inr (.inr (.inr (.inr (.inr rfl)))))) h1
 have h3:=ok_cons (x:=⟨32#16,0#8,0#8,0#32⟩) (.inl ⟨rfl,by decide,by decide⟩) h2
 have h4:=ok_cons (x:=⟨21#16,0#8,2#8,3221225534#32⟩) (.inr (.inr (.inr (.inl ⟨rfl,by decide,by decide⟩)))) h3
 exact ok_cons (x:=⟨32#16,0#8,0#8,4#32⟩) (.inl ⟨rfl,by decide,by decide⟩) h4
theorem code5_end:endOk code5:=⟨by decide,rfl⟩
section
variable {E:Sy} {H H' H0 Z:AH} {Q:Value->AH->Prop}
theorem pc0_at:PolAt H pol0 pc0:=⟨(by decide:(0:Nat)<2 ^ 63),_,_,_,_,_,rfl,[],Rows.nil _ _ none,rfl,fun i h=>by simp [pol0] at h⟩
theorem nums0 {ns:List (BitVec 32)} (h:Nums pol0 ns):ns=[]:=by
 apply List.eq_nil_iff_forall_not_mem.2
 intro n hn
 obtain ⟨r,hr,_⟩:=(h.mem n).1 hn
 cases hr
theorem S.compile_Insns_0 (hE:Fold E) (t:Nat) (hQ:∀ w H',Ext H H'->Rows H' 4 w (insnR code5)->Q (.tuple #[w,(.int .i64 0)]) H'):E.call (E.fid i.f13) [.agg pc0.toArray,ptr t 0] H Q:=by
 apply hE.f13
 have b1:=AH.get_new_self H (.cells pc0 none)
 have x1:Ext H (H.new (.cells pc0 none)):=(Ext.refl _).new _
 have lo:∀ {K:AH},Ext (H.new (.cells pc0 none)) K->loadN 6 (ptr H.next 0) K=some (.agg pc0.toArray):=fun e=>by rw [loadN_ptr,e.cells b1]; rfl
 have g4:binInt .neq (.int .i64 0) (.int .i64 0)=some (vb false):=rfl
 have g5:binInt .eql (.int .i64 0) (.int .i64 0)=some (vb true):=rfl
 simp only [F.f13,boxO_agg_z,AM.mk_some,mkPtr_eq_z,List.toList_toArray,lo (Ext.refl _),stdZ]
 generalize H.new (.cells pc0 none)=H1 at *
 generalize H.next=t1 at *
 refine S.policy_Policy_Check_0 hE t fun H2 e2 =>?_
 have lo2:=lo e2
 simp only [g4,lo2,stdZ]
 have hSC:SortsC E 12:=sortsC_few hE
 have hSR:SortsR E 12:=fun hg hm hQ=>sortsR_few hE hg (by omega) hQ
 refine S.f22 hE (sm:=12) (by decide) hSC hSR pol0 pc0 pc0_at (by decide) (fun r hr=>by cases hr) fun ns pl H3 e3 hns hpl =>?_
 have hn:=nums0 hns
 subst hn
 have hpl:PlanAt H3 plan0 pl:=hpl
 refine S.f49 hE plan0 pl hpl (by decide) fun pv H4 e4 hpv =>?_
 have l0:=len0
 refine S.f14 hE hpv (by omega) fun pw H5 e5 hpw =>?_
 have hpw:Rows H5 7 pw (partR parts0):=hpw
 have lp:=lenP
 refine S.f40 hE hpw (by omega) fun tw H6 e6 htw =>?_
 have htw:Rows H6 7 tw (partR tidy0):=htw
 have lt:=lenT
 obtain ⟨s5,m5,o5⟩:=outIs_inr made5
 obtain ⟨s6,m6,o6⟩:=outIs_inr made6
 refine S.f39 hE htw (by omega) fun H7 e7=>⟨fun e he=>(by rw [m5] at he; cases he),fun s w hs hw =>?_⟩
 rw [m5] at hs
 cases hs
 rw [o5] at hw
 simp only [stdZ]
 refine S.f39 hE (hpw.mono (e6.trans e7)) (by omega) fun H8 e8=>⟨fun e he=>(by rw [m6] at he; cases he),fun s w6 hs hw6 =>?_⟩
 rw [m6] at hs
 cases hs
 rw [o6] at hw6
 have hl5:=(hw.mono e8).lenSlc
 have hl6:=hw6.lenSlc
 have n5:(insnR code5).length=5:=rfl
 have n6:(insnR code6).length=6:=rfl
 rw [n5] at hl5
 rw [n6] at hl6
 have hlt:binInt .lss (vi ((6:Nat):Int)) (vi ((5:Nat):Int))=some (vb false):=rfl
 simp only [g4,g5,hl5,hl6,hlt,stdZ]
 exact hQ w _ ((((((((x1.trans e2).trans e3).trans e4).trans e5).trans e6).trans e7).trans e8)) (hw.mono e8)
theorem S.compile_Filter_0 (hE:Fold E) (t:Nat) (hQ:∀ fb H0 H',Ext H H0->Fil H0 H0 H' fb code5 []->Q (.tuple #[ptr fb 0,(.int .i64 0)]) H'):E.call (E.fid i.f12) [.agg pc0.toArray,ptr t 0] H Q:=by
 apply hE.f12
 have b1:=AH.get_new_self H (.cells pc0 none)
 have x1:Ext H (H.new (.cells pc0 none)):=(Ext.refl _).new _
 have lo:loadN 6 (ptr H.next 0) (H.new (.cells pc0 none))=some (.agg pc0.toArray):=by rw [loadN_ptr,b1]; rfl
 have g4:binInt .neq (.int .i64 0) (.int .i64 0)=some (vb false):=rfl
 simp only [F.f12,boxO_agg_z,AM.mk_some,mkPtr_eq_z,List.toList_toArray,lo,stdZ]
 generalize H.new (.cells pc0 none)=H1 at *
 refine S.compile_Insns_0 hE t fun w H2 e2 hw =>?_
 simp only [g4,stdZ]
 refine S.f110 hE hw code5_ok code5_end (by decide) fun fb H3 g3 =>?_
 have s3:storeN 2 (ptr H3.next 0) (.agg #[vi 0,vi 0]) (H3.new (.cells [(.int .i64 0),(.int .i64 0)] none))=some (H3.new (.cells [vi 0,vi 0] none)):=fresh_store (n:=2) rfl rfl rfl
 have l3:loadN 2 (ptr H3.next 0) (H3.new (.cells [vi 0,vi 0] none))=some (.agg #[vi 0,vi 0]):=fresh_load (c:=[vi 0,vi 0]) rfl
 have hbv0:buildV [(0,1),(1,1)] #[(.int .i64 0),(.int .i64 0)] []=some (.agg #[vi 0,vi 0]):=rfl
 have hne:binAgg [0,0] .neq (.agg #[vi 0,vi 0]) (.agg #[vi 0,vi 0])=some (vb false):=rfl
 simp only [allocW_eq,s3,l3,hbv0,hne,stdZ]
 exact hQ fb H2 _ (x1.trans e2) (g3.grow ((Ext.refl H3).new _))
theorem S.f70 (hE:Fold E) (hQ:∀ H',Ext H H'->Q (vb true) H'):E.call (E.fid i.f70) [] H Q:=by
 apply hE.f70
 have hbv:buildV [(0,1),(1,1),(2,1),(3,1),(4,1),(5,1)] #[(.string ⟨#[]⟩),(.int .u32 0),(.slice none 0 0),(.int .u16 0),(.slice none 0 0),(.slice none 0 0)] [(0,(.string ⟨#[112]⟩)),(1,(.int .u32 2147418112))]=some (.agg pc0.toArray):=rfl
 simp only [F.f70,hbv,stdZ]
 apply hE.f61
 have hbv2:buildV [(0,3),(3,1),(4,1),(5,1),(6,1)] #[(.int .u32 0),(.int .i32 0),(.int .u32 0),(.map none),(.map none),(.int .i64 0),(.int .i64 0)] []=some (.agg [(.int .u32 0),(.int .i32 0),(.int .u32 0),(.map none),(.map none),(.int .i64 0),(.int .i64 0)].toArray):=rfl
 simp only [F.f61,hbv2,boxO_agg_z,AM.mk_some,mkPtr_eq_z,List.toList_toArray,stdZ]
 have x1:Ext H (H.new (.cells [(.int .u32 0),(.int .i32 0),(.int .u32 0),(.map none),(.map none),(.int .i64 0),(.int .i64 0)] none)):=(Ext.refl _).new _
 generalize H.new (.cells [(.int .u32 0),(.int .i32 0),(.int .u32 0),(.map none),(.map none),(.int .i64 0),(.int .i64 0)] none)=H1 at *
 refine S.compile_Filter_0 hE _ fun fb H0 H2 e0 g2 =>?_
 have g5:binInt .eql (.int .i64 0) (.int .i64 0)=some (vb true):=rfl
 simp only [g5,stdZ]
 apply hE.f108
 obtain ⟨lv,n1,n2,g⟩:=id g2
 have hb:=g.box (k:=0) (b:=fb) (c:=[lv,vi n1,vi n2]) rfl
 have hl:=(g.rows (k:=1) (sz:=4) (v:=lv) (rows:=insnR code5) rfl).lenSlc
 have n5:(insnR code5).length=5:=rfl
 rw [n5] at hl
 have g6:binInt .eql (vi ((5:Nat):Int)) (.int .i64 5)=some (vb true):=rfl
 simp only [F.f108,ptr_eql_nil,hb,hl,g6,stdZ]
 exact hQ _ ((x1.trans e0).trans g2.ext)
end
end Go.AM
end
section
namespace Go.AM
set_option maxRecDepth 20000
def AtL {α:Type} (L:List α) (W:Nat) (M:List α):Prop:=∃ A B,L=A++M++B/\A.length=W
theorem AtL.get {α:Type} {L M:List α} {W:Nat} (h:AtL L W M) {k:Nat} (hk:k<M.length):∃ h':W+k<L.length,L[W+k]=M[k]:=by
 obtain ⟨A,B,rfl,rfl⟩:=h
 refine ⟨by simp only [List.length_append]; omega,?_⟩
 rw [List.getElem_append_left (by rw [List.length_append]; omega),List.getElem_append_right (by omega)]
 congr 1; omega
theorem AtL.left {α:Type} {L M N:List α} {W:Nat} (h:AtL L W (M++N)):AtL L W M:=by
 obtain ⟨A,B,rfl,rfl⟩:=h
 exact ⟨A,N++B,by simp,rfl⟩
theorem AtL.right {α:Type} {L M N:List α} {W:Nat} (h:AtL L W (M++N)):AtL L (W+M.length) N:=by
 obtain ⟨A,B,rfl,rfl⟩:=h
 exact ⟨A++M,B,by simp,by simp⟩
section
variable {E:Sy} {H H' H0 Z:AH} {Q:Value->AH->Prop}
theorem rec_neq {r:RecD} (hr:r.ok):binAgg (List.replicate 9 0) .neq r.v r.v=some (.bool false):=by
 obtain ⟨n,a,t,x0,x1,x2,x3,x4,x5,rfl⟩:=RecD.ok_cases hr
 simp [RecD.v,RecD.cells]
theorem recs_ix {v:Value} {L:List RecD} (hv:Rows H0 9 v (recR L)) {k:Nat} (hk:k<L.length):∃ b o,ixSlc 9 v (vi k)=some (ptr b o)/\∀ H,Ext H0 H->loadN 9 (ptr b o) H=some (L[k]).v:=by
 obtain ⟨b,o,f1,f2⟩:=hv.ix (i:=k) (by simpa [recR] using hk)
 refine ⟨b,o,f1,fun H e =>?_⟩
 have hr:(recR L)[k]'(by simpa [recR] using hk)=(L[k]).cells:=by simp [recR]
 rw [hr] at f2
 rw [loadN_ptr,row_ext e f2]; rfl
theorem rec_store {b:RecD} (hb:b.ok) (H:AH):storeN 9 (ptr H.next 0) b.v (H.new (.cells [(.int .u32 0),(.int .u32 0),(.int .u64 0),(.int .u64 0),(.int .u64 0),(.int .u64 0),(.int .u64 0),(.int .u64 0),(.int .u64 0)] none))=some (H.new (.cells b.cells none)):=fresh_store rfl (rec_nine hb) (by simp [RecD.cells])
theorem law_edges_l5 (hE:Fold E) {lv:Value} {L:List RecD} (hL:Rows H0 9 lv (recR L)) (hll:L.length<2 ^ 60) {t11 tc:Nat} {b:RecD} (hb:b.ok) {c:CondD} (h0:0<=c.arg) (h5:c.arg<=5) {nv:Value} {vals:List (BitVec 64)} (hnv:Rows H0 1 nv (vals.map fun n=>[u64 n])) (hvl:vals.length<=10)
  {W:Nat} (hat:AtL L W (vals.map (setArg b c.arg.toNat))) (k11:H0.get t11 = .cells b.cells none) (kc:H0.get tc = .cells c.cells none) {t32 t33 t34 t41 t42 t43 t88 t89:Value} {q:Nat} (hq:q<2 ^ 30) {X0 X1 X2:List Value->AH->Prop}
  (next:∀ H',Ext H0 H'->X2 [lv,vi ((W+vals.length:Nat):Int),ptr t11 0,t32,t33,t34,t41,t42,t43,t88,t89,vi ((q+1:Nat):Int)] H') :
  LoopL (fun l H X3=>F.f71_l5 E Q X0 X1 X2 (nth l 0) (nth l 1) (nth l 2) (nth l 3) (nth l 4) (nth l 5) (nth l 6) (nth l 7) (nth l 8) (nth l 9) (nth l 10) (nth l 11) (nth l 12) (nth l 13) (nth l 14) (nth l 15) H X3) [lv,vi (W:Int),ptr t11 0,ptr tc 0,t32,t33,t34,t41,t42,t43,t88,t89,vi q,nv,vi vals.length,(.int .i64 0)] H0:=by
 have i0:(.int .i64 0:Value)=vi ((0:Nat):Int):=rfl
 rw [i0]
 have hWL:W+vals.length<=L.length:=by
  obtain ⟨A,B,rfl,rfl⟩:=hat
  simp only [List.length_append,List.length_map]; omega
 refine LoopL.count vals.length (fun k ls H'=>ls=[lv,vi ((W+k:Nat):Int),ptr t11 0,ptr tc 0,t32,t33,t34,t41,t42,t43,t88,t89,vi q,nv,vi vals.length,vi k]/\Ext H0 H') ?_ ⟨rfl,Ext.refl _⟩
 rintro k _ H1 X3 hk ih ⟨rfl,e1⟩
 rcases Nat.lt_or_ge k vals.length with hlt | hge
 rotate_left
 ·have hke:k=vals.length:=by omega
  subst hke
  have hlt':decide ((vals.length:Int)<vals.length)=false:=decide_eq_false (by omega)
  have hinc:=i64_inc (i:=q) (by omega)
  simp only [F.f71_l5,i64_lss,hlt',hinc,stdZ]
  exact next _ e1
 have hlt':decide ((k:Int)<vals.length)=true:=decide_eq_true (by omega)
 obtain ⟨bb,o,f1,f2⟩:=(hnv.mono e1).ix (i:=k) (by simpa using hlt)
 have hrow:(vals.map fun n=>[u64 n])[k]'(by simpa using hlt)=[u64 vals[k]]:=by simp
 rw [hrow] at f2
 have hce:((H1.get bb).cell o)=some (u64 vals[k]):=by have:=row_at f2 (j:=0) (by omega); simpa using this
 have hinc:=i64_inc (i:=k) (by omega)
 have hinc2:=i64_inc (i:=W+k) (by omega)
 obtain ⟨hWk,hget⟩:=hat.get (k:=k) (by simpa using hlt)
 rw [List.getElem_map] at hget
 obtain ⟨lb,lo,l1,l2⟩:=recs_ix hL hWk
 rw [hget] at l2
 have ih:=ih hlt
 generalize vals[k]=n at *
 have k11':=e1.cells k11
 have kc':=e1.cells kc
 have lo11:loadN 9 (ptr t11 0) H1=some b.v:=by rw [loadN_ptr,k11',row_all _ _ 9 (rec_nine hb)]; rfl
 have hst:=rec_store hb H1
 have x2:Ext H1 (H1.new (.cells b.cells none)):=(Ext.refl _).new _
 have kc2:=x2.cells kc'
 have hb2:=AH.get_new_self H1 (.cells b.cells none)
 have hlt2:H1.next<(H1.new (.cells b.cells none)).next:=by rw [AH.next_new]; omega
 have c0:c.cells[0]? = some (vi c.arg):=rfl
 have hk6:c.arg.toNat<6:=by omega
 have hix:∀ t,ixArr 6 1 (ptr t 3) (vi c.arg)=some (ptr t (3+c.arg.toNat*1)):=fun t=>ixArr_ptr 6 1 t 3 c.arg.toNat _ (by omega) hk6
 have hlen:lenSlc lv=some (vi L.length):=by have:=hL.lenSlc; rwa [show (recR L).length=L.length by simp [recR]] at this
 have hle:decide (((L.length:Nat):Int)<=((W+k:Nat):Int))=false:=decide_eq_false (by omega)
 simp only [F.f71_l5,i64_lss,hlt',f1,hce,lo11,allocW_eq,hst,kc2,c0,hix,stdZ]
 generalize H1.new (.cells b.cells none)=H2 at *
 have e2:Ext H0 H2:=e1.trans x2
 have ht0:H0.next<=H1.next:=e1.1
 generalize H1.next=t at *
 obtain ⟨hset,hlt3⟩:=rec_set hb hk6 n
 have hs:store1 (ptr t (3+c.arg.toNat*1)) (u64 n) H2=some (H2.put t (.cells (setArg b c.arg.toNat n).cells none)):=by
  rw [store1_ptr,if_pos (show plain1 (u64 n)=true from rfl),hb2]
  simp only [hlt3,if_true,hset]
 have e3:Ext H0 (H2.put t (.cells (setArg b c.arg.toNat n).cells none)):=e2.put ht0 _
 have hb3:(H2.put t (.cells (setArg b c.arg.toNat n).cells none)).get t = .cells (setArg b c.arg.toNat n).cells none:=AH.get_put_self _ _ hlt2
 have hok:=setArg_ok hb c.arg.toNat n
 have lo3:loadN 9 (ptr t 0) (H2.put t (.cells (setArg b c.arg.toNat n).cells none))=some (setArg b c.arg.toNat n).v:=by rw [loadN_ptr,hb3,row_all _ _ 9 (rec_nine hok)]; rfl
 have hne:=rec_neq hok
 have l3:=l2 _ e3
 simp only [hs,hlen,i64_leq,hle,l1,l3,lo3,hne,hinc,hinc2,stdZ]
 exact ih _ _ ⟨rfl,e3⟩
theorem law_edges_l4 (hE:Fold E) {lv:Value} {L:List RecD} (hL:Rows H0 9 lv (recR L)) (hll:L.length<2 ^ 60) {t11:Nat} {b:RecD} (hb:b.ok) {cv:Value} {cs:List CondD} (hv:Rows H0 4 cv (condR cs)) (hcl:cs.length<=1000)
  {W:Nat} (hat:AtL L W (cs.flatMap (condEdges b))) (k11:H0.get t11 = .cells b.cells none) {t32 t33 t34 t41 t42:Value} {q:Nat} (hq:q<2 ^ 30) {X0 X1:List Value->AH->Prop}
  (next:∀ H',Ext H0 H'->X1 [lv,vi ((W+(cs.flatMap (condEdges b)).length:Nat):Int),t32,t33,t34,t41,t42,vi ((q+1:Nat):Int)] H') :
  LoopL (fun l H X2=>F.f71_l4 E Q X0 X1 (nth l 0) (nth l 1) (nth l 2) (nth l 3) (nth l 4) (nth l 5) (nth l 6) (nth l 7) (nth l 8) (nth l 9) (nth l 10) (nth l 11) H X2) [lv,vi (W:Int),ptr t11 0,t32,t33,t34,t41,t42,vi q,cv,vi cs.length,(.int .i64 0)] H0:=by
 have i0:(.int .i64 0:Value)=vi ((0:Nat):Int):=rfl
 rw [i0]
 refine LoopL.count cs.length (fun k ls H'=>ls=[lv,vi ((W+((cs.take k).flatMap (condEdges b)).length:Nat):Int),ptr t11 0,t32,t33,t34,t41,t42,vi q,cv,vi cs.length,vi k]/\Ext H0 H') ?_ ⟨rfl,Ext.refl _⟩
 rintro k _ H1 X2 hk ih ⟨rfl,e1⟩
 rcases Nat.lt_or_ge k cs.length with hlt | hge
 rotate_left
 ·have hke:k=cs.length:=by omega
  subst hke
  have hlt':decide ((cs.length:Int)<cs.length)=false:=decide_eq_false (by omega)
  have hinc:=i64_inc (i:=q) (by omega)
  rw [List.take_length]
  simp only [F.f71_l4,i64_lss,hlt',hinc,stdZ]
  exact next _ e1
 have hlt':decide ((k:Int)<cs.length)=true:=decide_eq_true (by omega)
 obtain ⟨bb,o,f1,f2⟩:=cond_ix hv hlt
 have lo:=f2 H1 e1
 have hinc:=i64_inc (i:=k) (by omega)
 have htk:(cs.take (k+1)).flatMap (condEdges b)=(cs.take k).flatMap (condEdges b)++condEdges b cs[k]:=by
  rw [List.take_succ,List.getElem?_eq_getElem hlt,List.flatMap_append]
  simp
 have hat2:AtL L (W+((cs.take k).flatMap (condEdges b)).length) (condEdges b cs[k]):=by
  have h1:cs=cs.take k++(cs[k] :: cs.drop (k+1)):=by
   conv=>lhs; rw [<- List.take_append_drop k cs]
   rw [List.drop_eq_getElem_cons hlt]
  have h2:cs.flatMap (condEdges b)=(cs.take k).flatMap (condEdges b)++(condEdges b cs[k]++(cs.drop (k+1)).flatMap (condEdges b)):=by
   conv=>lhs; rw [h1]
   rw [List.flatMap_append,List.flatMap_cons]
  rw [h2] at hat
  exact hat.right.left
 have ih:=ih hlt
 rw [htk,List.length_append] at ih
 generalize cs[k]=c at *
 generalize hW1:W+((cs.take k).flatMap (condEdges b)).length=W1 at *
 rw [<- Nat.add_assoc,hW1] at ih
 have hst:=cond_new c H1
 have x2:Ext H1 (H1.new (.cells c.cells none)):=(Ext.refl _).new _
 have bx:=AH.get_new_self H1 (.cells c.cells none)
 have c0:c.cells[0]? = some (vi c.arg):=rfl
 have c2:c.cells[2]? = some (u64 c.mask):=rfl
 have c3:c.cells[3]? = some (u64 c.value):=rfl
 simp only [F.f71_l4,i64_lss,hlt',f1,lo,allocW_eq,hst,bx,c0,stdZ]
 generalize H1.new (.cells c.cells none)=H2 at *
 generalize H1.next=tc at *
 have e2:=e1.trans x2
 have skip:¬ (0<=c.arg/\c.arg<=5)->X2 [lv,vi (W1:Int),ptr t11 0,t32,t33,t34,t41,t42,vi q,cv,vi cs.length,vi ((k+1:Nat):Int)] H2:=fun hn=>by
  have:condEdges b c=[]:=by unfold condEdges; rw [if_neg hn]
  rw [this] at ih
  exact ih _ _ ⟨rfl,e2⟩
 by_cases h0:c.arg<0
 ·have d0:decide (c.arg<0)=true:=decide_eq_true h0
  simp only [d0,hinc,stdZ]
  exact skip (by omega)
 have d0:decide (c.arg<0)=false:=decide_eq_false h0
 simp only [d0,bx,c0,i64_gtr,stdZ]
 by_cases h5:5<c.arg
 ·have d5:decide (5<c.arg)=true:=decide_eq_true h5
  simp only [d5,hinc,stdZ]
  exact skip (by omega)
 have d5:decide (5<c.arg)=false:=decide_eq_false h5
 have h0:0<=c.arg:=by omega
 have h5:c.arg<=5:=by omega
 have hce:condEdges b c=(edgeVals c).map (setArg b c.arg.toNat):=by unfold condEdges; rw [if_pos ⟨h0,h5⟩]
 rw [hce] at ih hat2
 rw [List.length_map] at ih
 have w1:(.int .u64 1:Value)=u64 1#64:=rfl
 have w32:(.int .u64 4294967296:Value)=u64 4294967296#64:=rfl
 have hxor:un .xor (u64 c.mask)=some (u64 (~~~c.mask)):=u64_compl c.mask
 have hbS:buildS 5 1 #[(.int .u64 0)] [(0,u64 (c.value - 1#64)),(1,u64 (c.value+1#64)),(2,u64 (c.value ^^^ 4294967296#64)),(3,u64 (c.value ||| ~~~c.mask)),(4,(.int .u64 0))]=some (.cells ((edgeVals c).map u64) none,mkSlc 5 5):=buildS_full 5 1 [u64 0#64] [(0,u64 (c.value - 1#64)),(1,u64 (c.value+1#64)),(2,u64 (c.value ^^^ 4294967296#64)),(3,u64 (c.value ||| ~~~c.mask)),(4,u64 0#64)] [u64 (c.value - 1#64),u64 (c.value+1#64),u64 (c.value ^^^ 4294967296#64),u64 (c.value ||| ~~~c.mask),u64 0#64] rfl rfl rfl rfl (by simp)
 have hls:∀ b n m,lenSlc (slc b 0 n m)=some (vi n):=fun _ _ _=>rfl
 have x3:Ext H2 (H2.new (.cells ((edgeVals c).map u64) none)):=(Ext.refl _).new _
 have hrows:Rows (H2.new (.cells ((edgeVals c).map u64) none)) 1 (slc H2.next 0 5 5) ((edgeVals c).map fun n=>[u64 n]):=Rows.made (f:=none) (by rw [AH.get_new_self]; rfl) (.inl rfl) rfl (by simp)
 simp only [d5,bx,c2,c3,w1,w32,u64_sub,u64_add,u64_xor,hxor,u64_or,hbS,AM.mk_some,mkSlc_eq,hls,stdZ]
 have e3:=e2.trans x3
 have n5:(edgeVals c).length=5:=rfl
 exact law_edges_l5 hE (hL.mono e3) hll hb h0 h5 (vals:=edgeVals c) hrows (by rw [n5]; omega) hat2 (e3.cells k11) (x3.cells bx) (by omega) fun H' e'=>ih _ _ ⟨rfl,e3.trans e'⟩
theorem law_edges_l3 (hE:Fold E) {lv:Value} {L:List RecD} (hL:Rows H0 9 lv (recR L)) (hll:L.length<2 ^ 60) {x:RuleD} {cv:Value} (hv:Rows H0 4 cv (condR x.conds)) (hcl:x.conds.length<=1000) {t10 t11:Nat} (g0:Has H0 Z H [boxR t10 [u32 x.number,u32 x.action,cv],boxR t11 (rec0 x.number).cells])
  {W:Nat} (hat:AtL L W (ruleEdges x)) {t32 t33 t34 t41 t42:Value} {q:Nat} (hq:q<2 ^ 30) {X0 X1:List Value->AH->Prop}
  (next:∀ H',Ext H0 H'->X1 [lv,vi ((W+(ruleEdges x).length:Nat):Int),t32,t33,t34,t41,t42,vi ((q+1:Nat):Int)] H') :
  LoopL (fun l H X2=>F.f71_l3 E Q X0 X1 (nth l 0) (nth l 1) (nth l 2) (nth l 3) (nth l 4) (nth l 5) (nth l 6) (nth l 7) (nth l 8) (nth l 9) (nth l 10) (nth l 11) (nth l 12) H X2) [lv,vi ((W+1:Nat):Int),ptr t10 0,ptr t11 0,t32,t33,t34,t41,t42,vi q,cv,vi x.conds.length,(.int .i64 0)] H:=by
 have i0:(.int .i64 0:Value)=vi ((0:Nat):Int):=rfl
 rw [i0]
 refine LoopL.count x.conds.length (fun k ls H'=>ls=[lv,vi ((W+1:Nat):Int),ptr t10 0,ptr t11 0,t32,t33,t34,t41,t42,vi q,cv,vi x.conds.length,vi k]/\Has H0 Z H' [boxR t10 [u32 x.number,u32 x.action,cv],boxR t11 ((x.conds.take k).foldl baseStep (rec0 x.number)).cells]) ?_ ⟨rfl,g0⟩
 rintro k _ H1 X2 hk ih ⟨rfl,g⟩
 have hbo:((x.conds.take k).foldl baseStep (rec0 x.number)).ok:=base_fold _ rfl
 have hWL:W+(ruleEdges x).length<=L.length:=by
  obtain ⟨A,B,rfl,rfl⟩:=hat
  simp only [List.length_append]; omega
 rcases Nat.lt_or_ge k x.conds.length with hlt | hge
 rotate_left
 ·have hke:k=x.conds.length:=by omega
  subst hke
  have hlt':decide ((x.conds.length:Int)<x.conds.length)=false:=decide_eq_false (by omega)
  rw [List.take_length] at g hbo
  have hbe:x.conds.foldl baseStep (rec0 x.number)=baseOf x:=rfl
  rw [hbe] at g hbo
  have hre:ruleEdges x=[baseOf x]++x.conds.flatMap (condEdges (baseOf x)):=rfl
  obtain ⟨hWk,hget⟩:=hat.get (k:=0) (by rw [hre]; simp)
  have hz:(ruleEdges x)[0]'(by rw [hre]; simp)=baseOf x:=rfl
  rw [hz] at hget
  simp only [Nat.add_zero] at hWk hget
  obtain ⟨lb,lo,l1,l2⟩:=recs_ix hL hWk
  rw [hget] at l2
  rw [hre] at hat next hWL
  have hat2:=hat.right
  rw [List.length_append] at next hWL
  simp only [List.length_singleton] at next hWL hat2
  generalize baseOf x=r at *
  have hb11:=g.box (k:=1) (b:=t11) (c:=r.cells) rfl
  have hb10:=g.box (k:=0) (b:=t10) (c:=[u32 x.number,u32 x.action,cv]) rfl
  have lo11:loadN 9 (ptr t11 0) H1=some r.v:=by rw [loadN_ptr,hb11,row_all _ _ 9 (rec_nine hbo)]; rfl
  have hlen:lenSlc lv=some (vi L.length):=by have:=hL.lenSlc; rwa [show (recR L).length=L.length by simp [recR]] at this
  have hle:decide (((L.length:Nat):Int)<((W+1:Nat):Int))=false:=decide_eq_false (by omega)
  have hdec:binInt .sub (vi ((W+1:Nat):Int)) (.int .i64 1)=some (vi (W:Int)):=by rw [i64_sub (by omega) (by omega)]; congr 2; omega
  have hne:=rec_neq hbo
  have l3:=l2 _ g.ext
  have c2:[u32 x.number,u32 x.action,cv][2]? = some cv:=rfl
  have hlv:=(hv.mono g.ext).lenSlc
  rw [condR_length] at hlv
  simp only [F.f71_l3,i64_lss,hlt',hlen,hle,hdec,l1,l3,lo11,hne,hb10,c2,hlv,stdZ]
  refine law_edges_l4 hE (hL.mono g.ext) hll hbo (hv.mono g.ext) hcl hat2 hb11 hq fun H' e' =>?_
  have:=next H' (g.ext.trans e')
  rwa [<- Nat.add_assoc] at this
 have hlt':decide ((k:Int)<x.conds.length)=true:=decide_eq_true (by omega)
 obtain ⟨bb,o,f1,f2⟩:=cond_ix hv hlt
 have lo:=f2 H1 g.ext
 have hinc:=i64_inc (i:=k) (by omega)
 have htk:(x.conds.take (k+1)).foldl baseStep (rec0 x.number)=baseStep ((x.conds.take k).foldl baseStep (rec0 x.number)) x.conds[k]:=by
  rw [List.take_succ,List.getElem?_eq_getElem hlt,List.foldl_append]
  rfl
 have ih:=ih hlt
 rw [htk] at ih
 generalize x.conds[k]=c at *
 generalize (x.conds.take k).foldl baseStep (rec0 x.number)=r at *
 have hst:=cond_new c H1
 have g2:=g.newbox c.cells
 have bx:=AH.get_new_self H1 (.cells c.cells none)
 have c0:c.cells[0]? = some (vi c.arg):=rfl
 have c3:c.cells[3]? = some (u64 c.value):=rfl
 simp only [F.f71_l3,i64_lss,hlt',f1,lo,allocW_eq,hst,bx,c0,i64_geq,stdZ]
 generalize H1.new (.cells c.cells none)=H2 at *
 generalize H1.next=tc at *
 have skip:¬ (0<=c.arg/\c.arg<=5)->X2 [lv,vi ((W+1:Nat):Int),ptr t10 0,ptr t11 0,t32,t33,t34,t41,t42,vi q,cv,vi x.conds.length,vi ((k+1:Nat):Int)] H2:=fun hn=>by
  have:baseStep r c=r:=by unfold baseStep; rw [if_neg hn]
  rw [this] at ih
  exact ih _ _ ⟨rfl,Has.dropLast (L:=[boxR t10 [u32 x.number,u32 x.action,cv],boxR t11 r.cells]) g2⟩
 by_cases h0:0<=c.arg
 rotate_left
 ·have d0:decide (0<=c.arg)=false:=decide_eq_false h0
  simp only [d0,hinc,stdZ]
  exact skip (by omega)
 have d0:decide (0<=c.arg)=true:=decide_eq_true h0
 simp only [d0,bx,c0,i64_leq,stdZ]
 by_cases h5:c.arg<=5
 rotate_left
 ·have d5:decide (c.arg<=5)=false:=decide_eq_false h5
  simp only [d5,hinc,stdZ]
  exact skip (by omega)
 have d5:decide (c.arg<=5)=true:=decide_eq_true h5
 have hbs:baseStep r c=setArg r c.arg.toNat c.value:=by unfold baseStep; rw [if_pos ⟨h0,h5⟩]
 rw [hbs] at ih
 have hk6:c.arg.toNat<6:=by omega
 have hix:ixArr 6 1 (ptr t11 3) (vi c.arg)=some (ptr t11 (3+c.arg.toNat*1)):=ixArr_ptr 6 1 t11 3 c.arg.toNat _ (by omega) hk6
 obtain ⟨hset,hlt3⟩:=rec_set hbo hk6 c.value
 have hbt:=g2.box (k:=1) (b:=t11) (c:=r.cells) rfl
 have hs:store1 (ptr t11 (3+c.arg.toNat*1)) (u64 c.value) H2=some (H2.put t11 (.cells (setArg r c.arg.toNat c.value).cells none)):=by
  rw [store1_ptr,if_pos (show plain1 (u64 c.value)=true from rfl),hbt]
  simp only [hlt3,if_true,hset]
 have g3:=g2.put (k:=1) (b:=t11) (c:=r.cells) rfl (setArg r c.arg.toNat c.value).cells
 simp only [d5,bx,c0,c3,hix,hs,hinc,stdZ]
 exact ih _ _ ⟨rfl,g3.drop 2⟩
theorem law_edges_l2 (hE:Fold E) {p:PolD} {v lv:Value} (hv:SliceOf RuleAt H0 3 v p.rules) (hrl:p.rules.length<=1000) (hc:∀ r∈p.rules,r.conds.length<=1000) (hL:Rows H0 9 lv (recR (edgesF p))) {t32 t33:Value} {q:Nat} (hq:q<2 ^ 30) {X0:List Value->AH->Prop}
  (next:∀ H',Ext H0 H'->X0 [t32,t33,vi ((q+1:Nat):Int)] H') :
  LoopL (fun l H X1=>F.f71_l2 E Q X0 (nth l 0) (nth l 1) (nth l 2) (nth l 3) (nth l 4) (nth l 5) (nth l 6) (nth l 7) H X1) [lv,(.int .i64 2),t32,t33,vi q,v,vi p.rules.length,(.int .i64 0)] H0:=by
 have i0:(.int .i64 0:Value)=vi ((0:Nat):Int):=rfl
 rw [i0]
 have hll:(edgesF p).length<2 ^ 60:=by
  have:=rules_flat p.rules hc
  unfold edgesF
  rw [List.length_append]
  show 2+_<_
  omega
 refine LoopL.count p.rules.length (fun k ls H'=>ls=[lv,vi ((2+((p.rules.take k).flatMap ruleEdges).length:Nat):Int),t32,t33,vi q,v,vi p.rules.length,vi k]/\Ext H0 H') ?_ ⟨rfl,Ext.refl _⟩
 rintro k _ H1 X1 hk ih ⟨rfl,e1⟩
 have hlen:lenSlc lv=some (vi (edgesF p).length):=by have:=hL.lenSlc; rwa [show (recR (edgesF p)).length=(edgesF p).length by simp [recR]] at this
 rcases Nat.lt_or_ge k p.rules.length with hlt | hge
 rotate_left
 ·have hke:k=p.rules.length:=by omega
  subst hke
  have hlt':decide ((p.rules.length:Int)<p.rules.length)=false:=decide_eq_false (by omega)
  have hinc:=i64_inc (i:=q) (by omega)
  have h2:2<3:=by omega
  have e0:0<(edgesF p).length:=by unfold edgesF; simp
  have e1':1<(edgesF p).length:=by unfold edgesF; simp
  have hE0:(edgesF p)[0]=rec0 0#32:=rfl
  have hE1:(edgesF p)[1]=⟨0#32,3221225535#32,0#64,[0#64,0#64,0#64,0#64,0#64,0#64]⟩:=rfl
  obtain ⟨b0,o0,l0,m0⟩:=recs_ix hL e0
  obtain ⟨b1,o1,l1,m1⟩:=recs_ix hL e1'
  rw [hE0] at m0
  rw [hE1] at m1
  have l0:ixSlc 9 lv (.int .i64 0)=some (ptr b0 o0):=l0
  have l1:ixSlc 9 lv (.int .i64 1)=some (ptr b1 o1):=l1
  have hbv1:buildV [(0,1),(1,1),(2,1),(3,6)] #[(.int .u32 0),(.int .u32 0),(.int .u64 0),(.int .u64 0),(.int .u64 0),(.int .u64 0),(.int .u64 0),(.int .u64 0),(.int .u64 0)] [(1,(.int .u32 3221225534))]=some (rec0 0#32).v:=rfl
  have hbv2:buildV [(0,1),(1,1),(2,1),(3,6)] #[(.int .u32 0),(.int .u32 0),(.int .u64 0),(.int .u64 0),(.int .u64 0),(.int .u64 0),(.int .u64 0),(.int .u64 0),(.int .u64 0)] [(1,(.int .u32 3221225535))]=some (RecD.v ⟨0#32,3221225535#32,0#64,[0#64,0#64,0#64,0#64,0#64,0#64]⟩):=rfl
  have hsz:(edgesF p).length=2+(p.rules.flatMap ruleEdges).length:=by unfold edgesF; rw [List.length_append]; rfl
  have hne:decide (((edgesF p).length:Int)≠((2+(p.rules.flatMap ruleEdges).length:Nat):Int))=false:=decide_eq_false (by rw [hsz]; simp)
  have n0:=rec_neq (r:=rec0 0#32) rfl
  have n1:=rec_neq (r:=⟨0#32,3221225535#32,0#64,[0#64,0#64,0#64,0#64,0#64,0#64]⟩) rfl
  have m0:=m0 _ e1
  have m1:=m1 _ e1
  rw [List.take_length]
  simp only [F.f71_l2,i64_lss,hlt',hlen,i64_neq,hne,l0,l1,m0,m1,hbv1,hbv2,n0,n1,hinc,stdZ]
  exact next _ e1
 have hlt':decide ((k:Int)<p.rules.length)=true:=decide_eq_true (by omega)
 have hv1:=hv.sub (fun _ _ _ _ h e=>RuleAt.sub h e) e1.sub
 obtain ⟨b,o,rc,f1,f2,f3⟩:=hv1.ix hlt
 obtain ⟨hxl,cv,rfl,hcv⟩:=id f3
 have hcv:Rows H1 4 cv (condR p.rules[k].conds):=hcv
 have lo:loadN 3 (ptr b o) H1=some (.agg [u32 p.rules[k].number,u32 p.rules[k].action,cv].toArray):=by rw [loadN_ptr,f2]; rfl
 have htk:(p.rules.take (k+1)).flatMap ruleEdges=(p.rules.take k).flatMap ruleEdges++ruleEdges p.rules[k]:=by
  rw [List.take_succ,List.getElem?_eq_getElem hlt,List.flatMap_append]
  simp
 have hat:AtL (edgesF p) (2+((p.rules.take k).flatMap ruleEdges).length) (ruleEdges p.rules[k]):=by
  have h1:p.rules=p.rules.take k++(p.rules[k] :: p.rules.drop (k+1)):=by
   conv=>lhs; rw [<- List.take_append_drop k p.rules]
   rw [List.drop_eq_getElem_cons hlt]
  refine ⟨[⟨0#32,3221225534#32,0#64,[0#64,0#64,0#64,0#64,0#64,0#64]⟩,⟨0#32,3221225535#32,0#64,[0#64,0#64,0#64,0#64,0#64,0#64]⟩]++(p.rules.take k).flatMap ruleEdges,(p.rules.drop (k+1)).flatMap ruleEdges,?_,by rw [List.length_append]; rfl⟩
  unfold edgesF
  conv=>lhs; rw [h1]
  rw [List.flatMap_append,List.flatMap_cons]
  simp only [List.append_assoc]
 have hcx:=hc p.rules[k] (List.getElem_mem hlt)
 have hWb:2+((p.rules.take k).flatMap ruleEdges).length<2 ^ 60:=by
  obtain ⟨A,B,h1,h2⟩:=hat
  have:=congrArg List.length h1
  simp only [List.length_append] at this
  omega
 have ih:=ih hlt
 rw [htk,List.length_append,<- Nat.add_assoc] at ih
 have hinc:=i64_inc (i:=k) (by omega)
 generalize p.rules[k]=x at *
 generalize 2+((p.rules.take k).flatMap ruleEdges).length=W at *
 have hincW:=i64_inc (i:=W) (by omega)
 have hcp:plain1 cv=true:=hcv.plain
 have st3:storeN 3 (ptr H1.next 0) (.agg [u32 x.number,u32 x.action,cv].toArray) (H1.new (.cells [(.int .u32 0),(.int .u32 0),(.slice none 0 0)] none))=some (H1.new (.cells [u32 x.number,u32 x.action,cv] none)):=fresh_store (n:=3) rfl rfl (by simp [hcp])
 have g2:=(Has.begin (Ext.refl H1) (Sub.refl H1)).newbox [u32 x.number,u32 x.action,cv]
 have bx:=AH.get_new_self H1 (.cells [u32 x.number,u32 x.action,cv] none)
 have c0':[u32 x.number,u32 x.action,cv][0]? = some (u32 x.number):=rfl
 have c2':[u32 x.number,u32 x.action,cv][2]? = some cv:=rfl
 have hbv:buildV [(0,1),(1,1),(2,1),(3,6)] #[(.int .u32 0),(.int .u32 0),(.int .u64 0),(.int .u64 0),(.int .u64 0),(.int .u64 0),(.int .u64 0),(.int .u64 0),(.int .u64 0)] [(0,u32 x.number),(1,(.int .u32 3221225534))]=some (rec0 x.number).v:=by rw [buildV_eq]; rfl
 simp only [F.f71_l2,i64_lss,hlt',f1,lo,allocW_eq,st3,bx,c0',hbv,hincW,stdZ]
 rw [show H1.next+1=(H1.new (.cells [u32 x.number,u32 x.action,cv] none)).next from rfl]
 generalize H1.new (.cells [u32 x.number,u32 x.action,cv] none)=H4 at *
 generalize H1.next=t5 at *
 have st9:storeN 9 (ptr H4.next 0) (rec0 x.number).v (H4.new (.cells [(.int .u32 0),(.int .u32 0),(.int .u64 0),(.int .u64 0),(.int .u64 0),(.int .u64 0),(.int .u64 0),(.int .u64 0),(.int .u64 0)] none))=some (H4.new (.cells (rec0 x.number).cells none)):=rec_store (b:=rec0 x.number) rfl H4
 have g3:=g2.newbox (rec0 x.number).cells
 have bx3:=g3.box (k:=0) (b:=t5) (c:=[u32 x.number,u32 x.action,cv]) rfl
 have hlc:=(hcv.mono g3.ext).lenSlc
 rw [condR_length] at hlc
 simp only [st9,bx3,c2',hlc,stdZ]
 exact law_edges_l3 hE (hL.mono e1) hll hcv hcx g3 hat (q:=k) (by omega) fun H' e'=>ih _ _ ⟨rfl,e1.trans e'⟩
def diffF (c:List InsnD) (d:BitVec 32) (l:List RecD):Option RecD:=l.find? fun r=>decide (runC r c.length c 0#32≠decideF ⟨[],d⟩ r)
theorem decide_none (hE:Fold E) {v:Value} (hv:lenSlc v=some (vi ((0:Nat):Int))) {d:BitVec 32} (r:RecD) (hQ:∀ H',Ext H H'->Q (u32 (decideF ⟨[],d⟩ r)) H'):E.call (E.fid i.f25) [.agg [v,u32 d].toArray,r.v] H Q:=by
 apply hE.f25
 have x2:Ext H ((H.new (.cells [v,u32 d] none)).new (.cells r.cells none)):=((Ext.refl _).new _).new _
 have b1:((H.new (.cells [v,u32 d] none)).new (.cells r.cells none)).get H.next = .cells [v,u32 d] none:=by rw [AH.get_new_ne _ _ (by rw [AH.next_new]; omega),AH.get_new_self]
 have b2:((H.new (.cells [v,u32 d] none)).new (.cells r.cells none)).get (H.next+1) = .cells r.cells none:=AH.get_new_self (H.new _) _
 have c1:r.cells[1]? = some (u32 r.arch):=rfl
 have c0:r.cells[0]? = some (u32 r.number):=rfl
 have kA:(.int .u32 3221225534:Value)=u32 3221225534#32:=rfl
 simp only [F.f25,boxO_agg_z,AM.mk_some,mkPtr_eq_z,List.toList_toArray,AH.next_new_z,b1,b2,c1,kA,u32_neq,stdZ]
 generalize (H.new (.cells [v,u32 d] none)).new (.cells r.cells none)=H2 at *
 unfold decideF at hQ
 by_cases ha:r.arch=3221225534#32
 rotate_left
 ·rw [if_neg ha] at hQ
  have hd:decide (r.arch≠3221225534#32)=true:=by simpa using ha
  simp only [hd,stdZ]
  exact hQ _ x2
 rw [if_pos ha] at hQ
 have hd:decide (r.arch≠3221225534#32)=false:=by simpa using ha
 have q0:[v,u32 d][0]? = some v:=rfl
 have q1:[v,u32 d][1]? = some (u32 d):=rfl
 simp only [hd,b1,b2,c0,q0,stdZ]
 apply hE.f88
 simp only [F.f88,hv,stdZ]
 refine LoopL.step fun X hX =>?_
 have hlt:decide (((0:Nat):Int)<((0:Nat):Int))=false:=by decide
 have i0:(.int .i64 0:Value)=vi ((0:Nat):Int):=rfl
 simp only [F.f88_l1,i0,i64_lss,hlt,b1,q1,stdZ]
 exact hQ _ x2
theorem Fil.mem {fb:Nat} {c:List InsnD} {X:List Res} {r:Res} (h:Fil H0 Z H fb c X) (hm:r∈X):r.P H:=by
 obtain ⟨lv,n1,n2,h⟩:=h
 exact (h.all r (by simp [hm])).1
theorem Fil.putbox {fb:Nat} {c:List InsnD} {X:List Res} (h:Fil H0 Z H fb c X) {k t:Nat} {cs:List Value} (hk:X[k]? = some (boxR t cs)) (cs':List Value):Fil H0 Z (H.put t (.cells cs' none)) fb c (X.set k (boxR t cs')):=by
 obtain ⟨lv,n1,n2,h⟩:=h
 exact ⟨lv,n1,n2,h.put (k:=k+2) (b:=t) (c:=cs) hk cs'⟩
theorem S.compile_Difference_0 (hE:Fold E) {d:BitVec 32} {fb:Nat} {c:List InsnD} (hok:insnsOk c) (hlen:c.length<=4096) {lv:Value} {l:List RecD} (hro:∀ r∈l,r.ok) (hll:l.length<2 ^ 40) {t0:Nat} {cs0:List Value} (h:Fil H0 Z H fb c [growR 9 lv (recR l),boxR t0 cs0])
  (hQ:∀ H',H'.get t0 = .cells cs0 none->Q (.tuple #[((diffF c d l).getD ⟨0#32,0#32,0#64,[0#64,0#64,0#64,0#64,0#64,0#64]⟩).v,vb (diffF c d l).isSome]) H'):E.call (E.fid i.f10) [.agg [str [],u32 d,nilS,u16 0#16,nilS,nilS].toArray,ptr fb 0,lv] H Q:=by
 apply hE.f10
 have k0:(RecD.ok ⟨0#32,0#32,0#64,[0#64,0#64,0#64,0#64,0#64,0#64]⟩):=rfl
 have x1:Ext H (H.new (.cells [str [],u32 d,nilS,u16 0#16,nilS,nilS] none)):=(Ext.refl _).new _
 have b1:=AH.get_new_self H (.cells [str [],u32 d,nilS,u16 0#16,nilS,nilS] none)
 simp only [F.f10,boxO_agg_z,AM.mk_some,mkPtr_eq_z,List.toList_toArray,stdZ]
 have h1:=h.grow x1
 generalize H.new (.cells [str [],u32 d,nilS,u16 0#16,nilS,nilS] none)=H1 at *
 generalize H.next=t1 at *
 have x2:Ext H1 (H1.new (.cells (RecD.cells ⟨0#32,0#32,0#64,[0#64,0#64,0#64,0#64,0#64,0#64]⟩) none)):=(Ext.refl _).new _
 have h2:=h1.newbox (RecD.cells ⟨0#32,0#32,0#64,[0#64,0#64,0#64,0#64,0#64,0#64]⟩)
 have lo1:loadN 6 (ptr t1 0) (H1.new (.cells (RecD.cells ⟨0#32,0#32,0#64,[0#64,0#64,0#64,0#64,0#64,0#64]⟩) none))=some (.agg [str [],u32 d,nilS,u16 0#16,nilS,nilS].toArray):=by rw [loadN_ptr,x2.cells b1]; rfl
 have hz:([(.int .u32 0),(.int .u32 0),(.int .u64 0),(.int .u64 0),(.int .u64 0),(.int .u64 0),(.int .u64 0),(.int .u64 0),(.int .u64 0)]:List Value)=RecD.cells ⟨0#32,0#32,0#64,[0#64,0#64,0#64,0#64,0#64,0#64]⟩:=rfl
 simp only [allocW_eq,hz,lo1,stdZ]
 generalize H1.new (.cells (RecD.cells ⟨0#32,0#32,0#64,[0#64,0#64,0#64,0#64,0#64,0#64]⟩) none)=H2 at *
 generalize H1.next=t6 at *
 have hSC:SortsC E 12:=sortsC_few hE
 have hSR:SortsR E 12:=fun hg hm hQ=>sortsR_few hE hg (by omega) hQ
 have hpa:PolAt H2 ⟨d,[]⟩ [str [],u32 d,nilS,u16 0#16,nilS,nilS]:=⟨(by decide:(0:Nat)<2 ^ 63),_,_,_,_,_,rfl,[],Rows.nil _ _ none,rfl,fun i h=>by simp at h⟩
 refine S.f22 hE (sm:=12) (by decide) hSC hSR ⟨d,[]⟩ _ hpa (Nat.zero_le _) (fun r hr=>by cases hr) fun ns pl H3 e3 hns hpl =>?_
 have hn:ns=[]:=by
  apply List.eq_nil_iff_forall_not_mem.2
  intro n hn
  obtain ⟨r,hr,_⟩:=(hns.mem n).1 hn
  cases hr
 subst hn
 obtain ⟨v,rfl,hv⟩:=hpl
 have hlv:=SliceOf.lenSlc hv
 have hdf:(planOf ⟨d,[]⟩ []).default=d:=rfl
 have hcl:(planOf ⟨d,[]⟩ []).cases.length=0:=rfl
 rw [hcl] at hlv
 rw [hdf]
 have hpv:plain1 v=true:=by obtain ⟨rows,h1,_⟩:=hv; exact h1.plain
 have h3:=h2.grow e3
 have st3:storeN 2 (ptr H3.next 0) (.agg [v,u32 d].toArray) (H3.new (.cells [(.slice none 0 0),(.int .u32 0)] none))=some (H3.new (.cells [v,u32 d] none)):=fresh_store (n:=2) rfl rfl (by simp [hpv])
 have h4:=h3.newbox [v,u32 d]
 simp only [allocW_eq,st3,stdZ]
 generalize H3.new (.cells [v,u32 d] none)=H4 at *
 generalize H3.next=t8 at *
 have hlr:(recR l).length=l.length:=by simp [recR]
 have hgr:Grow zH H4 9 lv (recR l):=h4.mem (r:=growR 9 lv (recR l)) (by simp)
 have hll2:=hgr.toRows.lenSlc
 rw [hlr] at hll2
 have i0:(.int .i64 0:Value)=vi ((0:Nat):Int):=rfl
 simp only [hll2,i0,stdZ]
 refine LoopL.count l.length (fun k ls H'=>ls=[ptr fb 0,ptr t6 0,ptr t8 0,lv,vi l.length,vi k]/\Fil H0 Z H' fb c [growR 9 lv (recR l),boxR t0 cs0,boxR t6 (RecD.cells ⟨0#32,0#32,0#64,[0#64,0#64,0#64,0#64,0#64,0#64]⟩),boxR t8 [v,u32 d]]/\diffF c d (l.drop k)=diffF c d l) ?_ ⟨rfl,h4,rfl⟩
 rintro k _ H5 X hk ih ⟨rfl,g,hdf⟩
 rcases Nat.lt_or_ge k l.length with hlt | hge
 rotate_left
 ·have hlt':decide ((k:Int)<l.length)=false:=decide_eq_false (by omega)
  rw [List.drop_of_length_le (by omega)] at hdf
  have hnone:diffF c d l=none:=hdf.symm
  rw [hnone] at hQ
  have g2:=g.putbox (k:=2) (t:=t6) rfl (RecD.cells ⟨0#32,0#32,0#64,[0#64,0#64,0#64,0#64,0#64,0#64]⟩)
  have hb6:H5.get t6 = .cells (RecD.cells ⟨0#32,0#32,0#64,[0#64,0#64,0#64,0#64,0#64,0#64]⟩) none:=g.mem (r:=boxR t6 _) (by simp)
  have hbv0:buildV [(0,1),(1,1),(2,1),(3,6)] #[(.int .u32 0),(.int .u32 0),(.int .u64 0),(.int .u64 0),(.int .u64 0),(.int .u64 0),(.int .u64 0),(.int .u64 0),(.int .u64 0)] []=some (RecD.v ⟨0#32,0#32,0#64,[0#64,0#64,0#64,0#64,0#64,0#64]⟩):=rfl
  have st6:storeN 9 (ptr t6 0) (RecD.v ⟨0#32,0#32,0#64,[0#64,0#64,0#64,0#64,0#64,0#64]⟩) H5=some (H5.put t6 (.cells (RecD.cells ⟨0#32,0#32,0#64,[0#64,0#64,0#64,0#64,0#64,0#64]⟩) none)):=by
   unfold RecD.v
   rw [storeN_ptr,hb6]
   simp [splice,RecD.cells]
  have hb6':(H5.put t6 (.cells (RecD.cells ⟨0#32,0#32,0#64,[0#64,0#64,0#64,0#64,0#64,0#64]⟩) none)).get t6 = .cells (RecD.cells ⟨0#32,0#32,0#64,[0#64,0#64,0#64,0#64,0#64,0#64]⟩) none:=g2.mem (r:=boxR t6 _) (by simp)
  have lo6:loadN 9 (ptr t6 0) (H5.put t6 (.cells (RecD.cells ⟨0#32,0#32,0#64,[0#64,0#64,0#64,0#64,0#64,0#64]⟩) none))=some (RecD.v ⟨0#32,0#32,0#64,[0#64,0#64,0#64,0#64,0#64,0#64]⟩):=by rw [loadN_ptr,hb6']; rfl
  simp only [F.f10_l1,i64_lss,hlt',hbv0,st6,lo6,stdZ]
  exact hQ _ (g2.mem (r:=boxR t0 cs0) (by simp))
 have hlt':decide ((k:Int)<l.length)=true:=decide_eq_true (by omega)
 have hgr5:Grow zH H5 9 lv (recR l):=g.mem (r:=growR 9 lv (recR l)) (by simp)
 obtain ⟨b,o,f1,f2⟩:=recs_ix hgr5.toRows hlt
 have lo:=f2 _ (Ext.refl _)
 have hr:=hro l[k] (List.getElem_mem hlt)
 rw [List.drop_eq_getElem_cons hlt] at hdf
 have ih:=ih hlt
 generalize l[k]=r at *
 have hst:=rec_store hr H5
 have hlo2:loadN 9 (ptr H5.next 0) (H5.new (.cells r.cells none))=some r.v:=fresh_load (rec_nine hr)
 have g1:=g.newbox r.cells
 have hinc:=i64_inc (i:=k) (by omega)
 simp only [F.f10_l1,i64_lss,hlt',f1,lo,allocW_eq,hst,hlo2,stdZ]
 generalize H5.new (.cells r.cells none)=H6 at *
 generalize H5.next=t at *
 refine S.f109 hE hr hok hlen g1 fun n H7 hn g2 =>?_
 have hbt:H7.get t = .cells r.cells none:=g2.mem (r:=boxR t r.cells) (by simp)
 have hb8:H7.get t8 = .cells [v,u32 d] none:=g2.mem (r:=boxR t8 [v,u32 d]) (by simp)
 have lo8:loadN 2 (ptr t8 0) H7=some (.agg [v,u32 d].toArray):=by rw [loadN_ptr,hb8]; rfl
 have lot:loadN 9 (ptr t 0) H7=some r.v:=by rw [loadN_ptr,hbt,row_all _ _ 9 (rec_nine hr)]; rfl
 simp only [lo8,lot,stdZ]
 refine decide_none hE hlv r fun H8 e8 =>?_
 have g3:=g2.grow e8
 have hdc:diffF c d (r :: l.drop (k+1))=if runC r c.length c 0#32≠decideF ⟨[],d⟩ r then some r else diffF c d (l.drop (k+1)):=by
  unfold diffF
  rw [List.find?_cons]
  by_cases h:runC r c.length c 0#32=decideF ⟨[],d⟩ r <;> simp [h]
 rw [hdc] at hdf
 by_cases hne:runC r c.length c 0#32≠decideF ⟨[],d⟩ r
 ·have hd:decide (runC r c.length c 0#32≠decideF ⟨[],d⟩ r)=true:=decide_eq_true hne
  rw [if_pos hne] at hdf
  rw [<- hdf] at hQ
  have lot8:loadN 9 (ptr t 0) H8=some r.v:=by rw [loadN_ptr,e8.cells hbt,row_all _ _ 9 (rec_nine hr)]; rfl
  have hb6:H8.get t6 = .cells (RecD.cells ⟨0#32,0#32,0#64,[0#64,0#64,0#64,0#64,0#64,0#64]⟩) none:=g3.mem (r:=boxR t6 _) (by simp)
  have g4:=g3.putbox (k:=2) (t:=t6) rfl r.cells
  have st6:storeN 9 (ptr t6 0) r.v H8=some (H8.put t6 (.cells r.cells none)):=by
   obtain ⟨n',a',t',x0,x1',x2',x3',x4',x5',hrc⟩:=RecD.ok_cases hr
   subst hrc
   unfold RecD.v
   rw [storeN_ptr,hb6]
   simp [splice,RecD.cells]
  have hb6':(H8.put t6 (.cells r.cells none)).get t6 = .cells r.cells none:=g4.mem (r:=boxR t6 r.cells) (by simp)
  have lo6:loadN 9 (ptr t6 0) (H8.put t6 (.cells r.cells none))=some r.v:=by rw [loadN_ptr,hb6',row_all _ _ 9 (rec_nine hr)]; rfl
  simp only [u32_neq,hd,lot8,st6,lo6,stdZ]
  exact hQ _ (g4.mem (r:=boxR t0 cs0) (by simp))
 ·have hd:decide (runC r c.length c 0#32≠decideF ⟨[],d⟩ r)=false:=decide_eq_false hne
  rw [if_neg hne] at hdf
  simp only [u32_neq,hd,hinc,stdZ]
  exact ih _ _ ⟨rfl,g3.dropLast (X:=[growR 9 lv (recR l),boxR t0 cs0,boxR t6 (RecD.cells ⟨0#32,0#32,0#64,[0#64,0#64,0#64,0#64,0#64,0#64]⟩),boxR t8 [v,u32 d]]),hdf⟩
def retLog:List InsnD:=[⟨6#16,0#8,0#8,2147221504#32⟩]
theorem retLog_ok:insnsOk retLog:=ok_cons (x:=⟨6#16,0#8,0#8,2147221504#32⟩) (.inr (.inr (.inr (.inr (.inr (.inr rfl)))))) (fun k hk=>by simp at hk)
theorem retLog_end:endOk retLog:=⟨by decide,rfl⟩
theorem edges_none (d:BitVec 32):edgesF ⟨d,[]⟩=[rec0 0#32,⟨0#32,3221225535#32,0#64,[0#64,0#64,0#64,0#64,0#64,0#64]⟩]:=rfl
theorem diff_log:diffF retLog 2147221504#32 (edgesF ⟨2147221504#32,[]⟩)=some ⟨0#32,3221225535#32,0#64,[0#64,0#64,0#64,0#64,0#64,0#64]⟩:=rfl
theorem law_edges_end (hE:Fold E) {ws n:Value} {k:Nat} {X0:List Value->AH->Prop} (hk:binInt .lss (vi (k:Int)) n=some (vb false)) (hQ:∀ H',Q (vb true) H'):F.f71_l1 E Q ws n (vi (k:Int)) H X0:=by
 have kL:(.int .u32 2147221504:Value)=u32 2147221504#32:=rfl
 simp only [F.f71_l1,hk,kL,stdZ]
 refine S.f20 hE _ fun H1 e1 =>?_
 have hbS:buildS 1 4 #[(.int .u16 0),(.int .u8 0),(.int .u8 0),(.int .u32 0)] [(0,insnV 6 0 0 2147221504#32)]=some (.cells (InsnD.cells ⟨6#16,0#8,0#8,2147221504#32⟩) none,mkSlc 1 1):=buildS_one 4 [u16 0#16,u8 0#8,u8 0#8,u32 0#32] (InsnD.cells ⟨6#16,0#8,0#8,2147221504#32⟩) rfl rfl
 simp only [hbS,AM.mk_some,mkSlc_eq,stdZ]
 have hrows:Rows (H1.new (.cells (InsnD.cells ⟨6#16,0#8,0#8,2147221504#32⟩) none)) 4 (slc H1.next 0 1 1) (insnR retLog):=Rows.made (f:=none) (by rw [AH.get_new_self]; rfl) (.inl rfl) rfl (by simp [insnR,retLog,InsnD.cells])
 generalize H1.new (.cells (InsnD.cells ⟨6#16,0#8,0#8,2147221504#32⟩) none)=H2 at *
 refine S.f110 hE hrows retLog_ok retLog_end (by decide) fun fb H3 g3 =>?_
 have s3:storeN 2 (ptr H3.next 0) (.agg #[vi 0,vi 0]) (H3.new (.cells [(.int .i64 0),(.int .i64 0)] none))=some (H3.new (.cells [vi 0,vi 0] none)):=fresh_store (n:=2) rfl rfl rfl
 have g4:=g3.grow ((Ext.refl H3).new (.cells [vi 0,vi 0] none))
 have hbv:buildV [(0,1),(1,1),(2,1),(3,1),(4,1),(5,1)] #[(.string ⟨#[]⟩),(.int .u32 0),(.slice none 0 0),(.int .u16 0),(.slice none 0 0),(.slice none 0 0)] [(1,(.int .u32 2147221504))]=some (.agg [str [],u32 2147221504#32,nilS,u16 0#16,nilS,nilS].toArray):=rfl
 simp only [allocW_eq,s3,hbv,stdZ]
 try rw [show H3.next+1=(H3.new (.cells [vi 0,vi 0] none)).next from rfl]
 generalize H3.new (.cells [vi 0,vi 0] none)=H4 at *
 have st6:storeN 6 (ptr H4.next 0) (.agg [str [],u32 2147221504#32,nilS,u16 0#16,nilS,nilS].toArray) (H4.new (.cells [(.string ⟨#[]⟩),(.int .u32 0),(.slice none 0 0),(.int .u16 0),(.slice none 0 0),(.slice none 0 0)] none))=some (H4.new (.cells [str [],u32 2147221504#32,nilS,u16 0#16,nilS,nilS] none)):=fresh_store rfl rfl rfl
 have lo6:loadN 6 (ptr H4.next 0) (H4.new (.cells [str [],u32 2147221504#32,nilS,u16 0#16,nilS,nilS] none))=some (.agg [str [],u32 2147221504#32,nilS,u16 0#16,nilS,nilS].toArray):=fresh_load rfl
 have b5:=AH.get_new_self H4 (.cells [str [],u32 2147221504#32,nilS,u16 0#16,nilS,nilS] none)
 have g5:=g4.grow ((Ext.refl H4).new (.cells [str [],u32 2147221504#32,nilS,u16 0#16,nilS,nilS] none))
 simp only [st6,lo6,stdZ]
 try rw [show H4.next+1=(H4.new (.cells [str [],u32 2147221504#32,nilS,u16 0#16,nilS,nilS] none)).next from rfl]
 have hlt5:H4.next<(H4.new (.cells [str [],u32 2147221504#32,nilS,u16 0#16,nilS,nilS] none)).next:=by rw [AH.next_new]; omega
 generalize H4.new (.cells [str [],u32 2147221504#32,nilS,u16 0#16,nilS,nilS] none)=H5 at *
 generalize H4.next=t5 at *
 have hz:([(.int .u32 0),(.int .u32 0),(.int .u64 0),(.int .u64 0),(.int .u64 0),(.int .u64 0),(.int .u64 0),(.int .u64 0),(.int .u64 0)]:List Value)=RecD.cells ⟨0#32,0#32,0#64,[0#64,0#64,0#64,0#64,0#64,0#64]⟩:=rfl
 have g6:=g5.newbox (RecD.cells ⟨0#32,0#32,0#64,[0#64,0#64,0#64,0#64,0#64,0#64]⟩)
 have b6:=AH.get_new_self H5 (.cells (RecD.cells ⟨0#32,0#32,0#64,[0#64,0#64,0#64,0#64,0#64,0#64]⟩) none)
 have b56:(H5.new (.cells (RecD.cells ⟨0#32,0#32,0#64,[0#64,0#64,0#64,0#64,0#64,0#64]⟩) none)).get t5 = .cells [str [],u32 2147221504#32,nilS,u16 0#16,nilS,nilS] none:=((Ext.refl H5).new _).cells b5
 simp only [allocW_eq,hz,stdZ]
 generalize H5.new (.cells (RecD.cells ⟨0#32,0#32,0#64,[0#64,0#64,0#64,0#64,0#64,0#64]⟩) none)=H6 at *
 generalize H5.next=t6 at *
 have hpa:PolAt H6 ⟨2147221504#32,[]⟩ [str [],u32 2147221504#32,nilS,u16 0#16,nilS,nilS]:=⟨(by decide:(0:Nat)<2 ^ 63),_,_,_,_,_,rfl,[],Rows.nil _ _ none,rfl,fun i h=>by simp at h⟩
 refine S.f11 hE ⟨2147221504#32,[]⟩ _ hpa (Nat.zero_le _) (fun r hr=>by cases hr) fun w H7 e7 hw hfr =>?_
 have g7:=g6.add (growR 9 w (recR (edgesF ⟨2147221504#32,[]⟩))) e7 hw (fun b hb =>?_) (blkL_nodup w)
 rotate_left
 ·have hb':blk w=some b:=mem_blkL.1 hb
  exact ⟨hfr b hb',hw.blk_lt hb'⟩
 refine ⟨e7.get (AH.lt_cells b6),?_,?_⟩
 ·rw [loadN_ptr,loadN_ptr,e7.cells b56,b5]
 have g8:Fil H2 H2 H7 fb retLog [growR 9 w (recR (edgesF ⟨2147221504#32,[]⟩)),boxR t6 (RecD.cells ⟨0#32,0#32,0#64,[0#64,0#64,0#64,0#64,0#64,0#64]⟩)]:=by
  obtain ⟨lv,n1,n2,g⟩:=g7
  exact ⟨lv,n1,n2,g.perm (List.Perm.cons _ (List.Perm.cons _ (List.Perm.swap _ _ [])))⟩
 refine S.compile_Difference_0 hE retLog_ok (by decide) (fun r hr =>?_) (by rw [edges_none]; decide) g8 fun H8 b8 =>?_
 ·rw [edges_none] at hr
  simp at hr
  rcases hr with rfl | rfl <;> rfl
 rw [diff_log]
 have hlt8:=AH.lt_cells b8
 have st:storeN 9 (ptr t6 0) (RecD.v ⟨0#32,3221225535#32,0#64,[0#64,0#64,0#64,0#64,0#64,0#64]⟩) H8=some (H8.put t6 (.cells (RecD.cells ⟨0#32,3221225535#32,0#64,[0#64,0#64,0#64,0#64,0#64,0#64]⟩) none)):=by
  unfold RecD.v
  rw [storeN_ptr,b8]
  simp [splice,RecD.cells]
 have lo:loadN 9 (ptr t6 0) (H8.put t6 (.cells (RecD.cells ⟨0#32,3221225535#32,0#64,[0#64,0#64,0#64,0#64,0#64,0#64]⟩) none))=some (RecD.v ⟨0#32,3221225535#32,0#64,[0#64,0#64,0#64,0#64,0#64,0#64]⟩):=by rw [loadN_ptr,AH.get_put_self _ _ hlt8]; rfl
 have hbv2:buildV [(0,1),(1,1),(2,1),(3,6)] #[(.int .u32 0),(.int .u32 0),(.int .u64 0),(.int .u64 0),(.int .u64 0),(.int .u64 0),(.int .u64 0),(.int .u64 0),(.int .u64 0)] [(1,(.int .u32 3221225535))]=some (RecD.v ⟨0#32,3221225535#32,0#64,[0#64,0#64,0#64,0#64,0#64,0#64]⟩):=rfl
 have heq:binAgg (List.replicate 9 0) .eql (RecD.v ⟨0#32,3221225535#32,0#64,[0#64,0#64,0#64,0#64,0#64,0#64]⟩) (RecD.v ⟨0#32,3221225535#32,0#64,[0#64,0#64,0#64,0#64,0#64,0#64]⟩)=some (.bool true):=by simp [RecD.v,RecD.cells]
 have hgd:∀ (x:RecD),(some x).getD ⟨0#32,0#32,0#64,[0#64,0#64,0#64,0#64,0#64,0#64]⟩=x:=fun _=>rfl
 have his:∀ (x:RecD),(some x).isSome=true:=fun _=>rfl
 refine ⟨by rw [b8,b6],?_⟩
 simp only [hgd,his,ext_tuple,List.getElem?_cons_zero,List.getElem?_cons_succ,st,lo,hbv2,heq,stdZ]
 exact hQ _
theorem S.law_CompileEdges (hE:Fold E) (args:List Value) (ha:ArgsSV H [polSh,smallSh] args) (hQ:∀ H',Q (vb true) H'):E.call (E.fid i.f71) args H Q:=by
 obtain ⟨v1,_,rfl,h1,ha⟩:=ha.cons_inv
 obtain ⟨v2,_,rfl,h2,ha⟩:=ha.cons_inv
 obtain rfl:=ha.nil_inv
 obtain ⟨x,xc,rfl,hx,hxf⟩:=h1.pol
 obtain ⟨s,sc,rfl,hs⟩:=h2.small
 apply hE.f71
 have hs8:sc.length=8:=by obtain ⟨_,_,_,_,rfl,_⟩:=hs; rfl
 have polx6:∀ {H:AH} {x:PolX} {cs:List Value},PolXAt H x cs->cs.length=6/\cs.all plain1=true:=fun h=>by
  obtain ⟨v,pv,qv,rfl,⟨rows,h1,_⟩,h2,h3⟩:=h
  exact ⟨rfl,by simp [h1.plain,h2.plain,h3.plain]⟩
 have x2:Ext H ((H.new (.cells xc none)).new (.cells sc none)):=((Ext.refl _).new _).new _
 have b1:((H.new (.cells xc none)).new (.cells sc none)).get H.next = .cells xc none:=by rw [AH.get_new_ne _ _ (by rw [AH.next_new]; omega),AH.get_new_self]
 have b2:((H.new (.cells xc none)).new (.cells sc none)).get (H.next+1) = .cells sc none:=AH.get_new_self (H.new _) _
 simp only [F.f71,boxO_agg_z,AM.mk_some,mkPtr_eq_z,List.toList_toArray,AH.next_new_z,stdZ]
 generalize (H.new (.cells xc none)).new (.cells sc none)=H2 at *
 refine S.f70 hE fun H3 e3 =>?_
 have x3:=x2.trans e3
 have lo1:∀ {K},Ext H2 K->loadN 6 (ptr H.next 0) K=some (.agg xc.toArray):=fun e=>by rw [loadN_ptr,e.cells b1,row_all _ _ 6 (polx6 hx).1]; rfl
 have lo2:∀ {K},Ext H2 K->loadN 8 (ptr (H.next+1) 0) K=some (.agg sc.toArray):=fun e=>by rw [loadN_ptr,e.cells b2,row_all _ _ 8 hs8]; rfl
 simp only [lo1 e3,stdZ]
 refine S.f66 hE x xc (hx.mono x3) hxf fun fbl H4 e4 hfew =>?_
 have e34:=e3.trans e4
 cases fbl with
 | false=>simp only [stdZ]; exact hQ _
 | true =>
  have hfew:=hfew rfl
  simp only [lo1 e34,lo2 e34,stdZ]
  refine S.f67 hE s sc (hs.sub (x2.trans e34).sub) fun H5 pc e5 hps =>?_
  have e35:=e34.trans e5
  refine ⟨(lo1 e35).trans (lo1 e34).symm,?_⟩
  have hbs:=buildS_full 2 6 [str [],u32 0#32,nilS,u16 0#16,nilS,nilS] [(0,.agg xc.toArray),(1,.agg pc.toArray)] [.agg xc.toArray,.agg pc.toArray] rfl rfl rfl rfl (by simp [(polx6 hx).1,(polx6 hps).1])
  have hbs:buildS 2 6 #[(.string ⟨#[]⟩),(.int .u32 0),(.slice none 0 0),(.int .u16 0),(.slice none 0 0),(.slice none 0 0)] [(0,.agg xc.toArray),(1,.agg pc.toArray)]=some (.cells (xc++pc) none,mkSlc 2 2):=by
   rw [show (xc++pc)=([.agg xc.toArray,.agg pc.toArray]:List Value).flatMap vcells by simp]
   exact hbs
  simp only [hbs,AM.mk_some,mkSlc_eq,stdZ]
  have e6:Ext H5 (H5.new (.cells (xc++pc) none)):=(Ext.refl _).new _
  have hrows:Rows (H5.new (.cells (xc++pc) none)) 6 (slc H5.next 0 2 2) [xc,pc]:=Rows.made (f:=none) (by rw [AH.get_new_self]; simp) (.inl rfl) rfl (by simp [(polx6 hx).1,(polx6 hps).1])
  generalize H5.new (.cells (xc++pc) none)=H6 at *
  have x6:=((x2.trans e35).trans e6)
  have hps6:=hps.mono e6
  have hx6:=hx.mono x6
  have i0:(.int .i64 0:Value)=vi ((0:Nat):Int):=rfl
  rw [i0]
  refine LoopL.count 2 (fun j ls H'=>ls=[slc H5.next 0 2 2,vi 2,vi j]/\Ext H6 H') ?_ ⟨rfl,Ext.refl _⟩
  rintro j _ H7 X hj hX ⟨rfl,e7⟩
  rcases Nat.lt_or_ge j 2 with hlt | hge
  rotate_left
  ·have hd:decide ((j:Int)<2)=false:=decide_eq_false (by omega)
   have hge':binInt .lss (vi (j:Int)) (vi 2)=some (vb false):=by rw [i64_lss,hd]
   exact law_edges_end hE hge' hQ
  have hlt':decide ((j:Int)<2)=true:=decide_eq_true (by omega)
  have ⟨q,qc,hq1,hq2,hq3⟩:∃ (q:PolX) (qc:List Value),[xc,pc][j]? = some qc/\PolXAt H7 q qc/\q.few:=by
   match j,hlt with
   | 0,_=>exact ⟨x,xc,rfl,hx6.mono e7,hfew⟩
   | 1,_=>exact ⟨s.pol,pc,rfl,hps6.mono e7,s.pol_few⟩
  obtain ⟨b,o,f1,f2⟩:=(hrows.mono e7).ix (i:=j) hlt
  have hjj:[xc,pc][j]=qc:=by
   rw [List.getElem?_eq_getElem hlt] at hq1
   exact Option.some.inj hq1
  rw [hjj] at f2
  have lo:loadN 6 (ptr b o) H7=some (.agg qc.toArray):=by rw [loadN_ptr,f2]; rfl
  obtain ⟨hq6,hqp⟩:=polx6 hq2
  have hst:storeN 6 (ptr H7.next 0) (.agg qc.toArray) (H7.new (.cells [(.string ⟨#[]⟩),(.int .u32 0),(.slice none 0 0),(.int .u16 0),(.slice none 0 0),(.slice none 0 0)] none))=some (H7.new (.cells qc none)):=fresh_store rfl hq6 hqp
  have hlo7:loadN 6 (ptr H7.next 0) (H7.new (.cells qc none))=some (.agg qc.toArray):=fresh_load hq6
  have x8:Ext H7 (H7.new (.cells qc none)):=(Ext.refl _).new _
  have b8:=AH.get_new_self H7 (.cells qc none)
  simp only [F.f71_l1,i64_lss,hlt',f1,lo,allocW_eq,hst,hlo7,stdZ]
  have hq8:=hq2.mono x8
  have hX:=hX hlt
  generalize H7.new (.cells qc none)=H8 at *
  generalize H7.next=t8 at *
  have hrl:=hq3.1
  have hcl:∀ r∈q.pol.rules,r.conds.length<=1000:=fun r hr=>by have:=hq3.2.1 r hr; omega
  refine S.f11 hE q.pol qc (hq8.at_ (by omega)) (by omega) hcl fun w H9 e9 hw _ =>?_
  obtain ⟨v,pv,qv,hqc,hv,_⟩:=hq8.mono e9
  subst hqc
  have c2:[str q.name,u32 q.pol.default,v,u16 q.handled,pv,qv][2]? = some v:=rfl
  have hlv:=SliceOf.lenSlc hv
  simp only [e9.cells b8,c2,hlv,stdZ]
  exact law_edges_l2 hE hv (by omega) hcl hw.toRows (q:=j) (by omega) fun H' e'=>hX _ _ ⟨rfl,((e7.trans x8).trans e9).trans e'⟩
end
end Go.AM
end
