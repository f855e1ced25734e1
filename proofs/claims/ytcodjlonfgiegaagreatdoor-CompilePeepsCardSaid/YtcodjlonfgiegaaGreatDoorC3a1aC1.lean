/- CONTRACTS ON THE PRINTED FUNCTIONS. -/
import Derived.Test.YtcodjlonfgiegaaGreatDoorC3a1aC0
set_option linter.all false
section
namespace Go.AM
set_option maxRecDepth 20000
def natV (n:Nat):Value:=vi n
def lwL (lw m:Nat) (lv ov:Value) (s:LwD):List Res:=[boxR lw [lv,vi s.last,vi s.other,.map (some m),ov],growR 7 lv (partR s.parts),mapR u32 natV m s.acts,growR 1 ov (a32R s.order)]
def Lw (H0 Z H:AH) (lw m:Nat) (s:LwD) (X:List Res):Prop:=∃ lv ov,Has H0 Z H (lwL lw m lv ov s++X)
def LwO (H0 Z H:AH) (lw m:Nat) (ov:Value) (s:LwD) (X:List Res):Prop:=∃ lv,Has H0 Z H (lwL lw m lv ov s++X)
def LwD.big (s:LwD):Nat:=s.parts.length+s.last+s.order.length
section
variable {E:Sy} {H H' H0 Z:AH} {Q:Value->AH->Prop} {X:List Res} {lw m:Nat} {s:LwD}
theorem ptr_eql_nil (b o:Nat):binNil eqPtr .eql (ptr b o) (.pointer none)=some (vb false):=rfl
theorem ptr_neq_nil (b o:Nat):binNil eqPtr .neq (ptr b o) (.pointer none)=some (vb true):=rfl
theorem Has.dropLast {L:List Res} {r:Res} (h:Has H0 Z H (L++[r])):Has H0 Z H L:=by
 have:=h.drop L.length
 rwa [List.eraseIdx_append_of_length_le (Nat.le_refl _),Nat.sub_self,List.eraseIdx_cons_zero,List.append_nil] at this
theorem Lw.grow (h:Lw H0 Z H lw m s X) (e:Ext H H'):Lw H0 Z H' lw m s X:=by
 obtain ⟨lv,ov,h⟩:=h
 exact ⟨lv,ov,h.grow e⟩
theorem LwO.grow {ov:Value} (h:LwO H0 Z H lw m ov s X) (e:Ext H H'):LwO H0 Z H' lw m ov s X:=by
 obtain ⟨lv,h⟩:=h
 exact ⟨lv,h.grow e⟩
theorem Lw.newbox (h:Lw H0 Z H lw m s X) (c:List Value):Lw H0 Z (H.new (.cells c none)) lw m s (X++[boxR H.next c]):=by
 obtain ⟨lv,ov,h⟩:=h
 have:=h.newbox c
 rw [List.append_assoc] at this
 exact ⟨lv,ov,this⟩
theorem Lw.box {t:Nat} {c:List Value} (h:Lw H0 Z H lw m s (X++[boxR t c])):H.get t = .cells c none:=by
 obtain ⟨lv,ov,h⟩:=h
 exact (h.all (boxR t c) (by simp)).1
theorem Lw.dropLast {r:Res} (h:Lw H0 Z H lw m s (X++[r])):Lw H0 Z H lw m s X:=by
 obtain ⟨lv,ov,h⟩:=h
 rw [<- List.append_assoc] at h
 exact ⟨lv,ov,h.dropLast⟩
theorem Lw.ext (h:Lw H0 Z H lw m s X):Ext H0 H:=by
 obtain ⟨lv,ov,h⟩:=h
 exact h.ext
theorem S.f31 (hE:Fold E) (h:Lw H0 Z H lw m s X) (hb:s.big<2 ^ 30) (hQ:∀ H',Lw H0 Z H' lw m s.new X->Q (vi ((s.last+1:Nat):Int)) H'):E.call (E.fid i.f31) [ptr lw 0] H Q:=by
 apply hE.f31
 obtain ⟨lv,ov,h⟩:=h
 have hbx:=h.box (k:=0) rfl
 have hlt:s.last<2 ^ 62:=by unfold LwD.big at hb; omega
 have hinc:=i64_inc (i:=s.last) (by omega)
 have g:=h.put (k:=0) rfl [lv,vi ((s.last+1:Nat):Int),vi s.other,.map (some m),ov]
 have hst:store1 (ptr lw 1) (vi ((s.last+1:Nat):Int)) H=some (H.put lw (.cells [lv,vi ((s.last+1:Nat):Int),vi s.other,.map (some m),ov] none)):=by
  rw [store1_ptr,if_pos (show plain1 (vi ((s.last+1:Nat):Int))=true from rfl),hbx]; rfl
 have hb2:=g.box (k:=0) rfl
 simp only [F.f31,ptr_neq_nil,ptr_eql_nil,hbx,hinc,hst,hb2,stdZ]
 exact hQ _ ⟨lv,ov,g⟩
theorem put_o (hE:Fold E) {ov:Value} (h:LwO H0 Z H lw m ov s X) (hb:s.big<2 ^ 30) (p:PartD) (hQ:∀ H',LwO H0 Z H' lw m ov (s.put p) X->Q (.tuple #[]) H'):E.call (E.fid i.f34) [ptr lw 0,p.v] H Q:=by
 apply hE.f34
 obtain ⟨lv,h⟩:=h
 have h1:=h.newbox p.cells
 have hbx:=h1.box (k:=0) (b:=lw) rfl
 have hb1:=AH.get_new_self H (.cells p.cells none)
 have hlen:(partR s.parts).length<2 ^ 30:=by unfold LwD.big at hb; simp only [partR,List.length_map]; omega
 have hbS:buildS 1 7 #[(.int .u8 0),(.int .i64 0),(.int .i64 0),(.int .u16 0),(.int .u8 0),(.int .u8 0),(.int .u32 0)] [(0,p.v)]=some (.cells p.cells none,mkSlc 1 1):=buildS_one 7 [u8 0#8,vi 0,vi 0,u16 0#16,u8 0#8,u8 0#8,u32 0#32] p.cells rfl rfl
 have hlo:loadN 7 (ptr H.next 0) (H.new (.cells p.cells none))=some p.v:=by
  rw [loadN_ptr,hb1,row_all _ _ 7 rfl]; rfl
 have h1:Has H0 Z (H.new (.cells p.cells none)) (lwL lw m lv ov s++X):=h1.dropLast
 obtain ⟨v',H3,a1,a2,g⟩:=h1.app1 (k:=1) (sz:=7) (v:=lv) (rows:=partR s.parts) (bytes:=32) rfl p.cells rfl (by simp [PartD.cells]) (by decide) (by decide) (by omega)
 have a1:app 7 32 lv (slc (H.next+1) 0 1 1) ((H.new (.cells p.cells none)).new (.cells p.cells none))=some (v',H3):=a1
 have hbx3:=g.box (k:=0) (b:=lw) (c:=[lv,vi s.last,vi s.other,.map (some m),ov]) rfl
 have hst:store1 (ptr lw 0) v' H3=some (H3.put lw (.cells [v',vi s.last,vi s.other,.map (some m),ov] none)):=by
  rw [store1_ptr,if_pos a2,hbx3]; rfl
 have g2:=g.put (k:=0) (b:=lw) (c:=[lv,vi s.last,vi s.other,.map (some m),ov]) rfl [v',vi s.last,vi s.other,.map (some m),ov]
 simp only [F.f34,boxO_agg_z,AM.mk_some,mkPtr_eq_z,List.toList_toArray,ptr_neq_nil,ptr_eql_nil,hbx,hlo,hbS,mkSlc_eq,a1,hst,stdZ]
 refine hQ _ ⟨v',?_⟩
 have hr:partR (s.put p).parts=partR s.parts++[p.cells]:=by simp [partR,LwD.put]
 show Has H0 Z _ (boxR lw [v',vi s.last,vi s.other,.map (some m),ov] :: growR 7 v' (partR (s.put p).parts) :: mapR u32 natV m s.acts :: growR 1 ov (a32R s.order) :: X)
 rw [hr]
 exact g2
theorem S.f34 (hE:Fold E) (h:Lw H0 Z H lw m s X) (hb:s.big<2 ^ 30) (p:PartD) (hQ:∀ H',Lw H0 Z H' lw m (s.put p) X->Q (.tuple #[]) H'):E.call (E.fid i.f34) [ptr lw 0,p.v] H Q:=by
 obtain ⟨lv,ov,h⟩:=h
 exact put_o hE ⟨lv,h⟩ hb p fun H' ⟨lv',h'⟩=>hQ H' ⟨lv',ov,h'⟩
theorem S.f29 (hE:Fold E) (h:Lw H0 Z H lw m s X) (hb:s.big<2 ^ 30) (n:Nat) (hQ:∀ H',Lw H0 Z H' lw m (s.put (pHere n)) X->Q (.tuple #[]) H'):E.call (E.fid i.f29) [ptr lw 0,vi n] H Q:=by
 apply hE.f29
 have hbv:buildV [(0,1),(1,1),(2,1),(3,4)] #[(.int .u8 0),(.int .i64 0),(.int .i64 0),(.int .u16 0),(.int .u8 0),(.int .u8 0),(.int .u32 0)] [(0,(.int .u8 1)),(1,vi n)]=some (pHere n).v:=rfl
 simp only [F.f29,hbv,stdZ]
 exact S.f34 hE h hb _ hQ
theorem here_o (hE:Fold E) {ov:Value} (h:LwO H0 Z H lw m ov s X) (hb:s.big<2 ^ 30) (n:Nat) (hQ:∀ H',LwO H0 Z H' lw m ov (s.put (pHere n)) X->Q (.tuple #[]) H'):E.call (E.fid i.f29) [ptr lw 0,vi n] H Q:=by
 apply hE.f29
 have hbv:buildV [(0,1),(1,1),(2,1),(3,4)] #[(.int .u8 0),(.int .i64 0),(.int .i64 0),(.int .u16 0),(.int .u8 0),(.int .u8 0),(.int .u32 0)] [(0,(.int .u8 1)),(1,vi n)]=some (pHere n).v:=rfl
 simp only [F.f29,hbv,stdZ]
 exact put_o hE h hb _ hQ
theorem S.f28 (hE:Fold E) (h:Lw H0 Z H lw m s X) (hb:s.big<2 ^ 30) (n:Nat) (hQ:∀ H',Lw H0 Z H' lw m (s.put (pGoto n)) X->Q (.tuple #[]) H'):E.call (E.fid i.f28) [ptr lw 0,vi n] H Q:=by
 apply hE.f28
 have hbv:buildV [(0,1),(1,1),(2,1),(3,4)] #[(.int .u8 0),(.int .i64 0),(.int .i64 0),(.int .u16 0),(.int .u8 0),(.int .u8 0),(.int .u32 0)] [(0,(.int .u8 4)),(1,vi n)]=some (pGoto n).v:=rfl
 simp only [F.f28,hbv,stdZ]
 exact S.f34 hE h hb _ hQ
theorem S.f33 (hE:Fold E) (h:Lw H0 Z H lw m s X) (hb:s.big<2 ^ 30) (n:InsnD) (hQ:∀ H',Lw H0 Z H' lw m (s.put (pPlain n)) X->Q (.tuple #[]) H'):E.call (E.fid i.f33) [ptr lw 0,n.v] H Q:=by
 apply hE.f33
 have hb1:=AH.get_new_self H (.cells n.cells none)
 have hlo:loadN 4 (ptr H.next 0) (H.new (.cells n.cells none))=some n.v:=by
  rw [loadN_ptr,hb1,row_all _ _ 4 rfl]; rfl
 have hbv:buildV [(0,1),(1,1),(2,1),(3,4)] #[(.int .u8 0),(.int .i64 0),(.int .i64 0),(.int .u16 0),(.int .u8 0),(.int .u8 0),(.int .u32 0)] [(0,(.int .u8 2)),(3,n.v)]=some (pPlain n).v:=rfl
 simp only [F.f33,boxO_agg_z,AM.mk_some,mkPtr_eq_z,List.toList_toArray,hlo,hbv,stdZ]
 exact S.f34 hE (h.grow ((Ext.refl H).new _)) hb _ hQ
theorem plain_o (hE:Fold E) {ov:Value} (h:LwO H0 Z H lw m ov s X) (hb:s.big<2 ^ 30) (n:InsnD) (hQ:∀ H',LwO H0 Z H' lw m ov (s.put (pPlain n)) X->Q (.tuple #[]) H'):E.call (E.fid i.f33) [ptr lw 0,n.v] H Q:=by
 apply hE.f33
 have hb1:=AH.get_new_self H (.cells n.cells none)
 have hlo:loadN 4 (ptr H.next 0) (H.new (.cells n.cells none))=some n.v:=by
  rw [loadN_ptr,hb1,row_all _ _ 4 rfl]; rfl
 have hbv:buildV [(0,1),(1,1),(2,1),(3,4)] #[(.int .u8 0),(.int .i64 0),(.int .i64 0),(.int .u16 0),(.int .u8 0),(.int .u8 0),(.int .u32 0)] [(0,(.int .u8 2)),(3,n.v)]=some (pPlain n).v:=rfl
 simp only [F.f33,boxO_agg_z,AM.mk_some,mkPtr_eq_z,List.toList_toArray,hlo,hbv,stdZ]
 exact put_o hE (h.grow ((Ext.refl H).new _)) hb _ hQ
theorem S.f30 (hE:Fold E) (h:Lw H0 Z H lw m s X) (hb:s.big<2 ^ 30) (how:BitVec 16) (k:BitVec 32) (t e:Nat) (hQ:∀ H',Lw H0 Z H' lw m (s.put (pIf how k t e)) X->Q (.tuple #[]) H'):E.call (E.fid i.f30) [ptr lw 0,u16 how,u32 k,vi t,vi e] H Q:=by
 apply hE.f30
 simp only [F.f30,stdZ]
 refine S.f14 hE how k 0#8 0#8 fun H1 e1 =>?_
 have hbv:∀ n:InsnD,buildV [(0,1),(1,1),(2,1),(3,4)] #[(.int .u8 0),(.int .i64 0),(.int .i64 0),(.int .u16 0),(.int .u8 0),(.int .u8 0),(.int .u32 0)] [(0,(.int .u8 3)),(1,vi t),(2,vi e),(3,n.v)]=some (PartD.v ⟨3#8,t,e,n⟩):=fun _=>by rw [buildV_eq]; rfl
 have hv:insnV (5#16|||how|||0#16) 0#8 0#8 k=InsnD.v ⟨5#16|||how|||0#16,0#8,0#8,k⟩:=rfl
 rw [hv]
 simp only [hbv,stdZ]
 exact S.f34 hE (h.grow e1) hb _ hQ
end
end Go.AM
end
section
namespace Go.AM
set_option maxRecDepth 20000
structure MkD where
 out:List InsnD
 places:List (Int×Nat)
def hopI (n:Int):InsnD:=⟨5#16,0#8,0#8,BitVec.ofInt 32 n⟩
def MkD.away (s:MkD) (n:Int):Int:=(s.out.length:Int) - ((alook n s.places).getD 0:Nat)
def MkD.hop (s:MkD) (n:Int):MkD:=⟨hopI n :: s.out,s.places⟩
def MkD.cmp2 (s:MkD) (i1:InsnD) (to els:Int):MkD:=⟨⟨i1.code,BitVec.ofInt 8 to,BitVec.ofInt 8 els,i1.k⟩ :: s.out,s.places⟩
def MkD.cmp1 (s:MkD) (i1:InsnD) (to els:Int):MkD:=if 253<to then (s.hop to).cmp2 i1 0 (els+1) else s.cmp2 i1 to els
def MkD.cmp0 (s:MkD) (i1:InsnD) (to els:Int):MkD:=if 253<els then (s.hop els).cmp1 i1 (to+1) 0 else s.cmp1 i1 to els
def MkD.part (s:MkD) (p:PartD):Int ⊕ MkD :=
 if p.kind=1#8 then (if (alook p.to s.places).isSome then .inl 206 else .inr ⟨s.out,aset p.to s.out.length s.places⟩)
 else if p.kind=2#8 then (if iclass p.insn.code=5#16 then .inl 210 else .inr ⟨p.insn :: s.out,s.places⟩)
 else if p.kind=4#8 then (if (alook p.to s.places).isSome then .inr (s.hop (s.away p.to)) else .inl 207)
 else if p.kind=3#8 then
  (if iclass p.insn.code≠5#16\/p.insn.code=5#16 then .inl 210
  else if (alook p.to s.places).isSome=false\/(alook p.els s.places).isSome=false then .inl 207
  else .inr (s.cmp0 p.insn (s.away p.to) (s.away p.els)))
 else .inl 210
def makeF:List PartD->Int ⊕ MkD
 | [] => .inr ⟨[],[]⟩
 | p :: l=>match makeF l with
  | .inl e => .inl e
  | .inr s=>match s.part p with
   | .inl e => .inl e
   | .inr t=>if 4096<t.out.length then .inl 205 else .inr t
def insnR (l:List InsnD):List (List Value):=l.map InsnD.cells
def mkL (mb pm:Nat) (ov:Value) (s:MkD):List Res:=[boxR mb [ov,.map (some pm)],growR 4 ov (insnR s.out.reverse),mapR vi natV pm s.places]
def Mk (H0 Z H:AH) (mb pm:Nat) (s:MkD) (X:List Res):Prop:=∃ ov,Has H0 Z H (mkL mb pm ov s++X)
section
variable {E:Sy} {H H' H0 Z:AH} {Q:Value->AH->Prop} {X:List Res} {mb pm:Nat} {s:MkD}
theorem same_vi (a b:Int):sameCell 0 (vi a) (vi b)=some (decide (a=b)):=by
 simp only [sameCell]
 rfl
theorem MapAt.look_int {r:Nat} {l:List (Int×Nat)} (h:MapAt vi natV H r l) (a:Int) (ok:Bool):AM.look 0 (.int .i64 0) ok (.map (some r)) (vi a) H=some (if ok then .tuple #[vi ((alook a l).getD 0:Nat),.bool (alook a l).isSome] else vi ((alook a l).getD 0:Nat)):=by
 have:=h.look (kd:=0) same_vi a (.int .i64 0) ok
 cases hk:alook a l with
 | none=>unfold alook at hk; rw [hk] at this; rw [this]; cases ok <;> rfl
 | some n=>unfold alook at hk; rw [hk] at this; rw [this]; cases ok <;> rfl
theorem Mk.grow (h:Mk H0 Z H mb pm s X) (e:Ext H H'):Mk H0 Z H' mb pm s X:=by
 obtain ⟨ov,h⟩:=h
 exact ⟨ov,h.grow e⟩
theorem Mk.ext (h:Mk H0 Z H mb pm s X):Ext H0 H:=by
 obtain ⟨ov,h⟩:=h
 exact h.ext
theorem Mk.newbox (h:Mk H0 Z H mb pm s X) (c:List Value):Mk H0 Z (H.new (.cells c none)) mb pm s (X++[boxR H.next c]):=by
 obtain ⟨ov,h⟩:=h
 have:=h.newbox c
 rw [List.append_assoc] at this
 exact ⟨ov,this⟩
theorem Mk.box {t:Nat} {c:List Value} (h:Mk H0 Z H mb pm s (X++[boxR t c])):H.get t = .cells c none:=by
 obtain ⟨ov,h⟩:=h
 exact (h.all (boxR t c) (by simp)).1
theorem Mk.dropLast {r:Res} (h:Mk H0 Z H mb pm s (X++[r])):Mk H0 Z H mb pm s X:=by
 obtain ⟨ov,h⟩:=h
 rw [<- List.append_assoc] at h
 exact ⟨ov,h.dropLast⟩
theorem Mk.cells (h:Mk H0 Z H mb pm s X):∃ ov,H.get mb = .cells [ov,.map (some pm)] none/\lenSlc ov=some (vi s.out.length):=by
 obtain ⟨ov,h⟩:=h
 have hl:=(h.rows (k:=1) (sz:=4) (v:=ov) (rows:=insnR s.out.reverse) rfl).lenSlc
 simp only [insnR,List.length_map,List.length_reverse] at hl
 exact ⟨ov,h.box (k:=0) rfl,hl⟩
theorem Mk.look (h:Mk H0 Z H mb pm s X) (a:Int):AM.look 0 (.int .i64 0) true (.map (some pm)) (vi a) H=some (.tuple #[vi ((alook a s.places).getD 0:Nat),.bool (alook a s.places).isSome]):=by
 obtain ⟨ov,h⟩:=h
 exact (h.mapAt (k:=2) (fk:=vi) (fv:=natV) (r:=pm) (l:=s.places) rfl).look_int a true
theorem Mk.push (h:Mk H0 Z H mb pm s X) (hl:s.out.length<2 ^ 30) (x:InsnD) {ov:Value} (ho:H.get mb = .cells [ov,.map (some pm)] none) :
  ∃ v' H1,app 4 8 ov (slc H.next 0 1 1) (H.new (.cells x.cells none))=some (v',H1)/\∃ H2,store1 (ptr mb 0) v' H1=some H2/\Mk H0 Z H2 mb pm ⟨x :: s.out,s.places⟩ X:=by
 obtain ⟨ov2,h⟩:=h
 have hb:=h.box (k:=0) (b:=mb) (c:=[ov2,.map (some pm)]) rfl
 rw [ho] at hb
 injection hb with hb _
 simp only [List.cons.injEq,and_true] at hb
 subst hb
 obtain ⟨v',H3,a1,a2,g⟩:=h.app1 (k:=1) (sz:=4) (v:=ov) (rows:=insnR s.out.reverse) (bytes:=8) rfl x.cells rfl rfl (by decide) (by decide) (by simp only [insnR,List.length_map,List.length_reverse]; omega)
 have hbx:=g.box (k:=0) (b:=mb) (c:=[ov,.map (some pm)]) rfl
 have hst:store1 (ptr mb 0) v' H3=some (H3.put mb (.cells [v',.map (some pm)] none)):=by
  rw [store1_ptr,if_pos a2,hbx]; rfl
 have g2:=g.put (k:=0) (b:=mb) (c:=[ov,.map (some pm)]) rfl [v',.map (some pm)]
 refine ⟨v',H3,a1,_,hst,v',?_⟩
 have hr:insnR (x :: s.out).reverse=insnR s.out.reverse++[x.cells]:=by simp [insnR]
 show Has H0 Z _ (boxR mb [v',.map (some pm)] :: growR 4 v' (insnR (x :: s.out).reverse) :: mapR vi natV pm s.places :: X)
 rw [hr]
 exact g2
theorem Mk.setPlace (h:Mk H0 Z H mb pm s X) (n:Int) (k:Nat):∃ H',setMap 0 (.map (some pm)) (vi n) (vi k) H=some H'/\Mk H0 Z H' mb pm ⟨s.out,aset n k s.places⟩ X:=by
 obtain ⟨ov,h⟩:=h
 obtain ⟨H2,m1,g2⟩:=h.mapset (n:=2) (r:=pm) (l:=s.places) (fk:=vi) (fv:=natV) rfl same_vi n k
 exact ⟨H2,m1,ov,g2⟩
theorem S.f39 (hE:Fold E) (h:Mk H0 Z H mb pm s X) (hl:s.out.length<2 ^ 30) (n:Int) (hk:(alook n s.places).getD 0<2 ^ 30) (hQ:Q (.tuple #[vi (s.away n),vb (alook n s.places).isSome]) H):E.call (E.fid i.f39) [ptr mb 0,vi n] H Q:=by
 apply hE.f39
 obtain ⟨ov,hbx,hlv⟩:=h.cells
 have hlk:=h.look n
 have hsub:binInt .sub (vi s.out.length) (vi ((alook n s.places).getD 0:Nat))=some (vi (s.away n)):=i64_sub (by omega) (by omega)
 simp only [F.f39,hbx,hlk,hlv,hsub,stdZ]
 exact hQ
theorem S.f41 (hE:Fold E) (h:Mk H0 Z H mb pm s X) (hl:s.out.length<2 ^ 30) (n:Int) (hQ:∀ H',Mk H0 Z H' mb pm (s.hop n) X->Q (.tuple #[]) H'):E.call (E.fid i.f41) [ptr mb 0,vi n] H Q:=by
 apply hE.f41
 obtain ⟨ov,hbx,hlv⟩:=h.cells
 simp only [F.f41,hbx,i64_to_u32,stdZ]
 refine S.f19 hE _ fun H1 e1 =>?_
 have hb1:=e1.cells hbx
 refine ⟨by rw [load1_ptr,load1_ptr,hb1,hbx],?_⟩
 have hv:insnV 5 0 0 (BitVec.ofInt 32 n)=(hopI n).v:=rfl
 have hbS:buildS 1 4 #[(.int .u16 0),(.int .u8 0),(.int .u8 0),(.int .u32 0)] [(0,(hopI n).v)]=some (.cells (hopI n).cells none,mkSlc 1 1):=buildS_one 4 [u16 0#16,u8 0#8,u8 0#8,u32 0#32] (hopI n).cells rfl rfl
 obtain ⟨v',H2,a1,H3,a2,g⟩:=(h.grow e1).push hl (hopI n) hb1
 rw [hv]
 simp only [hbS,AM.mk_some,mkSlc_eq,a1,a2,stdZ]
 exact hQ _ g
end
end Go.AM
end
section
namespace Go.AM
set_option maxRecDepth 20000
def followsF:List PartD->Int->Bool
 | [],_=>false
 | p :: l,n=>if p.kind=1#8 then (if p.to=n then true else followsF l n) else false
def alongF (m:List (Int×Int)):Nat->Int->Int
 | 0,n=>n
 | f+1,n=>match alook n m with
  | none=>n
  | some t=>alongF m f t
def peepF:List PartD->Option (BitVec 32)->List PartD
 | [],_=>[]
 | p :: l,now =>
  if p.kind=1#8 then p :: peepF l none
  else if p.kind=2#8/\p.insn.code=32#16 then (if now=some p.insn.k then peepF l now else p :: peepF l (some p.insn.k))
  else if p.kind=2#8 then p :: peepF l none
  else p :: peepF l now
section
variable {E:Sy} {H H' H0 Z:AH} {Q:Value->AH->Prop} {X:List Res}
theorem part_new (x:PartD) (H:AH):storeN 7 (ptr H.next 0) x.v (H.new (.cells [(.int .u8 0),(.int .i64 0),(.int .i64 0),(.int .u16 0),(.int .u8 0),(.int .u8 0),(.int .u32 0)] none))=some (H.new (.cells x.cells none)):=by
 rw [storeN_ptr,AH.get_new_self]
 have h3:AM.splice [(.int .u8 0),(.int .i64 0),(.int .i64 0),(.int .u16 0),(.int .u8 0),(.int .u8 0),(.int .u32 0)] 0 x.cells=x.cells:=rfl
 have h4:x.cells.all plain1=true:=rfl
 have h5:x.cells.length=7:=rfl
 simp only [List.size_toArray,List.toList_toArray,h4,h5,List.length_cons,List.length_nil,Nat.zero_add,Nat.le_refl,and_self,if_true,h3,AH.new_put]
theorem part_ix {v:Value} {l:List PartD} (hv:Rows H 7 v (partR l)) {k:Nat} (hk:k<l.length):∃ b o,ixSlc 7 v (vi k)=some (ptr b o)/\(H.get b).row o 7=some l[k].cells/\loadN 7 (ptr b o) H=some l[k].v:=by
 obtain ⟨b,o,f1,f2⟩:=hv.ix (i:=k) (by simpa [partR] using hk)
 have hrow:(partR l)[k]'(by simpa [partR] using hk)=l[k].cells:=by simp [partR]
 rw [hrow] at f2
 exact ⟨b,o,f1,f2,by rw [loadN_ptr,f2]; rfl⟩
theorem S.f38 (hE:Fold E) {v:Value} {l:List PartD} (hv:Rows H 7 v (partR l)) (hl:l.length<2 ^ 30) (n:Int) (hQ:∀ H',Ext H H'->Q (vb (followsF l n)) H'):E.call (E.fid i.f38) [v,vi n] H Q:=by
 apply hE.f38
 have i0:(.int .i64 0:Value)=vi ((0:Nat):Int):=rfl
 have hlv:=hv.lenSlc
 have hpl:(partR l).length=l.length:=by simp [partR]
 rw [hpl] at hlv
 simp only [F.f38,hlv,i0,stdZ]
 refine LoopL.count l.length (fun k ls H'=>ls=[vi n,v,vi l.length,vi k]/\Ext H H'/\followsF l n=followsF (l.drop k) n) ?_ ⟨rfl,Ext.refl _,rfl⟩
 rintro k _ H1 X1 hk ih ⟨rfl,e1,hf⟩
 rcases Nat.lt_or_ge k l.length with hlt | hge
 ·have hlt':decide ((k:Int)<l.length)=true:=decide_eq_true (by omega)
  obtain ⟨b,o,f1,_,f2⟩:=part_ix (hv.mono e1) hlt
  have hinc:=i64_inc (i:=k) (by omega)
  rw [List.drop_eq_getElem_cons hlt] at hf
  generalize l[k]=p at *
  have hst:=part_new p H1
  have bp:=AH.get_new_self H1 (.cells p.cells none)
  have x1:Ext H1 (H1.new (.cells p.cells none)):=(Ext.refl _).new _
  have c0:p.cells[0]? = some (u8 p.kind):=rfl
  have c1:p.cells[1]? = some (vi p.to):=rfl
  have q1:(.int .u8 1:Value)=u8 1#8:=rfl
  simp only [F.f38_l1,i64_lss,hlt',f1,f2,allocW_eq,hst,bp,c0,q1,u8_neq,stdZ]
  have hcons:followsF (p :: l.drop (k+1)) n=if p.kind=1#8 then (if p.to=n then true else followsF (l.drop (k+1)) n) else false:=rfl
  rw [hcons] at hf
  by_cases o1:p.kind=1#8
  ·have hd:decide (p.kind≠1#8)=false:=decide_eq_false (by simpa using o1)
   rw [if_pos o1] at hf
   simp only [hd,bp,c1,i64_eql,stdZ]
   by_cases o2:p.to=n
   ·have hd2:decide (p.to=n)=true:=decide_eq_true o2
    rw [if_pos o2] at hf
    rw [hf] at hQ
    simp only [hd2,stdZ]
    exact hQ _ (e1.trans x1)
   ·have hd2:decide (p.to=n)=false:=decide_eq_false o2
    rw [if_neg o2] at hf
    simp only [hd2,hinc,stdZ]
    exact ih hlt _ _ ⟨rfl,e1.trans x1,hf⟩
  ·have hd:decide (p.kind≠1#8)=true:=decide_eq_true o1
   rw [if_neg o1] at hf
   rw [hf] at hQ
   simp only [hd,stdZ]
   exact hQ _ (e1.trans x1)
 ·have hlt':decide ((k:Int)<l.length)=false:=decide_eq_false (by omega)
  rw [List.drop_eq_nil_of_le hge] at hf
  rw [hf] at hQ
  simp only [F.f38_l1,i64_lss,hlt',stdZ]
  exact hQ _ e1
theorem MapAt.look_ints {r:Nat} {l:List (Int×Int)} (h:MapAt vi vi H r l) (a:Int):AM.look 0 (.int .i64 0) true (.map (some r)) (vi a) H=some (.tuple #[vi ((alook a l).getD 0),.bool (alook a l).isSome]):=by
 have:=h.look (kd:=0) same_vi a (.int .i64 0) true
 cases hk:alook a l with
 | none=>unfold alook at hk; rw [hk] at this; rw [this]; rfl
 | some n=>unfold alook at hk; rw [hk] at this; rw [this]; rfl
theorem S.f37 (hE:Fold E) {r:Nat} {m:List (Int×Int)} (hm:MapAt vi vi H r m) (hl:m.length<2 ^ 30) (n:Int) (hQ:Q (vi (alongF m m.length n)) H):E.call (E.fid i.f37) [.map (some r),vi n] H Q:=by
 apply hE.f37
 have i0:(.int .i64 0:Value)=vi ((0:Nat):Int):=rfl
 have hlm:=hm.len
 simp only [F.f37,hlm,i0,stdZ]
 refine LoopL.count m.length (fun k ls H'=>∃ x,ls=[.map (some r),vi x,vi m.length,vi k]/\H=H'/\alongF m m.length n=alongF m (m.length - k) x) ?_ ⟨n,rfl,rfl,rfl⟩
 rintro k _ _ X1 hk ih ⟨x,rfl,rfl,hf⟩
 rcases Nat.lt_or_ge k m.length with hlt | hge
 ·have hlt':decide ((k:Int)<m.length)=true:=decide_eq_true (by omega)
  have hlk:=hm.look_ints x
  have hinc:=i64_inc (i:=k) (by omega)
  obtain ⟨f,hfe⟩:∃ f,m.length - k=f+1:=⟨m.length - k - 1,by omega⟩
  rw [hfe] at hf
  have hsucc:alongF m (f+1) x=match alook x m with | none=>x | some t=>alongF m f t:=rfl
  rw [hsucc] at hf
  simp only [F.f37_l1,i64_lss,hlt',hlk,stdZ]
  cases ha:alook x m with
  | none =>
   rw [ha] at hf
   have hf:alongF m m.length n=x:=hf
   simp only [Option.isSome_none,stdZ]
   rw [<- hf]
   exact hQ
  | some t =>
   rw [ha] at hf
   have hf:alongF m m.length n=alongF m f t:=hf
   simp only [Option.isSome_some,Option.getD_some,hinc,stdZ]
   exact ih hlt _ _ ⟨t,rfl,rfl,by rw [hf,show m.length - (k+1)=f by omega]⟩
 ·have hlt':decide ((k:Int)<m.length)=false:=decide_eq_false (by omega)
  have h0:m.length - k=0:=by omega
  rw [h0] at hf
  have hf:alongF m m.length n=x:=hf
  simp only [F.f37_l1,i64_lss,hlt',stdZ]
  rw [<- hf]
  exact hQ
end
end Go.AM
end
section
namespace Go.AM
set_option maxRecDepth 20000
def MkD.okM (s:MkD):Prop:=s.out.length<2 ^ 27/\∀ n,(alook n s.places).getD 0<=s.out.length
section
variable {E:Sy} {H H' H0 Z:AH} {Q:Value->AH->Prop} {X:List Res} {mb pm:Nat} {s:MkD}
theorem insn_new (x:InsnD) (H:AH):storeN 4 (ptr H.next 0) x.v (H.new (.cells [(.int .u16 0),(.int .u8 0),(.int .u8 0),(.int .u32 0)] none))=some (H.new (.cells x.cells none)):=by
 rw [storeN_ptr,AH.get_new_self]
 have h3:AM.splice [(.int .u16 0),(.int .u8 0),(.int .u8 0),(.int .u32 0)] 0 x.cells=x.cells:=rfl
 have h4:x.cells.all plain1=true:=rfl
 have h5:x.cells.length=4:=rfl
 simp only [List.size_toArray,List.toList_toArray,h4,h5,List.length_cons,List.length_nil,Nat.zero_add,Nat.le_refl,and_self,if_true,h3,AH.new_put]
theorem new_store {c c':List Value} {k:Nat} {v:Value} (H:AH) (hp:plain1 v=true) (hk:k<c.length) (he:c.set k v=c'):store1 (ptr H.next k) v (H.new (.cells c none))=some (H.new (.cells c' none)):=by
 subst he
 rw [store1_ptr,if_pos hp,AH.get_new_self]
 simp only [hk,if_true,AH.new_put]
theorem compare_j2 (hE:Fold E) {p:PartD} {t:Nat} (h:Mk H0 Z H mb pm s (X++[boxR t p.cells])) (hl:s.out.length<2 ^ 29) (to els:Int) (hQ:∀ H',Mk H0 Z H' mb pm (s.cmp2 p.insn to els) X->Q (.int .i64 0) H'):F.f40_j2 E Q (ptr mb 0) (ptr t 0) (vi to) (vi els) H:=by
 have hb:=h.box
 have lo:loadN 4 (ptr t 3) H=some p.insn.v:=by rw [loadN_ptr,hb]; rfl
 have s1:=insn_new p.insn H
 have s2:=new_store (c:=p.insn.cells) (c':=[u16 p.insn.code,u8 (BitVec.ofInt 8 to),u8 p.insn.jf,u32 p.insn.k]) (k:=1) (v:=u8 (BitVec.ofInt 8 to)) H rfl (by simp [InsnD.cells]) rfl
 have s3:=new_store (c:=[u16 p.insn.code,u8 (BitVec.ofInt 8 to),u8 p.insn.jf,u32 p.insn.k]) (c':=InsnD.cells ⟨p.insn.code,BitVec.ofInt 8 to,BitVec.ofInt 8 els,p.insn.k⟩) (k:=2) (v:=u8 (BitVec.ofInt 8 els)) H rfl (by simp) rfl
 generalize hx:(⟨p.insn.code,BitVec.ofInt 8 to,BitVec.ofInt 8 els,p.insn.k⟩:InsnD)=x at *
 have b1:=AH.get_new_self H (.cells x.cells none)
 have g:=h.newbox x.cells
 obtain ⟨ov,hbx,hlv⟩:=g.cells
 have lo2:loadN 4 (ptr H.next 0) (H.new (.cells x.cells none))=some x.v:=by rw [loadN_ptr,b1,row_all _ _ 4 rfl]; rfl
 have hbS:buildS 1 4 #[(.int .u16 0),(.int .u8 0),(.int .u8 0),(.int .u32 0)] [(0,x.v)]=some (.cells x.cells none,mkSlc 1 1):=buildS_one 4 [u16 0#16,u8 0#8,u8 0#8,u32 0#32] x.cells rfl rfl
 obtain ⟨v',H2,a1,H3,a2,g2⟩:=g.push (by omega) x hbx
 simp only [F.f40_j2,lo,allocW_eq,s1,s2,s3,i64_to_u8,hbx,lo2,hbS,AM.mk_some,mkSlc_eq,stdZ]
 have a1:app 4 8 ov (slc (H.next+1) 0 1 1) ((H.new (.cells x.cells none)).new (.cells x.cells none))=some (v',H2):=a1
 simp only [a1,a2,stdZ]
 refine hQ _ ?_
 unfold MkD.cmp2
 rw [hx]
 exact g2.dropLast.dropLast
theorem compare_j1 (hE:Fold E) {p:PartD} {t:Nat} (h:Mk H0 Z H mb pm s (X++[boxR t p.cells])) (hl:s.out.length<2 ^ 28) (to els:Int) (h1:els<2 ^ 40) (h2 : -2 ^ 40<els) (hQ:∀ H',Mk H0 Z H' mb pm (s.cmp1 p.insn to els) X->Q (.int .i64 0) H'):F.f40_j1 E Q (ptr mb 0) (ptr t 0) (vi to) (vi els) H:=by
 have k253:(.int .i64 253:Value)=vi 253:=rfl
 have i0:(.int .i64 0:Value)=vi 0:=rfl
 have i1:(.int .i64 1:Value)=vi 1:=rfl
 simp only [F.f40_j1,k253,i64_gtr,stdZ]
 unfold MkD.cmp1 at hQ
 by_cases hg:253<to
 ·have hd:decide ((253:Int)<to)=true:=decide_eq_true hg
  rw [if_pos hg] at hQ
  simp only [hd,stdZ]
  refine S.f41 hE h (by omega) to fun H1 g =>?_
  have ha:binInt .add (vi els) (vi 1)=some (vi (els+1)):=i64_add (by omega) (by omega)
  simp only [i1,i0,ha,stdZ]
  refine compare_j2 hE g ?_ 0 (els+1) hQ
  show (hopI to :: s.out).length<_
  rw [List.length_cons]; omega
 ·have hd:decide ((253:Int)<to)=false:=decide_eq_false hg
  rw [if_neg hg] at hQ
  simp only [hd,stdZ]
  exact compare_j2 hE h (by omega) to els hQ
theorem S.f40 (hE:Fold E) (h:Mk H0 Z H mb pm s X) (ok:s.okM) (p:PartD)
  (hB:∀ e H',(iclass p.insn.code≠5#16\/p.insn.code=5#16)->e=210->Ext H0 H'->Q (vi e) H')
  (hJ:∀ e H',¬ (iclass p.insn.code≠5#16\/p.insn.code=5#16)->((alook p.to s.places).isSome=false\/(alook p.els s.places).isSome=false)->e=207->Ext H0 H'->Q (vi e) H')
  (hQ:∀ H',¬ (iclass p.insn.code≠5#16\/p.insn.code=5#16)->¬ ((alook p.to s.places).isSome=false\/(alook p.els s.places).isSome=false)->Mk H0 Z H' mb pm (s.cmp0 p.insn (s.away p.to) (s.away p.els)) X->Q (.int .i64 0) H') :
  E.call (E.fid i.f40) [ptr mb 0,p.v] H Q:=by
 apply hE.f40
 have g:=h.newbox p.cells
 have b1:=AH.get_new_self H (.cells p.cells none)
 have c1:p.cells[1]? = some (vi p.to):=rfl
 have c2:p.cells[2]? = some (vi p.els):=rfl
 have c3:p.cells[3]? = some (u16 p.insn.code):=rfl
 have k5:(.int .u16 5:Value)=u16 5#16:=rfl
 have i0:(.int .i64 0:Value)=vi 0:=rfl
 have i1:(.int .i64 1:Value)=vi 1:=rfl
 have k253:(.int .i64 253:Value)=vi 253:=rfl
 have p1:=ok.2 p.to
 have p2:=ok.2 p.els
 have p0:=ok.1
 have aw1:s.away p.to=(s.out.length:Int) - ((alook p.to s.places).getD 0:Nat):=rfl
 have aw2:s.away p.els=(s.out.length:Int) - ((alook p.els s.places).getD 0:Nat):=rfl
 simp only [F.f40,boxO_agg_z,AM.mk_some,mkPtr_eq_z,List.toList_toArray,b1,c1,stdZ]
 generalize H.new (.cells p.cells none)=H1 at *
 generalize H.next=t at *
 refine S.f39 hE g (by omega) p.to (by omega) ?_
 simp only [b1,c2,stdZ]
 refine S.f39 hE g (by omega) p.els (by omega) ?_
 simp only [b1,c3,stdZ]
 refine S.f13 hE _ ?_
 simp only [k5,u16_neq,stdZ]
 by_cases hc1:iclass p.insn.code=5#16
 rotate_left
 ·have hd:decide (iclass p.insn.code≠5#16)=true:=decide_eq_true hc1
  simp only [hd,stdZ]
  exact hB 210 _ (.inl hc1) rfl g.ext
 have hd:decide (iclass p.insn.code≠5#16)=false:=decide_eq_false (by simpa using hc1)
 simp only [hd,b1,c3,k5,u16_eql,stdZ]
 by_cases hc2:p.insn.code=5#16
 ·have hd2:decide (p.insn.code=5#16)=true:=decide_eq_true hc2
  simp only [hd,hd2,stdZ]
  exact hB 210 _ (.inr hc2) rfl g.ext
 have hd2:decide (p.insn.code=5#16)=false:=decide_eq_false hc2
 have hcc:¬ (iclass p.insn.code≠5#16\/p.insn.code=5#16):=by
  rintro (h | h)
  ·exact h hc1
  ·exact hc2 h
 simp only [hd,hd2,stdZ]
 cases ho1:(alook p.to s.places).isSome with
 | false =>
  simp only [stdZ]
  exact hJ 207 _ hcc (.inl ho1) rfl g.ext
 | true =>
  cases ho2:(alook p.els s.places).isSome with
  | false =>
   simp only [stdZ]
   exact hJ 207 _ hcc (.inr ho2) rfl g.ext
  | true =>
   have hoo:¬ ((alook p.to s.places).isSome=false\/(alook p.els s.places).isSome=false):=by rw [ho1,ho2]; simp
   have hQ:=fun H' h=>hQ H' hcc hoo h
   unfold MkD.cmp0 at hQ
   simp only [k253,i64_gtr,stdZ]
   by_cases hg:253<s.away p.els
   ·have hd:decide ((253:Int)<s.away p.els)=true:=decide_eq_true hg
    rw [if_pos hg] at hQ
    have ha:binInt .add (vi (s.away p.to)) (vi 1)=some (vi (s.away p.to+1)):=i64_add (by omega) (by omega)
    simp only [hd,stdZ]
    refine S.f41 hE g (by omega) _ fun H2 g2 =>?_
    simp only [i1,i0,ha,stdZ]
    refine compare_j1 hE g2 ?_ _ 0 (by omega) (by omega) hQ
    show (hopI _ :: s.out).length<_
    rw [List.length_cons]; omega
   ·have hd:decide ((253:Int)<s.away p.els)=false:=decide_eq_false hg
    rw [if_neg hg] at hQ
    simp only [hd,stdZ]
    exact compare_j1 hE g (by omega) _ _ (by omega) (by omega) hQ
end
end Go.AM
end
section
namespace Go.AM
set_option maxRecDepth 20000
section
variable {E:Sy} {H H' H0 Z:AH} {Q:Value->AH->Prop} {X:List Res} {mb pm:Nat} {s:MkD}
theorem S.f42 (hE:Fold E) (h:Mk H0 Z H mb pm s X) (ok:s.okM) (p:PartD)
  (hB:∀ e H',s.part p = .inl e->e≠0->Ext H0 H'->Q (vi e) H')
  (hQ:∀ t H',s.part p = .inr t->Mk H0 Z H' mb pm t X->Q (.int .i64 0) H') :
  E.call (E.fid i.f42) [ptr mb 0,p.v] H Q:=by
 apply hE.f42
 have g:=h.newbox p.cells
 have b1:=AH.get_new_self H (.cells p.cells none)
 have c0:p.cells[0]? = some (u8 p.kind):=rfl
 have c1:p.cells[1]? = some (vi p.to):=rfl
 have c3:p.cells[3]? = some (u16 p.insn.code):=rfl
 have q1:(.int .u8 1:Value)=u8 1#8:=rfl
 have q2:(.int .u8 2:Value)=u8 2#8:=rfl
 have q3:(.int .u8 3:Value)=u8 3#8:=rfl
 have q4:(.int .u8 4:Value)=u8 4#8:=rfl
 have k5:(.int .u16 5:Value)=u16 5#16:=rfl
 have p1:=ok.2 p.to
 have p0:=ok.1
 have lo:loadN 7 (ptr H.next 0) (H.new (.cells p.cells none))=some p.v:=by rw [loadN_ptr,b1,row_all _ _ 7 rfl]; rfl
 have lo3:loadN 4 (ptr H.next 3) (H.new (.cells p.cells none))=some p.insn.v:=by rw [loadN_ptr,b1]; rfl
 simp only [F.f42,boxO_agg_z,AM.mk_some,mkPtr_eq_z,List.toList_toArray,b1,c0,q1,u8_eql,stdZ]
 generalize H.new (.cells p.cells none)=H1 at *
 generalize H.next=t at *
 unfold MkD.part at hB hQ
 by_cases o1:p.kind=1#8
 ·have hd:decide (p.kind=1#8)=true:=decide_eq_true o1
  simp only [if_pos o1] at hB hQ
  obtain ⟨ov,hbx,hlv⟩:=g.cells
  have hlk:=g.look p.to
  simp only [hd,hbx,b1,c1,hlk,stdZ]
  cases hs:(alook p.to s.places).isSome with
  | true =>
   rw [hs] at hB hQ
   simp only [stdZ]
   exact hB 206 _ rfl (by decide) g.ext
  | false =>
   rw [hs] at hB hQ
   obtain ⟨H2,m1,g2⟩:=g.setPlace p.to s.out.length
   simp only [hbx,b1,c1,hlv,m1,stdZ]
   exact hQ _ _ rfl g2.dropLast
 have hd1:decide (p.kind=1#8)=false:=decide_eq_false o1
 simp only [if_neg o1] at hB hQ
 simp only [hd1,q2,u8_eql,stdZ]
 by_cases o2:p.kind=2#8
 ·have hd:decide (p.kind=2#8)=true:=decide_eq_true o2
  simp only [if_pos o2] at hB hQ
  simp only [hd,b1,c3,stdZ]
  refine S.f13 hE _ ?_
  simp only [k5,u16_eql,stdZ]
  by_cases hc:iclass p.insn.code=5#16
  ·have hd:decide (iclass p.insn.code=5#16)=true:=decide_eq_true hc
   simp only [if_pos hc] at hB
   simp only [hd,stdZ]
   exact hB 210 _ rfl (by decide) g.ext
  ·have hd:decide (iclass p.insn.code=5#16)=false:=decide_eq_false hc
   simp only [if_neg hc] at hQ
   obtain ⟨ov,hbx,hlv⟩:=g.cells
   have hbS:buildS 1 4 #[(.int .u16 0),(.int .u8 0),(.int .u8 0),(.int .u32 0)] [(0,p.insn.v)]=some (.cells p.insn.cells none,mkSlc 1 1):=buildS_one 4 [u16 0#16,u8 0#8,u8 0#8,u32 0#32] p.insn.cells rfl rfl
   obtain ⟨v',H2,a1,H3,a2,g2⟩:=g.push (by omega) p.insn hbx
   simp only [hd,hbx,lo3,hbS,AM.mk_some,mkSlc_eq,a1,a2,stdZ]
   exact hQ _ _ rfl g2.dropLast
 have hd2:decide (p.kind=2#8)=false:=decide_eq_false o2
 simp only [if_neg o2] at hB hQ
 simp only [hd2,q4,u8_eql,stdZ]
 by_cases o4:p.kind=4#8
 ·have hd:decide (p.kind=4#8)=true:=decide_eq_true o4
  simp only [if_pos o4] at hB hQ
  simp only [hd,b1,c1,stdZ]
  refine S.f39 hE g (by omega) p.to (by omega) ?_
  cases hs:(alook p.to s.places).isSome with
  | false =>
   rw [hs] at hB hQ
   simp only [stdZ]
   exact hB 207 _ rfl (by decide) g.ext
  | true =>
   rw [hs] at hB hQ
   simp only [stdZ]
   refine S.f41 hE g (by omega) _ fun H2 g2 =>?_
   exact hQ _ _ rfl g2.dropLast
 have hd4:decide (p.kind=4#8)=false:=decide_eq_false o4
 simp only [if_neg o4] at hB hQ
 simp only [hd4,q3,u8_eql,stdZ]
 by_cases o3:p.kind=3#8
 ·have hd:decide (p.kind=3#8)=true:=decide_eq_true o3
  simp only [if_pos o3] at hB hQ
  simp only [hd,lo,stdZ]
  refine S.f40 hE g ok p (fun e H' h1 he e1 =>?_) (fun e H' h1 h2 he e1 =>?_) fun H' h1 h2 g2 =>?_
  ·subst he
   exact hB 210 _ (if_pos h1) (by decide) e1
  ·subst he
   exact hB 207 _ (by rw [if_neg h1,if_pos h2]) (by decide) e1
  ·exact hQ _ _ (by rw [if_neg h1,if_neg h2]) g2.dropLast
 have hd3:decide (p.kind=3#8)=false:=decide_eq_false o3
 simp only [if_neg o3] at hB
 simp only [hd3,stdZ]
 exact hB 210 _ rfl (by decide) g.ext
end
end Go.AM
end
section
namespace Go.AM
set_option maxRecDepth 20000
theorem alook_asetG {K V:Type} [DecidableEq K] (k n:K) (v:V):∀ l:List (K×V),alook n (aset k v l)=if n=k then some v else alook n l
 | []=>by simp only [aset,alook_cons]
 | p :: l=>by
  simp only [aset]
  by_cases h:p.1=k
  ·rw [if_pos h,alook_cons,alook_cons]
   by_cases hn:n=k
   ·rw [if_pos hn,if_pos hn]
   ·rw [if_neg hn,if_neg hn,if_neg (by rw [h]; exact hn)]
  ·rw [if_neg h,alook_cons,alook_cons,alook_asetG k n v l]
   by_cases hn:n=p.1
   ·rw [if_pos hn,if_neg (by rw [hn]; exact h),if_pos hn]
   ·rw [if_neg hn,if_neg hn]
def MkD.okP (s:MkD):Prop:=∀ n k,alook n s.places=some k->k<=s.out.length
theorem MkD.okP.getD {s:MkD} (h:s.okP) (n:Int):(alook n s.places).getD 0<=s.out.length:=by
 cases hk:alook n s.places with
 | none=>exact Nat.zero_le _
 | some k=>exact h n k hk
theorem MkD.okP.push {s:MkD} (h:s.okP) (x:InsnD):MkD.okP ⟨x :: s.out,s.places⟩:=fun n k hk=>Nat.le_succ_of_le (h n k hk)
theorem cmp0_places (s:MkD) (x:InsnD) (a b:Int):(s.cmp0 x a b).places=s.places:=by
 unfold MkD.cmp0 MkD.cmp1 MkD.cmp2
 split <;> split <;> rfl
theorem cmp0_len (s:MkD) (x:InsnD) (a b:Int):s.out.length<(s.cmp0 x a b).out.length/\(s.cmp0 x a b).out.length<=s.out.length+3:=by
 unfold MkD.cmp0 MkD.cmp1 MkD.cmp2 MkD.hop
 split <;> split <;> simp <;> omega
theorem part_ok {s t:MkD} {p:PartD} (h:s.okP) (e:s.part p = .inr t):t.okP/\s.out.length<=t.out.length/\t.out.length<=s.out.length+3:=by
 unfold MkD.part at e
 split at e
 ·split at e
  ·cases e
  ·cases e
   refine ⟨fun n k hk =>?_,Nat.le_refl _,Nat.le_add_right _ _⟩
   simp only [alook_asetG] at hk
   split at hk
   ·cases hk; exact Nat.le_refl _
   ·exact h n k hk
 ·split at e
  ·split at e
   ·cases e
   ·cases e
    exact ⟨h.push _,by simp,by simp⟩
  ·split at e
   ·split at e
    ·cases e
     exact ⟨h.push _,by simp [MkD.hop],by simp [MkD.hop]⟩
    ·cases e
   ·split at e
    ·split at e
     ·cases e
     ·split at e
      ·cases e
      ·cases e
       have h2:=cmp0_len s p.insn (s.away p.to) (s.away p.els)
       refine ⟨fun n k hk =>?_,by omega,h2.2⟩
       rw [cmp0_places] at hk
       exact Nat.le_trans (h n k hk) (by omega)
    ·cases e
theorem makeF_ok:∀ {l:List PartD} {s:MkD},makeF l = .inr s->s.okP/\s.out.length<=4096
 | [],s,e=>by
  cases e
  exact ⟨fun n k hk=>by simp [alook] at hk,Nat.zero_le _⟩
 | p :: l,s,e=>by
  unfold makeF at e
  split at e
  ·cases e
  ·rename_i s1 h1
   have ih:=makeF_ok h1
   split at e
   ·cases e
   ·rename_i t h2
    split at e
    ·cases e
    ·cases e
     exact ⟨(part_ok ih.1 h2).1,by omega⟩
theorem makeF_app {e:Int} {b:List PartD} (h:makeF b = .inl e):∀ a:List PartD,makeF (a++b) = .inl e
 | []=>h
 | p :: a=>by
  show makeF (p :: (a++b))=_
  unfold makeF
  rw [makeF_app h a]
theorem makeF_err {e:Int} {l:List PartD} (k:Nat) (h:makeF (l.drop k) = .inl e):makeF l = .inl e:=by
 have:=makeF_app h (l.take k)
 rwa [List.take_append_drop] at this
section
variable {E:Sy} {H H' H0 Z:AH} {Q:Value->AH->Prop} {X:List Res} {mb pm:Nat} {s:MkD}
theorem Has.newroomc {L:List Res} (h:Has H0 Z H L) (sz n:Nat) (c:List Value) (hc:c.length=n*sz):Has H0 Z (H.new (.cells c none)) (L++[growR sz (slc H.next 0 0 n) []]) :=
 h.add _ ((Ext.refl H).new _) (Grow.room (zH_get _) (AH.get_new_self _ _) hc) (by simp [growR,blkL,blk]) (by simp [growR,blkL,blk])
theorem make_l2 (hE:Fold E) {ov rv:Value} (h:Has H0 Z H (mkL mb pm ov s++[growR 4 rv []])) (hl:s.out.length<=4096) (hQ:∀ v H',Ext H0 H'->Rows H' 4 v (insnR s.out)->Q (.tuple #[v,(.int .i64 0)]) H') :
  LoopL (fun l H X0=>F.f35_l2 E Q (nth l 0) (nth l 1) (nth l 2) H X0) [ptr mb 0,rv,vi ((s.out.length:Int) - 1)] H:=by
 refine LoopL.count s.out.length (fun k ls H'=>∃ rv,ls=[ptr mb 0,rv,vi ((s.out.length:Int) - 1 - k)]/\Has H0 Z H' (mkL mb pm ov s++[growR 4 rv (insnR (s.out.take k))])) ?_ ⟨rv,by simp,by simpa [insnR] using h⟩
 rintro k _ H1 X1 hk ih ⟨rv,rfl,g⟩
 have i0:(.int .i64 0:Value)=vi 0:=rfl
 have i1:(.int .i64 1:Value)=vi 1:=rfl
 rcases Nat.lt_or_ge k s.out.length with hlt | hge
 ·have hbx:=g.box (k:=0) (b:=mb) (c:=[ov,.map (some pm)]) rfl
  have hrw:=g.rows (k:=1) (sz:=4) (v:=ov) (rows:=insnR s.out.reverse) rfl
  have he:(s.out.length:Int) - 1 - k=((s.out.length - 1 - k:Nat):Int):=by omega
  have hd:decide ((0:Int)<=(s.out.length:Int) - 1 - k)=true:=decide_eq_true (by omega)
  have hs:binInt .sub (vi ((s.out.length:Int) - 1 - k)) (vi 1)=some (vi ((s.out.length:Int) - 1 - (k+1:Nat))):=by
   rw [i64_sub (by omega) (by omega)]; congr 2; omega
  have hjl:s.out.length - 1 - k<(insnR s.out.reverse).length:=by simp only [insnR,List.length_map,List.length_reverse]; omega
  obtain ⟨bb,o,f1,f2⟩:=hrw.ix (i:=s.out.length - 1 - k) hjl
  have hrow:(insnR s.out.reverse)[s.out.length - 1 - k]=s.out[k].cells:=by
   simp only [insnR,List.getElem_map,List.getElem_reverse]
   congr 2
   omega
  rw [hrow] at f2
  have lo:loadN 4 (ptr bb o) H1=some s.out[k].v:=by rw [loadN_ptr,f2]; rfl
  rw [<- he] at f1
  have hbS:buildS 1 4 #[(.int .u16 0),(.int .u8 0),(.int .u8 0),(.int .u32 0)] [(0,s.out[k].v)]=some (.cells s.out[k].cells none,mkSlc 1 1):=buildS_one 4 [u16 0#16,u8 0#8,u8 0#8,u32 0#32] s.out[k].cells rfl rfl
  obtain ⟨v',H2,a1,a2,g2⟩:=g.app1 (k:=3) (sz:=4) (v:=rv) (rows:=insnR (s.out.take k)) (bytes:=8) rfl s.out[k].cells rfl rfl (by decide) (by decide) (by simp only [insnR,List.length_map,List.length_take]; omega)
  have hst:s.out.take (k+1)=s.out.take k++[s.out[k]]:=by rw [List.take_succ,List.getElem?_eq_getElem hlt]; rfl
  simp only [F.f35_l2,i0,i1,i64_geq,hd,hbx,f1,lo,hbS,AM.mk_some,mkSlc_eq,a1,hs,stdZ]
  refine ih hlt _ _ ⟨v',rfl,?_⟩
  rw [hst]
  have:insnR (s.out.take k++[s.out[k]])=insnR (s.out.take k)++[s.out[k].cells]:=by unfold insnR; rw [List.map_append]; rfl
  rw [this]
  exact g2
 ·have hke:k=s.out.length:=by omega
  subst hke
  have hd:decide ((0:Int)<=(s.out.length:Int) - 1 - (s.out.length:Nat))=false:=decide_eq_false (by omega)
  rw [List.take_length] at g
  simp only [F.f35_l2,i0,i64_geq,hd,stdZ]
  exact hQ _ _ g.ext (g.rows (k:=3) (sz:=4) (v:=rv) (rows:=insnR s.out) rfl)
theorem S.f35 (hE:Fold E) {v:Value} {l:List PartD} (hv:Rows H 7 v (partR l)) (hl:l.length<2 ^ 26)
  (hQ:∀ H',Ext H H'->(∀ e,makeF l = .inl e->e≠0->Q (.tuple #[nilS,vi e]) H')/\(∀ s w,makeF l = .inr s->Rows H' 4 w (insnR s.out)->Q (.tuple #[w,(.int .i64 0)]) H')):E.call (E.fid i.f35) [v] H Q:=by
 apply hE.f35
 have hmw:∀ (H:AH) (K:Value->AH->Prop),mapW H K=K (.map (some H.next)) (H.new (.map [] 0 true)):=fun _ _=>rfl
 have hlv:=hv.lenSlc
 have hpl:(partR l).length=l.length:=by simp [partR]
 rw [hpl] at hlv
 have i0:(.int .i64 0:Value)=vi 0:=rfl
 have i1:(.int .i64 1:Value)=vi 1:=rfl
 have hbv:∀ n:Nat,buildV [(0,1),(1,1)] #[(.slice none 0 0),(.map none)] [(1,.map (some n))]=some (.agg [nilS,.map (some n)].toArray):=fun _=>rfl
 have hs:binInt .sub (vi (l.length:Int)) (vi 1)=some (vi ((l.length:Int) - 1)):=i64_sub (by omega) (by omega)
 simp only [F.f35,hmw,hbv,boxO_agg_z,AM.mk_some,mkPtr_eq_z,List.toList_toArray,hlv,i1,hs,stdZ]
 have g1:=(Has.begin (Ext.refl H) (Sub.refl H)).newmap vi natV
 have hn2:H.next+1=(H.new (.map [] 0 true)).next:=rfl
 rw [hn2]
 generalize H.new (.map [] 0 true)=H2 at *
 generalize H.next=pm at *
 clear hn2
 have g2:=(g1.newbox [nilS,.map (some pm)]).nils 4
 generalize H2.new (.cells [nilS,.map (some pm)] none)=H3 at *
 generalize H2.next=mb at *
 have g3:Mk H H H3 mb pm ⟨[],[]⟩ []:=⟨nilS,g2.perm ((List.Perm.swap _ _ _).trans ((List.Perm.swap _ _ _).cons _))⟩
 refine LoopL.ind (fun n ls H'=>∃ s,n<=l.length/\ls=[v,ptr mb 0,vi ((n:Int) - 1)]/\makeF (l.drop n) = .inr s/\Mk H H H' mb pm s []) ?_ l.length ⟨⟨[],[]⟩,Nat.le_refl _,rfl,by rw [List.drop_length]; rfl,g3⟩
 rintro n _ H4 X1 ih ⟨s,hn,rfl,hm,g⟩
 have hok:=makeF_ok hm
 have hmk:s.okM:=⟨by omega,hok.1.getD⟩
 have i4096:(.int .i64 4096:Value)=vi 4096:=rfl
 rcases Nat.eq_zero_or_pos n with h0 | h0
 ·subst h0
  rw [List.drop_zero] at hm
  have hd:decide ((0:Int)<=((0:Nat):Int) - 1)=false:=rfl
  obtain ⟨ov,g⟩:=g
  have hbx:=g.box (k:=0) (b:=mb) (c:=[ov,.map (some pm)]) rfl
  have hlo:=(g.rows (k:=1) (sz:=4) (v:=ov) (rows:=insnR s.out.reverse) rfl).lenSlc
  simp only [insnR,List.length_map,List.length_reverse] at hlo
  have hms:=makeS_room 4 8 s.out.length [(.int .u16 0),(.int .u8 0),(.int .u8 0),(.int .u32 0)] rfl (by omega) (by omega)
  have hms:makeS 4 8 #[(.int .u16 0),(.int .u8 0),(.int .u8 0),(.int .u32 0)] (vi 0) (vi s.out.length)=some (.cells (List.replicate s.out.length [(.int .u16 0),(.int .u8 0),(.int .u8 0),(.int .u32 0)]).flatten none,fun b=>slc b 0 0 s.out.length):=hms
  have g5:=g.newroomc 4 s.out.length (List.replicate s.out.length [(.int .u16 0),(.int .u8 0),(.int .u8 0),(.int .u32 0)]).flatten (by simp [List.length_flatten,List.map_replicate,List.sum_replicate_nat])
  have hb5:=g5.box (k:=0) (b:=mb) (c:=[ov,.map (some pm)]) rfl
  have hs2:binInt .sub (vi (s.out.length:Int)) (vi 1)=some (vi ((s.out.length:Int) - 1)):=i64_sub (by omega) (by omega)
  simp only [F.f35_l1,i0,i64_geq,hd,i1,hbx,hlo,hms,AM.mk_some,hb5,hs2,stdZ]
  exact make_l2 hE g5 hok.2 fun w H' e' r'=>(hQ H' e').2 s w hm r'
 ·have hd:decide ((0:Int)<=(n:Int) - 1)=true:=decide_eq_true (by omega)
  have hj:n - 1<l.length:=by omega
  have he:(n:Int) - 1=((n - 1:Nat):Int):=by omega
  have hv4:=hv.mono g.ext
  obtain ⟨bb,o,f1,f2⟩:=hv4.ix (i:=n - 1) (by omega)
  have hrow:(partR l)[n - 1]'(by omega)=l[n - 1].cells:=by simp [partR]
  rw [hrow] at f2
  have lo:loadN 7 (ptr bb o) H4=some l[n - 1].v:=by rw [loadN_ptr,f2]; rfl
  rw [<- he] at f1
  have hdr:l.drop (n - 1)=l[n - 1] :: l.drop n:=by
   rw [List.drop_eq_getElem_cons hj,show n - 1+1=n by omega]
  have hs1:binInt .sub (vi ((n:Int) - 1)) (vi 1)=some (vi (((n - 1:Nat):Int) - 1)):=by
   rw [i64_sub (by omega) (by omega)]; congr 2; omega
  generalize l[n - 1]=p at *
  simp only [F.f35_l1,i0,i64_geq,hd,f1,lo,stdZ]
  refine S.f42 hE g hmk p (fun e H5 h1 h2 e5 =>?_) fun t H5 h1 g5 =>?_
  ·have hd:decide (e≠0)=true:=decide_eq_true h2
   simp only [i0,i64_neq,hd,stdZ]
   refine (hQ H5 e5).1 e (makeF_err (n - 1) ?_) h2
   rw [hdr]
   unfold makeF
   simp only [hm,h1]
  ·have hd:decide ((0:Int)≠0)=false:=rfl
   obtain ⟨ov,hbx,hlo⟩:=g5.cells
   simp only [i0,i64_neq,hd,hbx,hlo,i4096,i64_gtr,stdZ]
   by_cases hbig:4096<t.out.length
   ·have hd:decide ((4096:Int)<t.out.length)=true:=decide_eq_true (by omega)
    simp only [hd,stdZ]
    refine (hQ H5 g5.ext).1 205 (makeF_err (n - 1) ?_) (by decide)
    rw [hdr]
    unfold makeF
    simp only [hm,h1,if_pos hbig]
   ·have hd:decide ((4096:Int)<t.out.length)=false:=decide_eq_false (by omega)
    simp only [hd,i1,hs1,stdZ]
    refine ih (n - 1) (by omega) _ _ ⟨t,by omega,rfl,?_,g5⟩
    rw [hdr]
    unfold makeF
    simp only [hm,h1,if_neg hbig]
end
end Go.AM
end
section
namespace Go.AM
set_option maxRecDepth 20000
def okI (x:InsnD) (left:Nat):Prop :=
 (x.code=32#16/\x.k.toNat % 4=0/\x.k.toNat<=60)\/x.code=84#16\/(x.code=5#16/\x.k.toNat<left) \/
 (x.code=21#16/\x.jt.toNat<left/\x.jf.toNat<left)\/(x.code=37#16/\x.jt.toNat<left/\x.jf.toNat<left)\/(x.code=53#16/\x.jt.toNat<left/\x.jf.toNat<left)\/x.code=6#16
def stepI (r:RecD) (x:InsnD) (a:BitVec 32):BitVec 32×Nat×Option (BitVec 32) :=
 if x.code=32#16 then ((rword r x.k).1,0,none)
 else if x.code=84#16 then (a&&&x.k,0,none)
 else if x.code=5#16 then (a,x.k.toNat,none)
 else if x.code=21#16 then (a,if a=x.k then x.jt.toNat else x.jf.toNat,none)
 else if x.code=37#16 then (a,if x.k.toNat<a.toNat then x.jt.toNat else x.jf.toNat,none)
 else if x.code=53#16 then (a,if x.k.toNat<=a.toNat then x.jt.toNat else x.jf.toNat,none)
 else (a,0,some x.k)
def runC (r:RecD):Nat->List InsnD->BitVec 32->BitVec 32
 | 0,_,_=>2147483648#32
 | _+1,[],_=>2147483648#32
 | f+1,x :: c,a=>match (stepI r x a).2.2 with
  | some o=>o
  | none=>runC r f (c.drop (stepI r x a).2.1) (stepI r x a).1
def mC (a:BitVec 32) (at_:Nat) (act:BitVec 32) (e:Bool) (rc:List Value):List Value :=
 u32 a :: u32 0#32 :: u32 0#32 :: u32 0#32 :: u32 0#32 :: u32 0#32 :: u32 0#32 :: u32 0#32 :: u32 0#32 :: u32 0#32 :: u32 0#32 :: u32 0#32 :: u32 0#32 :: u32 0#32 :: u32 0#32 :: u32 0#32 :: u32 0#32 :: u32 0#32 :: vi at_ :: (rc++[u32 act,vb e])
theorem rc_nine {rc:List Value} (h:rc.length=9):∃ c0 c1 c2 c3 c4 c5 c6 c7 c8,rc=[c0,c1,c2,c3,c4,c5,c6,c7,c8]:=by
 match rc,h with
 | [c0,c1,c2,c3,c4,c5,c6,c7,c8],_=>exact ⟨c0,c1,c2,c3,c4,c5,c6,c7,c8,rfl⟩
theorem rec_nine {r:RecD} (h:r.ok):r.cells.length=9:=by
 unfold RecD.ok at h
 simp [RecD.cells,h]
section
variable {E:Sy} {H H' H0 Z:AH} {Q:Value->AH->Prop} {X:List Res} {mb:Nat}
theorem S.f112 (hE:Fold E) (p:Value) (x:InsnD) (hx:x.code&&&8#16=0#16) (hQ:∀ H',Ext H H'->Q (u32 x.k) H'):E.call (E.fid i.f112) [p,x.v] H Q:=by
 apply hE.f112
 have b1:=AH.get_new_self H (.cells x.cells none)
 have c0:x.cells[0]? = some (u16 x.code):=rfl
 have c3:x.cells[3]? = some (u32 x.k):=rfl
 have k8:(.int .u16 8:Value)=u16 8#16:=rfl
 have k0:(.int .u16 0:Value)=u16 0#16:=rfl
 have hd:decide (x.code&&&8#16≠0#16)=false:=decide_eq_false (by simpa using hx)
 simp only [F.f112,boxO_agg_z,AM.mk_some,mkPtr_eq_z,List.toList_toArray,b1,c0,c3,k8,k0,u16_and,u16_neq,hd,stdZ]
 exact hQ _ ((Ext.refl H).new _)
theorem S.f111 (hE:Fold E) {r:RecD} (hr:r.ok) {a act:BitVec 32} {at_:Nat} (hb:H.get mb = .cells (mC a at_ act false r.cells) none) (x:InsnD) (hx:x.code=32#16) (hQ:∀ H',Ext H H'->Q (u32 (rword r x.k).1) H'):E.call (E.fid i.f111) [ptr mb 0,x.v] H Q:=by
 apply hE.f111
 have b1:=AH.get_new_self H (.cells x.cells none)
 have x1:Ext H (H.new (.cells x.cells none)):=(Ext.refl _).new _
 have bm:=x1.cells hb
 have c0:x.cells[0]? = some (u16 32#16):=by rw [<- hx]; rfl
 have c3:x.cells[3]? = some (u32 x.k):=rfl
 have k7:(.int .u16 7:Value)=u16 7#16:=rfl
 have k32:(.int .u16 32:Value)=u16 32#16:=rfl
 have hd:decide (32#16 &&& ~~~7#16=32#16)=true:=by decide
 have lo:loadN 9 (ptr mb 19) (H.new (.cells x.cells none))=some r.v:=by
  rw [loadN_ptr,bm]
  obtain ⟨c0,c1,c2,c3,c4,c5,c6,c7,c8,hc⟩:=rc_nine (rec_nine hr)
  unfold RecD.v
  rw [hc]; rfl
 simp only [F.f111,boxO_agg_z,AM.mk_some,mkPtr_eq_z,List.toList_toArray,b1,c0,c3,k7,k32,u16_andNot,u16_eql,hd,lo,stdZ]
 refine S.f83 hE r hr x.k fun H2 e2 =>?_
 simp only [stdZ]
 exact hQ _ (x1.trans e2)
end
end Go.AM
end
section
namespace Go.AM
set_option maxRecDepth 20000
section
variable {E:Sy} {H H' H0 Z:AH} {Q:Value->AH->Prop} {X:List Res} {mb:Nat}
theorem mC_at (a:BitVec 32) (at_:Nat) (act:BitVec 32) (e:Bool) (rc:List Value) (n:Nat):(mC a at_ act e rc).set 18 (vi n)=mC a n act e rc:=rfl
theorem mC_a (a b:BitVec 32) (at_:Nat) (act:BitVec 32) (e:Bool) (rc:List Value):(mC a at_ act e rc).set 0 (u32 b)=mC b at_ act e rc:=rfl
theorem mC_cells {a:BitVec 32} {at_:Nat} {act:BitVec 32} {e:Bool} {rc:List Value} (h:rc.length=9):(mC a at_ act e rc)[0]? = some (u32 a)/\(mC a at_ act e rc)[18]? = some (vi at_)/\(mC a at_ act e rc)[28]? = some (u32 act)/\(mC a at_ act e rc)[29]? = some (vb e) /\
  (mC a at_ act e rc).set 29 (vb true)=mC a at_ act true rc/\(∀ b,(mC a at_ act e rc).set 28 (u32 b)=mC a at_ b e rc)/\(mC a at_ act e rc).length=30:=by
 obtain ⟨c0,c1,c2,c3,c4,c5,c6,c7,c8,rfl⟩:=rc_nine h
 exact ⟨rfl,rfl,rfl,rfl,rfl,fun _=>rfl,rfl⟩
abbrev mR (mb:Nat) (a:BitVec 32) (at_:Nat) (act:BitVec 32) (e:Bool) (r:RecD):Res:=boxR mb (mC a at_ act e r.cells)
theorem Has.mset {a act:BitVec 32} {at_:Nat} {e:Bool} {r:RecD} (hr:r.ok) (h:Has H0 Z H (mR mb a at_ act e r :: X)) {k:Nat} {v:Value} (hv:plain1 v=true) {a' act':BitVec 32} {at':Nat} {e':Bool} (hk:k<30) (hs:(mC a at_ act e r.cells).set k v=mC a' at' act' e' r.cells) :
  ∃ H',store1 (ptr mb k) v H=some H'/\Has H0 Z H' (mR mb a' at' act' e' r :: X):=by
 have hb:=h.box (k:=0) (b:=mb) (c:=mC a at_ act e r.cells) rfl
 have g:=h.put (k:=0) (b:=mb) (c:=mC a at_ act e r.cells) rfl (mC a' at' act' e' r.cells)
 refine ⟨_,?_,g⟩
 rw [store1_ptr,if_pos hv,hb]
 have hl:=(mC_cells (a:=a) (at_:=at_) (act:=act) (e:=e) (rec_nine hr)).2.2.2.2.2.2
 simp only [hl,hk,if_true,hs]
theorem S.f113 (hE:Fold E) {r:RecD} (hr:r.ok) {a act:BitVec 32} {at_:Nat} (h:Has H0 Z H (mR mb a at_ act false r :: X)) (x:InsnD) (hx:x.code=84#16) (hQ:∀ H',Has H0 Z H' (mR mb (a&&&x.k) at_ act false r :: X)->Q (.tuple #[]) H'):E.call (E.fid i.f113) [ptr mb 0,x.v] H Q:=by
 apply hE.f113
 have b1:=AH.get_new_self H (.cells x.cells none)
 have c0:x.cells[0]? = some (u16 84#16):=by rw [<- hx]; rfl
 have lo:loadN 4 (ptr H.next 0) (H.new (.cells x.cells none))=some x.v:=by rw [loadN_ptr,b1,row_all _ _ 4 rfl]; rfl
 have k15:(.int .u16 15:Value)=u16 15#16:=rfl
 have k0:(.int .u16 0:Value)=u16 0#16:=rfl
 have k16:(.int .u16 16:Value)=u16 16#16:=rfl
 have k32:(.int .u16 32:Value)=u16 32#16:=rfl
 have k48:(.int .u16 48:Value)=u16 48#16:=rfl
 have k64:(.int .u16 64:Value)=u16 64#16:=rfl
 have k80:(.int .u16 80:Value)=u16 80#16:=rfl
 have d0:decide (84#16 &&& ~~~15#16=0#16)=false:=by decide
 have d16:decide (84#16 &&& ~~~15#16=16#16)=false:=by decide
 have d32:decide (84#16 &&& ~~~15#16=32#16)=false:=by decide
 have d48:decide (84#16 &&& ~~~15#16=48#16)=false:=by decide
 have d64:decide (84#16 &&& ~~~15#16=64#16)=false:=by decide
 have d80:decide (84#16 &&& ~~~15#16=80#16)=true:=by decide
 have g:=h.new (.cells x.cells none)
 simp only [F.f113,boxO_agg_z,AM.mk_some,mkPtr_eq_z,List.toList_toArray,lo,stdZ]
 generalize H.new (.cells x.cells none)=H1 at *
 generalize H.next=t at *
 refine S.f112 hE _ x (by rw [hx]; decide) fun H2 e2 =>?_
 have b2:=e2.cells b1
 have g2:=g.grow e2
 have bm:=g2.box (k:=0) (b:=mb) (c:=mC a at_ act false r.cells) rfl
 have hc:=mC_cells (a:=a) (at_:=at_) (act:=act) (e:=false) (rec_nine hr)
 have cm:=hc.1
 obtain ⟨H3,s3,g3⟩:=g2.mset hr (k:=0) (v:=u32 (a&&&x.k)) rfl (by decide) (mC_a a (a&&&x.k) at_ act false r.cells)
 simp only [b2,c0,k15,u16_andNot,k0,k16,k32,k48,k64,k80,u16_eql,d0,d16,d32,d48,d64,d80,bm,cm,u32_and,s3,stdZ]
 exact hQ _ g3
theorem jump_j1 (hE:Fold E) {r:RecD} (hr:r.ok) {a act:BitVec 32} {at_ t:Nat} (hat:at_<2 ^ 40) {x:InsnD} (h:Has H0 Z H (mR mb a at_ act false r :: X)) (hb:H.get t = .cells x.cells none) (b:Bool) (hQ:∀ H',Has H0 Z H' (mR mb a (at_+if b=true then x.jt.toNat else x.jf.toNat) act false r :: X)->Q (.tuple #[]) H'):F.f110_j1 E Q (ptr mb 0) (ptr t 0) (vb b) H:=by
 have bm:=h.box (k:=0) (b:=mb) (c:=mC a at_ act false r.cells) rfl
 have hc:=mC_cells (a:=a) (at_:=at_) (act:=act) (e:=false) (rec_nine hr)
 have cm:=hc.2.1
 have c1:x.cells[1]? = some (u8 x.jt):=rfl
 have c2:x.cells[2]? = some (u8 x.jf):=rfl
 have l1:=x.jt.isLt
 have l2:=x.jf.isLt
 cases b with
 | true =>
  have ha:binInt .add (vi at_) (vi x.jt.toNat)=some (vi ((at_+x.jt.toNat:Nat):Int)):=by rw [i64_add (by omega) (by omega)]; congr 2
  obtain ⟨H3,s3,g3⟩:=h.mset hr (k:=18) (v:=vi ((at_+x.jt.toNat:Nat):Int)) rfl (by decide) (mC_at a at_ act false r.cells _)
  simp only [F.f110_j1,bm,cm,hb,c1,u8_to_i64,ha,s3,stdZ]
  exact hQ _ g3
 | false =>
  have ha:binInt .add (vi at_) (vi x.jf.toNat)=some (vi ((at_+x.jf.toNat:Nat):Int)):=by rw [i64_add (by omega) (by omega)]; congr 2
  obtain ⟨H3,s3,g3⟩:=h.mset hr (k:=18) (v:=vi ((at_+x.jf.toNat:Nat):Int)) rfl (by decide) (mC_at a at_ act false r.cells _)
  simp only [F.f110_j1,bm,cm,hb,c2,u8_to_i64,ha,s3,stdZ]
  exact hQ _ g3
theorem S.f110 (hE:Fold E) {r:RecD} (hr:r.ok) {a act:BitVec 32} {at_:Nat} (hat:at_<2 ^ 40) (h:Has H0 Z H (mR mb a at_ act false r :: X)) (x:InsnD) (hx:x.code=5#16\/x.code=21#16\/x.code=37#16\/x.code=53#16) (hQ:∀ H',Has H0 Z H' (mR mb a (at_+(stepI r x a).2.1) act false r :: X)->Q (.tuple #[]) H'):E.call (E.fid i.f110) [ptr mb 0,x.v] H Q:=by
 apply hE.f110
 have b1:=AH.get_new_self H (.cells x.cells none)
 have c0:x.cells[0]? = some (u16 x.code):=rfl
 have c3:x.cells[3]? = some (u32 x.k):=rfl
 have lo:loadN 4 (ptr H.next 0) (H.new (.cells x.cells none))=some x.v:=by rw [loadN_ptr,b1,row_all _ _ 4 rfl]; rfl
 have k15:(.int .u16 15:Value)=u16 15#16:=rfl
 have k0:(.int .u16 0:Value)=u16 0#16:=rfl
 have k16:(.int .u16 16:Value)=u16 16#16:=rfl
 have k32:(.int .u16 32:Value)=u16 32#16:=rfl
 have k48:(.int .u16 48:Value)=u16 48#16:=rfl
 have g:=h.new (.cells x.cells none)
 have l3:=x.k.isLt
 simp only [F.f110,boxO_agg_z,AM.mk_some,mkPtr_eq_z,List.toList_toArray,lo,stdZ]
 generalize H.new (.cells x.cells none)=H1 at *
 generalize H.next=t at *
 refine S.f112 hE _ x (by rcases hx with h | h | h | h <;> rw [h] <;> decide) fun H2 e2 =>?_
 have b2:=e2.cells b1
 have g2:=g.grow e2
 have bm:=g2.box (k:=0) (b:=mb) (c:=mC a at_ act false r.cells) rfl
 have hc:=mC_cells (a:=a) (at_:=at_) (act:=act) (e:=false) (rec_nine hr)
 have cm:=hc.1
 have cm2:=hc.2.1
 rcases hx with hx | hx | hx | hx
 ·have hs:(stepI r x a).2.1=x.k.toNat:=by unfold stepI; rw [if_neg (by rw [hx]; decide),if_neg (by rw [hx]; decide),if_pos hx]
  rw [hs] at hQ
  have d0:decide (5#16 &&& ~~~15#16=0#16)=true:=by decide
  have ha:binInt .add (vi at_) (vi x.k.toNat)=some (vi ((at_+x.k.toNat:Nat):Int)):=by rw [i64_add (by omega) (by omega)]; congr 2
  obtain ⟨H3,s3,g3⟩:=g2.mset hr (k:=18) (v:=vi ((at_+x.k.toNat:Nat):Int)) rfl (by decide) (mC_at a at_ act false r.cells _)
  simp only [b2,c0,hx,k15,u16_andNot,k0,u16_eql,d0,bm,cm2,c3,u32_to_i64,ha,s3,stdZ]
  exact hQ _ g3
 ·have hs:(stepI r x a).2.1=if decide (a=x.k)=true then x.jt.toNat else x.jf.toNat:=by unfold stepI; rw [if_neg (by rw [hx]; decide),if_neg (by rw [hx]; decide),if_neg (by rw [hx]; decide),if_pos hx]; simp only [decide_eq_true_eq]
  rw [hs] at hQ
  have d0:decide (21#16 &&& ~~~15#16=0#16)=false:=by decide
  have d16:decide (21#16 &&& ~~~15#16=16#16)=true:=by decide
  simp only [b2,c0,hx,k15,u16_andNot,k0,k16,u16_eql,d0,d16,bm,cm,u32_eql,stdZ]
  exact jump_j1 hE hr hat g2 b2 _ hQ
 ·have hs:(stepI r x a).2.1=if decide (x.k.toNat<a.toNat)=true then x.jt.toNat else x.jf.toNat:=by unfold stepI; rw [if_neg (by rw [hx]; decide),if_neg (by rw [hx]; decide),if_neg (by rw [hx]; decide),if_neg (by rw [hx]; decide),if_pos hx]; simp only [decide_eq_true_eq]
  rw [hs] at hQ
  have d0:decide (37#16 &&& ~~~15#16=0#16)=false:=by decide
  have d16:decide (37#16 &&& ~~~15#16=16#16)=false:=by decide
  have d32:decide (37#16 &&& ~~~15#16=32#16)=true:=by decide
  simp only [b2,c0,hx,k15,u16_andNot,k0,k16,k32,u16_eql,d0,d16,d32,bm,cm,u32_gtr,stdZ]
  exact jump_j1 hE hr hat g2 b2 _ hQ
 ·have hs:(stepI r x a).2.1=if decide (x.k.toNat<=a.toNat)=true then x.jt.toNat else x.jf.toNat:=by unfold stepI; rw [if_neg (by rw [hx]; decide),if_neg (by rw [hx]; decide),if_neg (by rw [hx]; decide),if_neg (by rw [hx]; decide),if_neg (by rw [hx]; decide),if_pos hx]; simp only [decide_eq_true_eq]
  rw [hs] at hQ
  have d0:decide (53#16 &&& ~~~15#16=0#16)=false:=by decide
  have d16:decide (53#16 &&& ~~~15#16=16#16)=false:=by decide
  have d32:decide (53#16 &&& ~~~15#16=32#16)=false:=by decide
  have d48:decide (53#16 &&& ~~~15#16=48#16)=true:=by decide
  simp only [b2,c0,hx,k15,u16_andNot,k0,k16,k32,k48,u16_eql,d0,d16,d32,d48,bm,cm,u32_geq,stdZ]
  exact jump_j1 hE hr hat g2 b2 _ hQ
end
end Go.AM
end
section
namespace Go.AM
set_option maxRecDepth 20000
section
variable {E:Sy} {H H' H0 Z:AH} {Q:Value->AH->Prop} {X:List Res} {mb:Nat}
theorem Has.lastBox {L:List Res} {t:Nat} {c:List Value} (h:Has H0 Z H (L++[boxR t c])):H.get t = .cells c none:=(h.all (boxR t c) (by simp)).1
theorem insn_load {x:InsnD} {t:Nat} (hb:H.get t = .cells x.cells none):loadN 4 (ptr t 0) H=some x.v:=by rw [loadN_ptr,hb,row_all _ _ 4 rfl]; rfl
theorem S.f114 (hE:Fold E) {r:RecD} (hr:r.ok) {a act:BitVec 32} {at_:Nat} (hat:at_<2 ^ 39) (h:Has H0 Z H (mR mb a at_ act false r :: X)) (x:InsnD) {left:Nat} (hx:okI x left)
  (hQ:∀ H',Has H0 Z H' (mR mb (stepI r x a).1 (at_+1+(stepI r x a).2.1) (((stepI r x a).2.2).getD act) ((stepI r x a).2.2).isSome r :: X)->Q (.tuple #[]) H'):E.call (E.fid i.f114) [ptr mb 0,x.v] H Q:=by
 apply hE.f114
 have g:=h.newbox x.cells
 have bm:=g.box (k:=0) (b:=mb) (c:=mC a at_ act false r.cells) rfl
 have hc:=mC_cells (a:=a) (at_:=at_) (act:=act) (e:=false) (rec_nine hr)
 have cm2:=hc.2.1
 have hinc:=i64_inc (i:=at_) (by omega)
 obtain ⟨H2,s2,g2⟩:=Has.mset (X:=X++[boxR H.next x.cells]) hr g (k:=18) (v:=vi ((at_+1:Nat):Int)) rfl (by decide) (mC_at a at_ act false r.cells _)
 have b2:=Has.lastBox (L:=mR mb a (at_+1) act false r :: X) g2
 have c0:x.cells[0]? = some (u16 x.code):=rfl
 have c3:x.cells[3]? = some (u32 x.k):=rfl
 have k0:(.int .u16 0:Value)=u16 0#16:=rfl
 have k1:(.int .u16 1:Value)=u16 1#16:=rfl
 have k2:(.int .u16 2:Value)=u16 2#16:=rfl
 have k3:(.int .u16 3:Value)=u16 3#16:=rfl
 have k4:(.int .u16 4:Value)=u16 4#16:=rfl
 have k5:(.int .u16 5:Value)=u16 5#16:=rfl
 have k6:(.int .u16 6:Value)=u16 6#16:=rfl
 have k22:(.int .u16 22:Value)=u16 22#16:=rfl
 have l2:=insn_load b2
 have g2':Has H0 Z H2 (mR mb a (at_+1) act false r :: (X++[boxR H.next x.cells])):=g2
 simp only [F.f114,boxO_agg_z,AM.mk_some,mkPtr_eq_z,List.toList_toArray,bm,cm2,hinc,s2,b2,c0,stdZ]
 generalize H.next=t at *
 refine S.f13 hE _ ?_
 have hcc:=mC_cells (a:=a) (at_:=at_+1) (act:=act) (e:=false) (rec_nine hr)
 rcases hx with ⟨hx,_,_⟩ | hx | ⟨hx,_⟩ | ⟨hx,_⟩ | ⟨hx,_⟩ | ⟨hx,_⟩ | hx
 ·have hs:stepI r x a=((rword r x.k).1,0,none):=by unfold stepI; rw [if_pos hx]
  rw [hs] at hQ
  have d0:decide (iclass x.code=0#16)=true:=by rw [hx]; decide
  simp only [k0,u16_eql,d0,l2,stdZ]
  have bm2:=g2'.box (k:=0) (b:=mb) (c:=mC a (at_+1) act false r.cells) rfl
  refine S.f111 hE hr bm2 x hx fun H3 e3 =>?_
  obtain ⟨H4,s4,g4⟩:=Has.mset hr (g2'.grow e3) (k:=0) (v:=u32 (rword r x.k).1) rfl (by decide) (mC_a a _ (at_+1) act false r.cells)
  simp only [s4,stdZ]
  exact hQ _ (Has.dropLast (L:=_ :: X) g4)
 ·have hs:stepI r x a=(a&&&x.k,0,none):=by unfold stepI; rw [if_neg (by rw [hx]; decide),if_pos hx]
  rw [hs] at hQ
  have d0:decide (iclass x.code=0#16)=false:=by rw [hx]; decide
  have d1:decide (iclass x.code=1#16)=false:=by rw [hx]; decide
  have d2:decide (iclass x.code=2#16)=false:=by rw [hx]; decide
  have d3:decide (iclass x.code=3#16)=false:=by rw [hx]; decide
  have d4:decide (iclass x.code=4#16)=true:=by rw [hx]; decide
  simp only [k0,k1,k2,k3,k4,u16_eql,d0,d1,d2,d3,d4,l2,stdZ]
  refine S.f113 hE hr g2' x hx fun H4 g4 =>?_
  exact hQ _ (Has.dropLast (L:=_ :: X) g4)
 all_goals try
  have d0:decide (iclass x.code=0#16)=false:=by rw [hx]; decide
  have d1:decide (iclass x.code=1#16)=false:=by rw [hx]; decide
  have d2:decide (iclass x.code=2#16)=false:=by rw [hx]; decide
  have d3:decide (iclass x.code=3#16)=false:=by rw [hx]; decide
  have d4:decide (iclass x.code=4#16)=false:=by rw [hx]; decide
  have d5:decide (iclass x.code=5#16)=true:=by rw [hx]; decide
  have hs:(stepI r x a).1=a/\(stepI r x a).2.2=none:=by unfold stepI; rw [hx]; exact ⟨rfl,rfl⟩
  rw [hs.1,hs.2] at hQ
  simp only [k0,k1,k2,k3,k4,k5,u16_eql,d0,d1,d2,d3,d4,d5,l2,stdZ]
  refine S.f110 hE hr (by omega) g2' x (by rw [hx]; decide) fun H4 g4 =>?_
  exact hQ _ (Has.dropLast (L:=_ :: X) g4)
 have d0:decide (iclass x.code=0#16)=false:=by rw [hx]; decide
 have d1:decide (iclass x.code=1#16)=false:=by rw [hx]; decide
 have d2:decide (iclass x.code=2#16)=false:=by rw [hx]; decide
 have d3:decide (iclass x.code=3#16)=false:=by rw [hx]; decide
 have d4:decide (iclass x.code=4#16)=false:=by rw [hx]; decide
 have d5:decide (iclass x.code=5#16)=false:=by rw [hx]; decide
 have d6:decide (iclass x.code=6#16)=true:=by rw [hx]; decide
 have hs:stepI r x a=(a,0,some x.k):=by unfold stepI; rw [hx]; rfl
 rw [hs] at hQ
 obtain ⟨H3,s3,g3⟩:=Has.mset hr g2' (k:=29) (v:=vb true) rfl (by decide) hcc.2.2.2.2.1
 have b3:=Has.lastBox (L:=mR mb a (at_+1) act true r :: X) g3
 obtain ⟨H4,s4,g4⟩:=Has.mset hr g3 (k:=28) (v:=u32 x.k) rfl (by decide) ((mC_cells (a:=a) (at_:=at_+1) (act:=act) (e:=true) (rec_nine hr)).2.2.2.2.2.1 x.k)
 have b4:=Has.lastBox (L:=mR mb a (at_+1) x.k true r :: X) g4
 have s3:store1 (ptr mb 29) (.bool true) H2=some H3:=s3
 have d22:decide (x.code=22#16)=false:=by rw [hx]; decide
 simp only [k0,k1,k2,k3,k4,k5,k6,u16_eql,d0,d1,d2,d3,d4,d5,d6,b2,c3,s3,stdZ]
 refine ⟨by rw [b3]; rfl,?_⟩
 simp only [s4,b4,c0,k22,u16_eql,d22,stdZ]
 exact hQ _ (Has.dropLast (L:=_ :: X) g4)
end
end Go.AM
end
section
namespace Go.AM
set_option maxRecDepth 20000
def insnsOk (c:List InsnD):Prop:=∀ k (h:k<c.length),okI c[k] (c.length - k - 1)
def Fil (H0 Z H:AH) (fb:Nat) (c:List InsnD) (X:List Res):Prop:=∃ lv n1 n2,Has H0 Z H (boxR fb [lv,vi n1,vi n2] :: growR 4 lv (insnR c) :: X)
section
variable {E:Sy} {H H' H0 Z:AH} {Q:Value->AH->Prop} {X:List Res} {fb:Nat}
theorem Fil.grow {c:List InsnD} (h:Fil H0 Z H fb c X) (e:Ext H H'):Fil H0 Z H' fb c X:=by
 obtain ⟨lv,n1,n2,h⟩:=h
 exact ⟨lv,n1,n2,h.grow e⟩
theorem Fil.ext {c:List InsnD} (h:Fil H0 Z H fb c X):Ext H0 H:=by
 obtain ⟨lv,n1,n2,h⟩:=h
 exact h.ext
theorem S.sync_atomic_Int64_Add_at (hE:Fold E) {b o:Nat} {c:List Value} {n d:Int} (hb:H.get b = .cells c none) (hc:c[o]? = some (vi n)) (hQ:∀ v,Q v (H.put b (.cells (c.set o (vi (IntKind.i64.wrap (n+d)))) none))):E.call (E.fid i.f106) [ptr b o,vi d] H Q:=by
 apply hE.f106
 simp only [F.f106,nilCk_p,tk_eq,opt_some]
 rw [addOff_ptr,opt_some]
 apply hE.f105
 have hc:c[o+0]? = some (.int .i64 n):=hc
 simp only [atomicAdd,ptr,vi,hb,hc]
 exact hQ _
theorem runC_over (r:RecD):∀ (f:Nat) (a:BitVec 32),runC r f [] a=2147483648#32
 | 0,_=>rfl
 | _+1,_=>rfl
theorem S.f108 (hE:Fold E) {r:RecD} (hr:r.ok) {c:List InsnD} (hok:insnsOk c) (hlen:c.length<=4096) (h:Fil H0 Z H fb c X) (hQ:∀ n H',n<=c.length->Fil H0 Z H' fb c X->Q (.tuple #[u32 (runC r c.length c 0#32),vi (n:Nat)]) H'):E.call (E.fid i.f108) [ptr fb 0,r.v] H Q:=by
 apply hE.f108
 obtain ⟨lv,n1,n2,h⟩:=h
 have g:=h.new (.cells r.cells none)
 have b1:=AH.get_new_self H (.cells r.cells none)
 have lo:loadN 9 (ptr H.next 0) (H.new (.cells r.cells none))=some r.v:=by rw [loadN_ptr,b1,row_all _ _ 9 (rec_nine hr)]; rfl
 obtain ⟨c0,c1,c2,c3,c4,c5,c6,c7,c8,hrc⟩:=rc_nine (rec_nine hr)
 have hp:r.cells.all plain1=true:=by simp [RecD.cells]
 have hbv:buildV [(0,1),(1,1),(2,16),(18,1),(19,9),(28,1),(29,1)] #[(.int .u32 0),(.int .u32 0),(.int .u32 0),(.int .u32 0),(.int .u32 0),(.int .u32 0),(.int .u32 0),(.int .u32 0),(.int .u32 0),(.int .u32 0),(.int .u32 0),(.int .u32 0),(.int .u32 0),(.int .u32 0),(.int .u32 0),(.int .u32 0),(.int .u32 0),(.int .u32 0),(.int .i64 0),(.int .u32 0),(.int .u32 0),(.int .u64 0),(.int .u64 0),(.int .u64 0),(.int .u64 0),(.int .u64 0),(.int .u64 0),(.int .u64 0),(.int .u32 0),(.bool false)] [(4,r.v)]=some (.agg (mC 0#32 0 0#32 false r.cells).toArray):=by
  unfold RecD.v
  rw [buildV_eq,hrc]; rfl
 simp only [F.f108,boxO_agg_z,AM.mk_some,mkPtr_eq_z,List.toList_toArray,ptr_eql_nil,lo,hbv,allocW_eq,stdZ]
 have hn1:H.next+1=(H.new (.cells r.cells none)).next:=rfl
 rw [hn1]
 clear hn1
 generalize H.new (.cells r.cells none)=H1 at *
 have hst:storeN 30 (ptr H1.next 0) (.agg (mC 0#32 0 0#32 false r.cells).toArray) (H1.new (.cells [(.int .u32 0),(.int .u32 0),(.int .u32 0),(.int .u32 0),(.int .u32 0),(.int .u32 0),(.int .u32 0),(.int .u32 0),(.int .u32 0),(.int .u32 0),(.int .u32 0),(.int .u32 0),(.int .u32 0),(.int .u32 0),(.int .u32 0),(.int .u32 0),(.int .u32 0),(.int .u32 0),(.int .i64 0),(.int .u32 0),(.int .u32 0),(.int .u64 0),(.int .u64 0),(.int .u64 0),(.int .u64 0),(.int .u64 0),(.int .u64 0),(.int .u64 0),(.int .u32 0),(.bool false)] none))=some (H1.new (.cells (mC 0#32 0 0#32 false r.cells) none)):=by
  rw [storeN_ptr,AH.get_new_self]
  have hl:=(mC_cells (a:=0#32) (at_:=0) (act:=0#32) (e:=false) (rec_nine hr)).2.2.2.2.2.2
  have hpl:(mC 0#32 0 0#32 false r.cells).all plain1=true:=by simp [mC,hp]
  have hsp:∀ z:List Value,z.length=30->AM.splice z 0 (mC 0#32 0 0#32 false r.cells)=mC 0#32 0 0#32 false r.cells:=fun z hz=>by simp [splice,hz,hl]
  simp only [List.size_toArray,List.toList_toArray,hl,hpl,List.length_cons,List.length_nil,Nat.zero_add,Nat.le_refl,and_self,if_true]
  rw [hsp _ rfl,AH.new_put]
 have g2:Has H0 Z (H1.new (.cells (mC 0#32 0 0#32 false r.cells) none)) (mR H1.next 0#32 0 0#32 false r :: boxR fb [lv,vi n1,vi n2] :: growR 4 lv (insnR c) :: X):=(g.newbox (mC 0#32 0 0#32 false r.cells)).perm (List.perm_append_singleton _ _)
 simp only [hst,stdZ]
 generalize H1.new (.cells (mC 0#32 0 0#32 false r.cells) none)=H2 at *
 generalize H1.next=mb at *
 have i0:(.int .i64 0:Value)=vi ((0:Nat):Int):=rfl
 have i1:(.int .i64 1:Value)=vi 1:=rfl
 have kK:(.int .u32 2147483648:Value)=u32 2147483648#32:=rfl
 rw [i0]
 refine LoopL.ind (fun m ls H'=>∃ (a:BitVec 32) (at_:Nat) (act:BitVec 32) (e:Bool) (n:Nat),ls=[ptr fb 0,ptr mb 0,vi n]/\Has H0 Z H' (mR mb a at_ act e r :: boxR fb [lv,vi n1,vi n2] :: growR 4 lv (insnR c) :: X)/\at_<=c.length/\n<=at_ /\
   (e=true->m=0/\act=runC r c.length c 0#32)/\(e=false->m=c.length - at_+1/\∃ f,c.length - at_<=f/\runC r f (c.drop at_) a=runC r c.length c 0#32)) ?_ (c.length+1)
  ⟨0#32,0,0#32,false,0,rfl,g2,Nat.zero_le _,Nat.le_refl _,by simp,fun _=>⟨by omega,c.length,by omega,by rw [List.drop_zero]⟩⟩
 rintro m _ H3 X1 ih ⟨a,at_,act,e,n,rfl,g3,hat,hn,he1,he2⟩
 have bm:=g3.box (k:=0) (b:=mb) (c:=mC a at_ act e r.cells) rfl
 have bf:=g3.box (k:=1) (b:=fb) (c:=[lv,vi n1,vi n2]) rfl
 have hc:=mC_cells (a:=a) (at_:=at_) (act:=act) (e:=e) (rec_nine hr)
 have hlv:=(g3.rows (k:=2) (sz:=4) (v:=lv) (rows:=insnR c) rfl).lenSlc
 have hil:(insnR c).length=c.length:=by simp [insnR]
 rw [hil] at hlv
 have fin:∀ res:BitVec 32,res=runC r c.length c 0#32->(e=true->act=res)->(e=false->res=2147483648#32) ->
   E.call (E.fid i.f106) [ptr fb 1,vi 1] H3 fun v24 H10 =>
    opt (nilCk (ptr fb 0)) fun v25=>opt (addOff v25 2) fun v26 =>
    E.call (E.fid i.f106) [v26,vi n] H10 fun v27 H11 =>
    opt (addOff (ptr mb 0) 29) fun v28=>opt (load1 v28 H11) fun v29=>opt (un .not v29) fun v30 =>
    ifB v30 (Q (.tuple #[(.int .u32 2147483648),vi n]) H11) (opt (addOff (ptr mb 0) 28) fun v31=>opt (load1 v31 H11) fun v32=>Q (.tuple #[v32,vi n]) H11):=by
  intro res hres ha hb
  refine S.sync_atomic_Int64_Add_at hE bf (n:=n1) rfl fun _ =>?_
  have g4:=g3.put (k:=1) (b:=fb) (c:=[lv,vi n1,vi n2]) rfl [lv,vi (IntKind.i64.wrap (n1+1)),vi n2]
  have bf4:=g4.box (k:=1) (b:=fb) (c:=[lv,vi (IntKind.i64.wrap (n1+1)),vi n2]) rfl
  simp only [stdZ]
  refine S.sync_atomic_Int64_Add_at hE bf4 (n:=n2) rfl fun _ =>?_
  have g5:=g4.put (k:=1) (b:=fb) (c:=[lv,vi (IntKind.i64.wrap (n1+1)),vi n2]) rfl [lv,vi (IntKind.i64.wrap (n1+1)),vi (IntKind.i64.wrap (n2+n))]
  have bm5:=g5.box (k:=0) (b:=mb) (c:=mC a at_ act e r.cells) rfl
  have g6:=g5.drop 0
  have hq:=hQ n _ (Nat.le_trans hn hat) ⟨lv,_,_,g6⟩
  rw [<- hres] at hq
  have bm5':=bm5
  simp only [List.set_cons_succ,List.set_cons_zero] at bm5' hq ⊢
  simp only [bm5',hc.2.2.2.1,stdZ]
  cases e with
  | true =>
   rw [ha rfl] at hc bm5'
   simp only [bm5',hc.2.2.1,stdZ]
   exact hq
  | false =>
   rw [hb rfl] at hq
   simp only [kK,stdZ]
   exact hq
 cases e with
 | true =>
  obtain ⟨_,hact⟩:=he1 rfl
  simp only [F.f108_l1,bm,hc.2.2.2.1,i1,stdZ]
  exact fin _ rfl (fun _=>hact) (fun h=>by cases h)
 | false =>
  obtain ⟨hm,f,hf,hrun⟩:=he2 rfl
  rcases Nat.lt_or_ge at_ c.length with hlt | hge
  ·have hlt':decide ((at_:Int)<c.length)=true:=decide_eq_true (by omega)
   obtain ⟨bb,o,f1,f2⟩:=(g3.rows (k:=2) (sz:=4) (v:=lv) (rows:=insnR c) rfl).ix (i:=at_) (by omega)
   have hrow:(insnR c)[at_]'(by omega)=c[at_].cells:=by simp [insnR]
   rw [hrow] at f2
   have lo3:loadN 4 (ptr bb o) H3=some c[at_].v:=by rw [loadN_ptr,f2]; rfl
   have hokx:=hok at_ hlt
   have hinc:=i64_inc (i:=n) (by omega)
   have hdr:c.drop at_=c[at_] :: c.drop (at_+1):=List.drop_eq_getElem_cons hlt
   have hskip:at_+1+(stepI r c[at_] a).2.1<=c.length:=by
    unfold stepI
    rcases hokx with ⟨hx,_,_⟩ | hx | ⟨hx,h1⟩ | ⟨hx,h1,h2⟩ | ⟨hx,h1,h2⟩ | ⟨hx,h1,h2⟩ | hx <;> rw [hx] <;> simp only [BitVec.reduceEq,if_true,if_false,Nat.add_zero] <;> try omega
    all_goals split <;> omega
   rw [hdr] at hrun
   generalize c[at_]=x at *
   simp only [F.f108_l1,bm,bf,hc.2.1,hc.2.2.2.1,hlv,i64_lss,hlt',f1,lo3,stdZ]
   refine S.f114 hE hr (by omega) g3 x hokx fun H4 g4 =>?_
   simp only [hinc,stdZ]
   obtain ⟨f,rfl⟩:∃ f',f=f'+1:=⟨f - 1,by omega⟩
   have hrun:(match (stepI r x a).2.2 with | some o=>o | none=>runC r f ((c.drop (at_+1)).drop (stepI r x a).2.1) (stepI r x a).1)=runC r c.length c 0#32:=hrun
   cases ho:(stepI r x a).2.2 with
   | some res =>
    rw [ho] at hrun g4
    have hrun:res=_:=hrun
    exact ih 0 (by omega) _ _ ⟨_,_,_,true,n+1,rfl,g4,hskip,by omega,fun _=>⟨rfl,hrun⟩,fun h=>by cases h⟩
   | none =>
    rw [ho] at hrun g4
    have hrun:runC r f ((c.drop (at_+1)).drop (stepI r x a).2.1) (stepI r x a).1=_:=hrun
    rw [List.drop_drop] at hrun
    exact ih (c.length - (at_+1+(stepI r x a).2.1)+1) (by omega) _ _ ⟨_,_,_,false,n+1,rfl,g4,hskip,by omega,(fun h=>by cases h),fun _=>⟨rfl,f,by omega,hrun⟩⟩
  ·have hlt':decide ((at_:Int)<c.length)=false:=decide_eq_false (by omega)
   rw [List.drop_eq_nil_of_le hge,runC_over] at hrun
   simp only [F.f108_l1,bm,bf,hc.2.1,hc.2.2.2.1,hlv,i64_lss,hlt',i1,stdZ]
   exact fin _ hrun.symm.symm (fun h=>by cases h) (fun _=>rfl)
end
end Go.AM
end
section
namespace Go.AM
set_option maxRecDepth 20000
def max8 (a b:BitVec 8):BitVec 8:=if a.toNat<b.toNat then b else a
section
variable {E:Sy} {H H' H0 Z:AH} {Q:Value->AH->Prop} {X:List Res}
theorem u8_max (a b:BitVec 8):fold2 max2 [u8 a,u8 b]=some (u8 (max8 a b)):=by
 unfold max8
 have h0:fold2 max2 [u8 a,u8 b]=some (.int .u8 (if (b.toNat:Int) > (a.toNat:Int) then (b.toNat:Int) else (a.toNat:Int))):=by simp only [u8_def]; rfl
 rw [h0]
 by_cases h:a.toNat<b.toNat
 ·rw [if_pos h,if_pos (by omega),u8_def]
 ·rw [if_neg h,if_neg (by omega),u8_def]
theorem S.f4 (hE:Fold E) (c:BitVec 16) (h1:c≠96#16) (h2:c≠97#16) (h3:c≠2#16) (h4:c≠3#16) (hQ:Q (vb false) H):E.call (E.fid i.f4) [u16 c] H Q:=by
 apply hE.f4
 have k1:(.int .u16 96:Value)=u16 96#16:=rfl
 have k2:(.int .u16 97:Value)=u16 97#16:=rfl
 have k3:(.int .u16 2:Value)=u16 2#16:=rfl
 have k4:(.int .u16 3:Value)=u16 3#16:=rfl
 simp only [F.f4,F.f4_j1,k1,k2,k3,k4,u16_eql,decide_eq_false h1,decide_eq_false h2,decide_eq_false h3,decide_eq_false h4,stdZ]
 exact hQ
theorem S.f3 (hE:Fold E) (x:InsnD) {at_ n:Nat} (hx:okI x (n - at_ - 1)) (hat:at_<n) (hn:n<=4096) (hQ:∀ H',Ext H H'->Q (.int .i64 0) H'):E.call (E.fid i.f3) [x.v,vi at_,vi n] H Q:=by
 apply hE.f3
 have b1:=AH.get_new_self H (.cells x.cells none)
 have x1:Ext H (H.new (.cells x.cells none)):=(Ext.refl _).new _
 have c0:x.cells[0]? = some (u16 x.code):=rfl
 have c1:x.cells[1]? = some (u8 x.jt):=rfl
 have c2:x.cells[2]? = some (u8 x.jf):=rfl
 have c3:x.cells[3]? = some (u32 x.k):=rfl
 have k1:(.int .i64 1:Value)=vi 1:=rfl
 have k5:(.int .u16 5:Value)=u16 5#16:=rfl
 have k32:(.int .u16 32:Value)=u16 32#16:=rfl
 have k52:(.int .u16 52:Value)=u16 52#16:=rfl
 have k100:(.int .u16 100:Value)=u16 100#16:=rfl
 have k116:(.int .u16 116:Value)=u16 116#16:=rfl
 have q4:(.int .u32 4:Value)=u32 4#32:=rfl
 have q0:(.int .u32 0:Value)=u32 0#32:=rfl
 have q60:(.int .u32 60:Value)=u32 60#32:=rfl
 have s1:binInt .sub (vi (n:Int)) (vi (at_:Int))=some (vi ((n:Int) - at_)):=i64_sub (by omega) (by omega)
 have s2:binInt .sub (vi ((n:Int) - at_)) (vi 1)=some (vi ((n - at_ - 1:Nat):Int)):=by rw [i64_sub (by omega) (by omega)]; congr 2; omega
 have hrem:binInt .rem (u32 x.k) (u32 4#32)=some (u32 (x.k % 4#32)):=u32_rem _ _ (by decide)
 have hln:n - at_ - 1<4096:=by omega
 have known:inames.contains x.code||iknown1 x.code:=by
  rcases hx with ⟨h,_⟩ | h | ⟨h,_⟩ | ⟨h,_⟩ | ⟨h,_⟩ | ⟨h,_⟩ | h <;> rw [h] <;> decide +kernel
 have e52:decide (x.code=52#16)=false:=by rcases hx with ⟨h,_⟩ | h | ⟨h,_⟩ | ⟨h,_⟩ | ⟨h,_⟩ | ⟨h,_⟩ | h <;> rw [h] <;> decide
 have e100:decide (x.code=100#16)=false:=by rcases hx with ⟨h,_⟩ | h | ⟨h,_⟩ | ⟨h,_⟩ | ⟨h,_⟩ | ⟨h,_⟩ | h <;> rw [h] <;> decide
 have e116:decide (x.code=116#16)=false:=by rcases hx with ⟨h,_⟩ | h | ⟨h,_⟩ | ⟨h,_⟩ | ⟨h,_⟩ | ⟨h,_⟩ | h <;> rw [h] <;> decide
 have e96:x.code≠96#16:=by rcases hx with ⟨h,_⟩ | h | ⟨h,_⟩ | ⟨h,_⟩ | ⟨h,_⟩ | ⟨h,_⟩ | h <;> rw [h] <;> decide
 have e97:x.code≠97#16:=by rcases hx with ⟨h,_⟩ | h | ⟨h,_⟩ | ⟨h,_⟩ | ⟨h,_⟩ | ⟨h,_⟩ | h <;> rw [h] <;> decide
 have e2:x.code≠2#16:=by rcases hx with ⟨h,_⟩ | h | ⟨h,_⟩ | ⟨h,_⟩ | ⟨h,_⟩ | ⟨h,_⟩ | h <;> rw [h] <;> decide
 have e3:x.code≠3#16:=by rcases hx with ⟨h,_⟩ | h | ⟨h,_⟩ | ⟨h,_⟩ | ⟨h,_⟩ | ⟨h,_⟩ | h <;> rw [h] <;> decide
 simp only [F.f3,boxO_agg_z,AM.mk_some,mkPtr_eq_z,List.toList_toArray,k1,s1,s2,b1,c0,stdZ]
 generalize H.new (.cells x.cells none)=H1 at *
 generalize H.next=t at *
 refine S.f15 hE _ ?_
 rw [known]
 have tail:∀ (Q':Prop),(Q (.int .i64 0) H1->Q')->Q':=fun Q' f=>f (hQ _ x1)
 have ec32:∀ b:Bool,decide (x.code=32#16)=b->(b=true->decide (x.k % 4#32≠0#32)=false/\decide ((60#32).toNat<x.k.toNat)=false):=by
  intro b hb ht
  subst ht
  have h32:x.code=32#16:=of_decide_eq_true hb
  rcases hx with ⟨_,h1,h2⟩ | h | ⟨h,_⟩ | ⟨h,_⟩ | ⟨h,_⟩ | ⟨h,_⟩ | h
  rotate_left
  all_goals first
   | (rw [h32] at h; exact absurd h (by decide))
   | skip
  refine ⟨decide_eq_false ?_,decide_eq_false ?_⟩
  ·intro hne
   apply hne
   apply BitVec.eq_of_toNat_eq
   rw [BitVec.toNat_umod]
   exact h1
  ·show ¬ 60<_
   omega
 have fin:∀ b:Bool,decide (x.code=32#16)=b->Q (.int .i64 0) H1:=fun _ _=>hQ _ x1
 rcases hx with ⟨hc,h1,h2⟩ | hc | ⟨hc,h1⟩ | ⟨hc,h1,h2⟩ | ⟨hc,h1,h2⟩ | ⟨hc,h1,h2⟩ | hc
 ·
  have a5:decide (x.code=5#16)=false:=by rw [hc]; decide
  have cl:decide (iclass x.code=5#16)=false:=by rw [hc]; decide
  have c32:decide (x.code=32#16)=true:=by rw [hc]; decide
  obtain ⟨m1,m2⟩:=ec32 _ c32 rfl
  simp only [b1,c0,k5,u16_eql,a5,stdZ]
  refine S.f13 hE _ ?_
  simp only [k5,u16_eql,cl,b1,c0,c3,k32,c32,q4,q0,q60,hrem,u32_neq,u32_gtr,m1,m2,stdZ]
  refine S.f4 hE _ e96 e97 e2 e3 ?_
  simp only [b1,c0,k52,k100,k116,u16_eql,e52,e100,e116,stdZ]
  exact hQ _ x1
 all_goals try
  have a5:decide (x.code=5#16)=false:=by rw [hc]; decide
  have n5:decide (x.code≠5#16)=true:=by rw [hc]; decide
  have cl:decide (iclass x.code=5#16)=true:=by rw [hc]; decide
  have c32:decide (x.code=32#16)=false:=by rw [hc]; decide
  have hmx:decide (((n - at_ - 1:Nat):Int)<=((max8 x.jt x.jf).toNat:Int))=false:=decide_eq_false (by
   unfold max8
   split <;> omega)
  simp only [b1,c0,k5,u16_eql,a5,stdZ]
  refine S.f13 hE _ ?_
  simp only [k5,u16_eql,u16_neq,cl,n5,b1,c0,c1,c2,u8_max,u8_to_i64,i64_geq,hmx,k32,c32,stdZ]
  refine S.f4 hE _ e96 e97 e2 e3 ?_
  simp only [b1,c0,k52,k100,k116,u16_eql,e52,e100,e116,stdZ]
  exact hQ _ x1
 ·have a5:decide (x.code=5#16)=false:=by rw [hc]; decide
  have cl:decide (iclass x.code=5#16)=false:=by rw [hc]; decide
  have c32:decide (x.code=32#16)=false:=by rw [hc]; decide
  simp only [b1,c0,k5,u16_eql,a5,stdZ]
  refine S.f13 hE _ ?_
  simp only [k5,u16_eql,cl,b1,c0,k32,c32,stdZ]
  refine S.f4 hE _ e96 e97 e2 e3 ?_
  simp only [b1,c0,k52,k100,k116,u16_eql,e52,e100,e116,stdZ]
  exact hQ _ x1
 ·have a5:decide (x.code=5#16)=true:=by rw [hc]; decide
  have n5:decide (x.code≠5#16)=false:=by rw [hc]; decide
  have cl:decide (iclass x.code=5#16)=true:=by rw [hc]; decide
  have c32:decide (x.code=32#16)=false:=by rw [hc]; decide
  have hlt:decide ((BitVec.ofInt 64 ((n - at_ - 1:Nat):Int)).toNat<=(x.k.setWidth 64).toNat)=false:=decide_eq_false (by
   have:=x.k.isLt
   rw [BitVec.toNat_setWidth,BitVec.ofInt_natCast,BitVec.toNat_ofNat,Nat.mod_eq_of_lt (by omega),Nat.mod_eq_of_lt (by omega)]
   omega)
  simp only [b1,c0,c3,k5,u16_eql,a5,u32_to_u64,i64_to_u64,u64_geq,hlt,stdZ]
  refine S.f13 hE _ ?_
  simp only [k5,u16_eql,u16_neq,cl,n5,b1,c0,k32,c32,stdZ]
  refine S.f4 hE _ e96 e97 e2 e3 ?_
  simp only [b1,c0,k52,k100,k116,u16_eql,e52,e100,e116,stdZ]
  exact hQ _ x1
 ·have a5:decide (x.code=5#16)=false:=by rw [hc]; decide
  have cl:decide (iclass x.code=5#16)=false:=by rw [hc]; decide
  have c32:decide (x.code=32#16)=false:=by rw [hc]; decide
  simp only [b1,c0,k5,u16_eql,a5,stdZ]
  refine S.f13 hE _ ?_
  simp only [k5,u16_eql,cl,b1,c0,k32,c32,stdZ]
  refine S.f4 hE _ e96 e97 e2 e3 ?_
  simp only [b1,c0,k52,k100,k116,u16_eql,e52,e100,e116,stdZ]
  exact hQ _ x1
end
end Go.AM
end
section
namespace Go.AM
set_option maxRecDepth 20000
section
variable {E:Sy} {H H' H0 Z:AH} {Q:Value->AH->Prop} {X:List Res}
theorem ix_slc1 (b n c k:Nat) (hk:k<n):ixSlc 1 (slc b 0 n c) (vi k)=some (ptr b k):=by
 simp only [ixSlc,slc,vi,ptr]
 have h1:(0:Int)<=(k:Int)/\(k:Int).toNat<n:=⟨by omega,by omega⟩
 simp [Addr.add,hk]
 exact fun h=>h.symm
def natR (l:List Nat):List (List Value):=l.map fun k=>[vi (k:Nat)]
theorem Has.newnats {L:List Res} (h:Has H0 Z H L) {n:Nat} (l:List Nat) (hn:l.length=n) {cs:List Value} (hc:(natR l).flatten=cs):Has H0 Z (H.new (.cells cs none)) (L++[growR 1 (slc H.next 0 n n) (natR l)]) :=
 h.add _ ((Ext.refl H).new _) (Grow.made (f:=none) (zH_get _) (by rw [AH.get_new_self,hc]) (.inl rfl) (by simp [natR,hn]) (by intro r hr; obtain ⟨x,_,rfl⟩:=List.mem_map.1 hr; exact ⟨rfl,rfl⟩)) (by simp [growR,blkL,blk]) (by simp [growR,blkL,blk])
theorem S.f1 (hE:Fold E) (x:InsnD) (hQ:∀ H',Ext H H'->Q (vb (decide (iclass x.code=6#16))) H'):E.call (E.fid i.f1) [x.v] H Q:=by
 apply hE.f1
 have b1:=AH.get_new_self H (.cells x.cells none)
 have x1:Ext H (H.new (.cells x.cells none)):=(Ext.refl _).new _
 have c0:x.cells[0]? = some (u16 x.code):=rfl
 have k6:(.int .u16 6:Value)=u16 6#16:=rfl
 simp only [F.f1,boxO_agg_z,AM.mk_some,mkPtr_eq_z,List.toList_toArray,b1,c0,stdZ]
 refine S.f13 hE _ ?_
 simp only [k6,u16_eql,stdZ]
 exact hQ _ x1
theorem S.f5 (hE:Fold E) (x:InsnD) {at_ n:Nat} (hx:okI x (n - at_ - 1)) (hat:at_<n) (hn:n<=4096) (hl:x.code=6#16\/at_+1<n) {L:List Res} (h:Has H0 Z H L) (hQ:∀ v (l:List Nat) H',Has H0 Z H' (L++[growR 1 v (natR l)])->(∀ k∈l,k<n)->l.length<=2->Q v H'):E.call (E.fid i.f5) [x.v,vi at_] H Q:=by
 apply hE.f5
 have b1:=AH.get_new_self H (.cells x.cells none)
 have x1:Ext H (H.new (.cells x.cells none)):=(Ext.refl _).new _
 have lo:=insn_load b1
 have c0:x.cells[0]? = some (u16 x.code):=rfl
 have c1:x.cells[1]? = some (u8 x.jt):=rfl
 have c2:x.cells[2]? = some (u8 x.jf):=rfl
 have c3:x.cells[3]? = some (u32 x.k):=rfl
 have k5:(.int .u16 5:Value)=u16 5#16:=rfl
 have hinc:=i64_inc (i:=at_) (by omega)
 simp only [F.f5,boxO_agg_z,AM.mk_some,mkPtr_eq_z,List.toList_toArray,lo,stdZ]
 generalize H.new (.cells x.cells none)=H1 at *
 generalize H.next=t at *
 refine S.f1 hE x fun H2 e2 =>?_
 have b2:=e2.cells b1
 have x2:=x1.trans e2
 have lone:∀ m:Nat,buildS 1 1 #[(.int .i64 0)] [(0,vi m)]=some (.cells [vi m] none,mkSlc 1 1):=fun m=>buildS_one 1 [vi 0] [vi m] rfl rfl
 have ltwo:∀ m k:Nat,buildS 2 1 #[(.int .i64 0)] [(0,vi m),(1,vi k)]=some (.cells [vi m,vi k] none,mkSlc 2 2):=fun m k=>buildS_full 2 1 [vi 0] [(0,vi m),(1,vi k)] [vi m,vi k] rfl rfl rfl rfl (by simp)
 have g2:=h.grow x2
 have one:∀ m:Nat,m<n->Q (slc H2.next 0 1 1) (H2.new (.cells [vi m] none)):=fun m hm =>
  hQ _ [m] _ (g2.newnats [m] rfl rfl) (by simpa using hm) (by simp)
 have two:∀ m k:Nat,m<n->k<n->Q (slc H2.next 0 2 2) (H2.new (.cells [vi m,vi k] none)):=fun m k hm hk =>
  hQ _ [m,k] _ (g2.newnats [m,k] rfl rfl) (by simp [hm,hk]) (by simp)
 rcases hx with ⟨hc,_⟩ | hc | ⟨hc,h1⟩ | ⟨hc,h1,h2⟩ | ⟨hc,h1,h2⟩ | ⟨hc,h1,h2⟩ | hc
 rotate_left 6
 ·have a6:decide (iclass x.code=6#16)=true:=by rw [hc]; decide
  simp only [a6,stdZ]
  exact hQ nilS [] _ (g2.nils 1) (by simp) (by simp)
 ·have a6:decide (iclass x.code=6#16)=false:=by rw [hc]; decide
  have a5:decide (x.code=5#16)=false:=by rw [hc]; decide
  have cl:decide (iclass x.code=5#16)=false:=by rw [hc]; decide
  have hl:at_+1<n:=hl.resolve_left (by rw [hc]; decide)
  simp only [a6,b2,c0,k5,u16_eql,a5,stdZ]
  refine S.f13 hE _ ?_
  simp only [k5,u16_eql,cl,hinc,lone,AM.mk_some,mkSlc_eq,stdZ]
  exact one _ hl
 ·have a6:decide (iclass x.code=6#16)=false:=by rw [hc]; decide
  have a5:decide (x.code=5#16)=false:=by rw [hc]; decide
  have cl:decide (iclass x.code=5#16)=false:=by rw [hc]; decide
  have hl:at_+1<n:=hl.resolve_left (by rw [hc]; decide)
  simp only [a6,b2,c0,k5,u16_eql,a5,stdZ]
  refine S.f13 hE _ ?_
  simp only [k5,u16_eql,cl,hinc,lone,AM.mk_some,mkSlc_eq,stdZ]
  exact one _ hl
 ·have a6:decide (iclass x.code=6#16)=false:=by rw [hc]; decide
  have a5:decide (x.code=5#16)=true:=by rw [hc]; decide
  have ha:binInt .add (vi ((at_+1:Nat):Int)) (vi x.k.toNat)=some (vi ((at_+1+x.k.toNat:Nat):Int)):=by rw [i64_add (by omega) (by omega)]; congr 2
  simp only [a6,b2,c0,c3,k5,u16_eql,a5,hinc,u32_to_i64,ha,lone,AM.mk_some,mkSlc_eq,stdZ]
  exact one _ (by omega)
 all_goals
  have a6:decide (iclass x.code=6#16)=false:=by rw [hc]; decide
  have a5:decide (x.code=5#16)=false:=by rw [hc]; decide
  have cl:decide (iclass x.code=5#16)=true:=by rw [hc]; decide
  have ha1:binInt .add (vi ((at_+1:Nat):Int)) (vi x.jt.toNat)=some (vi ((at_+1+x.jt.toNat:Nat):Int)):=by rw [i64_add (by omega) (by omega)]; congr 2
  have ha2:binInt .add (vi ((at_+1:Nat):Int)) (vi x.jf.toNat)=some (vi ((at_+1+x.jf.toNat:Nat):Int)):=by rw [i64_add (by omega) (by omega)]; congr 2
  simp only [a6,b2,c0,k5,u16_eql,a5,stdZ]
  refine S.f13 hE _ ?_
  simp only [k5,u16_eql,cl,b2,c1,c2,hinc,u8_to_i64,ha1,ha2,ltwo,AM.mk_some,mkSlc_eq,stdZ]
  exact two _ _ (by omega) (by omega)
end
end Go.AM
end
section
namespace Go.AM
set_option maxRecDepth 20000
def endOk (c:List InsnD):Prop:=∃ h:0<c.length,(c[c.length - 1]'(by omega)).code=6#16
section
variable {E:Sy} {H H' H0 Z:AH} {Q:Value->AH->Prop} {X:List Res}
abbrev u16L (ws:List (BitVec 16)):List Value:=ws.map u16
theorem Has.setW {sb k:Nat} {ws:List (BitVec 16)} {wb:Nat} {wc:List Value} (h:Has H0 Z H (boxR wb wc :: boxR sb (u16L ws) :: X)) (hk:k<ws.length) (w:BitVec 16):∃ H',store1 (ptr sb k) (u16 w) H=some H'/\Has H0 Z H' (boxR wb wc :: boxR sb (u16L (ws.set k w)) :: X):=by
 have hb:=h.box (k:=1) (b:=sb) (c:=u16L ws) rfl
 refine ⟨H.put sb (.cells (u16L (ws.set k w)) none),?_,h.put (k:=1) (b:=sb) (c:=u16L ws) rfl _⟩
 rw [store1_ptr,if_pos (show plain1 (u16 w)=true from rfl),hb]
 simp only [u16L,List.length_map,hk,if_true,List.map_set]
theorem S.f2 (hE:Fold E) {v:Value} {c:List InsnD} (hv:Rows H 4 v (insnR c)) (hok:insnsOk c) (hend:endOk c) (hlen:c.length<=4096) (hQ:∀ H',Ext H H'->Q (.agg #[vi 0,vi 0]) H'):E.call (E.fid i.f2) [v] H Q:=by
 apply hE.f2
 obtain ⟨h0,hend⟩:=hend
 have hlv:=hv.lenSlc
 have hil:(insnR c).length=c.length:=by simp [insnR]
 rw [hil] at hlv
 have hms:=makeS_all 1 2 c.length [u16 0#16] rfl (by omega) (by omega)
 rw [flatten_repl] at hms
 have hms:makeS 1 2 #[(.int .u16 0)] (vi c.length) (vi c.length)=some (.cells (u16L (List.replicate c.length 0#16)) none,fun b=>slc b 0 c.length c.length):=by rw [u16L,List.map_replicate]; exact hms
 have i0:(.int .i64 0:Value)=vi ((0:Nat):Int):=rfl
 have q0:(.int .u16 0:Value)=u16 0#16:=rfl
 have qf:(.int .u16 65535:Value)=u16 65535#16:=rfl
 have g:=((Has.begin (Ext.refl H) (Sub.refl H)).newbox [(.int .i64 0),(.int .i64 0)]).newbox (u16L (List.replicate c.length 0#16))
 have hls:∀ b n m,lenSlc (slc b 0 n m)=some (vi n):=fun _ _ _=>rfl
 simp only [F.f2,allocW_eq,hlv,hms,AM.mk_some,hls,stdZ]
 have hn1:H.next+1=(H.new (.cells [(.int .i64 0),(.int .i64 0)] none)).next:=rfl
 rw [hn1]
 clear hn1
 generalize (H.new (.cells [(.int .i64 0),(.int .i64 0)] none)).new (.cells (u16L (List.replicate c.length 0#16)) none)=H2 at *
 generalize (H.new (.cells [(.int .i64 0),(.int .i64 0)] none)).next=sb at *
 generalize H.next=wb at *
 rw [i0]
 refine LoopL.count c.length (fun k ls H'=>ls=[v,ptr wb 0,slc sb 0 c.length c.length,vi c.length,vi k]/\∃ ws:List (BitVec 16),ws.length=c.length/\Has H H H' [boxR wb [vi 0,vi 0],boxR sb (u16L ws)]) ?_ ⟨rfl,_,by simp,g⟩
 rintro k _ H3 X1 hk ih ⟨rfl,ws,hws,g3⟩
 rcases Nat.lt_or_ge k c.length with hlt | hge
 ·have hlt':decide ((k:Int)<c.length)=true:=decide_eq_true (by omega)
  have hix:=ix_slc1 sb c.length c.length k hlt
  have hinc:=i64_inc (i:=k) (by omega)
  obtain ⟨H4,s4,g4⟩:=g3.setW (k:=k) (by omega) 65535#16
  simp only [F.f2_l1,i64_lss,hlt',hix,qf,s4,hinc,stdZ]
  exact ih hlt _ _ ⟨rfl,_,by simp [hws],g4⟩
 have hke:k=c.length:=by omega
 subst hke
 have hlt':decide ((c.length:Int)<c.length)=false:=decide_eq_false (by omega)
 have hix0:ixSlc 1 (slc sb 0 c.length c.length) (.int .i64 0)=some (ptr sb 0):=ix_slc1 sb c.length c.length 0 h0
 obtain ⟨H4,s4,g4⟩:=g3.setW (k:=0) (by omega) 0#16
 simp only [F.f2_l1,i64_lss,hlt',hix0,q0,s4,hlv,stdZ]
 have hw4:(ws.set 0 0#16).length=c.length:=by simp [hws]
 generalize ws.set 0 0#16=ws at *
 rw [i0]
 refine LoopL.count c.length (fun k ls H'=>ls=[ptr wb 0,slc sb 0 c.length c.length,v,vi c.length,vi k]/\∃ ws:List (BitVec 16),ws.length=c.length/\Has H H H' [boxR wb [vi 0,vi 0],boxR sb (u16L ws)]) ?_ ⟨rfl,ws,hw4,g4⟩
 clear g4 g3 ih s4 hw4 hws ws
 rintro k _ H5 X2 hk ih ⟨rfl,ws,hws,g5⟩
 rcases Nat.lt_or_ge k c.length with hlt | hge
 rotate_left
 ·have hke:k=c.length:=by omega
  subst hke
  have hb:=g5.box (k:=0) (b:=wb) (c:=[vi 0,vi 0]) rfl
  have hbv:buildV [(0,1),(1,1)] #[(.int .i64 0),(.int .i64 0)] []=some (.agg #[vi 0,vi 0]):=rfl
  have hst:storeN 2 (ptr wb 0) (.agg #[vi 0,vi 0]) H5=some (H5.put wb (.cells [vi 0,vi 0] none)):=by
   rw [storeN_ptr,hb]; rfl
  have g6:=g5.put (k:=0) (b:=wb) (c:=[vi 0,vi 0]) rfl [vi 0,vi 0]
  have hb6:=g6.box (k:=0) (b:=wb) (c:=[vi 0,vi 0]) rfl
  have lo6:loadN 2 (ptr wb 0) (H5.put wb (.cells [vi 0,vi 0] none))=some (.agg #[vi 0,vi 0]):=by rw [loadN_ptr,hb6]; rfl
  simp only [F.f2_l2,i64_lss,hlt',hbv,hst,lo6,stdZ]
  exact hQ _ g6.ext
 have hlt':decide ((k:Int)<c.length)=true:=decide_eq_true (by omega)
 obtain ⟨bb,o,f1,f2⟩:=hv.ix (i:=k) (by omega)
 have hrow:(insnR c)[k]'(by omega)=c[k].cells:=by simp [insnR]
 rw [hrow] at f2
 have f2:(H5.get bb).row o 4=some c[k].cells:=by
  have:H5.get bb=H.get bb:=g5.ext.obj (o:=H.get bb) (fun hd=>by rw [hd] at f2; cases f2) rfl
  rw [this]; exact f2
 have lo:loadN 4 (ptr bb o) H5=some c[k].v:=by rw [loadN_ptr,f2]; rfl
 have hokx:=hok k hlt
 have hl6:c[k].code=6#16\/k+1<c.length:=by
  rcases Nat.lt_or_ge (k+1) c.length with h | h
  ·exact .inr h
  ·have:k=c.length - 1:=by omega
   subst this
   exact .inl hend
 have hix:=ix_slc1 sb c.length c.length k hlt
 have hinc:=i64_inc (i:=k) (by omega)
 generalize c[k]=x at *
 have hst:=insn_new x H5
 have g6:=g5.new (.cells x.cells none)
 have bx:=AH.get_new_self H5 (.cells x.cells none)
 have bs:=g6.box (k:=1) (b:=sb) (c:=u16L ws) rfl
 have cx:x.cells[0]? = some (u16 x.code):=rfl
 have cs:(u16L ws)[k]? = some (u16 (ws[k]'(by omega))):=by simp [u16L,List.getElem?_eq_getElem (show k<ws.length by omega)]
 have k96:(.int .u16 96:Value)=u16 96#16:=rfl
 have k97:(.int .u16 97:Value)=u16 97#16:=rfl
 have k2:(.int .u16 2:Value)=u16 2#16:=rfl
 have k3:(.int .u16 3:Value)=u16 3#16:=rfl
 have e96:decide (x.code=96#16)=false:=by rcases hokx with ⟨h,_⟩ | h | ⟨h,_⟩ | ⟨h,_⟩ | ⟨h,_⟩ | ⟨h,_⟩ | h <;> rw [h] <;> decide
 have e97:decide (x.code=97#16)=false:=by rcases hokx with ⟨h,_⟩ | h | ⟨h,_⟩ | ⟨h,_⟩ | ⟨h,_⟩ | ⟨h,_⟩ | h <;> rw [h] <;> decide
 have e2:decide (x.code=2#16)=false:=by rcases hokx with ⟨h,_⟩ | h | ⟨h,_⟩ | ⟨h,_⟩ | ⟨h,_⟩ | ⟨h,_⟩ | h <;> rw [h] <;> decide
 have e3:decide (x.code=3#16)=false:=by rcases hokx with ⟨h,_⟩ | h | ⟨h,_⟩ | ⟨h,_⟩ | ⟨h,_⟩ | ⟨h,_⟩ | h <;> rw [h] <;> decide
 have lox:=insn_load bx
 generalize ws[k]'(by omega)=w at *
 simp only [F.f2_l2,i64_lss,hlt',f1,lo,allocW_eq,hst,hix,bs,cs,bx,cx,k96,k97,u16_eql,e96,e97,F.f2_j2,F.f2_j3,F.f2_j1,k2,k3,e2,e3,lox,stdZ]
 generalize H5.new (.cells x.cells none)=H6 at *
 refine S.f5 hE x hokx hlt hlen hl6 g6 fun wv l H7 g7 hl hl2 =>?_
 have hwl:=(g7.rows (k:=2) (sz:=1) (v:=wv) (rows:=natR l) rfl).lenSlc
 have hnl:(natR l).length=l.length:=by simp [natR]
 rw [hnl] at hwl
 simp only [hwl,i0,stdZ]
 refine LoopL.count l.length (fun q ls H'=>ls=[ptr wb 0,slc sb 0 c.length c.length,u16 w,v,vi c.length,vi k,wv,vi l.length,vi q]/\∃ ws:List (BitVec 16),ws.length=c.length/\Has H H H' (boxR wb [vi 0,vi 0] :: boxR sb (u16L ws) :: [growR 1 wv (natR l)])) ?_ ⟨rfl,ws,hws,g7⟩
 rintro q _ H8 X3 hq ih2 ⟨rfl,ws,hws,g8⟩
 rcases Nat.lt_or_ge q l.length with hql | hqg
 ·have hql':decide ((q:Int)<l.length)=true:=decide_eq_true (by omega)
  obtain ⟨b3,o3,n1,n2⟩:=(g8.rows (k:=2) (sz:=1) (v:=wv) (rows:=natR l) rfl).ix (i:=q) (by omega)
  have hnr:(natR l)[q]'(by omega)=[vi (l[q]:Nat)]:=by simp [natR]
  rw [hnr] at n2
  have hce:((H8.get b3).cell o3)=some (vi (l[q]:Nat)):=by have:=row_at n2 (j:=0) (by omega); simpa using this
  have hlq:=hl l[q] (List.getElem_mem hql)
  have hqi:=i64_inc (i:=q) (by omega)
  generalize l[q]=y at *
  have hiy:=ix_slc1 sb c.length c.length y hlq
  have bs:=g8.box (k:=1) (b:=sb) (c:=u16L ws) rfl
  have cs:(u16L ws)[y]? = some (u16 (ws[y]'(by omega))):=by simp [u16L,List.getElem?_eq_getElem (show y<ws.length by omega)]
  obtain ⟨H9,s9,g9⟩:=Has.setW (X:=[growR 1 wv (natR l)]) g8 (k:=y) (by omega) ((ws[y]'(by omega))&&&w)
  simp only [F.f2_l3,i64_lss,hql',n1,hce,hiy,bs,cs,u16_and,s9,hqi,stdZ]
  exact ih2 hql _ _ ⟨rfl,_,by simp [hws],g9⟩
 ·have hql':decide ((q:Int)<l.length)=false:=decide_eq_false (by omega)
  simp only [F.f2_l3,i64_lss,hql',hinc,stdZ]
  exact ih hlt _ _ ⟨rfl,ws,hws,Has.dropLast (L:=[_,_]) g8⟩
theorem S.f0 (hE:Fold E) {v:Value} {c:List InsnD} (hv:Rows H 4 v (insnR c)) (hok:insnsOk c) (hend:endOk c) (hlen:c.length<=4096) (hQ:∀ H',Ext H H'->Q (.agg #[vi 0,vi 0]) H'):E.call (E.fid i.f0) [v] H Q:=by
 apply hE.f0
 have hend':=hend
 obtain ⟨h0,hend⟩:=hend
 have hlv:=hv.lenSlc
 have hil:(insnR c).length=c.length:=by simp [insnR]
 rw [hil] at hlv
 have i0:(.int .i64 0:Value)=vi ((0:Nat):Int):=rfl
 have i1:(.int .i64 1:Value)=vi 1:=rfl
 have i4096:(.int .i64 4096:Value)=vi 4096:=rfl
 have d0:decide ((c.length:Int)=((0:Nat):Int))=false:=decide_eq_false (by omega)
 have d1:decide ((4096:Int)<c.length)=false:=decide_eq_false (by omega)
 have g:=(Has.begin (Ext.refl H) (Sub.refl H)).newbox [(.int .i64 0),(.int .i64 0)]
 simp only [F.f0,allocW_eq,hlv,i0,i4096,i64_eql,i64_gtr,d0,d1,stdZ]
 have g:Has H H (H.new (.cells [vi ((0:Nat):Int),vi ((0:Nat):Int)] none)) [boxR H.next [vi 0,vi 0]]:=g
 generalize H.new (.cells [vi ((0:Nat):Int),vi ((0:Nat):Int)] none)=H1 at *
 generalize H.next=wb at *
 refine LoopL.count c.length (fun k ls H'=>ls=[v,ptr wb 0,v,vi c.length,vi k]/\Has H H H' [boxR wb [vi 0,vi 0]]) ?_ ⟨rfl,g⟩
 clear g
 rintro k _ H5 X2 hk ih ⟨rfl,g5⟩
 have hv5:=hv.mono g5.ext
 have row:∀ j (hj:j<c.length),∃ bb o,ixSlc 4 v (vi j)=some (ptr bb o)/\loadN 4 (ptr bb o) H5=some c[j].v:=by
  intro j hj
  obtain ⟨bb,o,f1,f2⟩:=hv5.ix (i:=j) (by omega)
  have hrow:(insnR c)[j]'(by omega)=c[j].cells:=by simp [insnR]
  rw [hrow] at f2
  exact ⟨bb,o,f1,by rw [loadN_ptr,f2]; rfl⟩
 have hw:∀ {H':AH},Has H H H' [boxR wb [vi 0,vi 0]]->∃ H'',storeN 2 (ptr wb 0) (.agg #[vi 0,vi 0]) H'=some H''/\loadN 2 (ptr wb 0) H''=some (.agg #[vi 0,vi 0])/\Ext H H'':=by
  intro H' g'
  have hb:=g'.box (k:=0) (b:=wb) (c:=[vi 0,vi 0]) rfl
  have g6:=g'.put (k:=0) (b:=wb) (c:=[vi 0,vi 0]) rfl [vi 0,vi 0]
  have hb6:=g6.box (k:=0) (b:=wb) (c:=[vi 0,vi 0]) rfl
  exact ⟨_,by rw [storeN_ptr,hb]; rfl,by rw [loadN_ptr,hb6]; rfl,g6.ext⟩
 rcases Nat.lt_or_ge k c.length with hlt | hge
 ·have hlt':decide ((k:Int)<c.length)=true:=decide_eq_true (by omega)
  obtain ⟨bb,o,f1,lo⟩:=row k hlt
  have hokx:=hok k hlt
  have hinc:=i64_inc (i:=k) (by omega)
  generalize c[k]=x at *
  have hst:=insn_new x H5
  have g6:=g5.new (.cells x.cells none)
  have lox:=insn_load (AH.get_new_self H5 (.cells x.cells none))
  simp only [F.f0_l1,i64_lss,hlt',f1,lo,allocW_eq,hst,lox,hlv,stdZ]
  generalize H5.new (.cells x.cells none)=H6 at *
  refine S.f3 hE x hokx hlt hlen fun H7 e7 =>?_
  have d7:decide (((0:Nat):Int)≠((0:Nat):Int))=false:=rfl
  simp only [i0,i64_neq,d7,hinc,stdZ]
  exact ih hlt _ _ ⟨rfl,g6.grow e7⟩
 ·have hke:k=c.length:=by omega
  subst hke
  have hlt':decide ((c.length:Int)<c.length)=false:=decide_eq_false (by omega)
  obtain ⟨bb,o,f1,lo⟩:=row (c.length - 1) (by omega)
  have hs:binInt .sub (vi (c.length:Int)) (vi 1)=some (vi ((c.length - 1:Nat):Int)):=by rw [i64_sub (by omega) (by omega)]; congr 2; omega
  have he6:decide (iclass (c[c.length - 1]'(by omega)).code=6#16)=true:=by rw [hend]; decide
  simp only [F.f0_l1,i64_lss,hlt',hlv,i1,hs,f1,lo,stdZ]
  refine S.f1 hE _ fun H6 e6 =>?_
  rw [he6]
  simp only [stdZ]
  have g6:=g5.grow e6
  refine S.f2 hE (hv.mono g6.ext) hok hend' hlen fun H7 e7 =>?_
  obtain ⟨H8,s8,l8,e8⟩:=hw (g6.grow e7)
  simp only [s8,l8,stdZ]
  exact hQ _ e8
theorem S.f109 (hE:Fold E) {v:Value} {c:List InsnD} (hv:Rows H 4 v (insnR c)) (hok:insnsOk c) (hend:endOk c) (hlen:c.length<=4096) (hQ:∀ fb H',Fil H H H' fb c []->Q (.tuple #[ptr fb 0,.agg #[vi 0,vi 0]]) H'):E.call (E.fid i.f109) [v] H Q:=by
 apply hE.f109
 have g1:=(Has.begin (Ext.refl H) (Sub.refl H)).newbox [(.int .i64 0),(.int .i64 0)]
 have x1:Ext H (H.new (.cells [(.int .i64 0),(.int .i64 0)] none)):=(Ext.refl H).new _
 simp only [F.f109,allocW_eq,stdZ]
 generalize H.new (.cells [(.int .i64 0),(.int .i64 0)] none)=H1 at *
 generalize H.next=wb at *
 refine S.f0 hE (hv.mono x1) hok hend hlen fun H2 e2 =>?_
 have g2:=g1.grow e2
 have s2:storeN 2 (ptr H2.next 0) (.agg #[vi 0,vi 0]) (H2.new (.cells [(.int .i64 0),(.int .i64 0)] none))=some (H2.new (.cells [vi 0,vi 0] none)):=two_store (z:=[(.int .i64 0),(.int .i64 0)]) (c:=[vi 0,vi 0]) rfl rfl rfl
 have l2:loadN 2 (ptr H2.next 0) (H2.new (.cells [vi 0,vi 0] none))=some (.agg #[vi 0,vi 0]):=by rw [loadN_ptr,AH.get_new_self]; rfl
 have hbv:buildV [(0,1),(1,1)] #[(.int .i64 0),(.int .i64 0)] []=some (.agg #[vi 0,vi 0]):=rfl
 have hne:binAgg [0,0] .neq (.agg #[vi 0,vi 0]) (.agg #[vi 0,vi 0])=some (vb false):=rfl
 have g3:=g2.new (.cells [vi 0,vi 0] none)
 simp only [allocW_eq,s2,l2,hbv,hne,stdZ]
 generalize H2.new (.cells [vi 0,vi 0] none)=H3 at *
 have g4:=g3.newroom 4
 have hbS:buildS 0 4 #[(.int .u16 0),(.int .u8 0),(.int .u8 0),(.int .u32 0)] []=some (.cells [] none,mkSlc 0 0):=buildS0 4 [u16 0#16,u8 0#8,u8 0#8,u32 0#32] rfl
 obtain ⟨lv,H5,a1,a2,g5⟩:=g4.app (k:=1) (sz:=4) (v:=slc H3.next 0 0 0) (rows:=[]) (new:=insnR c) (x:=v) (bytes:=8) rfl (hv.mono g4.ext) (by intro r hr; obtain ⟨y,_,rfl⟩:=List.mem_map.1 hr; rfl) (by decide) (by decide) (by simp [insnR]; omega) (by simp [insnR]; omega)
 have hbv2:buildV [(0,1),(1,1),(2,1)] #[(.slice none 0 0),(.int .i64 0),(.int .i64 0)] [(0,lv)]=some (.agg #[lv,vi 0,vi 0]):=by
  have:=(g5.rows (k:=1) (sz:=4) (v:=lv) (rows:=[]++insnR c) rfl).at_
  rcases this with ⟨_,c',rfl⟩ | ⟨b,o,c',rfl,_⟩ <;> rfl
 have g6:=g5.newbox [lv,vi 0,vi 0]
 simp only [hbS,AM.mk_some,mkSlc_eq,a1,hbv2,boxO_agg_z,mkPtr_eq_z,List.toList_toArray,stdZ]
 generalize H5.new (.cells [lv,vi 0,vi 0] none)=H6 at *
 generalize H5.next=fb at *
 have hb6:=g6.box (k:=0) (b:=wb) (c:=[(.int .i64 0),(.int .i64 0)]) rfl
 have g7:=g6.put (k:=0) (b:=wb) (c:=[(.int .i64 0),(.int .i64 0)]) rfl [vi 0,vi 0]
 have s7:storeN 2 (ptr wb 0) (.agg #[vi 0,vi 0]) H6=some (H6.put wb (.cells [vi 0,vi 0] none)):=by rw [storeN_ptr,hb6]; rfl
 have b7:=g7.box (k:=0) (b:=wb) (c:=[vi 0,vi 0]) rfl
 have l7:loadN 2 (ptr wb 0) (H6.put wb (.cells [vi 0,vi 0] none))=some (.agg #[vi 0,vi 0]):=by rw [loadN_ptr,b7]; rfl
 simp only [hbv,s7,l7,stdZ]
 exact hQ _ _ ⟨lv,0,0,(g7.drop 0).perm (List.Perm.swap _ _ _)⟩
end
end Go.AM
end
section
namespace Go.AM
set_option maxRecDepth 20000
abbrev Beh:=BitVec 32->BitVec 32
def kill0:Beh:=fun _=>2147483648#32
def goTo (env:List (Int×Beh)) (n:Int):Beh:=(alook n env).getD kill0
def testI (x:InsnD) (a:BitVec 32):Bool:=if x.code=21#16 then decide (a=x.k) else if x.code=37#16 then decide (x.k.toNat<a.toNat) else decide (x.k.toNat<=a.toNat)
def denStep (r:RecD) (p:PartD) (d:List (Int×Beh)×Beh):List (Int×Beh)×Beh :=
 if p.kind=1#8 then ((p.to,d.2) :: d.1,d.2)
 else if p.kind=4#8 then (d.1,goTo d.1 p.to)
 else if p.kind=3#8 then (d.1,fun a=>if testI p.insn a=true then goTo d.1 p.to a else goTo d.1 p.els a)
 else (d.1,fun a=>match (stepI r p.insn a).2.2 with
  | some o=>o
  | none=>d.2 (stepI r p.insn a).1)
def den (r:RecD) (l:List PartD):List (Int×Beh)×Beh:=l.foldr (denStep r) ([],kill0)
def partOk (p:PartD):Prop :=
 p.kind=1#8\/p.kind=4#8\/(p.kind=2#8/\((p.insn.code=32#16/\p.insn.k.toNat % 4=0/\p.insn.k.toNat<=60)\/p.insn.code=84#16\/p.insn.code=6#16)) \/
 (p.kind=3#8/\(p.insn.code=21#16\/p.insn.code=37#16\/p.insn.code=53#16))
theorem runC_cons (r:RecD) (f:Nat) (x:InsnD) (c:List InsnD) (a:BitVec 32):runC r (f+1) (x :: c) a=match (stepI r x a).2.2 with
  | some o=>o
  | none=>runC r f (c.drop (stepI r x a).2.1) (stepI r x a).1:=rfl
theorem step_hop (r:RecD) (n:Nat) (hn:n<2 ^ 32) (a:BitVec 32):stepI r (hopI n) a=(a,n,none):=by
 have h:(hopI (n:Int)).k.toNat=n:=by
  show (BitVec.ofInt 32 (n:Int)).toNat=n
  rw [BitVec.ofInt_natCast,BitVec.toNat_ofNat,Nat.mod_eq_of_lt hn]
 unfold stepI
 rw [h]; rfl
theorem step_cmp (r:RecD) {x:InsnD} (hx:x.code=21#16\/x.code=37#16\/x.code=53#16) (a:BitVec 32):stepI r x a=(a,if testI x a=true then x.jt.toNat else x.jf.toNat,none):=by
 unfold stepI testI
 rcases hx with h | h | h <;> rw [h] <;> simp
theorem run_hop (r:RecD) (f n:Nat) (hn:n<2 ^ 32) (c:List InsnD) (a:BitVec 32):runC r (f+1) (hopI n :: c) a=runC r f (c.drop n) a:=by
 rw [runC_cons,step_hop r n hn a]
theorem ok_cons {x:InsnD} {c:List InsnD} (h:okI x c.length) (hc:insnsOk c):insnsOk (x :: c):=by
 intro k hk
 cases k with
 | zero=>simpa using h
 | succ k =>
  have:=hc k (by simpa using hk)
  simp only [List.getElem_cons_succ,List.length_cons]
  have e:c.length+1 - (k+1) - 1=c.length - k - 1:=by omega
  rw [e]; exact this
theorem end_cons {x:InsnD} {c:List InsnD} (h:endOk c):endOk (x :: c):=by
 obtain ⟨h0,h1⟩:=h
 refine ⟨by simp,?_⟩
 have:(x :: c)[(x :: c).length - 1]'(by simp)=c[c.length - 1]'(by omega):=by
  simp only [List.length_cons,Nat.add_sub_cancel]
  rw [List.getElem_cons,dif_neg (by omega)]
 rw [this]; exact h1
theorem hop_ok {n m:Nat} (h:n<m) (hm:m<2 ^ 32):okI (hopI n) m:=by
 refine .inr (.inr (.inl ⟨rfl,?_⟩))
 show (BitVec.ofInt 32 (n:Int)).toNat<m
 rw [BitVec.ofInt_natCast,BitVec.toNat_ofNat,Nat.mod_eq_of_lt (by omega)]
 exact h
structure Says (r:RecD) (s:MkD) (d:List (Int×Beh)×Beh):Prop where
 pos:0<s.out.length
 run:∀ f a,s.out.length<=f->runC r f s.out a=d.2 a
 places:∀ n k,alook n s.places=some k->0<k/\k<=s.out.length/\∀ f a,k<=f->runC r f (s.out.drop (s.out.length - k)) a=goTo d.1 n a
 names:∀ n,(alook n s.places).isSome=(alook n d.1).isSome
 ok:insnsOk s.out
 end_ : endOk s.out
theorem Says.push {r:RecD} {s:MkD} {d:List (Int×Beh)×Beh} (h:Says r s d) (x:InsnD) (k:Beh) (hr:∀ f a,s.out.length<=f->runC r (f+1) (x :: s.out) a=k a) (hx:okI x s.out.length):Says r ⟨x :: s.out,s.places⟩ (d.1,k):=by
 refine ⟨by simp,fun f a hf =>?_,fun n j hj =>?_,h.names,ok_cons hx h.ok,end_cons h.end_⟩
 ·simp only [List.length_cons] at hf
  obtain ⟨f,rfl⟩:∃ g,f=g+1:=⟨f - 1,by omega⟩
  exact hr f a (by omega)
 ·obtain ⟨h1,h2,h3⟩:=h.places n j hj
  refine ⟨h1,by simp; omega,fun f a hf =>?_⟩
  have:(x :: s.out).drop ((x :: s.out).length - j)=s.out.drop (s.out.length - j):=by
   simp only [List.length_cons]
   rw [show s.out.length+1 - j=(s.out.length - j)+1 by omega,List.drop_succ_cons]
  simp only [this]
  exact h3 f a hf
theorem Says.away {r:RecD} {s:MkD} {d:List (Int×Beh)×Beh} (h:Says r s d) {n:Int} (hs:(alook n s.places).isSome=true):∃ t:Nat,s.away n=t/\t<s.out.length/\∀ f a,s.out.length<=f+t->runC r f (s.out.drop t) a=goTo d.1 n a:=by
 obtain ⟨k,hk⟩:=Option.isSome_iff_exists.1 hs
 obtain ⟨h1,h2,h3⟩:=h.places n k hk
 refine ⟨s.out.length - k,?_,by omega,fun f a hf=>h3 f a (by omega)⟩
 unfold MkD.away
 rw [hk]
 show (s.out.length:Int) - (k:Int)=_
 omega
theorem Says.cmp {r:RecD} {s:MkD} {d:List (Int×Beh)×Beh} (h:Says r s d) (hl:s.out.length<=4096) {x:InsnD} (hx:x.code=21#16\/x.code=37#16\/x.code=53#16) {t e:Nat} (ht:t<s.out.length) (he:e<s.out.length) {kt ke:Beh}
  (rt:∀ f a,s.out.length<=f+t->runC r f (s.out.drop t) a=kt a) (re:∀ f a,s.out.length<=f+e->runC r f (s.out.drop e) a=ke a) :
  Says r (s.cmp0 x t e) (d.1,fun a=>if testI x a=true then kt a else ke a):=by
 have hop:∀ (s:MkD) (d:List (Int×Beh)×Beh) (n:Nat),Says r s d->n<s.out.length->s.out.length<=5000->Says r (s.hop n) (d.1,fun a=>runC r s.out.length (s.out.drop n) a):=by
  intro s d n h hn h5
  refine h.push (hopI n) _ (fun f a hf =>?_) (hop_ok hn (by omega))
  rw [run_hop r f n (by omega)]
  have fuel:∀ (f g:Nat) (c:List InsnD) (a:BitVec 32),c.length<=f->c.length<=g->runC r f c a=runC r g c a:=by
   intro f
   induction f with
   | zero=>intro g c a h1 h2; have:c=[]:=List.eq_nil_of_length_eq_zero (by omega); subst this; rw [runC_over,runC_over]
   | succ f ih =>
    intro g c a h1 h2
    cases c with
    | nil=>rw [runC_over,runC_over]
    | cons y c =>
     obtain ⟨g,rfl⟩:∃ g',g=g'+1:=⟨g - 1,by simp at h2; omega⟩
     rw [runC_cons,runC_cons]
     cases (stepI r y a).2.2 with
     | some o=>rfl
     | none=>exact ih g _ _ (by simp at h1 ⊢; omega) (by simp at h2 ⊢; omega)
  exact fuel _ _ _ _ (by rw [List.length_drop]; omega) (by rw [List.length_drop]; omega)
 have c8:∀ n:Nat,n<256->(BitVec.ofInt 8 (n:Int)).toNat=n:=fun n hn=>by rw [BitVec.ofInt_natCast,BitVec.toNat_ofNat,Nat.mod_eq_of_lt hn]
 have near:∀ (s:MkD) (d:List (Int×Beh)×Beh) (t e:Nat) (kt ke:Beh),Says r s d->t<256->e<256->t<s.out.length->e<s.out.length ->
   (∀ f a,s.out.length<=f->runC r f (s.out.drop t) a=kt a)->(∀ f a,s.out.length<=f->runC r f (s.out.drop e) a=ke a) ->
   Says r (s.cmp2 x t e) (d.1,fun a=>if testI x a=true then kt a else ke a):=by
  intro s d t e kt ke h t8 e8 ht he rt re
  refine h.push ⟨x.code,BitVec.ofInt 8 (t:Int),BitVec.ofInt 8 (e:Int),x.k⟩ _ (fun f a hf =>?_) ?_
  ·rw [runC_cons,step_cmp r (x:=⟨x.code,BitVec.ofInt 8 (t:Int),BitVec.ofInt 8 (e:Int),x.k⟩) hx a]
   show runC r f (s.out.drop (if testI x a=true then (BitVec.ofInt 8 (t:Int)).toNat else (BitVec.ofInt 8 (e:Int)).toNat)) a=_
   rw [c8 t t8,c8 e e8]
   by_cases hb:testI x a=true
   ·rw [if_pos hb,if_pos hb]; exact rt f a hf
   ·rw [if_neg hb,if_neg hb]; exact re f a hf
  ·have j1:(BitVec.ofInt 8 (t:Int)).toNat<s.out.length:=by rw [c8 t t8]; exact ht
   have j2:(BitVec.ofInt 8 (e:Int)).toNat<s.out.length:=by rw [c8 e e8]; exact he
   rcases hx with h | h | h
   ·exact .inr (.inr (.inr (.inl ⟨h,j1,j2⟩)))
   ·exact .inr (.inr (.inr (.inr (.inl ⟨h,j1,j2⟩))))
   ·exact .inr (.inr (.inr (.inr (.inr (.inl ⟨h,j1,j2⟩)))))
 unfold MkD.cmp0
 by_cases h1:253<(e:Int)
 ·rw [if_pos h1]
  have s1:=hop s d e h he (by omega)
  have hlen:(s.hop e).out.length=s.out.length+1:=by simp [MkD.hop]
  unfold MkD.cmp1
  by_cases h2:253<(t:Int)+1
  ·rw [if_pos h2]
   have s2:=hop (s.hop e) _ (t+1) s1 (by omega) (by omega)
   have hlen2:((s.hop e).hop (t+1:Nat)).out.length=s.out.length+2:=by simp [MkD.hop]
   have:=near _ _ 0 1 kt ke s2 (by omega) (by omega) (by omega) (by omega)
    (fun f a hf=>by
     obtain ⟨f,rfl⟩:∃ g,f=g+1:=⟨f - 1,by omega⟩
     rw [List.drop_zero]
     show runC r (f+1) (hopI ((t+1:Nat):Int) :: (hopI (e:Int) :: s.out)) a=_
     rw [run_hop r f (t+1) (by omega),List.drop_succ_cons]
     exact rt f a (by omega))
    (fun f a hf=>by
     obtain ⟨f,rfl⟩:∃ g,f=g+1:=⟨f - 1,by omega⟩
     show runC r (f+1) (hopI (e:Int) :: s.out) a=_
     rw [run_hop r f e (by omega)]
     exact re f a (by omega))
   exact this
  ·rw [if_neg h2]
   have:=near _ _ (t+1) 0 kt ke s1 (by omega) (by omega) (by omega) (by omega)
    (fun f a hf=>by
     show runC r f ((hopI (e:Int) :: s.out).drop (t+1)) a=_
     rw [List.drop_succ_cons]
     exact rt f a (by omega))
    (fun f a hf=>by
     obtain ⟨f,rfl⟩:∃ g,f=g+1:=⟨f - 1,by omega⟩
     rw [List.drop_zero]
     show runC r (f+1) (hopI (e:Int) :: s.out) a=_
     rw [run_hop r f e (by omega)]
     exact re f a (by omega))
   exact this
 ·rw [if_neg h1]
  unfold MkD.cmp1
  by_cases h2:253<(t:Int)
  ·rw [if_pos h2]
   have s2:=hop s d t h ht (by omega)
   have hlen2:(s.hop (t:Nat)).out.length=s.out.length+1:=by simp [MkD.hop]
   have:=near _ _ 0 (e+1) kt ke s2 (by omega) (by omega) (by omega) (by omega)
    (fun f a hf=>by
     obtain ⟨f,rfl⟩:∃ g,f=g+1:=⟨f - 1,by omega⟩
     rw [List.drop_zero]
     show runC r (f+1) (hopI (t:Int) :: s.out) a=_
     rw [run_hop r f t (by omega)]
     exact rt f a (by omega))
    (fun f a hf=>by
     show runC r f ((hopI (t:Int) :: s.out).drop (e+1)) a=_
     rw [List.drop_succ_cons]
     exact re f a (by omega))
   exact this
  ·rw [if_neg h2]
   exact near s d t e kt ke h (by omega) (by omega) ht he (fun f a hf=>rt f a (by omega)) (fun f a hf=>re f a (by omega))
end Go.AM
end
section
namespace Go.AM
set_option maxRecDepth 20000
def heres (l:List PartD):List Int:=l.filterMap fun p=>if p.kind=1#8 then some p.to else none
theorem heres_cons (p:PartD) (l:List PartD):heres (p :: l)=if p.kind=1#8 then p.to :: heres l else heres l:=by
 unfold heres
 rw [List.filterMap_cons]
 split <;> rename_i h
 ·split at h
  ·cases h
  ·rename_i h1; rw [if_neg h1]
 ·split at h
  ·rename_i h1; cases h; rw [if_pos h1]
  ·cases h
theorem heres_app (a b:List PartD):heres (a++b)=heres a++heres b:=List.filterMap_append
theorem den_cons (r:RecD) (p:PartD) (l:List PartD):den r (p :: l)=denStep r p (den r l):=rfl
theorem den_names (r:RecD):∀ (l:List PartD) (n:Int),(alook n (den r l).1).isSome=decide (n∈heres l)
 | [],n=>by simp [den,alook,heres]
 | p :: l,n=>by
  rw [den_cons,heres_cons]
  unfold denStep
  by_cases h1:p.kind=1#8
  ·rw [if_pos h1,if_pos h1]
   simp only [alook_cons]
   by_cases hn:n=p.to
   ·rw [if_pos hn]; simp [hn]
   ·rw [if_neg hn,den_names r l n]; simp [hn]
  ·rw [if_neg h1,if_neg h1]
   by_cases h4:p.kind=4#8
   ·rw [if_pos h4]; exact den_names r l n
   ·rw [if_neg h4]
    by_cases h3:p.kind=3#8
    ·rw [if_pos h3]; exact den_names r l n
    ·rw [if_neg h3]; exact den_names r l n
theorem part_says {r:RecD} {s t:MkD} {d:List (Int×Beh)×Beh} (h:Says r s d) (hl:s.out.length<=4096) {p:PartD} (hp:partOk p) (e:s.part p = .inr t):Says r t (denStep r p d):=by
 unfold MkD.part at e
 unfold denStep
 by_cases h1:p.kind=1#8
 ·rw [if_pos h1] at e ⊢
  split at e
  ·cases e
  ·rename_i hs
   cases e
   refine ⟨h.pos,h.run,fun n k hk =>?_,fun n =>?_,h.ok,h.end_⟩
   ·simp only [alook_asetG] at hk
    unfold goTo
    simp only [alook_cons]
    by_cases hn:n=p.to
    ·rw [if_pos hn] at hk ⊢
     cases hk
     refine ⟨h.pos,Nat.le_refl _,fun f a hf =>?_⟩
     rw [Nat.sub_self,List.drop_zero]
     exact h.run f a hf
    ·rw [if_neg hn] at hk ⊢
     exact h.places n k hk
   ·simp only [alook_asetG,alook_cons]
    by_cases hn:n=p.to
    ·rw [if_pos hn,if_pos hn]; rfl
    ·rw [if_neg hn,if_neg hn]; exact h.names n
 rw [if_neg h1] at e ⊢
 by_cases h2:p.kind=2#8
 ·have h4:p.kind≠4#8:=by rw [h2]; decide
  have h3:p.kind≠3#8:=by rw [h2]; decide
  rw [if_pos h2] at e
  rw [if_neg h4,if_neg h3]
  have hx:(p.insn.code=32#16/\p.insn.k.toNat % 4=0/\p.insn.k.toNat<=60)\/p.insn.code=84#16\/p.insn.code=6#16:=by
   rcases hp with h | h | ⟨_,h⟩ | ⟨h,_⟩
   ·exact absurd h h1
   ·exact absurd h h4
   ·exact h
   ·exact absurd h h3
  split at e
  ·cases e
  ·cases e
   have hs:∀ a,(stepI r p.insn a).2.1=0:=fun a=>by
    unfold stepI
    rcases hx with ⟨h,_⟩ | h | h <;> rw [h] <;> rfl
   refine h.push p.insn _ (fun f a hf =>?_) ?_
   ·rw [runC_cons,hs a,List.drop_zero]
    cases (stepI r p.insn a).2.2 with
    | some o=>rfl
    | none=>exact h.run f _ hf
   ·rcases hx with h | h | h
    ·exact .inl h
    ·exact .inr (.inl h)
    ·exact .inr (.inr (.inr (.inr (.inr (.inr h)))))
 rw [if_neg h2] at e
 by_cases h4:p.kind=4#8
 ·rw [if_pos h4] at e ⊢
  split at e
  ·rename_i hs
   cases e
   obtain ⟨t,e1,e2,e3⟩:=h.away hs
   rw [e1]
   refine h.push (hopI t) _ (fun f a hf =>?_) (hop_ok e2 (by omega))
   rw [run_hop r f t (by omega)]
   exact e3 f a (by omega)
  ·cases e
 rw [if_neg h4] at e ⊢
 by_cases h3:p.kind=3#8
 ·rw [if_pos h3] at e ⊢
  have hx:p.insn.code=21#16\/p.insn.code=37#16\/p.insn.code=53#16:=by
   rcases hp with h | h | ⟨h,_⟩ | ⟨_,h⟩
   ·exact absurd h h1
   ·exact absurd h h4
   ·exact absurd h h2
   ·exact h
  split at e
  ·cases e
  ·split at e
   ·cases e
   ·rename_i hs
    cases e
    simp only [not_or,Bool.not_eq_false] at hs
    obtain ⟨t,a1,a2,a3⟩:=h.away hs.1
    obtain ⟨u,b1,b2,b3⟩:=h.away hs.2
    rw [a1,b1]
    exact h.cmp hl hx a2 b2 a3 b3
 ·rw [if_neg h3] at e
  cases e
def retP (k:BitVec 32):PartD:=pPlain (iRet k)
theorem makeF_ret (k:BitVec 32):makeF [retP k] = .inr ⟨[iRet k],[]⟩:=by simp [makeF,MkD.part,retP,pPlain,iRet,iclass]
theorem makeF_says {r:RecD} {k:BitVec 32}:∀ {l:List PartD} {s:MkD},(∀ p∈l,partOk p)->makeF (l++[retP k]) = .inr s->Says r s (den r (l++[retP k]))
 | [],s,_,e=>by
  have:s=⟨[iRet k],[]⟩:=by
   rw [List.nil_append,makeF_ret] at e
   cases e; rfl
  subst this
  refine ⟨by simp,fun f a hf =>?_,fun n j hj=>by simp [alook] at hj,fun n=>rfl,fun j hj =>?_,⟨by simp,rfl⟩⟩
  ·obtain ⟨f,rfl⟩:∃ g,f=g+1:=⟨f - 1,by simp at hf; omega⟩
   rfl
  ·have:j=0:=by simpa using hj
   subst this
   exact .inr (.inr (.inr (.inr (.inr (.inr rfl)))))
 | p :: l,s,hp,e=>by
  rw [List.cons_append] at e ⊢
  unfold makeF at e
  split at e
  ·cases e
  ·rename_i s1 h1
   have ih:=makeF_says (r:=r) (fun q hq=>hp q (List.mem_cons_of_mem _ hq)) h1
   have hl:=(makeF_ok h1).2
   split at e
   ·cases e
   ·rename_i t h2
    split at e
    ·cases e
    ·cases e
     rw [den_cons]
     exact part_says ih hl (hp p (List.mem_cons_self ..)) h2
def wfL (l:List PartD):Prop:=∀ a p b,l=a++p :: b->(p.kind=1#8->p.to ∉ heres b)/\(p.kind=4#8->p.to∈heres b)/\(p.kind=3#8->p.to∈heres b/\p.els∈heres b)
theorem wfL.tail {p:PartD} {l:List PartD} (h:wfL (p :: l)):wfL l:=fun a q b e=>h (p :: a) q b (by rw [e]; rfl)
theorem part_err {r:RecD} {s:MkD} {d:List (Int×Beh)×Beh} (h:Says r s d) {p:PartD} (hp:partOk p) {e:Int} (he:s.part p = .inl e) {b:List PartD} (hd:∀ n,(alook n d.1).isSome=decide (n∈heres b))
  (w:(p.kind=1#8->p.to ∉ heres b)/\(p.kind=4#8->p.to∈heres b)/\(p.kind=3#8->p.to∈heres b/\p.els∈heres b)):False:=by
 unfold MkD.part at he
 rcases hp with h1 | h4 | ⟨h2,hx⟩ | ⟨h3,hx⟩
 ·rw [if_pos h1,h.names,hd] at he
  have:=w.1 h1
  rw [if_neg (by simpa using this)] at he
  cases he
 ·rw [if_neg (by rw [h4]; decide),if_neg (by rw [h4]; decide),if_pos h4,h.names,hd,if_pos (by simpa using w.2.1 h4)] at he
  cases he
 ·rw [if_neg (by rw [h2]; decide),if_pos h2,if_neg (by rcases hx with ⟨h,_⟩ | h | h <;> rw [h] <;> decide)] at he
  cases he
 ·have:=w.2.2 h3
  rw [if_neg (by rw [h3]; decide),if_neg (by rw [h3]; decide),if_neg (by rw [h3]; decide),if_pos h3,if_neg (by rcases hx with h | h | h <;> rw [h] <;> decide),h.names,h.names,hd,hd,if_neg (by simp [this])] at he
  cases he
theorem makeF_wf {k:BitVec 32}:∀ {l:List PartD} {e:Int},(∀ p∈l,partOk p)->wfL (l++[retP k])->makeF (l++[retP k]) = .inl e->e=205
 | [],e,_,_,h=>by
  rw [List.nil_append,makeF_ret] at h
  cases h
 | p :: l,e,hp,w,h=>by
  rw [List.cons_append] at h w
  unfold makeF at h
  split at h
  ·rename_i e1 h1
   cases h
   exact makeF_wf (fun q hq=>hp q (List.mem_cons_of_mem _ hq)) w.tail h1
  ·rename_i s1 h1
   have ih:=makeF_says (r:=⟨0#32,0#32,0#64,[]⟩) (fun q hq=>hp q (List.mem_cons_of_mem _ hq)) h1
   split at h
   ·rename_i e2 h2
    exact (part_err ih (hp p (List.mem_cons_self ..)) h2 (den_names _ _) (w [] p _ rfl)).elim
   ·split at h
    ·cases h; rfl
    ·cases h
end Go.AM
end
section
namespace Go.AM
set_option maxRecDepth 20000
section
variable {E:Sy} {H H' H0 Z:AH} {Q:Value->AH->Prop} {X:List Res} {lw m:Nat} {s:LwD}
theorem big_put (s:LwD) (p:PartD):(s.put p).big=s.big+1:=by simp only [LwD.big,LwD.put,List.length_append,List.length_cons,List.length_nil]; omega
theorem big_new (s:LwD):s.new.big=s.big+1:=by simp only [LwD.big,LwD.new]; omega
theorem big_act (s:LwD) (a:BitVec 32):(s.act a).1.big<=s.big+2:=by
 unfold LwD.act
 split
 ·exact Nat.le_add_right _ _
 ·simp only [LwD.big,List.length_append,List.length_cons,List.length_nil]; omega
theorem Lw.cells (h:Lw H0 Z H lw m s X):∃ lv ov,H.get lw = .cells [lv,vi s.last,vi s.other,.map (some m),ov] none:=by
 obtain ⟨lv,ov,h⟩:=h
 exact ⟨lv,ov,h.box (k:=0) rfl⟩
theorem MapAt.look_nat {r:Nat} {l:List (BitVec 32×Nat)} (h:MapAt u32 natV H r l) (a:BitVec 32) (ok:Bool):AM.look 0 (.int .i64 0) ok (.map (some r)) (u32 a) H=some (if ok then .tuple #[vi ((alook a l).getD 0:Nat),.bool (alook a l).isSome] else vi ((alook a l).getD 0:Nat)):=by
 have:=h.look (kd:=0) same_u32 a (.int .i64 0) ok
 cases hk:alook a l with
 | none=>unfold alook at hk; rw [hk] at this; rw [this]; cases ok <;> rfl
 | some n=>unfold alook at hk; rw [hk] at this; rw [this]; cases ok <;> rfl
theorem Lw.look (h:Lw H0 Z H lw m s X) (a:BitVec 32) (ok:Bool):AM.look 0 (.int .i64 0) ok (.map (some m)) (u32 a) H=some (if ok then .tuple #[vi ((alook a s.acts).getD 0:Nat),.bool (alook a s.acts).isSome] else vi ((alook a s.acts).getD 0:Nat)):=by
 obtain ⟨lv,ov,h⟩:=h
 exact (h.mapAt (k:=2) (fk:=u32) (fv:=natV) (r:=m) (l:=s.acts) rfl).look_nat a ok
theorem S.f46 (hE:Fold E) (h:Lw H0 Z H lw m s X) (hb:s.big<2 ^ 29) (a:BitVec 32) (hQ:∀ H',Lw H0 Z H' lw m (s.act a).1 X->Q (vi ((s.act a).2:Nat)) H'):E.call (E.fid i.f46) [ptr lw 0,u32 a] H Q:=by
 apply hE.f46
 obtain ⟨lv,ov,hbx⟩:=h.cells
 have hl:=h.look a true
 cases hf:alook a s.acts with
 | some n =>
  have hact:s.act a=(s,n):=by unfold LwD.act; rw [hf]
  rw [hf] at hl
  rw [hact] at hQ
  have hl:AM.look 0 (.int .i64 0) true (.map (some m)) (u32 a) H=some (.tuple #[vi n,.bool true]):=hl
  simp only [F.f46,hbx,hl,stdZ]
  exact hQ _ h
 | none =>
  have hact:s.act a=({ s with last:=s.last+1,acts:=aset a (s.last+1) s.acts,order:=s.order++[a] },s.last+1):=by unfold LwD.act; rw [hf]
  rw [hf] at hl
  rw [hact] at hQ
  have hl:AM.look 0 (.int .i64 0) true (.map (some m)) (u32 a) H=some (.tuple #[vi (0:Nat),.bool false]):=hl
  simp only [F.f46,hbx,hl,stdZ]
  refine S.f31 hE h (by omega) fun H1 g =>?_
  obtain ⟨lv,ov,g⟩:=g
  have hb1:=g.box (k:=0) rfl
  obtain ⟨H2,m1,g2⟩:=g.mapset (n:=2) (r:=m) (l:=s.acts) (fk:=u32) (fv:=natV) rfl same_u32 a (s.last+1)
  have m1:setMap 0 (.map (some m)) (u32 a) (vi ((s.last+1:Nat):Int)) H1=some H2:=m1
  have g2:Has H0 Z H2 ([boxR lw [lv,vi ((s.last+1:Nat):Int),vi s.other,.map (some m),ov],growR 7 lv (partR s.parts),mapR u32 natV m (aset a (s.last+1) s.acts),growR 1 ov (a32R s.order)]++X):=g2
  have hb2:=g2.box (k:=0) rfl
  have hlen:(a32R s.order).length<2 ^ 29:=by unfold LwD.big at hb; simp only [a32R,List.length_map]; omega
  obtain ⟨v',H3,a1,a2,g3⟩:=g2.app1 (k:=3) (sz:=1) (v:=ov) (rows:=a32R s.order) (bytes:=4) rfl [u32 a] rfl rfl (by decide) (by decide) (by omega)
  have hbS:buildS 1 1 #[(.int .u32 0)] [(0,u32 a)]=some (.cells [u32 a] none,mkSlc 1 1):=buildS_one 1 [u32 0#32] [u32 a] rfl rfl
  have g3:Has H0 Z H3 ([boxR lw [lv,vi ((s.last+1:Nat):Int),vi s.other,.map (some m),ov],growR 7 lv (partR s.parts),mapR u32 natV m (aset a (s.last+1) s.acts),growR 1 v' (a32R s.order++[[u32 a]])]++X):=g3
  have hb3:=g3.box (k:=0) rfl
  have hst:store1 (ptr lw 4) v' H3=some (H3.put lw (.cells [lv,vi ((s.last+1:Nat):Int),vi s.other,.map (some m),v'] none)):=by
   rw [store1_ptr,if_pos a2,hb3]; rfl
  have g4:=g3.put (k:=0) rfl [lv,vi ((s.last+1:Nat):Int),vi s.other,.map (some m),v']
  simp only [hb1,m1,hb2,hbS,mkSlc_eq,AM.mk_some,a1,hst,stdZ]
  refine hQ _ ⟨lv,v',?_⟩
  have hr:a32R (s.order++[a])=a32R s.order++[[u32 a]]:=by simp [a32R]
  show Has H0 Z _ (boxR lw [lv,vi ((s.last+1:Nat):Int),vi s.other,.map (some m),v'] :: growR 7 lv (partR s.parts) :: mapR u32 natV m (aset a (s.last+1) s.acts) :: growR 1 v' (a32R (s.order++[a])) :: X)
  rw [hr]
  exact g4
theorem S.f52 (hE:Fold E) (h:Lw H0 Z H lw m s X) (hb:s.big<2 ^ 29) (c:CondD) (n:Nat) (hQ:∀ H',Lw H0 Z H' lw m (s.second c n) X->Q (.tuple #[]) H'):E.call (E.fid i.f52) [ptr lw 0,c.v,vi n] H Q:=by
 apply hE.f52
 have h1:=h.newbox c.cells
 simp only [F.f52,boxO_agg_z,AM.mk_some,mkPtr_eq_z,List.toList_toArray,stdZ]
 generalize H.new (.cells c.cells none)=H1 at *
 generalize H.next=t at *
 refine S.f29 hE h1 (by omega) n fun H2 h2 =>?_
 have hbx:=h2.box
 have c0:c.cells[0]? = some (vi c.arg):=rfl
 simp only [hbx,c0,stdZ]
 refine S.f81 hE c.arg false ?_
 refine S.f16 hE _ fun H3 e3 =>?_
 have hv:∀ k,insnV 32 0 0 k=(iLoad k).v:=fun _=>rfl
 rw [hv]
 refine S.f33 hE (h2.grow e3) (by rw [big_put]; omega) _ fun H4 h4 =>?_
 exact hQ _ h4.dropLast
theorem big_second (s:LwD) (c:CondD) (n:Nat):(s.second c n).big=s.big+2:=by unfold LwD.second; rw [big_put,big_put]
end
end Go.AM
end
section
namespace Go.AM
set_option maxRecDepth 20000
section
variable {E:Sy} {H H' H0 Z:AH} {Q:Value->AH->Prop} {X:List Res} {lw m:Nat} {s:LwD}
theorem Lw.cload {t:Nat} {c:CondD} (h:Lw H0 Z H lw m s (X++[boxR t c.cells])):loadN 4 (ptr t 0) H=some c.v:=by
 rw [loadN_ptr,h.box,row_all _ _ 4 rfl]; rfl
theorem S.f51 (hE:Fold E) (h:Lw H0 Z H lw m s X) (hb:s.big<2 ^ 28) (c:CondD) (how:BitVec 16) (yes no:Nat) (hQ:∀ H',Lw H0 Z H' lw m (s.order64 c how yes no) X->Q (.tuple #[]) H'):E.call (E.fid i.f51) [ptr lw 0,c.v,u16 how,vi yes,vi no] H Q:=by
 apply hE.f51
 have h1:=h.newbox c.cells
 have hb1:=AH.get_new_self H (.cells c.cells none)
 have c3:c.cells[3]? = some (u64 c.value):=rfl
 have k32:(.int .u16 32:Value)=u16 32#16:=rfl
 have k16:(.int .u16 16:Value)=u16 16#16:=rfl
 have ks:binInt .shr (u64 c.value) (.int .u64 32)=some (u64 (c.value >>> 32)):=u64_shr_lit _ _ 32
 have kh:convInt .u32 (u64 (c.value >>> 32))=some (u32 (hi32 c.value)):=u64_to_u32 _
 have kl:convInt .u32 (u64 c.value)=some (u32 (lo32 c.value)):=u64_to_u32 _
 simp only [F.f51,boxO_agg_z,AM.mk_some,mkPtr_eq_z,List.toList_toArray,hb1,c3,ks,kh,kl,k32,k16,stdZ]
 generalize H.new (.cells c.cells none)=H1 at *
 generalize H.next=t at *
 refine S.f31 hE h1 (by omega) fun H2 h2 =>?_
 refine S.f31 hE h2 (by rw [big_new]; omega) fun H3 h3 =>?_
 refine S.f30 hE h3 (by simp only [big_new]; omega) 32#16 _ _ _ fun H4 h4 =>?_
 refine S.f29 hE h4 (by simp only [big_new,big_put]; omega) _ fun H5 h5 =>?_
 refine S.f30 hE h5 (by simp only [big_new,big_put]; omega) 16#16 _ _ _ fun H6 h6 =>?_
 have b6:=h6.cload
 simp only [b6,stdZ]
 refine S.f52 hE h6 (by simp only [big_new,big_put]; omega) c _ fun H7 h7 =>?_
 refine S.f30 hE h7 (by simp only [big_new,big_put,big_second]; omega) how _ _ _ fun H8 h8 =>?_
 exact hQ _ h8.dropLast
theorem big_order64 (s:LwD) (c:CondD) (how:BitVec 16) (yes no:Nat):(s.order64 c how yes no).big=s.big+8:=by
 unfold LwD.order64
 simp only [big_new,big_put,big_second]
theorem big_condOn (s:LwD) (c:CondD) (next yes no:Nat):(s.condOn c next yes no).big<=s.big+8:=by
 unfold LwD.condOn
 repeat' split
 all_goals simp only [big_new,big_put,big_second,big_order64] <;> omega
theorem big_cond (s:LwD) (c:CondD) (yes no:Nat):(s.cond c yes no).big<=s.big+10:=by
 unfold LwD.cond
 have:=big_condOn (s.new.put (pPlain (iLoad (halfOf c.arg true)))) c (s.last+1) yes no
 simp only [big_new,big_put] at this
 omega
theorem S.f49 (hE:Fold E) (h:Lw H0 Z H lw m s X) (hb:s.big<2 ^ 27) (c:CondD) (yes no:Nat) (hQ:∀ H',Lw H0 Z H' lw m (s.cond c yes no) X->Q (.tuple #[]) H'):E.call (E.fid i.f49) [ptr lw 0,c.v,vi yes,vi no] H Q:=by
 apply hE.f49
 have h1:=h.newbox c.cells
 have hb1:=AH.get_new_self H (.cells c.cells none)
 have c0:c.cells[0]? = some (vi c.arg):=rfl
 have c1:c.cells[1]? = some (u8 c.op):=rfl
 have c2:c.cells[2]? = some (u64 c.mask):=rfl
 have c3:c.cells[3]? = some (u64 c.value):=rfl
 have k16:(.int .u16 16:Value)=u16 16#16:=rfl
 have k32:(.int .u16 32:Value)=u16 32#16:=rfl
 have k48:(.int .u16 48:Value)=u16 48#16:=rfl
 have q1:(.int .u8 1:Value)=u8 1#8:=rfl
 have q2:(.int .u8 2:Value)=u8 2#8:=rfl
 have q3:(.int .u8 3:Value)=u8 3#8:=rfl
 have q4:(.int .u8 4:Value)=u8 4#8:=rfl
 have q5:(.int .u8 5:Value)=u8 5#8:=rfl
 have q6:(.int .u8 6:Value)=u8 6#8:=rfl
 have q7:(.int .u8 7:Value)=u8 7#8:=rfl
 have ks:∀ x:BitVec 64,binInt .shr (u64 x) (.int .u64 32)=some (u64 (x >>> 32)):=fun x=>u64_shr_lit _ _ 32
 have kh:∀ x:BitVec 64,convInt .u32 (u64 (x >>> 32))=some (u32 (hi32 x)):=fun x=>u64_to_u32 _
 have kl:∀ x:BitVec 64,convInt .u32 (u64 x)=some (u32 (lo32 x)):=fun x=>u64_to_u32 _
 simp only [F.f49,boxO_agg_z,AM.mk_some,mkPtr_eq_z,List.toList_toArray,hb1,c3,ks,kh,kl,stdZ]
 generalize H.new (.cells c.cells none)=H1 at *
 generalize H.next=t at *
 refine S.f31 hE h1 (by omega) fun H2 h2 =>?_
 have b2:=h2.box
 simp only [b2,c0,stdZ]
 refine S.f81 hE c.arg true ?_
 refine S.f16 hE _ fun H3 e3 =>?_
 have hv:∀ k,insnV 32 0 0 k=(iLoad k).v:=fun _=>rfl
 rw [hv]
 refine S.f33 hE (h2.grow e3) (by rw [big_new]; omega) _ fun H5 h5 =>?_
 have b5:=h5.box
 have l5:=h5.cload
 have hbg:(s.new.put (pPlain (iLoad (halfOf c.arg true)))).big=s.big+2:=by simp only [big_new,big_put]
 have h5:Lw H0 Z H5 lw m (s.new.put (pPlain (iLoad (halfOf c.arg true)))) (X++[boxR t c.cells]):=h5
 unfold LwD.cond at hQ
 generalize s.new.put (pPlain (iLoad (halfOf c.arg true)))=s5 at *
 simp only [b5,c1,q1,u8_eql,stdZ]
 by_cases o1:c.op=1#8
 ·have hc:∀ n,s5.condOn c n yes no=((s5.put (pIf 16#16 (hi32 c.value) n no)).second c n).put (pIf 16#16 (lo32 c.value) yes no):=fun n=>by unfold LwD.condOn; rw [if_pos o1]
  have hd:decide (c.op=1#8)=true:=by simpa using o1
  rw [hc] at hQ
  simp only [hd,k16,stdZ]
  refine S.f30 hE h5 (by omega) 16#16 _ _ _ fun H6 h6 =>?_
  have b6:=h6.cload
  simp only [b6,stdZ]
  refine S.f52 hE h6 (by simp only [big_put]; omega) c _ fun H7 h7 =>?_
  refine S.f30 hE h7 (by simp only [big_put,big_second]; omega) 16#16 _ _ _ fun H8 h8 =>?_
  exact hQ _ h8.dropLast
 have hd1:decide (c.op=1#8)=false:=by simpa using o1
 simp only [hd1,q2,u8_eql,stdZ]
 by_cases o2:c.op=2#8
 ·have hc:∀ n,s5.condOn c n yes no=((s5.put (pIf 16#16 (hi32 c.value) n yes)).second c n).put (pIf 16#16 (lo32 c.value) no yes):=fun n=>by unfold LwD.condOn; rw [if_neg o1,if_pos o2]
  have hd:decide (c.op=2#8)=true:=by simpa using o2
  rw [hc] at hQ
  simp only [hd,k16,stdZ]
  refine S.f30 hE h5 (by omega) 16#16 _ _ _ fun H6 h6 =>?_
  have b6:=h6.cload
  simp only [b6,stdZ]
  refine S.f52 hE h6 (by simp only [big_put]; omega) c _ fun H7 h7 =>?_
  refine S.f30 hE h7 (by simp only [big_put,big_second]; omega) 16#16 _ _ _ fun H8 h8 =>?_
  exact hQ _ h8.dropLast
 have hd2:decide (c.op=2#8)=false:=by simpa using o2
 simp only [hd2,q5,u8_eql,stdZ]
 by_cases o5:c.op=5#8
 ·have hc:∀ n,s5.condOn c n yes no=s5.order64 c 32#16 yes no:=fun n=>by unfold LwD.condOn; rw [if_neg o1,if_neg o2,if_pos o5]
  have hd:decide (c.op=5#8)=true:=by simpa using o5
  rw [hc] at hQ
  simp only [hd,l5,k32,stdZ]
  exact S.f51 hE h5 (by omega) c 32#16 _ _ fun H6 h6=>hQ _ h6.dropLast
 have hd5:decide (c.op=5#8)=false:=by simpa using o5
 simp only [hd5,q6,u8_eql,stdZ]
 by_cases o6:c.op=6#8
 ·have hc:∀ n,s5.condOn c n yes no=s5.order64 c 48#16 yes no:=fun n=>by unfold LwD.condOn; rw [if_neg o1,if_neg o2,if_neg o5,if_pos o6]
  have hd:decide (c.op=6#8)=true:=by simpa using o6
  rw [hc] at hQ
  simp only [hd,l5,k48,stdZ]
  exact S.f51 hE h5 (by omega) c 48#16 _ _ fun H6 h6=>hQ _ h6.dropLast
 have hd6:decide (c.op=6#8)=false:=by simpa using o6
 simp only [hd6,q3,u8_eql,stdZ]
 by_cases o3:c.op=3#8
 ·have hc:∀ n,s5.condOn c n yes no=s5.order64 c 48#16 no yes:=fun n=>by unfold LwD.condOn; rw [if_neg o1,if_neg o2,if_neg o5,if_neg o6,if_pos o3]
  have hd:decide (c.op=3#8)=true:=by simpa using o3
  rw [hc] at hQ
  simp only [hd,l5,k48,stdZ]
  exact S.f51 hE h5 (by omega) c 48#16 _ _ fun H6 h6=>hQ _ h6.dropLast
 have hd3:decide (c.op=3#8)=false:=by simpa using o3
 simp only [hd3,q4,u8_eql,stdZ]
 by_cases o4:c.op=4#8
 ·have hc:∀ n,s5.condOn c n yes no=s5.order64 c 32#16 no yes:=fun n=>by unfold LwD.condOn; rw [if_neg o1,if_neg o2,if_neg o5,if_neg o6,if_neg o3,if_pos o4]
  have hd:decide (c.op=4#8)=true:=by simpa using o4
  rw [hc] at hQ
  simp only [hd,l5,k32,stdZ]
  exact S.f51 hE h5 (by omega) c 32#16 _ _ fun H6 h6=>hQ _ h6.dropLast
 have hd4:decide (c.op=4#8)=false:=by simpa using o4
 simp only [hd4,q7,u8_eql,stdZ]
 by_cases o7:c.op=7#8
 ·have hc:∀ n,s5.condOn c n yes no=((((s5.put (pPlain (iMask (hi32 c.mask)))).put (pIf 16#16 (hi32 c.value) n no)).second c n).put (pPlain (iMask (lo32 c.mask)))).put (pIf 16#16 (lo32 c.value) yes no):=fun n=>by unfold LwD.condOn; rw [if_neg o1,if_neg o2,if_neg o5,if_neg o6,if_neg o3,if_neg o4,if_pos o7]
  have hd:decide (c.op=7#8)=true:=by simpa using o7
  have hm:∀ k,insnV 84 0 0 k=(iMask k).v:=fun _=>rfl
  rw [hc] at hQ
  simp only [hd,b5,c2,ks,kh,stdZ]
  refine S.f17 hE _ fun H6 e6 =>?_
  rw [hm]
  refine S.f33 hE (h5.grow e6) (by omega) _ fun H7 h7 =>?_
  simp only [k16,stdZ]
  refine S.f30 hE h7 (by simp only [big_put]; omega) 16#16 _ _ _ fun H8 h8 =>?_
  have b8:=h8.cload
  simp only [b8,stdZ]
  refine S.f52 hE h8 (by simp only [big_put]; omega) c _ fun H9 h9 =>?_
  have b9:=h9.box
  simp only [b9,c2,kl,stdZ]
  refine S.f17 hE _ fun H10 e10 =>?_
  rw [hm]
  refine S.f33 hE (h9.grow e10) (by simp only [big_put,big_second]; omega) _ fun H11 h11 =>?_
  simp only [k16,stdZ]
  refine S.f30 hE h11 (by simp only [big_put,big_second]; omega) 16#16 _ _ _ fun H12 h12 =>?_
  exact hQ _ h12.dropLast
 have hd7:decide (c.op=7#8)=false:=by simpa using o7
 have hc:∀ n,s5.condOn c n yes no=s5.put (pGoto no):=fun n=>by unfold LwD.condOn; rw [if_neg o1,if_neg o2,if_neg o5,if_neg o6,if_neg o3,if_neg o4,if_neg o7]
 rw [hc] at hQ
 simp only [hd7,stdZ]
 exact S.f28 hE h5 (by omega) no fun H6 h6=>hQ _ h6.dropLast
end
end Go.AM
end
section
namespace Go.AM
set_option maxRecDepth 20000
def wC (b:BranchD):Nat:=12*b.conds.length+5
def wB (l:List BranchD):Nat:=(l.map wC).sum+1
section
variable {E:Sy} {H H' H0 Z:AH} {Q:Value->AH->Prop} {X:List Res} {lw m:Nat} {s:LwD}
theorem Ext.row (e:Ext H H') {b o n:Nat} {c:List Value} (hr:(H.get b).row o n=some c):(H'.get b).row o n=some c:=by
 have:H'.get b=H.get b:=e.obj (o:=H.get b) (fun hd=>by rw [hd] at hr; cases hr) rfl
 rw [this]; exact hr
theorem conds_take (no:Nat) (l:List CondD) (s:LwD) {j:Nat} (hj:j<l.length):LwD.conds no (l.take (j+1)) s=LwD.condStep no (LwD.conds no (l.take j) s) l[j]:=by
 unfold LwD.conds
 rw [List.take_succ,List.getElem?_eq_getElem hj,List.foldl_append]; rfl
theorem big_conds (no:Nat):∀ (l:List CondD) (s:LwD),(LwD.conds no l s).big<=s.big+12*l.length
 | [],s=>by simp [LwD.conds]
 | c :: l,s=>by
  have h1:=big_conds no l (LwD.condStep no s c)
  have h2:(LwD.condStep no s c).big<=s.big+12:=by
   unfold LwD.condStep
   have:=big_cond s.new c (s.last+1) no
   simp only [big_put,big_new] at *
   omega
  show (LwD.conds no l (LwD.condStep no s c)).big<=_
  simp only [List.length_cons]
  omega
theorem big_branch (s:LwD) (b:BranchD):(s.branch b).big<=s.big+wC b:=by
 unfold LwD.branch wC
 have h1:=big_conds (s.last+1) b.conds s.new
 have h2:=big_act (LwD.conds (s.last+1) b.conds s.new) b.action
 simp only [big_put,big_new] at *
 omega
theorem big_foldb:∀ (l:List BranchD) (s:LwD),(l.foldl LwD.branch s).big<=s.big+(l.map wC).sum
 | [],s=>by simp
 | b :: l,s=>by
  have h1:=big_foldb l (s.branch b)
  have h2:=big_branch s b
  simp only [List.foldl_cons,List.map_cons,List.sum_cons]
  omega
theorem big_branches (l:List BranchD) (s:LwD):(LwD.branches l s).big<=s.big+wB l:=by
 unfold LwD.branches wB
 have:=big_foldb l s
 simp only [big_put]
 omega
theorem branches_l2 (hE:Fold E) {b:BranchD} {cv:Value} (hv:Rows H0 4 cv (condR b.conds)) {tb:Nat} (h:Lw H0 Z H lw m s (X++[boxR tb [cv,u32 b.action]])) (hb:s.big+12*b.conds.length<2 ^ 25) (no:Nat) (hl:b.conds.length<2 ^ 30) {t10:Value} {ln j:Nat} (hj:j<2 ^ 30) {X0:List Value->AH->Prop}
  (next:∀ H',Lw H0 Z H' lw m ((((LwD.conds no b.conds s).act b.action).1.put (pGoto ((LwD.conds no b.conds s).act b.action).2)).put (pHere no)) X->X0 [ptr lw 0,t10,vi ln,vi ((j+1:Nat):Int)] H') :
  LoopL (fun l H X1=>F.f47_l2 E Q X0 (nth l 0) (nth l 1) (nth l 2) (nth l 3) (nth l 4) (nth l 5) (nth l 6) (nth l 7) (nth l 8) H X1) [ptr lw 0,ptr tb 0,vi no,t10,vi ln,vi j,cv,vi b.conds.length,(.int .i64 0)] H:=by
 have i0:(.int .i64 0:Value)=vi ((0:Nat):Int):=rfl
 rw [i0]
 refine LoopL.count b.conds.length (fun k ls H'=>ls=[ptr lw 0,ptr tb 0,vi no,t10,vi ln,vi j,cv,vi b.conds.length,vi k]/\Lw H0 Z H' lw m (LwD.conds no (b.conds.take k) s) (X++[boxR tb [cv,u32 b.action]])) ?_ ⟨rfl,by simpa [LwD.conds] using h⟩
 rintro k _ H1 X1 hk ih ⟨rfl,g⟩
 rcases Nat.lt_or_ge k b.conds.length with hlt | hge
 ·have hc:=hv.mono g.ext
  obtain ⟨bb,o,f1,f2⟩:=hc.ix (i:=k) (by simpa [condR] using hlt)
  have hrow:(condR b.conds)[k]'(by simpa [condR] using hlt)=b.conds[k].cells:=by simp [condR]
  rw [hrow] at f2
  have lo:loadN 4 (ptr bb o) H1=some b.conds[k].v:=by rw [loadN_ptr,f2]; rfl
  have hlt':(k:Int)<b.conds.length:=by omega
  have hbg:=big_conds no (b.conds.take k) s
  have hln:(b.conds.take k).length=k:=by rw [List.length_take]; omega
  rw [hln] at hbg
  have hnext:=conds_take no b.conds s hlt
  have hinc:=i64_inc (i:=k) (by omega)
  generalize b.conds[k]=c at *
  generalize LwD.conds no (b.conds.take k) s=s1 at *
  have g1:=g.newbox c.cells
  have hst:=cond_new c H1
  simp only [F.f47_l2,i64_lss,hlt',decide_true,f1,lo,allocW_eq,hst,stdZ]
  generalize H1.new (.cells c.cells none)=H2 at *
  generalize H1.next=t at *
  refine S.f31 hE g1 (by omega) fun H3 g2 =>?_
  have l2:=g2.cload
  simp only [l2,stdZ]
  refine S.f49 hE g2 (by simp only [big_new]; omega) c _ _ fun H4 g3 =>?_
  have hb4:=big_cond s1.new c (s1.last+1) no
  simp only [big_new] at hb4
  simp only [stdZ]
  refine S.f29 hE g3 (by omega) _ fun H5 g4 =>?_
  simp only [hinc,stdZ]
  refine ih hlt _ _ ⟨rfl,?_⟩
  rw [hnext]
  exact g4.dropLast
 ·have hke:k=b.conds.length:=by omega
  subst hke
  rw [List.take_length] at g
  have hlt':¬ ((b.conds.length:Int)<b.conds.length):=by omega
  have hbg:=big_conds no b.conds s
  have hbx:=g.box
  have hinc:=i64_inc (i:=j) (by omega)
  generalize LwD.conds no b.conds s=s1 at *
  simp only [F.f47_l2,i64_lss,hlt',decide_false,hbx,stdZ]
  refine S.f46 hE g (by omega) _ fun H2 g2 =>?_
  have hb2:=big_act s1 b.action
  refine S.f28 hE g2 (by omega) _ fun H3 g3 =>?_
  simp only [stdZ]
  refine S.f29 hE g3 (by simp only [big_put]; omega) _ fun H4 g4 =>?_
  simp only [hinc,stdZ]
  exact next _ g4.dropLast
theorem S.f47 (hE:Fold E) {l:List BranchD} {v:Value} (hv:SliceOf (BranchAt 0) H0 2 v l) (h:Lw H0 Z H lw m s X) (hb:s.big+wB l<2 ^ 25) (hl:l.length<2 ^ 30) (hQ:∀ H',Lw H0 Z H' lw m (LwD.branches l s) X->Q (.tuple #[]) H'):E.call (E.fid i.f47) [ptr lw 0,v] H Q:=by
 apply hE.f47
 have i0:(.int .i64 0:Value)=vi ((0:Nat):Int):=rfl
 have hlv:=hv.lenSlc
 simp only [F.f47,hlv,i0,stdZ]
 refine LoopL.count l.length (fun k ls H'=>ls=[ptr lw 0,v,vi l.length,vi k]/\Lw H0 Z H' lw m ((l.take k).foldl LwD.branch s) X) ?_ ⟨rfl,by simpa using h⟩
 rintro k _ H1 X1 hk ih ⟨rfl,g⟩
 have hbg:=big_foldb (l.take k) s
 rcases Nat.lt_or_ge k l.length with hlt | hge
 ·obtain ⟨bb,o,cs,f1,f2,f3⟩:=hv.ix hlt
  have f2:=g.ext.row f2
  obtain ⟨f0,cv,rfl,f5,_⟩:=f3
  have hcv:plain1 cv=true:=f5.plain
  have lo:loadN 2 (ptr bb o) H1=some (.agg [cv,u32 l[k].action].toArray):=by rw [loadN_ptr,f2]; rfl
  have hlt':(k:Int)<l.length:=by omega
  have hsum:((l.take k).map wC).sum+wC l[k]<=(l.map wC).sum:=by
   have h1:l=l.take k++l[k] :: l.drop (k+1):=by rw [List.getElem_cons_drop,List.take_append_drop]
   conv=>rhs; rw [h1]
   simp only [List.map_append,List.map_cons,List.sum_append,List.sum_cons]
   omega
  have hstep:(l.take (k+1)).foldl LwD.branch s=((l.take k).foldl LwD.branch s).branch l[k]:=by
   rw [List.take_succ,List.getElem?_eq_getElem hlt,List.foldl_append]; rfl
  have hbr:=big_branch ((l.take k).foldl LwD.branch s) l[k]
  unfold wB at hb
  generalize l[k]=b at *
  generalize (l.take k).foldl LwD.branch s=s1 at *
  have hst:storeN 2 (ptr H1.next 0) (.agg [cv,u32 b.action].toArray) (H1.new (.cells [(.slice none 0 0),(.int .u32 0)] none))=some (H1.new (.cells [cv,u32 b.action] none)):=two_store rfl rfl (by simp [hcv])
  have g1:=g.newbox [cv,u32 b.action]
  simp only [F.f47_l1,i64_lss,hlt',decide_true,f1,lo,allocW_eq,hst,stdZ]
  generalize H1.new (.cells [cv,u32 b.action] none)=H2 at *
  generalize H1.next=t at *
  have hwc:wC b=12*b.conds.length+5:=rfl
  rw [hwc] at hsum hbr
  refine S.f31 hE g1 (by omega) fun H3 g2 =>?_
  have b3:=g2.box
  have hcl:=f5.lenSlc
  have hcl2:(condR b.conds).length=b.conds.length:=by simp [condR]
  rw [hcl2] at hcl
  simp only [b3,hcl,stdZ]
  refine branches_l2 hE f5 g2 (by simp only [big_new]; omega) _ f0 (by omega) fun H4 g3 =>?_
  refine ih hlt _ _ ⟨rfl,?_⟩
  rw [hstep]
  exact g3
 ·have hke:k=l.length:=by omega
  subst hke
  rw [List.take_length] at g hbg
  have hlt':¬ ((l.length:Int)<l.length):=by omega
  obtain ⟨lv,ov,hbx⟩:=g.cells
  unfold wB at hb
  unfold LwD.branches at hQ
  simp only [F.f47_l1,i64_lss,hlt',decide_false,hbx,stdZ]
  exact S.f28 hE g (by omega) _ hQ
end
end Go.AM
end
section
namespace Go.AM
set_option maxRecDepth 20000
section
variable {E:Sy} {H H' H0 Z:AH} {Q:Value->AH->Prop} {X:List Res} {lw m:Nat} {s:LwD}
theorem SliceOf.cut {α:Type} {R:AH->α->List Value->Prop} {sz:Nat} {v:Value} {l:List α} (h:SliceOf R H sz v l) {lo hi:Option Value} {i j:Nat} (hlo:lo=some (vi i)\/lo=none/\i=0) (hhi:hi=some (vi j)\/hi=none/\j=l.length) (hij:i<=j) (hj:j<=l.length) :
  SliceOf R H sz (sliceV sz v i j) ((l.take j).drop i):=by
 obtain ⟨rows,h1,h2,h3⟩:=h
 obtain ⟨a,b⟩:=h1.slice' (lo:=some (vi i)) (hi:=some (vi j)) (.inl rfl) (.inl rfl) hij (by omega)
 refine ⟨_,b,by simp [h2],fun k k1 k2 =>?_⟩
 simp only [List.getElem_drop,List.getElem_take]
 exact h3 _ _ _
theorem SliceOf.sl {α:Type} {R:AH->α->List Value->Prop} {sz:Nat} {v:Value} {l:List α} (h:SliceOf R H0 sz v l) (hm:∀ (H H':AH) (a:α) (c:List Value),R H a c->Sub H H'->R H' a c) (e:Ext H0 H) {lo hi:Option Value} {i j:Nat} (hlo:lo=some (vi i)\/lo=none/\i=0) (hhi:hi=some (vi j)\/hi=none/\j=l.length) (hij:i<=j) (hj:j<=l.length) :
  slSlc sz v lo hi none H=some (sliceV sz v i j):=by
 obtain ⟨rows,h1,h2,h3⟩:=h.sub hm e.sub
 exact (h1.slice' hlo (by rw [h2]; exact hhi) hij (by omega)).1
theorem CaseAt.sub':∀ (H H':AH) (a:CaseD) (c:List Value),CaseAt 0 H a c->Sub H H'->CaseAt 0 H' a c:=fun _ _ _ _ h e=>h.sub e
theorem numAt_eq {l:List CaseD} {k:Nat} (hk:k<l.length):numAt l k=l[k].number:=by simp [numAt,hk]
theorem big_choose (st:List (BitVec 32×Nat)):∀ (f:Nat) (l:List CaseD) (s:LwD),l.length<f->(LwD.choose st f l s).big+(if l.length=0 then 0 else 6)<=s.big+7*l.length+1
 | 0,l,s,h=>by omega
 | f+1,l,s,h=>by
  unfold LwD.choose
  split
  ·rename_i h0
   rw [big_put]; omega
  ·rename_i h0
   split
   ·rw [big_put]; omega
   ·have h1:=big_choose st f (l.take (l.length / 2)) ((s.new.new.put (pIf 48#16 (numAt l (l.length / 2)) (s.last+2) (s.last+1))).put (pHere (s.last+1))) (by rw [List.length_take]; omega)
    have h2:=big_choose st f (l.drop (l.length / 2)) ((LwD.choose st f (l.take (l.length / 2)) ((s.new.new.put (pIf 48#16 (numAt l (l.length / 2)) (s.last+2) (s.last+1))).put (pHere (s.last+1)))).put (pHere (s.last+2))) (by rw [List.length_drop]; omega)
    rw [if_neg (by rw [List.length_take]; omega),List.length_take] at h1
    rw [if_neg (by rw [List.length_drop]; omega),List.length_drop] at h2
    simp only [big_put,big_new] at *
    omega
theorem S.f48 (hE:Fold E) {st:List (BitVec 32×Nat)} {sm:Nat}:∀ (f:Nat) {l:List CaseD} {v:Value} {s:LwD} {H:AH} {Q:Value->AH->Prop},l.length<f->SliceOf (CaseAt 0) H0 2 v l->Lw H0 Z H lw m s (mapR u32 natV sm st :: X)->s.big+7*l.length+1<2 ^ 25 ->
  (∀ H',Lw H0 Z H' lw m (LwD.choose st f l s) (mapR u32 natV sm st :: X)->Q (.tuple #[]) H')->E.call (E.fid i.f48) [ptr lw 0,v,.map (some sm)] H Q
 | 0,_,_,_,_,_,hf,_,_,_,_=>by omega
 | f+1,l,v,s,H,Q,hf,hv,h,hb,hQ=>by
  apply hE.f48
  have hlv:=hv.lenSlc
  have i0:(.int .i64 0:Value)=vi ((0:Nat):Int):=rfl
  have i1:(.int .i64 1:Value)=vi ((1:Nat):Int):=rfl
  obtain ⟨lv,ov,hbx⟩:=h.cells
  have k16:(.int .u16 16:Value)=u16 16#16:=rfl
  have k48:(.int .u16 48:Value)=u16 48#16:=rfl
  unfold LwD.choose at hQ
  simp only [F.f48,hlv,i0,i64_eql,stdZ]
  by_cases h0:l.length=0
  ·have hd:decide ((l.length:Int)=((0:Nat):Int))=true:=decide_eq_true (by omega)
   rw [if_pos h0] at hQ
   simp only [hd,hbx,stdZ]
   exact S.f28 hE h (by omega) _ hQ
  have hd0:decide ((l.length:Int)=((0:Nat):Int))=false:=decide_eq_false (by omega)
  rw [if_neg h0] at hQ
  simp only [hd0,i1,i64_eql,stdZ]
  by_cases h1:l.length=1
  ·have hd:decide ((l.length:Int)=((1:Nat):Int))=true:=decide_eq_true (by omega)
   rw [if_pos h1,numAt_eq (by omega)] at hQ
   obtain ⟨bb,o,cs,f1,f2,f3⟩:=hv.ix (i:=0) (by omega)
   have f2:=h.ext.row f2
   have f1:ixSlc 2 v (.int .i64 0)=some (ptr bb o):=f1
   obtain ⟨bv,rfl,_⟩:=f3
   have hce:((H.get bb).cell o)=some (u32 l[0].number):=by have:=row_at f2 (j:=0) (by omega); simpa using this
   have hlk:AM.look 0 (.int .i64 0) false (.map (some sm)) (u32 l[0].number) H=some (vi (getN l[0].number st:Nat)):=by
    obtain ⟨lv,ov,h⟩:=h
    exact (h.mapAt (k:=4) (fk:=u32) (fv:=natV) (r:=sm) (l:=st) rfl).look_nat l[0].number false
   simp only [hd,f1,hce,hlk,hbx,k16,stdZ]
   exact S.f30 hE h (by omega) 16#16 _ _ _ hQ
  have hd1:decide ((l.length:Int)=((1:Nat):Int))=false:=decide_eq_false (by omega)
  rw [if_neg h1] at hQ
  have hq:=i64_quo_num l.length 2 (by decide) (by omega)
  have hhl:l.length / 2<l.length:=by omega
  have hcl:(l.take (l.length / 2)).length=l.length / 2:=by rw [List.length_take]; omega
  have hcr:(l.drop (l.length / 2)).length=l.length - l.length / 2:=by rw [List.length_drop]
  rw [numAt_eq hhl] at hQ
  obtain ⟨bb,o,cs,f1,f2,f3⟩:=hv.ix (i:=l.length / 2) hhl
  obtain ⟨bv,rfl,_⟩:=f3
  have hlow:=hv.cut (lo:=none) (hi:=some (vi (l.length / 2:Nat))) (i:=0) (j:=l.length / 2) (.inr ⟨rfl,rfl⟩) (.inl rfl) (Nat.zero_le _) (by omega)
  have hhigh:=hv.cut (lo:=some (vi (l.length / 2:Nat))) (hi:=none) (i:=l.length / 2) (j:=l.length) (.inl rfl) (.inr ⟨rfl,rfl⟩) (by omega) (Nat.le_refl _)
  have slow:∀ {H1:AH},Ext H0 H1->slSlc 2 v none (some (vi (l.length / 2:Nat))) none H1=some (sliceV 2 v 0 (l.length / 2)):=fun e=>hv.sl CaseAt.sub' e (.inr ⟨rfl,rfl⟩) (.inl rfl) (Nat.zero_le _) (by omega)
  have shigh:∀ {H1:AH},Ext H0 H1->slSlc 2 v (some (vi (l.length / 2:Nat))) none none H1=some (sliceV 2 v (l.length / 2) l.length):=fun e=>hv.sl CaseAt.sub' e (.inl rfl) (.inr ⟨rfl,rfl⟩) (by omega) (Nat.le_refl _)
  rw [List.drop_zero] at hlow
  rw [List.take_length] at hhigh
  have hbg:=big_choose st f (l.take (l.length / 2)) ((s.new.new.put (pIf 48#16 l[l.length / 2].number (s.last+2) (s.last+1))).put (pHere (s.last+1))) (by omega)
  generalize hhf:l.length / 2=half at *
  simp only [hd1,hlv,hq,stdZ]
  refine S.f31 hE h (by omega) fun H3 g3 =>?_
  refine S.f31 hE g3 (by rw [big_new]; omega) fun H4 g4 =>?_
  have f2:=g4.ext.row f2
  have hce:((H4.get bb).cell o)=some (u32 l[half].number):=by have:=row_at f2 (j:=0) (by omega); simpa using this
  simp only [f1,hce,k48,stdZ]
  refine S.f30 hE g4 (by simp only [big_new]; omega) 48#16 _ _ _ fun H5 g5 =>?_
  refine S.f29 hE g5 (by simp only [big_new,big_put]; omega) _ fun H6 g6 =>?_
  have sl6:=slow g6.ext
  simp only [sl6,stdZ]
  refine S.f48 hE f (by omega) hlow g6 (by simp only [big_new,big_put]; omega) fun H7 g7 =>?_
  simp only [stdZ]
  have hlow0:(l.take half).length≠0:=by omega
  rw [if_neg hlow0] at hbg
  simp only [big_new,big_put] at hbg
  refine S.f29 hE g7 (by show _<_; exact Nat.lt_of_le_of_lt (Nat.le_trans (Nat.le_add_right _ 6) hbg) (by omega)) _ fun H8 g8 =>?_
  have sl8:=shigh g8.ext
  simp only [sl8,stdZ]
  refine S.f48 hE f (by omega) hhigh g8 (by rw [big_put]; exact Nat.lt_of_le_of_lt (Nat.add_le_add_right (Nat.add_le_add_right (Nat.add_le_add_right (Nat.le_sub_of_add_le hbg) 1) _) 1) (by omega)) hQ
end
end Go.AM
end
section
namespace Go.AM
set_option maxRecDepth 20000
section
variable {E:Sy} {H H' H0 Z:AH} {Q:Value->AH->Prop} {X:List Res} {lw m:Nat} {s:LwD}
theorem big_ends:∀ (l:List (BitVec 32)) (A:List (BitVec 32×Nat)) (s:LwD),(l.foldl (LwD.end1 A) s).big=s.big+2*l.length
 | [],_,s=>by simp
 | a :: l,A,s=>by
  rw [List.foldl_cons,big_ends l A _]
  simp only [LwD.end1,big_put,List.length_cons]; omega
theorem S.f50 (hE:Fold E) (h:Lw H0 Z H lw m s X) (hb:s.big<2 ^ 26) (hQ:∀ H',Lw H0 Z H' lw m s.ends X->Q (.tuple #[]) H'):E.call (E.fid i.f50) [ptr lw 0] H Q:=by
 apply hE.f50
 obtain ⟨lv,ov,h⟩:=h
 have hbx:=h.box (k:=0) rfl
 have hrw:=h.rows (k:=3) (sz:=1) (v:=ov) (rows:=a32R s.order) rfl
 have hlen:(a32R s.order).length=s.order.length:=by simp [a32R]
 have hlv:=hrw.lenSlc
 rw [hlen] at hlv
 have i0:(.int .i64 0:Value)=vi ((0:Nat):Int):=rfl
 simp only [F.f50,hbx,hlv,i0,stdZ]
 refine LoopL.count s.order.length (fun k ls H'=>ls=[ptr lw 0,ov,vi s.order.length,vi k]/\∃ s1,s1=(s.order.take k).foldl (LwD.end1 s.acts) s/\s1.acts=s.acts/\s1.order=s.order/\LwO H0 Z H' lw m ov s1 X) ?_ ⟨rfl,s,by simp,rfl,rfl,lv,h⟩
 rintro k _ H1 X1 hk ih ⟨rfl,s1,hs1,ha,ho,lv1,g⟩
 have hob:s.order.length<=s.big:=by unfold LwD.big; omega
 rcases Nat.lt_or_ge k s.order.length with hlt | hge
 ·have hlt':(k:Int)<s.order.length:=by omega
  have hbg:=big_ends (s.order.take k) s.acts s
  rw [<- hs1,List.length_take] at hbg
  have hrw:=g.rows (k:=3) (sz:=1) (v:=ov) (rows:=a32R s1.order) rfl
  rw [ho] at hrw
  obtain ⟨bb,o,f1,f2⟩:=hrw.ix (i:=k) (by omega)
  have hrow:(a32R s.order)[k]'(by omega)=[u32 s.order[k]]:=by simp [a32R]
  rw [hrow] at f2
  have hce:((H1.get bb).cell o)=some (u32 s.order[k]):=by have:=row_at f2 (j:=0) (by omega); simpa using this
  have hb1:=g.box (k:=0) rfl
  have hlk:AM.look 0 (.int .i64 0) false (.map (some m)) (u32 s.order[k]) H1=some (vi (getN s.order[k] s.acts:Nat)):=by
   have:=(g.mapAt (k:=2) (fk:=u32) (fv:=natV) (r:=m) (l:=s1.acts) rfl).look_nat s.order[k] false
   rw [ha] at this
   exact this
  have hstep:(s.order.take (k+1)).foldl (LwD.end1 s.acts) s=LwD.end1 s.acts s1 s.order[k]:=by
   rw [List.take_succ,List.getElem?_eq_getElem hlt,List.foldl_append,<- hs1]; rfl
  have hinc:=i64_inc (i:=k) (by omega)
  generalize s.order[k]=a at *
  simp only [F.f50_l1,i64_lss,hlt',decide_true,f1,hce,hb1,hlk,stdZ]
  refine here_o hE ⟨lv1,g⟩ (by omega) _ fun H2 g2 =>?_
  simp only [stdZ]
  refine S.f18 hE a fun H3 e3 =>?_
  have hv:insnV 6 0 0 a=(iRet a).v:=rfl
  rw [hv]
  refine plain_o hE (g2.grow e3) (by rw [big_put]; omega) _ fun H4 g4 =>?_
  simp only [hinc,stdZ]
  exact ih hlt _ _ ⟨rfl,_,hstep.symm,ha,ho,g4⟩
 ·have hke:k=s.order.length:=by omega
  subst hke
  rw [List.take_length] at hs1
  have hlt':¬ ((s.order.length:Int)<s.order.length):=by omega
  simp only [F.f50_l1,i64_lss,hlt',decide_false,stdZ]
  refine hQ _ ⟨lv1,ov,?_⟩
  unfold LwD.ends
  rw [<- hs1]
  exact g
theorem S.f32 (hE:Fold E) (h:Lw H0 Z H lw m s X) (hb:s.big<2 ^ 30) (hQ:∀ v H',Ext H0 H'->Rows H' 7 v (partR s.parts)->Q v H'):E.call (E.fid i.f32) [ptr lw 0] H Q:=by
 apply hE.f32
 obtain ⟨lv,ov,h⟩:=h
 have g:=h.newroom 7
 have hbx:=g.box (k:=0) (b:=lw) (c:=[lv,vi s.last,vi s.other,.map (some m),ov]) rfl
 have hrw:=g.rows (k:=1) (sz:=7) (v:=lv) (rows:=partR s.parts) rfl
 have hlen:(partR s.parts).length<2 ^ 30:=by unfold LwD.big at hb; simp only [partR,List.length_map]; omega
 have hbS:buildS 0 7 #[(.int .u8 0),(.int .i64 0),(.int .i64 0),(.int .u16 0),(.int .u8 0),(.int .u8 0),(.int .u32 0)] []=some (.cells [] none,mkSlc 0 0):=buildS0 7 [u8 0#8,vi 0,vi 0,u16 0#16,u8 0#8,u8 0#8,u32 0#32] rfl
 have hk:(lwL lw m lv ov s++X++[growR 7 (slc H.next 0 0 0) []])[4+X.length]? = some (growR 7 (slc H.next 0 0 0) []):=by
  have hll:(lwL lw m lv ov s++X).length=4+X.length:=by rw [List.length_append]; rfl
  rw [List.getElem?_append_right (by omega),hll,Nat.sub_self]; rfl
 obtain ⟨v',H3,a1,a2,g2⟩:=g.app (k:=4+X.length) (bytes:=32) hk hrw (by simp [partR,PartD.cells]) (by decide) (by decide) (by simp; omega) (by simp; omega)
 simp only [F.f32,ptr_eql_nil,hbS,AM.mk_some,mkSlc_eq,hbx,a1,stdZ]
 have hl4:4+X.length<(lwL lw m lv ov s++X++[growR 7 (slc H.next 0 0 0) []]).length:=by
  have hll:(lwL lw m lv ov s++X).length=4+X.length:=by rw [List.length_append]; rfl
  rw [List.length_append,hll]; simp
 refine hQ _ _ g2.ext (g2.rows (k:=4+X.length) (sz:=7) ?_)
 rw [List.getElem?_set_self hl4,List.nil_append]
end
end Go.AM
end
section
namespace Go.AM
set_option maxRecDepth 20000
def wK (c:CaseD):Nat:=wB c.branches+1
def wP (p:PlanD):Nat:=20+8*p.cases.length+(p.cases.map wK).sum
section
variable {E:Sy} {H H' H0 Z:AH} {Q:Value->AH->Prop} {X:List Res} {lw m:Nat} {s:LwD}
theorem big_starts:∀ (l:List CaseD) (x:LwD×List (BitVec 32×Nat)),(LwD.starts l x).1.big=x.1.big+l.length
 | [],x=>by simp [LwD.starts]
 | c :: l,x=>by
  show (LwD.starts l (LwD.start1 x c)).1.big=_
  rw [big_starts l]
  simp only [LwD.start1,big_new,List.length_cons]; omega
theorem big_case1 (st:List (BitVec 32×Nat)) (s:LwD) (c:CaseD):(LwD.case1 st s c).big<=s.big+wK c:=by
 unfold LwD.case1 wK
 have:=big_branches c.branches (s.put (pHere (getN c.number st)))
 rw [big_put] at this
 omega
theorem big_cases (st:List (BitVec 32×Nat)):∀ (l:List CaseD) (s:LwD),(LwD.cases st l s).big<=s.big+(l.map wK).sum
 | [],s=>by simp [LwD.cases]
 | c :: l,s=>by
  have h1:=big_cases st l (LwD.case1 st s c)
  have h2:=big_case1 st s c
  show (LwD.cases st l (LwD.case1 st s c)).big<=_
  simp only [List.map_cons,List.sum_cons]
  omega
theorem big_setO (s:LwD) (n:Nat):(s.setO n).big=s.big:=rfl
theorem big_low1 (d:BitVec 32):(low1 d).big<=2:=by
 unfold low1
 have h1:=big_act LwD.zero d
 have h0:LwD.zero.big=0:=rfl
 rw [big_setO]; omega
theorem big_low2 (d:BitVec 32):(low2 d).1.big<=4:=by
 unfold low2
 have h1:=big_act (low1 d) 2147483648#32
 have h0:=big_low1 d
 omega
theorem big_lower0 (d:BitVec 32):(lower0 d).big<=8:=by
 unfold lower0
 have h1:=big_low2 d
 simp only [big_put,big_new]
 omega
theorem Lw.mapset {st:List (BitVec 32×Nat)} {sm:Nat} (h:Lw H0 Z H lw m s (mapR u32 natV sm st :: X)) (k:BitVec 32) (v:Nat):∃ H',setMap 0 (.map (some sm)) (u32 k) (vi v) H=some H'/\Lw H0 Z H' lw m s (mapR u32 natV sm (aset k v st) :: X):=by
 obtain ⟨lv,ov,h⟩:=h
 obtain ⟨H2,m1,g2⟩:=h.mapset (n:=4) (r:=sm) (l:=st) (fk:=u32) (fv:=natV) rfl same_u32 k v
 exact ⟨H2,m1,lv,ov,g2⟩
theorem Lw.look2 {st:List (BitVec 32×Nat)} {sm:Nat} (h:Lw H0 Z H lw m s (mapR u32 natV sm st :: X)) (k:BitVec 32):AM.look 0 (.int .i64 0) false (.map (some sm)) (u32 k) H=some (vi (getN k st:Nat)):=by
 obtain ⟨lv,ov,h⟩:=h
 exact (h.mapAt (k:=4) (fk:=u32) (fv:=natV) (r:=sm) (l:=st) rfl).look_nat k false
theorem Lw.setOther (h:Lw H0 Z H lw m s X) (n:Nat):∃ H',store1 (ptr lw 2) (vi n) H=some H'/\Lw H0 Z H' lw m (s.setO n) X:=by
 obtain ⟨lv,ov,h⟩:=h
 have hbx:=h.box (k:=0) rfl
 have hst:store1 (ptr lw 2) (vi n) H=some (H.put lw (.cells [lv,vi s.last,vi n,.map (some m),ov] none)):=by
  rw [store1_ptr,if_pos (show plain1 (vi n)=true from rfl),hbx]; rfl
 exact ⟨_,hst,lv,ov,h.put (k:=0) rfl [lv,vi s.last,vi n,.map (some m),ov]⟩
theorem sum_take {α:Type} (f:α->Nat) {l:List α} {k:Nat} (hk:k<l.length):((l.take k).map f).sum+f l[k]<=(l.map f).sum:=by
 have h1:l=l.take k++l[k] :: l.drop (k+1):=by rw [List.getElem_cons_drop,List.take_append_drop]
 conv=>rhs; rw [h1]
 simp only [List.map_append,List.map_cons,List.sum_append,List.sum_cons]
 omega
theorem parts_l2 (hE:Fold E) {l:List CaseD} {v:Value} (hv:SliceOf (CaseAt 0) H0 2 v l) (hl:l.length<2 ^ 24) (hlb:∀ c∈l,c.branches.length<2 ^ 30) {st:List (BitVec 32×Nat)} {sm:Nat} (h:Lw H0 Z H lw m s [mapR u32 natV sm st]) (hb:s.big+(l.map wK).sum<2 ^ 25)
  (hQ:∀ v H',Ext H0 H'->Rows H' 7 v (partR (LwD.cases st l s).ends.parts)->Q v H') :
  LoopL (fun l H X0=>F.f45_l2 E Q (nth l 0) (nth l 1) (nth l 2) (nth l 3) (nth l 4) H X0) [ptr lw 0,.map (some sm),v,vi l.length,(.int .i64 0)] H:=by
 have i0:(.int .i64 0:Value)=vi ((0:Nat):Int):=rfl
 rw [i0]
 refine LoopL.count l.length (fun k ls H'=>ls=[ptr lw 0,.map (some sm),v,vi l.length,vi k]/\Lw H0 Z H' lw m (LwD.cases st (l.take k) s) [mapR u32 natV sm st]) ?_ ⟨rfl,by simpa [LwD.cases] using h⟩
 rintro k _ H1 X1 hk ih ⟨rfl,g⟩
 have hbg:=big_cases st (l.take k) s
 rcases Nat.lt_or_ge k l.length with hlt | hge
 ·obtain ⟨bb,o,cs,f1,f2,f3⟩:=hv.ix hlt
  have f2:=g.ext.row f2
  obtain ⟨bv,rfl,f4⟩:=f3
  have hbv:plain1 bv=true:=by obtain ⟨rows,h1,_⟩:=f4; exact h1.plain
  have lo:loadN 2 (ptr bb o) H1=some (.agg [u32 l[k].number,bv].toArray):=by rw [loadN_ptr,f2]; rfl
  have hlt':(k:Int)<l.length:=by omega
  have hsum:=sum_take wK hlt
  have hstep:LwD.cases st (l.take (k+1)) s=LwD.case1 st (LwD.cases st (l.take k) s) l[k]:=by
   unfold LwD.cases
   rw [List.take_succ,List.getElem?_eq_getElem hlt,List.foldl_append]; rfl
  have hlk:=hlb l[k] (List.getElem_mem hlt)
  have hinc:=i64_inc (i:=k) (by omega)
  generalize l[k]=c at *
  generalize LwD.cases st (l.take k) s=s1 at *
  have hst:storeN 2 (ptr H1.next 0) (.agg [u32 c.number,bv].toArray) (H1.new (.cells [(.int .u32 0),(.slice none 0 0)] none))=some (H1.new (.cells [u32 c.number,bv] none)):=two_store rfl rfl (by simp [hbv])
  have g1:=g.newbox [u32 c.number,bv]
  have b1:=g1.box
  have k1:=g1.look2 c.number
  have hw:wK c=wB c.branches+1:=rfl
  simp only [F.f45_l2,i64_lss,hlt',decide_true,f1,lo,allocW_eq,hst,b1,k1,stdZ]
  generalize H1.new (.cells [u32 c.number,bv] none)=H2 at *
  generalize H1.next=t at *
  refine S.f29 hE g1 (by omega) _ fun H3 g2 =>?_
  have b3:=g2.box
  simp only [b3,stdZ]
  refine S.f47 hE f4 g2 (by rw [big_put]; omega) hlk fun H4 g3 =>?_
  simp only [hinc,stdZ]
  refine ih hlt _ _ ⟨rfl,?_⟩
  rw [hstep]
  exact g3.dropLast (X:=[mapR u32 natV sm st])
 ·have hke:k=l.length:=by omega
  subst hke
  rw [List.take_length] at g hbg
  have hlt':¬ ((l.length:Int)<l.length):=by omega
  simp only [F.f45_l2,i64_lss,hlt',decide_false,stdZ]
  refine S.f50 hE g (by omega) fun H2 g2 =>?_
  have hbe:=big_ends (LwD.cases st l s).order (LwD.cases st l s).acts (LwD.cases st l s)
  have hob:(LwD.cases st l s).order.length<=(LwD.cases st l s).big:=by unfold LwD.big; omega
  simp only [stdZ]
  refine S.f32 hE g2 ?_ hQ
  show ((LwD.cases st l s).order.foldl (LwD.end1 (LwD.cases st l s).acts) (LwD.cases st l s)).big<_
  omega
theorem S.f45 (hE:Fold E) (p:PlanD) (cs:List Value) (hp:PlanAt H p cs) (hb:wP p<2 ^ 24) (hQ:∀ v H',Ext H H'->Rows H' 7 v (partR (lowerF p).parts)->Q v H'):E.call (E.fid i.f45) [.agg cs.toArray] H Q:=by
 apply hE.f45
 obtain ⟨v,rfl,hv⟩:=hp
 have x1:Ext H (H.new (.cells [v,u32 p.default] none)):=(Ext.refl _).new _
 have hb1:=AH.get_new_self H (.cells [v,u32 p.default] none)
 have hlv:=hv.lenSlc
 have hv1:=hv.sub (fun _ _ _ _ h e=>CaseAt.sub h e) x1.sub
 have hmw:∀ (H:AH) (K:Value->AH->Prop),mapW H K=K (.map (some H.next)) (H.new (.map [] 0 true)):=fun _ _=>rfl
 simp only [F.f45,boxO_agg_z,AM.mk_some,mkPtr_eq_z,List.toList_toArray,hmw,stdZ]
 have hn1:H.next+1=(H.new (.cells [v,u32 p.default] none)).next:=rfl
 rw [hn1]
 generalize H.new (.cells [v,u32 p.default] none)=H1 at *
 generalize H.next=t1 at *
 clear hn1
 have g1:=(Has.begin (Ext.refl H1) (Sub.refl H1)).newmap u32 natV
 have hbv:∀ n:Nat,buildV [(0,2),(2,1),(3,1),(4,1)] #[(.slice none 0 0),(.int .i64 0),(.int .i64 0),(.map none),(.slice none 0 0)] [(2,.map (some n))]=some (.agg [nilS,vi ((0:Nat):Int),vi ((0:Nat):Int),.map (some n),nilS].toArray):=fun _=>rfl
 have x2:Ext H1 (H1.new (.map [] 0 true)):=(Ext.refl H1).new _
 have hb2:=x2.cells hb1
 simp only [hbv,boxO_agg_z,AM.mk_some,mkPtr_eq_z,List.toList_toArray,stdZ]
 have hnx:(H1.new (.map [] 0 true)).next=H1.next+1:=rfl
 generalize H1.new (.map [] 0 true)=H2 at *
 generalize H1.next=m at *
 have g2:=((g1.newbox [nilS,vi ((0:Nat):Int),vi ((0:Nat):Int),.map (some m),nilS]).nils 7).nils 1
 have x3:=x2.new (.cells [nilS,vi ((0:Nat):Int),vi ((0:Nat):Int),.map (some m),nilS] none)
 generalize H2.new (.cells [nilS,vi ((0:Nat):Int),vi ((0:Nat):Int),.map (some m),nilS] none)=H3 at *
 generalize H2.next=lw at *
 have g3:Lw H1 H1 H3 lw m LwD.zero []:=⟨nilS,nilS,g2.perm ((List.Perm.swap _ _ _).trans ((List.Perm.swap _ _ _).cons _))⟩
 have hb3:=x3.cells hb1
 have kK:(.int .u32 2147483648:Value)=u32 2147483648#32:=rfl
 have kA:(.int .u32 3221225534:Value)=u32 3221225534#32:=rfl
 have k16:(.int .u16 16:Value)=u16 16#16:=rfl
 have k4:(.int .u32 4:Value)=u32 4#32:=rfl
 have k0:(.int .u32 0:Value)=u32 0#32:=rfl
 have i0:(.int .i64 0:Value)=vi ((0:Nat):Int):=rfl
 have hpc:wP p=20+8*p.cases.length+(p.cases.map wK).sum:=rfl
 have hv4:∀ k,insnV 32 0 0 k=(iLoad k).v:=fun _=>rfl
 simp only [hb3,stdZ]
 refine S.f46 hE g3 (by decide) p.default fun H4 g4 =>?_
 obtain ⟨H5,st5,g5⟩:=g4.setOther (LwD.zero.act p.default).2
 have g5:Lw H1 H1 H5 lw m (low1 p.default) []:=g5
 have hg1:=big_low1 p.default
 have hg2:=big_low2 p.default
 simp only [st5,kK,stdZ]
 refine S.f46 hE g5 (by omega) 2147483648#32 fun H6 g6 =>?_
 have g6:Lw H1 H1 H6 lw m (low2 p.default).1 []:=g6
 simp only [stdZ]
 refine S.f31 hE g6 (by omega) fun H7 g7 =>?_
 simp only [k4,stdZ]
 refine S.f16 hE 4#32 fun H8 e8 =>?_
 rw [hv4]
 refine S.f33 hE (g7.grow e8) (by simp only [big_new]; omega) _ fun H9 g9 =>?_
 simp only [k16,kA,stdZ]
 refine S.f30 hE g9 (by simp only [big_new,big_put]; omega) 16#16 _ _ _ fun H10 g10 =>?_
 simp only [stdZ]
 refine S.f29 hE g10 (by simp only [big_new,big_put]; omega) _ fun H11 g11 =>?_
 have g11:Lw H1 H1 H11 lw m (lower0 p.default) []:=g11
 have hg0:=big_lower0 p.default
 simp only [hmw,stdZ]
 have g12:Lw H1 H1 (H11.new (.map [] 0 true)) lw m (lower0 p.default) [mapR u32 natV H11.next ([]:List (BitVec 32×Nat))]:=by
  obtain ⟨lv,ov,g⟩:=g11
  have:=g.newmap u32 natV
  rw [List.append_assoc] at this
  exact ⟨lv,ov,this⟩
 have hb12:=g12.ext.cells hb1
 generalize H11.new (.map [] 0 true)=H12 at *
 generalize H11.next=sm at *
 simp only [hb12,hlv,i0,stdZ]
 have hlow3:low3 p=LwD.starts p.cases (lower0 p.default,[]):=rfl
 have hbs:(LwD.starts p.cases (lower0 p.default,[])).1.big=(lower0 p.default).big+p.cases.length:=big_starts p.cases (lower0 p.default,[])
 refine LoopL.count p.cases.length (fun k ls H'=>ls=[ptr t1 0,ptr lw 0,.map (some sm),v,vi p.cases.length,vi k]/\Lw H1 H1 H' lw m (LwD.starts (p.cases.take k) (lower0 p.default,[])).1 [mapR u32 natV sm (LwD.starts (p.cases.take k) (lower0 p.default,[])).2]) ?_ ⟨rfl,by simpa [LwD.starts] using g12⟩
 rintro k _ H13 X1 hk ih ⟨rfl,g⟩
 have hbg:(LwD.starts (p.cases.take k) (lower0 p.default,[])).1.big=(lower0 p.default).big+(p.cases.take k).length:=big_starts (p.cases.take k) (lower0 p.default,[])
 rw [List.length_take] at hbg
 rcases Nat.lt_or_ge k p.cases.length with hlt | hge
 ·obtain ⟨bb,o,cs,f1,f2,f3⟩:=hv1.ix hlt
  have f2:=g.ext.row f2
  obtain ⟨bv,rfl,f4⟩:=f3
  have hbv:plain1 bv=true:=by obtain ⟨rows,h1,_⟩:=f4; exact h1.plain
  have lo:loadN 2 (ptr bb o) H13=some (.agg [u32 p.cases[k].number,bv].toArray):=by rw [loadN_ptr,f2]; rfl
  have hlt':(k:Int)<p.cases.length:=by omega
  have hstep:LwD.starts (p.cases.take (k+1)) (lower0 p.default,[])=LwD.start1 (LwD.starts (p.cases.take k) (lower0 p.default,[])) p.cases[k]:=by
   unfold LwD.starts
   rw [List.take_succ,List.getElem?_eq_getElem hlt,List.foldl_append]; rfl
  have hinc:=i64_inc (i:=k) (by omega)
  generalize p.cases[k]=c at *
  generalize LwD.starts (p.cases.take k) (lower0 p.default,[])=x1 at *
  have hst:storeN 2 (ptr H13.next 0) (.agg [u32 c.number,bv].toArray) (H13.new (.cells [(.int .u32 0),(.slice none 0 0)] none))=some (H13.new (.cells [u32 c.number,bv] none)):=two_store rfl rfl (by simp [hbv])
  have g1:=g.newbox [u32 c.number,bv]
  have b1:=g1.box
  simp only [F.f45_l1,i64_lss,hlt',decide_true,f1,lo,allocW_eq,hst,b1,stdZ]
  generalize H13.new (.cells [u32 c.number,bv] none)=H14 at *
  generalize H13.next=t at *
  refine S.f31 hE g1 (by omega) fun H15 g2 =>?_
  have b2:=g2.box
  refine ⟨by rw [load1_ptr,load1_ptr,b1,b2],?_⟩
  obtain ⟨H16,m1,g3⟩:=g2.mapset (X:=[boxR t [u32 c.number,bv]]) c.number (x1.1.last+1)
  simp only [m1,hinc,stdZ]
  refine ih hlt _ _ ⟨rfl,?_⟩
  rw [hstep]
  exact g3.dropLast (X:=[mapR u32 natV sm _])
 ·have hke:k=p.cases.length:=by omega
  subst hke
  rw [List.take_length] at g hbg
  have hlt':¬ ((p.cases.length:Int)<p.cases.length):=by omega
  simp only [F.f45_l1,i64_lss,hlt',decide_false,k0,stdZ]
  have g:Lw H1 H1 H13 lw m (low3 p).1 [mapR u32 natV sm (low3 p).2]:=g
  refine S.f16 hE 0#32 fun H14 e14 =>?_
  rw [hv4]
  have hb3:(low3 p).1.big<=8+p.cases.length:=by rw [hlow3,hbs]; omega
  refine S.f33 hE (g.grow e14) (by omega) _ fun H15 g2 =>?_
  have hb15:=g2.ext.cells hb1
  simp only [hb15,stdZ]
  refine S.f48 hE (X:=[]) (p.cases.length+1) (Nat.lt_succ_self _) hv1 g2 (by rw [big_put]; omega) fun H16 g3 =>?_
  have hbc:=big_choose (low3 p).2 (p.cases.length+1) p.cases ((low3 p).1.put (pPlain (iLoad 0#32))) (Nat.lt_succ_self _)
  rw [big_put] at hbc
  have g3:Lw H1 H1 H16 lw m (low4 p) [mapR u32 natV sm (low3 p).2]:=g3
  have hbc:(low4 p).big+(if p.cases.length=0 then 0 else 6)<=(low3 p).1.big+1+7*p.cases.length+1:=hbc
  have hb16:=g3.ext.cells hb1
  simp only [hb16,hlv,stdZ]
  refine parts_l2 hE hv1 (by omega) (fun c hc =>?_) g3 (by omega) fun v' H' e' r'=>hQ v' H' (x1.trans e') r'
  have h1:wK c<=(p.cases.map wK).sum:=by
   obtain ⟨j,hj,rfl⟩:=List.getElem_of_mem hc
   have:=sum_take wK hj
   omega
  have h2:c.branches.length<=(c.branches.map wC).sum:=by
   generalize c.branches=bs
   induction bs with
   | nil=>simp
   | cons b bs ih =>
    have:wC b=12*b.conds.length+5:=rfl
    simp only [List.length_cons,List.map_cons,List.sum_cons]; omega
  have h3:wK c=(c.branches.map wC).sum+1+1:=rfl
  omega
end
end Go.AM
end
section
namespace Go.AM
set_option maxRecDepth 20000
def castN (R:List Nat):List Int:=R.map fun (n:Nat)=>(n:Int)
theorem mem_castN {R:List Nat} {n:Nat}:(n:Int)∈castN R↔n∈R:=by
 unfold castN
 simp only [List.mem_map]
 constructor
 ·rintro ⟨m,h,e⟩
  have:m=n:=by omega
  rwa [<- this]
 ·exact fun h=>⟨n,h,rfl⟩
structure LI (P:List PartD) (last:Nat) (R:List Nat):Prop where
 nd:(heres P++castN R).Nodup
 le:∀ n∈R,n<=last
 hle:∀ n∈heres P,n<=(last:Int)
 fw:∀ a p b,P=a++p :: b->(p.kind=4#8->p.to∈heres b++castN R)/\(p.kind=3#8->p.to∈heres b++castN R/\p.els∈heres b++castN R)
 ok:∀ p∈P,partOk p
theorem LI.nil:LI [] 0 []:=⟨by simp [heres,castN],by simp,by simp [heres],fun a p b h=>by simp at h,by simp⟩
theorem LI.mono {P:List PartD} {l l':Nat} {R R':List Nat} (h:LI P l R) (hn:(heres P++castN R').Nodup) (hl:l<=l') (hle:∀ n∈R',n<=l') (hs:∀ n∈R,n∈R'):LI P l' R':=by
 refine ⟨hn,hle,fun n h1 =>?_,fun a p b e =>?_,h.ok⟩
 ·have:=h.hle n h1; omega
 ·have hsub:∀ x,x∈heres b++castN R->x∈heres b++castN R':=by
   intro x hx
   rcases List.mem_append.1 hx with h1 | h1
   ·exact List.mem_append_left _ h1
   ·refine List.mem_append_right _ ?_
    obtain ⟨m,hm,rfl⟩:=List.mem_map.1 h1
    exact mem_castN.2 (hs m hm)
  obtain ⟨f1,f2⟩:=h.fw a p b e
  exact ⟨fun k=>hsub _ (f1 k),fun k=>⟨hsub _ (f2 k).1,hsub _ (f2 k).2⟩⟩
theorem LI.new {P:List PartD} {l:Nat} {R:List Nat} (h:LI P l R):LI P (l+1) ((l+1) :: R):=by
 refine h.mono ?_ (by omega) (fun n hn =>?_) fun n hn=>List.mem_cons_of_mem _ hn
 ·show (heres P++((l+1:Nat):Int) :: castN R).Nodup
  refine (List.perm_middle.nodup_iff).2 ?_
  refine List.nodup_cons.2 ⟨fun hm =>?_,h.nd⟩
  rcases List.mem_append.1 hm with h1 | h1
  ·have:=h.hle _ h1; omega
  ·have:=h.le _ (mem_castN.1 h1); omega
 ·rcases List.mem_cons.1 hn with h1 | h1
  ·omega
  ·have:=h.le n h1; omega
theorem LI.skip {P:List PartD} {l:Nat} {R:List Nat} (h:LI P l R):LI P (l+1) R :=
 h.mono h.nd (by omega) (fun n hn=>by have:=h.le n hn; omega) fun _ hn=>hn
theorem LI.perm {P:List PartD} {l:Nat} {R R':List Nat} (h:LI P l R) (p:R.Perm R'):LI P l R' :=
 h.mono (((List.Perm.refl _).append (p.map _)).nodup_iff.1 h.nd) (Nat.le_refl _) (fun n hn=>h.le n (p.mem_iff.2 hn)) fun n hn=>p.mem_iff.1 hn
theorem LI.put {P:List PartD} {l:Nat} {R:List Nat} (h:LI P l R) {p:PartD} (hp:partOk p) (h1:p.kind≠1#8) (h4:p.kind=4#8->p.to∈castN R) (h3:p.kind=3#8->p.to∈castN R/\p.els∈castN R):LI (P++[p]) l R:=by
 have hh:heres (P++[p])=heres P:=by rw [heres_app]; simp [heres,h1]
 refine ⟨by rw [hh]; exact h.nd,h.le,by rw [hh]; exact h.hle,fun a q b e =>?_,fun q hq =>?_⟩
 ·rcases List.append_eq_append_iff.1 e with ⟨c,e1,e2⟩ | ⟨c,e1,e2⟩
  ·
   cases c with
   | nil =>
    simp only [List.nil_append,List.cons.injEq] at e2
    obtain ⟨rfl,rfl⟩:=e2
    exact ⟨fun k=>List.mem_append_right _ (h4 k),fun k=>⟨List.mem_append_right _ (h3 k).1,List.mem_append_right _ (h3 k).2⟩⟩
   | cons x c =>
    have:=congrArg List.length e2
    simp at this
  ·cases c with
   | nil =>
    simp only [List.nil_append,List.cons.injEq] at e2
    obtain ⟨rfl,rfl⟩:=e2
    exact ⟨fun k=>List.mem_append_right _ (h4 k),fun k=>⟨List.mem_append_right _ (h3 k).1,List.mem_append_right _ (h3 k).2⟩⟩
   | cons x c =>
    simp only [List.cons_append,List.cons.injEq] at e2
    obtain ⟨rfl,rfl⟩:=e2
    have hb:heres (c++[p])=heres c:=by rw [heres_app]; simp [heres,h1]
    rw [hb]
    exact h.fw a q c e1
 ·rcases List.mem_append.1 hq with h2 | h2
  ·exact h.ok q h2
  ·rw [List.mem_singleton.1 h2]; exact hp
theorem LI.here {P:List PartD} {l:Nat} {R:List Nat} {n:Nat} (h:LI P l (n :: R)):LI (P++[pHere n]) l R:=by
 have hh:heres (P++[pHere n])=heres P++[(n:Int)]:=by rw [heres_app]; rfl
 refine ⟨by rw [hh,List.append_assoc]; exact h.nd,fun m hm=>h.le m (List.mem_cons_of_mem _ hm),fun m hm =>?_,fun a q b e =>?_,fun q hq =>?_⟩
 ·rw [hh] at hm
  rcases List.mem_append.1 hm with h2 | h2
  ·exact h.hle m h2
  ·rw [List.mem_singleton.1 h2]
   have:=h.le n (List.mem_cons_self ..); omega
 ·have last:q=pHere n->(q.kind=4#8->q.to∈heres b++castN R)/\(q.kind=3#8->q.to∈heres b++castN R/\q.els∈heres b++castN R):=by
   rintro rfl
   exact ⟨fun k=>absurd k (by simp [pHere]),fun k=>absurd k (by simp [pHere])⟩
  rcases List.append_eq_append_iff.1 e with ⟨c,e1,e2⟩ | ⟨c,e1,e2⟩
  ·cases c with
   | nil =>
    simp only [List.nil_append,List.cons.injEq] at e2
    exact last e2.1.symm
   | cons x c =>
    have:=congrArg List.length e2
    simp at this
  ·cases c with
   | nil =>
    simp only [List.nil_append,List.cons.injEq] at e2
    exact last e2.1
   | cons x c =>
    simp only [List.cons_append,List.cons.injEq] at e2
    obtain ⟨rfl,rfl⟩:=e2
    have hb:heres (c++[pHere n])=heres c++[(n:Int)]:=by rw [heres_app]; rfl
    rw [hb]
    have hcn:castN (n :: R)=(n:Int) :: castN R:=rfl
    have hf:=h.fw a q c e1
    rw [hcn] at hf
    simp only [List.append_assoc,List.singleton_append]
    exact hf
 ·rcases List.mem_append.1 hq with h2 | h2
  ·exact h.ok q h2
  ·rw [List.mem_singleton.1 h2]; exact .inl rfl
theorem LI.wf {P:List PartD} {l:Nat} (h:LI P l []):wfL P:=by
 intro a p b e
 obtain ⟨f1,f2⟩:=h.fw a p b e
 have hc:castN []=[]:=rfl
 rw [hc,List.append_nil] at f1 f2
 refine ⟨fun k hm =>?_,f1,f2⟩
 have hn:=h.nd
 rw [hc,List.append_nil,e,heres_app,heres_cons,if_pos k] at hn
 have:=(List.nodup_append.1 hn).2.1
 exact (List.nodup_cons.1 this).1 hm
def actN (s:LwD):List Nat:=s.acts.map Prod.snd
theorem okLoad (n:Int) (b:Bool):(iLoad (halfOf n b)).k.toNat % 4=0/\(iLoad (halfOf n b)).k.toNat<=60:=by
 have hc:clampArg n<=5:=by
  unfold clampArg
  split <;> split <;> omega
 have:(iLoad (halfOf n b)).k.toNat=16+8*clampArg n+(if b then 4 else 0):=by
  show (BitVec.ofNat 32 _).toNat=_
  rw [BitVec.toNat_ofNat,Nat.mod_eq_of_lt]
  split <;> omega
 rw [this]
 split <;> omega
theorem plainOk {x:InsnD} (h:(x.code=32#16/\x.k.toNat % 4=0/\x.k.toNat<=60)\/x.code=84#16\/x.code=6#16):partOk (pPlain x) := .inr (.inr (.inl ⟨rfl,h⟩))
theorem LI.load {P:List PartD} {l:Nat} {R:List Nat} (h:LI P l R) (n:Int) (b:Bool):LI (P++[pPlain (iLoad (halfOf n b))]) l R :=
 h.put (plainOk (.inl ⟨rfl,okLoad n b⟩)) (by simp [pPlain]) (fun k=>absurd k (by simp [pPlain])) fun k=>absurd k (by simp [pPlain])
theorem LI.plain {P:List PartD} {l:Nat} {R:List Nat} (h:LI P l R) {x:InsnD} (hx:(x.code=32#16/\x.k.toNat % 4=0/\x.k.toNat<=60)\/x.code=84#16\/x.code=6#16):LI (P++[pPlain x]) l R :=
 h.put (plainOk hx) (by simp [pPlain]) (fun k=>absurd k (by simp [pPlain])) fun k=>absurd k (by simp [pPlain])
theorem LI.mask {P:List PartD} {l:Nat} {R:List Nat} (h:LI P l R) (k:BitVec 32):LI (P++[pPlain (iMask k)]) l R:=h.plain (.inr (.inl rfl))
theorem LI.cmp {P:List PartD} {l:Nat} {R:List Nat} (h:LI P l R) {how:BitVec 16} (hh:how=16#16\/how=32#16\/how=48#16) (k:BitVec 32) {t e:Nat} (ht:t∈R) (he:e∈R):LI (P++[pIf how k t e]) l R :=
 h.put (.inr (.inr (.inr ⟨rfl,by
  show (5#16|||how|||0#16)=21#16\/(5#16|||how|||0#16)=37#16\/(5#16|||how|||0#16)=53#16
  rcases hh with rfl | rfl | rfl <;> decide⟩))) (by simp [pIf]) (fun k=>absurd k (by simp [pIf])) fun _=>⟨mem_castN.2 ht,mem_castN.2 he⟩
theorem LI.goto {P:List PartD} {l:Nat} {R:List Nat} (h:LI P l R) {t:Nat} (ht:t∈R):LI (P++[pGoto t]) l R :=
 h.put (.inr (.inl rfl)) (by simp [pGoto]) (fun _=>mem_castN.2 ht) fun k=>absurd k (by simp [pGoto])
theorem LI.second {s:LwD} {R:List Nat} {n:Nat} (h:LI s.parts s.last (n :: R)) (c:CondD):LI (s.second c n).parts (s.second c n).last R:=h.here.load c.arg false
theorem LI.order64 {s:LwD} {R:List Nat} (h:LI s.parts s.last R) (c:CondD) {how:BitVec 16} (hh:how=16#16\/how=32#16\/how=48#16) {yes no:Nat} (hy:yes∈R) (hn:no∈R):LI (s.order64 c how yes no).parts (s.order64 c how yes no).last R:=by
 have h1:=h.new.new
 have h2:=h1.cmp (how:=32#16) (by simp) (hi32 c.value) (t:=yes) (e:=s.last+1) (by simp [hy]) (by simp)
 have h3:=(h2.perm (List.Perm.swap _ _ _)).here
 have h4:=h3.cmp (how:=16#16) (by simp) (hi32 c.value) (t:=s.last+2) (e:=no) (by simp) (by simp [hn])
 have h5:=h4.here.load c.arg false
 exact h5.cmp hh (lo32 c.value) hy hn
theorem LI.cond {s:LwD} {R:List Nat} (h:LI s.parts s.last R) (c:CondD) {yes no:Nat} (hy:yes∈R) (hn:no∈R):LI (s.cond c yes no).parts (s.cond c yes no).last R:=by
 unfold LwD.cond
 have hnew:=h.new.load c.arg true
 have hskip:LI (s.new.put (pPlain (iLoad (halfOf c.arg true)))).parts (s.new.put (pPlain (iLoad (halfOf c.arg true)))).last R:=h.skip.load c.arg true
 have hnew:LI (s.new.put (pPlain (iLoad (halfOf c.arg true)))).parts (s.new.put (pPlain (iLoad (halfOf c.arg true)))).last ((s.last+1) :: R):=hnew
 have hy':yes∈(s.last+1) :: R:=List.mem_cons_of_mem _ hy
 have hn':no∈(s.last+1) :: R:=List.mem_cons_of_mem _ hn
 have hm:s.last+1∈(s.last+1) :: R:=List.mem_cons_self ..
 generalize s.new.put (pPlain (iLoad (halfOf c.arg true)))=s1 at *
 generalize s.last+1=next at *
 unfold LwD.condOn
 split
 ·have h2:LI (s1.put (pIf 16#16 (hi32 c.value) next no)).parts (s1.put (pIf 16#16 (hi32 c.value) next no)).last (next :: R):=hnew.cmp (how:=16#16) (by simp) (hi32 c.value) hm hn'
  exact (LI.second h2 c).cmp (how:=16#16) (by simp) (lo32 c.value) hy hn
 split
 ·have h2:LI (s1.put (pIf 16#16 (hi32 c.value) next yes)).parts (s1.put (pIf 16#16 (hi32 c.value) next yes)).last (next :: R):=hnew.cmp (how:=16#16) (by simp) (hi32 c.value) hm hy'
  exact (LI.second h2 c).cmp (how:=16#16) (by simp) (lo32 c.value) hn hy
 split
 ·exact LI.order64 hskip c (by simp) hy hn
 split
 ·exact LI.order64 hskip c (by simp) hy hn
 split
 ·exact LI.order64 hskip c (by simp) hn hy
 split
 ·exact LI.order64 hskip c (by simp) hn hy
 split
 ·have h2:LI ((s1.put (pPlain (iMask (hi32 c.mask)))).put (pIf 16#16 (hi32 c.value) next no)).parts ((s1.put (pPlain (iMask (hi32 c.mask)))).put (pIf 16#16 (hi32 c.value) next no)).last (next :: R):=(hnew.mask _).cmp (how:=16#16) (by simp) (hi32 c.value) hm hn'
  exact ((LI.second h2 c).mask (lo32 c.mask)).cmp (how:=16#16) (by simp) (lo32 c.value) hy hn
 ·exact hskip.goto hn
end Go.AM
end
section
namespace Go.AM
set_option maxRecDepth 20000
def KeepA (s t:LwD):Prop:=t.acts=s.acts/\t.other=s.other/\t.order=s.order
theorem KeepA.trans {a b c:LwD} (h:KeepA a b) (h':KeepA b c):KeepA a c:=⟨h'.1.trans h.1,h'.2.1.trans h.2.1,h'.2.2.trans h.2.2⟩
theorem KeepA.put (s:LwD) (p:PartD):KeepA s (s.put p):=⟨rfl,rfl,rfl⟩
theorem KeepA.new (s:LwD):KeepA s s.new:=⟨rfl,rfl,rfl⟩
theorem KeepA.cond (s:LwD) (c:CondD) (y n:Nat):KeepA s (s.cond c y n):=by
 unfold LwD.cond LwD.condOn
 repeat' split
 all_goals exact ⟨rfl,rfl,rfl⟩
theorem KeepA.condStep (s:LwD) (no:Nat) (c:CondD):KeepA s (LwD.condStep no s c):=(KeepA.new s).trans ((KeepA.cond s.new c _ _).trans (KeepA.put _ _))
theorem KeepA.conds (no:Nat):∀ (l:List CondD) (s:LwD),KeepA s (LwD.conds no l s)
 | [],_=>⟨rfl,rfl,rfl⟩
 | c :: l,s=>(KeepA.condStep s no c).trans (KeepA.conds no l _)
theorem KeepA.actN {s t:LwD} (h:KeepA s t):actN t=actN s:=by unfold Go.AM.actN; rw [h.1]
def LA (s:LwD):Prop:=s.order=s.acts.map Prod.fst/\(s.acts.map Prod.fst).Nodup
theorem KeepA.la {s t:LwD} (h:KeepA s t) (k:LA s):LA t:=by unfold LA; rw [h.1,h.2.2]; exact k
structure LT (s:LwD) (pend:List Nat):Prop where
 li:LI s.parts s.last (pend++actN s)
 la:LA s
theorem alook_key {K V:Type} [DecidableEq K] {l:List (K×V)} {k:K} (h:alook k l=none):k ∉ l.map Prod.fst:=by
 induction l with
 | nil=>simp
 | cons p l ih =>
  rw [alook_cons] at h
  split at h
  ·cases h
  ·rename_i hn
   rw [List.map_cons,List.mem_cons,not_or]
   exact ⟨hn,ih h⟩
theorem alook_memV {K V:Type} [DecidableEq K] {l:List (K×V)} {k:K} {v:V} (h:alook k l=some v):(k,v)∈l:=by
 induction l with
 | nil=>simp [alook] at h
 | cons p l ih =>
  rw [alook_cons] at h
  split at h
  ·rename_i hn; cases h; rw [hn]; exact List.mem_cons_self ..
  ·exact List.mem_cons_of_mem _ (ih h)
theorem alook_of_memK {K V:Type} [DecidableEq K] {l:List (K×V)} (hn:(l.map Prod.fst).Nodup) {k:K} {v:V} (h:(k,v)∈l):alook k l=some v:=by
 induction l with
 | nil=>cases h
 | cons p l ih =>
  rw [List.map_cons,List.nodup_cons] at hn
  rw [alook_cons]
  rcases List.mem_cons.1 h with h | h
  ·subst h; rw [if_pos rfl]
  ·rw [if_neg (fun e=>hn.1 (by rw [<- e]; exact List.mem_map.2 ⟨_,h,rfl⟩))]
   exact ih hn.2 h
theorem act_some {s:LwD} {a:BitVec 32} {n:Nat} (h:alook a s.acts=some n):s.act a=(s,n):=by unfold LwD.act; rw [h]
theorem act_none {s:LwD} {a:BitVec 32} (h:alook a s.acts=none):s.act a=(⟨s.parts,s.last+1,s.other,s.acts++[(a,s.last+1)],s.order++[a]⟩,s.last+1):=by
 unfold LwD.act; rw [h]
 simp only
 rw [aset_fresh _ _ _ (alook_key h)]
theorem act_look (s:LwD) (a:BitVec 32):(a,(s.act a).2)∈(s.act a).1.acts:=by
 cases h:alook a s.acts with
 | some n=>rw [act_some h]; exact alook_memV h
 | none=>rw [act_none h]; simp
theorem act_sub (s:LwD) (a:BitVec 32):∀ x∈s.acts,x∈(s.act a).1.acts:=by
 intro x hx
 cases h:alook a s.acts with
 | some n=>rw [act_some h]; exact hx
 | none=>rw [act_none h]; exact List.mem_append_left _ hx
theorem act_keeps (s:LwD) (a:BitVec 32):(s.act a).1.parts=s.parts/\(s.act a).1.other=s.other:=by
 cases h:alook a s.acts with
 | some n=>rw [act_some h]; exact ⟨rfl,rfl⟩
 | none=>rw [act_none h]; exact ⟨rfl,rfl⟩
theorem LT.act {s:LwD} {pend:List Nat} (h:LT s pend) (a:BitVec 32):LT (s.act a).1 pend:=by
 cases hf:alook a s.acts with
 | some n=>rw [act_some hf]; exact h
 | none =>
  rw [act_none hf]
  refine ⟨?_,?_,?_⟩
  ·have h1:=h.li.new
   refine h1.perm ?_
   have:pend++Go.AM.actN ⟨s.parts,s.last+1,s.other,s.acts++[(a,s.last+1)],s.order++[a]⟩=(pend++Go.AM.actN s)++[s.last+1]:=by
    unfold Go.AM.actN; simp
   rw [this]
   exact (List.perm_append_singleton _ _).symm
  ·show s.order++[a]=(s.acts++[(a,s.last+1)]).map Prod.fst
   rw [h.la.1]; simp
  ·show ((s.acts++[(a,s.last+1)]).map Prod.fst).Nodup
   rw [List.map_append,List.nodup_append]
   refine ⟨h.la.2,by simp,?_⟩
   intro x hx y hy e
   simp only [List.map_cons,List.map_nil,List.mem_singleton] at hy
   subst hy; subst e
   exact alook_key hf hx
theorem mem_actN {s:LwD} {a:BitVec 32} {n:Nat} (h:(a,n)∈s.acts):n∈actN s:=List.mem_map.2 ⟨_,h,rfl⟩
theorem LI.conds {no:Nat} {R:List Nat} (hn:no∈R):∀ (l:List CondD) (s:LwD),LI s.parts s.last R->LI (LwD.conds no l s).parts (LwD.conds no l s).last R
 | [],s,h=>h
 | c :: l,s,h=>by
  have h1:LI s.new.parts s.new.last ((s.last+1) :: R):=h.new
  have h2:=LI.cond h1 c (yes:=s.last+1) (no:=no) (List.mem_cons_self ..) (List.mem_cons_of_mem _ hn)
  exact LI.conds hn l (LwD.condStep no s c) h2.here
theorem LT.branch {s:LwD} {pend:List Nat} (h:LT s pend) (b:BranchD):LT (s.branch b) pend:=by
 have h1:LI s.new.parts s.new.last ((s.last+1) :: (pend++actN s)):=h.li.new
 have h2:=LI.conds (List.mem_cons_self ..) b.conds s.new h1
 have hk:=KeepA.conds (s.last+1) b.conds s.new
 have h3:LT (LwD.conds (s.last+1) b.conds s.new) ((s.last+1) :: pend):=⟨by rw [hk.actN]; exact h2,hk.la ((KeepA.new s).la h.la)⟩
 have h4:=h3.act b.action
 have hm:=mem_actN (act_look (LwD.conds (s.last+1) b.conds s.new) b.action)
 exact ⟨(h4.li.goto (List.mem_append_right _ hm)).here,h4.la⟩
theorem branch_other (s:LwD) (b:BranchD):(s.branch b).other=s.other/\∀ x∈s.acts,x∈(s.branch b).acts:=by
 have hk:=KeepA.conds (s.last+1) b.conds s.new
 have h1:(s.branch b).other=((LwD.conds (s.last+1) b.conds s.new).act b.action).1.other:=rfl
 have h2:(s.branch b).acts=((LwD.conds (s.last+1) b.conds s.new).act b.action).1.acts:=rfl
 refine ⟨by rw [h1,(act_keeps _ _).2,hk.2.1]; rfl,fun x hx =>?_⟩
 rw [h2]
 refine act_sub _ _ x ?_
 rw [hk.1]
 exact hx
theorem foldb {pend:List Nat}:∀ (l:List BranchD) (s:LwD),LT s pend->LT (l.foldl LwD.branch s) pend/\(l.foldl LwD.branch s).other=s.other/\∀ x∈s.acts,x∈(l.foldl LwD.branch s).acts
 | [],s,h=>⟨h,rfl,fun _ hx=>hx⟩
 | b :: l,s,h=>by
  obtain ⟨h1,h2,h3⟩:=foldb l (s.branch b) (h.branch b)
  obtain ⟨k1,k2⟩:=branch_other s b
  exact ⟨h1,h2.trans k1,fun x hx=>h3 x (k2 x hx)⟩
def LO (s:LwD) (pend:List Nat):Prop:=LT s pend/\s.other∈actN s
theorem actN_sub {s t:LwD} (h:∀ x∈s.acts,x∈t.acts):∀ n∈actN s,n∈actN t:=fun n hn=>by
 obtain ⟨x,hx,rfl⟩:=List.mem_map.1 hn
 exact List.mem_map.2 ⟨x,h x hx,rfl⟩
theorem LO.branches {s:LwD} {pend:List Nat} (h:LO s pend) (l:List BranchD):LO (LwD.branches l s) pend:=by
 obtain ⟨h1,h2,h3⟩:=foldb l s h.1
 have ho:(l.foldl LwD.branch s).other∈actN (l.foldl LwD.branch s):=by rw [h2]; exact actN_sub h3 _ h.2
 exact ⟨⟨h1.li.goto (List.mem_append_right _ ho),h1.la⟩,ho⟩
theorem LO.put {s:LwD} {pend pend':List Nat} (h:LO s pend) {p:PartD} (hl:LI (s.parts++[p]) s.last (pend'++actN s)):LO (s.put p) pend':=⟨⟨hl,h.1.la⟩,h.2⟩
theorem LO.choose {st:List (BitVec 32×Nat)}:∀ (f:Nat) (l:List CaseD) (s:LwD) (pend:List Nat),(∀ c∈l,getN c.number st∈pend)->LO s pend->LO (LwD.choose st f l s) pend
 | 0,_,s,_,_,h=>h
 | f+1,l,s,pend,hs,h=>by
  unfold LwD.choose
  split
  ·exact h.put (h.1.li.goto (List.mem_append_right _ h.2))
  split
  ·rename_i h0 h1
   refine h.put (h.1.li.cmp (by simp) _ (List.mem_append_left _ ?_) (List.mem_append_right _ h.2))
   rw [numAt_eq (by omega)]
   exact hs _ (List.getElem_mem _)
  ·have hn:LI s.new.new.parts s.new.new.last ((s.last+2) :: (s.last+1) :: (pend++actN s)):=h.1.li.new.new
   have h1:=hn.cmp (how:=48#16) (by simp) (numAt l (l.length / 2)) (t:=s.last+2) (e:=s.last+1) (by simp) (by simp)
   have h2:=(h1.perm (List.Perm.swap _ _ _)).here
   have h3:LO ((s.new.new.put (pIf 48#16 (numAt l (l.length / 2)) (s.last+2) (s.last+1))).put (pHere (s.last+1))) ((s.last+2) :: pend):=⟨⟨h2,h.1.la⟩,h.2⟩
   have h4:=LO.choose f (l.take (l.length / 2)) _ _ (fun c hc=>List.mem_cons_of_mem _ (hs c (List.mem_of_mem_take hc))) h3
   have h5:=h4.put (p:=pHere (s.last+2)) (pend':=pend) h4.1.li.here
   exact LO.choose f (l.drop (l.length / 2)) _ _ (fun c hc=>hs c (List.mem_of_mem_drop hc)) h5
theorem LO.cases {st:List (BitVec 32×Nat)} {pend:List Nat}:∀ (l:List CaseD) (s:LwD),LO s (l.map (fun c=>getN c.number st)++pend)->LO (LwD.cases st l s) pend
 | [],s,h=>h
 | c :: l,s,h=>by
  have h1:LO (s.put (pHere (getN c.number st))) (l.map (fun c=>getN c.number st)++pend):=h.put h.1.li.here
  exact LO.cases l (LwD.case1 st s c) (h1.branches c.branches)
theorem LI.ends {A:List (BitVec 32×Nat)}:∀ (l:List (BitVec 32×Nat)) (s:LwD),(∀ x∈l,getN x.1 A=x.2)->LI s.parts s.last (l.map Prod.snd)->LI ((l.map Prod.fst).foldl (LwD.end1 A) s).parts ((l.map Prod.fst).foldl (LwD.end1 A) s).last []
 | [],s,_,h=>h
 | x :: l,s,hx,h=>by
  rw [List.map_cons,List.foldl_cons]
  refine LI.ends l _ (fun y hy=>hx y (List.mem_cons_of_mem _ hy)) ?_
  unfold LwD.end1
  rw [hx x (List.mem_cons_self ..)]
  exact h.here.plain (.inr (.inr rfl))
theorem LT.low2 (d:BitVec 32):LT (low2 d).1 []/\(low2 d).1.other∈actN (low2 d).1:=by
 have h0:LT LwD.zero []:=⟨LI.nil,rfl,by simp [LwD.zero]⟩
 have h1:=h0.act d
 have h2:LT (low1 d) []:=⟨h1.li,h1.la⟩
 have ho:(low1 d).other∈actN (low1 d):=mem_actN (s:=(LwD.zero.act d).1) (act_look LwD.zero d)
 refine ⟨h2.act _,?_⟩
 show (((low1 d).act _).1).other∈_
 rw [(act_keeps _ _).2]
 exact actN_sub (act_sub _ _) _ ho
theorem LO.lower0 (d:BitVec 32):LO (lower0 d) []:=by
 obtain ⟨h1,h2⟩:=LT.low2 d
 have hn:LI (low2 d).1.new.parts (low2 d).1.new.last (((low2 d).1.last+1) :: ([]++actN (low2 d).1)):=h1.li.new
 have hk:=mem_actN (act_look (low1 d) 2147483648#32)
 have h3:=hn.plain (x:=iLoad 4#32) (.inl ⟨rfl,by decide,by decide⟩)
 have h4:=h3.cmp (how:=16#16) (by simp) 3221225534#32 (t:=(low2 d).1.last+1) (e:=(low2 d).2) (List.mem_cons_self ..) (List.mem_cons_of_mem _ hk)
 exact ⟨⟨h4.here,h1.la⟩,h2⟩
theorem starts_ok:∀ (l:List CaseD) (x:LwD×List (BitVec 32×Nat)),(l.map CaseD.number).Nodup->(∀ c∈l,c.number ∉ x.2.map Prod.fst)->(x.2.map Prod.fst).Nodup->LO x.1 (x.2.map Prod.snd) ->
  LO (LwD.starts l x).1 ((LwD.starts l x).2.map Prod.snd)/\(LwD.starts l x).2.map Prod.fst=x.2.map Prod.fst++l.map CaseD.number/\((LwD.starts l x).2.map Prod.fst).Nodup/\(LwD.starts l x).1.parts=x.1.parts/\KeepA x.1 (LwD.starts l x).1
 | [],x,_,_,h2,h3=>⟨h3,by simp [LwD.starts],h2,rfl,rfl,rfl,rfl⟩
 | c :: l,x,hn,hx,h2,h3=>by
  rw [List.map_cons,List.nodup_cons] at hn
  have hf:=hx c (List.mem_cons_self ..)
  have ha:aset c.number (x.1.last+1) x.2=x.2++[(c.number,x.1.last+1)]:=aset_fresh _ _ _ hf
  have hnd:((x.2++[(c.number,x.1.last+1)]).map Prod.fst).Nodup:=by
   rw [List.map_append,List.nodup_append]
   refine ⟨h2,by simp,?_⟩
   intro a h1 b h2 e
   simp only [List.map_cons,List.map_nil,List.mem_singleton] at h2
   subst h2; subst e
   exact hf h1
  have hs:LwD.start1 x c=(x.1.new,x.2++[(c.number,x.1.last+1)]):=by unfold LwD.start1; rw [ha]
  have hlo:LO x.1.new ((x.2++[(c.number,x.1.last+1)]).map Prod.snd):=by
   refine ⟨⟨?_,h3.1.la⟩,h3.2⟩
   refine h3.1.li.new.perm ?_
   have:(x.2++[(c.number,x.1.last+1)]).map Prod.snd=x.2.map Prod.snd++[x.1.last+1]:=by simp
   rw [this,List.append_assoc]
   exact (List.perm_middle).symm
  obtain ⟨r1,r2,r3,r4,r5⟩:=starts_ok l (LwD.start1 x c) hn.2 (by
   rw [hs]
   intro c' hc'
   simp only [List.map_append,List.map_cons,List.map_nil,List.mem_append,List.mem_singleton,not_or]
   exact ⟨hx c' (List.mem_cons_of_mem _ hc'),fun e=>hn.1 (by rw [<- e]; exact List.mem_map.2 ⟨c',hc',rfl⟩)⟩) (by rw [hs]; exact hnd) (by rw [hs]; exact hlo)
  refine ⟨r1,?_,r3,?_,?_⟩
  ·show (LwD.starts l (LwD.start1 x c)).2.map Prod.fst=_
   rw [r2,hs]; simp
  ·show (LwD.starts l (LwD.start1 x c)).1.parts=_
   rw [r4,hs]; rfl
  ·have:KeepA x.1 (LwD.start1 x c).1:=by rw [hs]; exact KeepA.new _
   exact this.trans r5
theorem getN_key {l:List (BitVec 32×Nat)} (hn:(l.map Prod.fst).Nodup) {x:BitVec 32×Nat} (h:x∈l):getN x.1 l=x.2:=by
 unfold getN
 rw [alook_of_memK hn (v:=x.2) h]; rfl
theorem starts_names {l:List CaseD} {st:List (BitVec 32×Nat)} (h:st.map Prod.fst=l.map CaseD.number) (hn:(st.map Prod.fst).Nodup):l.map (fun c=>getN c.number st)=st.map Prod.snd:=by
 have:l.map (fun c=>getN c.number st)=(l.map CaseD.number).map fun n=>getN n st:=by rw [List.map_map]; rfl
 rw [this,<- h,List.map_map]
 apply List.map_congr_left
 intro x hx
 exact getN_key hn hx
structure Low (p:PlanD):Prop where
 lo3:LO (low3 p).1 ((low3 p).2.map Prod.snd)
 names:(low3 p).2.map Prod.fst=p.cases.map CaseD.number
 lo4:LO (low4 p) (p.cases.map fun c=>getN c.number (low3 p).2)
 lo5:LO (LwD.cases (low3 p).2 p.cases (low4 p)) []
 fin:LI (lowerF p).parts (lowerF p).last []
theorem low_ok (p:PlanD) (hn:(p.cases.map CaseD.number).Nodup):Low p:=by
 obtain ⟨r1,r2,r3,r4,r5⟩:=starts_ok p.cases (lower0 p.default,[]) hn (by simp) (by simp) (LO.lower0 p.default)
 have hnames:(low3 p).2.map Prod.fst=p.cases.map CaseD.number:=by
  exact r2
 have hst:=starts_names hnames r3
 have r1:LO (low3 p).1 ((low3 p).2.map Prod.snd):=r1
 have h4:LO (low4 p) (p.cases.map fun c=>getN c.number (low3 p).2):=by
  refine LO.choose _ _ _ _ (fun c hc=>List.mem_map.2 ⟨c,hc,rfl⟩) ?_
  rw [hst]
  exact r1.put (r1.1.li.plain (.inl ⟨rfl,by decide,by decide⟩))
 have h5:LO (LwD.cases (low3 p).2 p.cases (low4 p)) []:=LO.cases p.cases (low4 p) (by rw [List.append_nil]; exact h4)
 refine ⟨r1,hnames,h4,h5,?_⟩
 unfold lowerF LwD.ends
 rw [h5.1.la.1]
 refine LI.ends _ _ (fun x hx=>getN_key h5.1.la.2 hx) ?_
 exact h5.1.li
end Go.AM
end
section
namespace Go.AM
set_option maxRecDepth 20000
theorem hi_toNat (x:BitVec 64):(hi32 x).toNat=x.toNat / 4294967296:=by
 unfold hi32
 have:=x.isLt
 rw [BitVec.toNat_setWidth,BitVec.toNat_ushiftRight,Nat.shiftRight_eq_div_pow,Nat.mod_eq_of_lt (by omega)]
theorem lo_toNat (x:BitVec 64):(lo32 x).toNat=x.toNat % 4294967296:=by
 unfold lo32
 rw [BitVec.toNat_setWidth]
theorem eq_halves (x y:BitVec 64):x=y↔hi32 x=hi32 y/\lo32 x=lo32 y:=by
 constructor
 ·rintro rfl; exact ⟨rfl,rfl⟩
 ·rintro ⟨h1,h2⟩
  apply BitVec.eq_of_toNat_eq
  have h1:=congrArg BitVec.toNat h1
  have h2:=congrArg BitVec.toNat h2
  rw [hi_toNat,hi_toNat] at h1
  rw [lo_toNat,lo_toNat] at h2
  omega
theorem gt_halves (x y:BitVec 64):y.toNat<x.toNat↔(hi32 y).toNat<(hi32 x).toNat\/(hi32 x=hi32 y/\(lo32 y).toNat<(lo32 x).toNat):=by
 rw [<- BitVec.toNat_inj,hi_toNat,hi_toNat,lo_toNat,lo_toNat]
 omega
theorem ge_halves (x y:BitVec 64):y.toNat<=x.toNat↔(hi32 y).toNat<(hi32 x).toNat\/(hi32 x=hi32 y/\(lo32 y).toNat<=(lo32 x).toNat):=by
 rw [<- BitVec.toNat_inj,hi_toNat,hi_toNat,lo_toNat,lo_toNat]
 omega
theorem hi_and (x y:BitVec 64):hi32 (x&&&y)=hi32 x&&&hi32 y:=by
 apply BitVec.eq_of_getLsbD_eq
 intro i hi
 simp [hi32,BitVec.getLsbD_setWidth,BitVec.getLsbD_ushiftRight,hi]
theorem lo_and (x y:BitVec 64):lo32 (x&&&y)=lo32 x&&&lo32 y:=by
 apply BitVec.eq_of_getLsbD_eq
 intro i hi
 simp [lo32,BitVec.getLsbD_setWidth,hi]
section
variable {r:RecD} {L:List PartD} {s:LwD}
def KAt (r:RecD) (L:List PartD) (s:LwD):Beh:=(den r (L.drop s.parts.length)).2
def atN (r:RecD) (L:List PartD) (n:Nat):Beh:=goTo (den r L).1 (n:Int)
def Pre (L:List PartD) (s:LwD):Prop:=s.parts <+: L
theorem Pre.back {p:PartD} (h:Pre L (s.put p)):Pre L s:=(List.prefix_append _ _).trans h
theorem Pre.drop {p:PartD} (h:Pre L (s.put p)):L.drop s.parts.length=p :: L.drop (s.put p).parts.length:=by
 obtain ⟨t,rfl⟩:=h
 have e1:(s.put p).parts=s.parts++[p]:=rfl
 rw [e1,List.append_assoc]
 simp [List.drop_append]
theorem den_look (r:RecD) {b:List PartD} {n:Int} (hn:n∈heres b):∀ a:List PartD,wfL (a++b)->alook n (den r (a++b)).1=alook n (den r b).1
 | [],_=>rfl
 | p :: a,w=>by
  have ih:=den_look r hn a w.tail
  show alook n (denStep r p (den r (a++b))).1=_
  unfold denStep
  by_cases h1:p.kind=1#8
  ·rw [if_pos h1]
   simp only [alook_cons]
   have:=(w [] p (a++b) rfl).1 h1
   rw [if_neg (fun e=>this (by rw [<- e,heres_app]; exact List.mem_append_right _ hn))]
   exact ih
  ·rw [if_neg h1]
   by_cases h4:p.kind=4#8
   ·rw [if_pos h4]; exact ih
   ·rw [if_neg h4]
    by_cases h3:p.kind=3#8
    ·rw [if_pos h3]; exact ih
    ·rw [if_neg h3]; exact ih
theorem goTo_drop (w:wfL L) {k:Nat} {n:Nat} (hn:(n:Int)∈heres (L.drop k)):goTo (den r (L.drop k)).1 n=atN r L n:=by
 unfold atN goTo
 have:=den_look r hn (L.take k) (by rw [List.take_append_drop]; exact w)
 rw [List.take_append_drop] at this
 rw [this]
theorem wf_at (w:wfL L) {p:PartD} (h:Pre L (s.put p)):(p.kind=1#8->p.to ∉ heres (L.drop (s.put p).parts.length))/\(p.kind=4#8->p.to∈heres (L.drop (s.put p).parts.length))/\(p.kind=3#8->p.to∈heres (L.drop (s.put p).parts.length)/\p.els∈heres (L.drop (s.put p).parts.length)):=by
 refine w (L.take s.parts.length) p _ ?_
 rw [<- Pre.drop h,List.take_append_drop]
theorem K_here (w:wfL L) {n:Nat} (h:Pre L (s.put (pHere n))):KAt r L s=KAt r L (s.put (pHere n))/\atN r L n=KAt r L (s.put (pHere n)):=by
 have hd:=Pre.drop h
 have hk:KAt r L s=KAt r L (s.put (pHere n)):=by
  unfold KAt
  rw [hd,den_cons]
  rfl
 refine ⟨hk,?_⟩
 have hm:(n:Int)∈heres (L.drop s.parts.length):=by rw [hd,heres_cons,if_pos (show (pHere n).kind=1#8 from rfl)]; exact List.mem_cons_self ..
 rw [<- goTo_drop w hm,hd,den_cons]
 unfold goTo denStep
 rw [if_pos (show (pHere n).kind=1#8 from rfl)]
 simp only [alook_cons]
 rw [if_pos (show (n:Int)=(pHere n).to from rfl)]
 rfl
theorem K_plain {x:InsnD} (h:Pre L (s.put (pPlain x))) (a:BitVec 32):KAt r L s a=match (stepI r x a).2.2 with | some o=>o | none=>KAt r L (s.put (pPlain x)) (stepI r x a).1:=by
 unfold KAt
 rw [Pre.drop h,den_cons]
 rfl
theorem K_load (hr:r.ok) {n:Nat} (hn:n<6) {b:Bool} {k:BitVec 32} (hk:k=BitVec.ofNat 32 (16+8*n+(if b then 4 else 0))) (h:Pre L (s.put (pPlain (iLoad k)))) (a:BitVec 32):KAt r L s a=KAt r L (s.put (pPlain (iLoad k))) (if b then hi32 (argAt r.args n) else lo32 (argAt r.args n)):=by
 rw [K_plain h a]
 have:stepI r (iLoad k) a=((rword r k).1,0,none):=rfl
 rw [this]
 have h2:=rword_arg r hr n hn b
 rw [<- hk] at h2
 simp only [h2]
 rfl
theorem K_mask {k:BitVec 32} (h:Pre L (s.put (pPlain (iMask k)))) (a:BitVec 32):KAt r L s a=KAt r L (s.put (pPlain (iMask k))) (a&&&k):=by
 rw [K_plain h a]; rfl
theorem K_goto (w:wfL L) {n:Nat} (h:Pre L (s.put (pGoto n))) (a:BitVec 32):KAt r L s a=atN r L n a:=by
 have hm:=(wf_at w h).2.1 rfl
 have hg:=goTo_drop (r:=r) w (n:=n) hm
 unfold KAt
 rw [Pre.drop h,den_cons,<- hg]
 rfl
theorem K_if (w:wfL L) {how:BitVec 16} {k:BitVec 32} {t e:Nat} (h:Pre L (s.put (pIf how k t e))) (a:BitVec 32):KAt r L s a=if testI (pIf how k t e).insn a=true then atN r L t a else atN r L e a:=by
 have hm:=(wf_at w h).2.2 rfl
 have h1:=goTo_drop (r:=r) w (n:=t) hm.1
 have h2:=goTo_drop (r:=r) w (n:=e) hm.2
 unfold KAt
 rw [Pre.drop h,den_cons,<- h1,<- h2]
 rfl
theorem test_eq (k a:BitVec 32) (t e:Nat):testI (pIf 16#16 k t e).insn a=decide (a=k):=rfl
theorem test_gt (k a:BitVec 32) (t e:Nat):testI (pIf 32#16 k t e).insn a=decide (k.toNat<a.toNat):=rfl
theorem test_ge (k a:BitVec 32) (t e:Nat):testI (pIf 48#16 k t e).insn a=decide (k.toNat<=a.toNat):=rfl
theorem clamp_in {n:Int} (h0:0<=n) (h5:n<=5):clampArg n=n.toNat:=by unfold clampArg; rw [if_neg (by omega),if_neg (by omega)]
theorem K_second (w:wfL L) (hr:r.ok) {c:CondD} (h0:0<=c.arg) (h5:c.arg<=5) {n:Nat} (h:Pre L (s.second c n)):∀ a,atN r L n a=KAt r L (s.second c n) (lo32 (argAt r.args c.arg.toNat)):=by
 intro a
 have hb:Pre L (s.put (pHere n)):=Pre.back (p:=pPlain (iLoad (halfOf c.arg false))) h
 rw [(K_here w hb).2]
 have:=K_load (b:=false) hr (n:=c.arg.toNat) (by omega) (k:=halfOf c.arg false) (by unfold halfOf; rw [clamp_in h0 h5]) h a
 rw [this]; rfl
theorem K_order64 (w:wfL L) (hr:r.ok) {c:CondD} (h0:0<=c.arg) (h5:c.arg<=5) {how:BitVec 16} {yes no:Nat} (h:Pre L (s.order64 c how yes no)) {vy vn:BitVec 32} (hy:∀ a,atN r L yes a=vy) (hn:∀ a,atN r L no a=vn) :
  KAt r L s (hi32 (argAt r.args c.arg.toNat))=if (hi32 c.value).toNat<(hi32 (argAt r.args c.arg.toNat)).toNat\/(hi32 (argAt r.args c.arg.toNat)=hi32 c.value/\testI (pIf how (lo32 c.value) yes no).insn (lo32 (argAt r.args c.arg.toNat))=true) then vy else vn:=by
 unfold LwD.order64 at h
 simp only at h
 have h2:=Pre.back h
 have h3:Pre L (((s.new.new.put (pIf 32#16 (hi32 c.value) yes (s.last+1))).put (pHere (s.last+1))).put (pIf 16#16 (hi32 c.value) (s.last+2) no)):=Pre.back (p:=pHere (s.last+2)) (Pre.back (p:=pPlain (iLoad (halfOf c.arg false))) h2)
 have h4:=Pre.back h3
 have h5':=Pre.back h4
 have e1:=K_if (r:=r) w h5' (hi32 (argAt r.args c.arg.toNat))
 have e2:=(K_here (r:=r) w h4).2
 have e3:=K_if (r:=r) w h3 (hi32 (argAt r.args c.arg.toNat))
 have e4:=K_second (r:=r) w hr h0 h5 h2
 have e5:=K_if (r:=r) w h (lo32 (argAt r.args c.arg.toNat))
 have e0:KAt r L s (hi32 (argAt r.args c.arg.toNat))=KAt r L s.new.new (hi32 (argAt r.args c.arg.toNat)):=rfl
 rw [e0,e1,test_gt,e2,e3,test_eq,e4,e5,hy,hy,hn,hn]
 generalize hi32 (argAt r.args c.arg.toNat)=xh
 generalize testI (pIf how (lo32 c.value) yes no).insn (lo32 (argAt r.args c.arg.toNat))=b
 by_cases c1:(hi32 c.value).toNat<xh.toNat
 ·simp [c1]
 ·by_cases c2:xh=hi32 c.value
  ·simp [c2]
  ·simp [c1,c2]
theorem K_cond (w:wfL L) (hr:r.ok) {c:CondD} (h0:0<=c.arg) (h5:c.arg<=5) {yes no:Nat} (h:Pre L (s.cond c yes no)) {vy vn:BitVec 32} (hy:∀ a,atN r L yes a=vy) (hn:∀ a,atN r L no a=vn) (a:BitVec 32) :
  KAt r L s a=if holds c r.args=true then vy else vn:=by
 unfold LwD.cond at h
 have hp:Pre L (s.new.put (pPlain (iLoad (halfOf c.arg true)))):=by
  unfold LwD.condOn at h
  split at h
  ·exact Pre.back (p:=pIf 16#16 (hi32 c.value) (s.last+1) no) (Pre.back (p:=pHere (s.last+1)) (Pre.back (p:=pPlain (iLoad (halfOf c.arg false))) (Pre.back h)))
  split at h
  ·exact Pre.back (p:=pIf 16#16 (hi32 c.value) (s.last+1) yes) (Pre.back (p:=pHere (s.last+1)) (Pre.back (p:=pPlain (iLoad (halfOf c.arg false))) (Pre.back h)))
  have o64:∀ (t:LwD) (how:BitVec 16) (y n:Nat),Pre L (t.order64 c how y n)->Pre L t:=fun t how y n h=>by
   unfold LwD.order64 at h
   exact Pre.back (s:=t.new.new) (Pre.back (Pre.back (Pre.back (p:=pHere (t.last+2)) (Pre.back (p:=pPlain (iLoad (halfOf c.arg false))) (Pre.back h)))))
  split at h
  ·exact o64 _ _ _ _ h
  split at h
  ·exact o64 _ _ _ _ h
  split at h
  ·exact o64 _ _ _ _ h
  split at h
  ·exact o64 _ _ _ _ h
  split at h
  ·exact Pre.back (p:=pPlain (iMask (hi32 c.mask))) (Pre.back (p:=pIf 16#16 (hi32 c.value) (s.last+1) no) (Pre.back (p:=pHere (s.last+1)) (Pre.back (p:=pPlain (iLoad (halfOf c.arg false))) (Pre.back (Pre.back h)))))
  ·exact Pre.back h
 have e0:KAt r L s a=KAt r L s.new a:=rfl
 have e1:=K_load (r:=r) (b:=true) hr (n:=c.arg.toNat) (by omega) (k:=halfOf c.arg true) (by unfold halfOf; rw [clamp_in h0 h5]) hp a
 rw [e0,e1]
 simp only [if_true]
 have hh:holds c r.args=holdsOf c.op.toNat c.mask c.value (argAt r.args c.arg.toNat):=by unfold holds; rw [if_neg (by omega)]
 rw [hh]
 unfold holdsOf
 generalize s.new.put (pPlain (iLoad (halfOf c.arg true)))=t at *
 generalize s.last+1=next at *
 have opn:∀ k:BitVec 8,(c.op.toNat=k.toNat)↔c.op=k:=fun k=>BitVec.toNat_inj
 have n1:c.op.toNat=1↔c.op=1#8:=opn 1#8
 have n2:c.op.toNat=2↔c.op=2#8:=opn 2#8
 have n3:c.op.toNat=3↔c.op=3#8:=opn 3#8
 have n4:c.op.toNat=4↔c.op=4#8:=opn 4#8
 have n5:c.op.toNat=5↔c.op=5#8:=opn 5#8
 have n6:c.op.toNat=6↔c.op=6#8:=opn 6#8
 have n7:c.op.toNat=7↔c.op=7#8:=opn 7#8
 simp only [n1,n2,n3,n4,n5,n6,n7]
 have hc:=h
 unfold LwD.condOn at hc
 by_cases o1:c.op=1#8
 ·rw [if_pos o1] at hc ⊢
  have h2:=Pre.back hc
  have h3:Pre L (t.put (pIf 16#16 (hi32 c.value) next no)):=Pre.back (p:=pHere next) (Pre.back (p:=pPlain (iLoad (halfOf c.arg false))) h2)
  rw [K_if w h3,test_eq,K_second w hr h0 h5 h2,K_if w hc,test_eq,hy,hn,hn]
  generalize argAt r.args c.arg.toNat=x
  simp only [decide_eq_true_eq,eq_halves x c.value]
  by_cases c1:hi32 x=hi32 c.value <;> by_cases c2:lo32 x=lo32 c.value <;> simp [c1,c2]
 rw [if_neg o1] at hc ⊢
 by_cases o2:c.op=2#8
 ·rw [if_pos o2] at hc ⊢
  have h2:=Pre.back hc
  have h3:Pre L (t.put (pIf 16#16 (hi32 c.value) next yes)):=Pre.back (p:=pHere next) (Pre.back (p:=pPlain (iLoad (halfOf c.arg false))) h2)
  rw [K_if w h3,test_eq,K_second w hr h0 h5 h2,K_if w hc,test_eq,hy,hy,hn]
  generalize argAt r.args c.arg.toNat=x
  simp only [decide_eq_true_eq,ne_eq,eq_halves x c.value]
  by_cases c1:hi32 x=hi32 c.value <;> by_cases c2:lo32 x=lo32 c.value <;> simp [c1,c2]
 rw [if_neg o2] at hc ⊢
 by_cases o5:c.op=5#8
 ·rw [if_pos o5] at hc
  have o3:c.op≠3#8:=by rw [o5]; decide
  have o4:c.op≠4#8:=by rw [o5]; decide
  rw [if_neg o3,if_neg o4,if_pos o5,K_order64 w hr h0 h5 hc hy hn,test_gt]
  simp only [decide_eq_true_eq,gt_halves]
 rw [if_neg o5] at hc
 by_cases o6:c.op=6#8
 ·rw [if_pos o6] at hc
  have o3:c.op≠3#8:=by rw [o6]; decide
  have o4:c.op≠4#8:=by rw [o6]; decide
  rw [if_neg o3,if_neg o4,if_neg o5,if_pos o6,K_order64 w hr h0 h5 hc hy hn,test_ge]
  simp only [decide_eq_true_eq,ge_halves]
 rw [if_neg o6] at hc
 by_cases o3:c.op=3#8
 ·rw [if_pos o3] at hc
  rw [if_pos o3,K_order64 w hr h0 h5 hc hn hy,test_ge]
  simp only [decide_eq_true_eq,<- ge_halves]
  generalize argAt r.args c.arg.toNat=x
  by_cases hx:c.value.toNat<=x.toNat
  ·rw [if_pos hx,if_neg (by omega)]
  ·rw [if_neg hx,if_pos (by omega)]
 rw [if_neg o3] at hc ⊢
 by_cases o4:c.op=4#8
 ·rw [if_pos o4] at hc
  rw [if_pos o4,K_order64 w hr h0 h5 hc hn hy,test_gt]
  simp only [decide_eq_true_eq,<- gt_halves]
  generalize argAt r.args c.arg.toNat=x
  by_cases hx:c.value.toNat<x.toNat
  ·rw [if_pos hx,if_neg (by omega)]
  ·rw [if_neg hx,if_pos (by omega)]
 rw [if_neg o4] at hc ⊢
 rw [if_neg o5,if_neg o6]
 by_cases o7:c.op=7#8
 ·rw [if_pos o7] at hc ⊢
  have h2:=Pre.back hc
  have h3:=Pre.back h2
  have h4:Pre L ((t.put (pPlain (iMask (hi32 c.mask)))).put (pIf 16#16 (hi32 c.value) next no)):=Pre.back (p:=pHere next) (Pre.back (p:=pPlain (iLoad (halfOf c.arg false))) h3)
  rw [K_mask (Pre.back h4),K_if w h4,test_eq,K_second w hr h0 h5 h3,K_mask h2,K_if w hc,test_eq,hy,hn,hn]
  generalize argAt r.args c.arg.toNat=x
  simp only [decide_eq_true_eq,eq_halves (x&&&c.mask) c.value,hi_and,lo_and]
  by_cases c1:hi32 x&&&hi32 c.mask=hi32 c.value <;> by_cases c2:lo32 x&&&lo32 c.mask=lo32 c.value <;> simp [c1,c2]
 ·rw [if_neg o7] at hc ⊢
  rw [K_goto w hc,hn]
  simp
end
end Go.AM
end
section
namespace Go.AM
set_option maxRecDepth 20000
section
variable {r:RecD} {L:List PartD}
theorem pre_put (s:LwD) (p:PartD):s.parts <+: (s.put p).parts:=List.prefix_append _ _
theorem pre_order64 (t:LwD) (c:CondD) (how:BitVec 16) (y n:Nat):t.parts <+: (t.order64 c how y n).parts:=by
 unfold LwD.order64 LwD.second
 simp only [LwD.put,LwD.new,List.append_assoc]
 exact List.prefix_append _ _
theorem pre_cond (s:LwD) (c:CondD) (y n:Nat):s.parts <+: (s.cond c y n).parts:=by
 unfold LwD.cond
 refine List.IsPrefix.trans (l₂:=(s.new.put (pPlain (iLoad (halfOf c.arg true)))).parts) (List.prefix_append _ _) ?_
 generalize s.new.put (pPlain (iLoad (halfOf c.arg true)))=t
 unfold LwD.condOn LwD.second
 split
 ·simp only [LwD.put,List.append_assoc]; exact List.prefix_append _ _
 split
 ·simp only [LwD.put,List.append_assoc]; exact List.prefix_append _ _
 split
 ·exact pre_order64 ..
 split
 ·exact pre_order64 ..
 split
 ·exact pre_order64 ..
 split
 ·exact pre_order64 ..
 split
 ·simp only [LwD.put,List.append_assoc]; exact List.prefix_append _ _
 ·exact List.prefix_append _ _
theorem pre_step (no:Nat) (s:LwD) (c:CondD):s.parts <+: (LwD.condStep no s c).parts:=(pre_cond s.new c _ _).trans (List.prefix_append _ _)
theorem pre_conds (no:Nat):∀ (l:List CondD) (s:LwD),s.parts <+: (LwD.conds no l s).parts
 | [],_=>List.prefix_refl _
 | c :: l,s=>(pre_step no s c).trans (pre_conds no l _)
theorem pre_act (s:LwD) (a:BitVec 32):s.parts <+: (s.act a).1.parts:=by rw [(act_keeps s a).1]; exact List.prefix_refl _
theorem pre_branch (s:LwD) (b:BranchD):s.parts <+: (s.branch b).parts:=by
 unfold LwD.branch
 exact ((pre_conds _ b.conds s.new).trans (pre_act _ _)).trans ((List.prefix_append _ _).trans (List.prefix_append _ _))
theorem pre_foldb:∀ (l:List BranchD) (s:LwD),s.parts <+: (l.foldl LwD.branch s).parts
 | [],_=>List.prefix_refl _
 | b :: l,s=>(pre_branch s b).trans (pre_foldb l _)
theorem pre_branches (l:List BranchD) (s:LwD):s.parts <+: (LwD.branches l s).parts:=(pre_foldb l s).trans (List.prefix_append _ _)
theorem pre_case1 (st:List (BitVec 32×Nat)) (s:LwD) (c:CaseD):s.parts <+: (LwD.case1 st s c).parts:=(pre_put s (pHere (getN c.number st))).trans (pre_branches c.branches _)
theorem pre_cases (st:List (BitVec 32×Nat)):∀ (l:List CaseD) (s:LwD),s.parts <+: (LwD.cases st l s).parts
 | [],_=>List.prefix_refl _
 | c :: l,s=>(pre_case1 st s c).trans (pre_cases st l _)
theorem pre_choose (st:List (BitVec 32×Nat)):∀ (f:Nat) (l:List CaseD) (s:LwD),s.parts <+: (LwD.choose st f l s).parts
 | 0,_,_=>List.prefix_refl _
 | f+1,l,s=>by
  unfold LwD.choose
  split
  ·exact List.prefix_append _ _
  split
  ·exact List.prefix_append _ _
  ·refine List.IsPrefix.trans ?_ (pre_choose st f _ _)
   refine List.IsPrefix.trans ?_ (List.prefix_append _ _)
   refine List.IsPrefix.trans ?_ (pre_choose st f _ _)
   exact (List.prefix_append _ _).trans (List.prefix_append _ _)
theorem pre_end (A:List (BitVec 32×Nat)):∀ (l:List (BitVec 32)) (s:LwD),s.parts <+: (l.foldl (LwD.end1 A) s).parts
 | [],_=>List.prefix_refl _
 | a :: l,s=>((pre_put s (pHere (getN a A))).trans (pre_put _ (pPlain (iRet a)))).trans (pre_end A l (LwD.end1 A s a))
theorem KeepA.choose (st:List (BitVec 32×Nat)):∀ (f:Nat) (l:List CaseD) (s:LwD),KeepA s (LwD.choose st f l s)
 | 0,_,_=>⟨rfl,rfl,rfl⟩
 | f+1,l,s=>by
  unfold LwD.choose
  split
  ·exact ⟨rfl,rfl,rfl⟩
  split
  ·exact ⟨rfl,rfl,rfl⟩
  ·have k0:KeepA s ((s.new.new.put (pIf 48#16 (numAt l (l.length / 2)) (s.last+2) (s.last+1))).put (pHere (s.last+1))):=⟨rfl,rfl,rfl⟩
   have k1:=KeepA.choose st f (l.take (l.length / 2)) ((s.new.new.put (pIf 48#16 (numAt l (l.length / 2)) (s.last+2) (s.last+1))).put (pHere (s.last+1)))
   exact ((k0.trans k1).trans (KeepA.put _ (pHere (s.last+2)))).trans (KeepA.choose st f (l.drop (l.length / 2)) _)
def inCs (l:List CondD):Prop:=∀ c∈l,0<=c.arg/\c.arg<=5
theorem K_conds (w:wfL L) (hr:r.ok) {no:Nat} {vn v:BitVec 32} (hn:∀ a,atN r L no a=vn):∀ (l:List CondD) (s:LwD),inCs l->Pre L (LwD.conds no l s)->(∀ a,KAt r L (LwD.conds no l s) a=v)->∀ a,KAt r L s a=if holdAll l r=true then v else vn
 | [],s,_,_,hv,a=>by
  have:holdAll [] r=true:=rfl
  rw [if_pos this]
  exact hv a
 | c :: l,s,hi,h,hv,a=>by
  have hp:Pre L (LwD.condStep no s c):=(pre_conds no l _).trans h
  have ih:=K_conds w hr hn l (LwD.condStep no s c) (fun x hx=>hi x (List.mem_cons_of_mem _ hx)) h hv
  have hh:=(K_here (r:=r) w (s:=s.new.cond c (s.last+1) no) (n:=s.last+1) hp).2
  have hc:=hi c (List.mem_cons_self ..)
  have:=K_cond w hr hc.1 hc.2 (s:=s.new) (yes:=s.last+1) (no:=no) (Pre.back hp) (vy:=if holdAll l r=true then v else vn) (vn:=vn) (fun a=>by rw [hh]; exact ih a) hn a
  have e0:KAt r L s a=KAt r L s.new a:=rfl
  rw [e0,this]
  have e1:holdAll (c :: l) r=(holds c r.args&&holdAll l r):=rfl
  rw [e1]
  cases holds c r.args <;> simp
def AtA (r:RecD) (L:List PartD) (A:List (BitVec 32×Nat)):Prop:=∀ x∈A,∀ a,atN r L x.2 a=x.1
theorem K_branch (w:wfL L) (hr:r.ok) {A:List (BitVec 32×Nat)} (hA:AtA r L A) {s:LwD} {b:BranchD} (hi:inCs b.conds) (h:Pre L (s.branch b)) (hs:∀ x∈(s.branch b).acts,x∈A) {v:BitVec 32} (hv:∀ a,KAt r L (s.branch b) a=v) (a:BitVec 32) :
  KAt r L s a=if holdAll b.conds r=true then b.action else v:=by
 have hm:=hs _ (act_look (LwD.conds (s.last+1) b.conds s.new) b.action)
 have hact:=hA _ hm
 have h1:=(K_here (r:=r) w (s:=((LwD.conds (s.last+1) b.conds s.new).act b.action).1.put (pGoto ((LwD.conds (s.last+1) b.conds s.new).act b.action).2)) (n:=s.last+1) h).2
 have h2:=K_goto (r:=r) w (s:=((LwD.conds (s.last+1) b.conds s.new).act b.action).1) (n:=((LwD.conds (s.last+1) b.conds s.new).act b.action).2) (Pre.back h)
 have hp:Pre L (LwD.conds (s.last+1) b.conds s.new):=(pre_act _ _).trans (Pre.back (Pre.back h))
 have e1:∀ a,KAt r L (LwD.conds (s.last+1) b.conds s.new) a=b.action:=fun a=>by
  have:KAt r L (LwD.conds (s.last+1) b.conds s.new)=KAt r L ((LwD.conds (s.last+1) b.conds s.new).act b.action).1:=by unfold KAt; rw [(act_keeps _ _).1]
  rw [this,h2 a,hact a]
 have:=K_conds w hr (no:=s.last+1) (vn:=v) (v:=b.action) (fun a=>by rw [h1]; exact hv a) b.conds s.new hi hp e1 a
 exact this
theorem decideB_cons (d:BitVec 32) (b:BranchD) (l:List BranchD) (r:RecD):decideB d (b :: l) r=if holdAll b.conds r=true then b.action else decideB d l r:=by
 unfold decideB
 rw [List.find?_cons]
 cases holdAll b.conds r <;> rfl
theorem K_foldb (w:wfL L) (hr:r.ok) {A:List (BitVec 32×Nat)} (hA:AtA r L A) {d:BitVec 32}:∀ (l:List BranchD) (s:LwD),(∀ b∈l,inCs b.conds)->Pre L (l.foldl LwD.branch s)->(∀ x∈(l.foldl LwD.branch s).acts,x∈A)->(∀ a,KAt r L (l.foldl LwD.branch s) a=d)->∀ a,KAt r L s a=decideB d l r
 | [],s,_,_,_,hv,a=>hv a
 | b :: l,s,hi,h,hs,hv,a=>by
  have hp:Pre L (s.branch b):=(pre_foldb l _).trans h
  have hsub:∀ x∈(s.branch b).acts,x∈A:=fun x hx=>hs x (by
   have:∀ (l:List BranchD) (s:LwD),∀ x∈s.acts,x∈(l.foldl LwD.branch s).acts:=fun l=>by
    induction l with
    | nil=>exact fun s x hx=>hx
    | cons b l ih=>exact fun s x hx=>ih _ x ((branch_other s b).2 x hx)
   exact this l _ x hx)
  have ih:=K_foldb w hr hA l (s.branch b) (fun b hb=>hi b (List.mem_cons_of_mem _ hb)) h hs hv
  rw [K_branch w hr hA (hi b (List.mem_cons_self ..)) hp hsub ih a,decideB_cons]
theorem foldb_keep:∀ (l:List BranchD) (s:LwD),(l.foldl LwD.branch s).other=s.other/\∀ x∈s.acts,x∈(l.foldl LwD.branch s).acts
 | [],s=>⟨rfl,fun _ hx=>hx⟩
 | b :: l,s=>by
  obtain ⟨h2,h3⟩:=foldb_keep l (s.branch b)
  obtain ⟨k1,k2⟩:=branch_other s b
  exact ⟨h2.trans k1,fun x hx=>h3 x (k2 x hx)⟩
theorem K_case1 (w:wfL L) (hr:r.ok) {A:List (BitVec 32×Nat)} (hA:AtA r L A) {st:List (BitVec 32×Nat)} {s:LwD} {c:CaseD} (hi:∀ b∈c.branches,inCs b.conds) (h:Pre L (LwD.case1 st s c)) (hs:∀ x∈(LwD.case1 st s c).acts,x∈A) {d:BitVec 32} (ho:∀ a,atN r L s.other a=d) :
  ∀ a,atN r L (getN c.number st) a=decideB d c.branches r:=by
 intro a
 have hb:Pre L (s.put (pHere (getN c.number st))):=(pre_branches c.branches _).trans h
 rw [(K_here w hb).2]
 refine K_foldb w hr hA c.branches _ hi (Pre.back (p:=pGoto (c.branches.foldl LwD.branch (s.put (pHere (getN c.number st)))).other) h) hs (fun a =>?_) a
 rw [K_goto w (s:=c.branches.foldl LwD.branch (s.put (pHere (getN c.number st)))) h,(foldb_keep c.branches _).1]
 exact ho a
theorem K_cases (w:wfL L) (hr:r.ok) {A:List (BitVec 32×Nat)} (hA:AtA r L A) {st:List (BitVec 32×Nat)} {d:BitVec 32}:∀ (l:List CaseD) (s:LwD),(∀ c∈l,∀ b∈c.branches,inCs b.conds)->Pre L (LwD.cases st l s)->(∀ x∈(LwD.cases st l s).acts,x∈A)->(∀ a,atN r L s.other a=d) ->
  ∀ c∈l,∀ a,atN r L (getN c.number st) a=decideB d c.branches r
 | [],_,_,_,_,_,c,hc,_=>by cases hc
 | x :: l,s,hi,h,hs,ho,c,hc,a=>by
  have hp:Pre L (LwD.case1 st s x):=(pre_cases st l _).trans h
  have k1:(LwD.case1 st s x).other=s.other:=(foldb_keep x.branches (s.put (pHere (getN x.number st)))).1
  have sub:∀ (l:List CaseD) (s:LwD),∀ y∈s.acts,y∈(LwD.cases st l s).acts:=fun l=>by
   induction l with
   | nil=>exact fun s y hy=>hy
   | cons z l ih=>exact fun s y hy=>ih (LwD.case1 st s z) y ((foldb_keep z.branches (s.put (pHere (getN z.number st)))).2 y hy)
  rcases List.mem_cons.1 hc with rfl | hc
  ·exact K_case1 w hr hA (hi c (List.mem_cons_self ..)) hp (fun y hy=>hs y (sub l _ y hy)) ho a
  ·exact K_cases w hr hA l (LwD.case1 st s x) (fun c hc=>hi c (List.mem_cons_of_mem _ hc)) h hs (by rw [k1]; exact ho) c hc a
theorem K_ends (w:wfL L) {A:List (BitVec 32×Nat)}:∀ (l:List (BitVec 32×Nat)) (s:LwD),(∀ x∈l,getN x.1 A=x.2)->Pre L ((l.map Prod.fst).foldl (LwD.end1 A) s)->AtA r L l
 | [],_,_,_=>fun x hx=>by cases hx
 | y :: l,s,hx,h=>by
  rw [List.map_cons,List.foldl_cons] at h
  have hp:Pre L (LwD.end1 A s y.1):=(pre_end A _ _).trans h
  intro x hm a
  rcases List.mem_cons.1 hm with rfl | hm
  ·unfold LwD.end1 at hp
   rw [hx x (List.mem_cons_self ..)] at hp
   rw [(K_here w (Pre.back hp)).2,K_plain hp]
   rfl
  ·exact K_ends w l _ (fun z hz=>hx z (List.mem_cons_of_mem _ hz)) h x hm a
def caseV (F:CaseD->BitVec 32) (d:BitVec 32) (l:List CaseD) (n:BitVec 32):BitVec 32:=match l.find? fun c=>decide (c.number=n) with
 | none=>d
 | some c=>F c
theorem K_choose (w:wfL L) {st:List (BitVec 32×Nat)} {F:CaseD->BitVec 32} {d n:BitVec 32}:∀ (f:Nat) (l:List CaseD) (s:LwD),l.length<f->Pre L (LwD.choose st f l s)->(l.Pairwise fun a b=>a.number.toNat<b.number.toNat) ->
  (∀ c∈l,∀ a,atN r L (getN c.number st) a=F c)->(∀ a,atN r L s.other a=d)->KAt r L s n=caseV F d l n
 | 0,_,_,hf,_,_,_,_=>by omega
 | f+1,l,s,hf,h,hp,hF,ho=>by
  unfold LwD.choose at h
  by_cases h0:l.length=0
  ·rw [if_pos h0] at h
   have:l=[]:=List.eq_nil_of_length_eq_zero h0
   subst this
   rw [K_goto w h,ho]; rfl
  rw [if_neg h0] at h
  by_cases h1:l.length=1
  ·rw [if_pos h1] at h
   obtain ⟨c,rfl⟩:=List.length_eq_one_iff.1 h1
   have hn0:numAt [c] 0=c.number:=rfl
   rw [hn0] at h
   rw [K_if w h,test_eq,hF c (List.mem_singleton.2 rfl),ho]
   unfold caseV
   by_cases hc:n=c.number
   ·simp [hc]
   ·have hc':¬ c.number=n:=fun e=>hc e.symm
    simp [hc,hc']
  rw [if_neg h1] at h
  have hhalf:l.length / 2<l.length:=by omega
  rw [numAt_eq hhalf] at h
  have p5:=(pre_choose st f (l.drop (l.length / 2)) _).trans h
  have p4:=Pre.back p5
  have p3:=(pre_choose st f (l.take (l.length / 2)) _).trans p4
  have p2:=Pre.back p3
  have k1:=K_if (r:=r) w p2 n
  have k2:=(K_here (r:=r) w p3).2
  have k3:=(K_here (r:=r) w p5).2
  have oth:∀ a,atN r L ((LwD.choose st f (l.take (l.length / 2)) ((s.new.new.put (pIf 48#16 l[l.length / 2].number (s.last+2) (s.last+1))).put (pHere (s.last+1)))).put (pHere (s.last+2))).other a=d:=by
   have:((LwD.choose st f (l.take (l.length / 2)) ((s.new.new.put (pIf 48#16 l[l.length / 2].number (s.last+2) (s.last+1))).put (pHere (s.last+1)))).put (pHere (s.last+2))).other=s.other:=(KeepA.choose st f (l.take (l.length / 2)) _).2.1
   rw [this]; exact ho
  have i1:=K_choose w (F:=F) (d:=d) (n:=n) f (l.take (l.length / 2)) _ (by rw [List.length_take]; omega) p4 (hp.sublist (List.take_sublist _ _)) (fun c hc=>hF c (List.mem_of_mem_take hc)) ho
  have i2:=K_choose w (F:=F) (d:=d) (n:=n) f (l.drop (l.length / 2)) _ (by rw [List.length_drop]; omega) h (hp.sublist (List.drop_sublist _ _)) (fun c hc=>hF c (List.mem_of_mem_drop hc)) oth
  have e0:KAt r L s n=KAt r L s.new.new n:=rfl
  rw [e0,k1,test_ge,k2,k3,i1,i2]
  have hsplit:l=l.take (l.length / 2)++l.drop (l.length / 2):=(List.take_append_drop _ _).symm
  have hlow:∀ c∈l.take (l.length / 2),c.number.toNat<l[l.length / 2].number.toNat:=by
   intro c hc
   obtain ⟨j,hj,rfl⟩:=List.getElem_of_mem hc
   rw [List.length_take] at hj
   rw [List.getElem_take]
   exact List.pairwise_iff_getElem.1 hp j (l.length / 2) (by omega) hhalf (by omega)
  have hhigh:∀ c∈l.drop (l.length / 2),l[l.length / 2].number.toNat<=c.number.toNat:=by
   intro c hc
   obtain ⟨j,hj,rfl⟩:=List.getElem_of_mem hc
   rw [List.length_drop] at hj
   rw [List.getElem_drop]
   rcases Nat.eq_zero_or_pos j with rfl | hj0
   ·exact Nat.le_refl _
   ·exact Nat.le_of_lt (List.pairwise_iff_getElem.1 hp (l.length / 2) (l.length / 2+j) hhalf (by omega) (by omega))
  have key:caseV F d l n=if l[l.length / 2].number.toNat<=n.toNat then caseV F d (l.drop (l.length / 2)) n else caseV F d (l.take (l.length / 2)) n:=by
   have hfd:l.find? (fun c=>decide (c.number=n))=((l.take (l.length / 2)).find? (fun c=>decide (c.number=n))).or ((l.drop (l.length / 2)).find? (fun c=>decide (c.number=n))):=by
    conv=>lhs; rw [hsplit]
    rw [List.find?_append]
   by_cases hle:l[l.length / 2].number.toNat<=n.toNat
   ·rw [if_pos hle]
    unfold caseV
    have hnone:(l.take (l.length / 2)).find? (fun c=>decide (c.number=n))=none:=by
     rw [List.find?_eq_none]
     intro c hc he
     have:=hlow c hc
     rw [of_decide_eq_true he] at this
     omega
    rw [hfd,hnone,Option.none_or]
   ·rw [if_neg hle]
    unfold caseV
    have hnone:(l.drop (l.length / 2)).find? (fun c=>decide (c.number=n))=none:=by
     rw [List.find?_eq_none]
     intro c hc he
     have:=hhigh c hc
     rw [of_decide_eq_true he] at this
     omega
    rw [hfd,hnone,Option.or_none]
  rw [key]
  by_cases hc:l[l.length / 2].number.toNat<=n.toNat
  ·rw [if_pos (decide_eq_true hc),if_pos hc]
  ·rw [if_neg (by simpa using hc),if_neg hc]
end
theorem low_says (p:PlanD) (hp:p.cases.Pairwise fun a b=>a.number.toNat<b.number.toNat) (hi:∀ c∈p.cases,∀ b∈c.branches,inCs b.conds) (r:RecD) (hr:r.ok) (a:BitVec 32) :
  (den r (lowerF p).parts).2 a=decideF p r:=by
 have hnd:(p.cases.map CaseD.number).Nodup:=by
  rw [List.nodup_iff_pairwise_ne,List.pairwise_map]
  exact hp.imp fun h e=>by rw [e] at h; omega
 have hl:=low_ok p hnd
 have w:=hl.fin.wf
 generalize hL:(lowerF p).parts=L at *
 have q5:Pre L (LwD.cases (low3 p).2 p.cases (low4 p)):=by
  show _ <+: L
  rw [<- hL]
  exact pre_end _ _ _
 have q4:Pre L (low4 p):=(pre_cases _ _ _).trans q5
 have q3:Pre L ((low3 p).1.put (pPlain (iLoad 0#32))):=(pre_choose _ _ _ _).trans q4
 obtain ⟨_,_,_,r4,r5⟩:=starts_ok p.cases (lower0 p.default,[]) hnd (by simp) (by simp) (LO.lower0 p.default)
 have r4:(low3 p).1.parts=(lower0 p.default).parts:=r4
 have r5:KeepA (lower0 p.default) (low3 p).1:=r5
 have q2:Pre L (lower0 p.default):=by
  show _ <+: L
  rw [<- r4]
  exact Pre.back q3
 have hla:=hl.lo5.1.la
 have hA:AtA r L (LwD.cases (low3 p).2 p.cases (low4 p)).acts:=by
  refine K_ends w (A:=(LwD.cases (low3 p).2 p.cases (low4 p)).acts) _ (LwD.cases (low3 p).2 p.cases (low4 p)) (fun x hx=>getN_key hla.2 hx) ?_
  show _ <+: L
  rw [<- hL,<- hla.1]
  exact List.prefix_refl _
 have hkc:=KeepA.choose (low3 p).2 (p.cases.length+1) p.cases ((low3 p).1.put (pPlain (iLoad 0#32)))
 have acts4:(low4 p).acts=(lower0 p.default).acts:=hkc.1.trans r5.1
 have oth4:(low4 p).other=(lower0 p.default).other:=hkc.2.1.trans r5.2.1
 have sub5:∀ x∈(lower0 p.default).acts,x∈(LwD.cases (low3 p).2 p.cases (low4 p)).acts:=by
  rw [<- acts4]
  have:∀ (l:List CaseD) (s:LwD),∀ y∈s.acts,y∈(LwD.cases (low3 p).2 l s).acts:=fun l=>by
   induction l with
   | nil=>exact fun s y hy=>hy
   | cons z l ih=>exact fun s y hy=>ih (LwD.case1 (low3 p).2 s z) y ((foldb_keep z.branches (s.put (pHere (getN z.number (low3 p).2)))).2 y hy)
  exact this p.cases (low4 p)
 have hother:∀ a,atN r L (lower0 p.default).other a=p.default:=by
  have h1:=act_look LwD.zero p.default
  have h2:(p.default,(low1 p.default).other)∈(lower0 p.default).acts:=act_sub (low1 p.default) _ _ h1
  have h3:(lower0 p.default).other=(low1 p.default).other:=(act_keeps (low1 p.default) 2147483648#32).2
  rw [h3]
  exact hA _ (sub5 _ h2)
 have hkill:∀ a,atN r L (low2 p.default).2 a=2147483648#32:=by
  have h1:=act_look (low1 p.default) 2147483648#32
  exact hA _ (sub5 _ h1)
 have hcases:=K_cases (r:=r) w hr hA (st:=(low3 p).2) (d:=p.default) p.cases (low4 p) hi q5 (fun x hx=>hx) (by rw [oth4]; exact hother)
 have w0:rword r 0#32=(r.number,true):=rfl
 have w4:rword r 4#32=(r.arch,true):=rfl
 have hnum:∀ a,KAt r L (lower0 p.default) a=match p.cases.find? (fun c=>decide (c.number=r.number)) with | none=>p.default | some c=>decideB p.default c.branches r:=by
  intro a
  have e1:KAt r L (lower0 p.default)=KAt r L (low3 p).1:=by unfold KAt; rw [r4]
  rw [e1,K_plain q3 a]
  have hs:stepI r (iLoad 0#32) a=((rword r 0#32).1,0,none):=rfl
  rw [hs,w0]
  simp only
  rw [K_choose w (F:=fun c=>decideB p.default c.branches r) (d:=p.default) (p.cases.length+1) p.cases _ (Nat.lt_succ_self _) q4 hp hcases (fun a =>?_)]
  ·rfl
  ·show atN r L (low3 p).1.other a=_
   rw [r5.2.1]; exact hother a
 have hq1:=Pre.back (s:=((low2 p.default).1.new.put (pPlain (iLoad 4#32))).put (pIf 16#16 3221225534#32 ((low2 p.default).1.last+1) (low2 p.default).2)) (p:=pHere ((low2 p.default).1.last+1)) q2
 have hq0:=Pre.back hq1
 have hown:=(K_here (r:=r) w (s:=((low2 p.default).1.new.put (pPlain (iLoad 4#32))).put (pIf 16#16 3221225534#32 ((low2 p.default).1.last+1) (low2 p.default).2)) q2).2
 have hown:atN r L ((low2 p.default).1.last+1)=KAt r L (lower0 p.default):=hown
 have hz:(low2 p.default).1.parts=[]:=by
  show ((low1 p.default).act _).1.parts=[]
  rw [(act_keeps _ _).1]
  show (LwD.zero.act p.default).1.parts=[]
  rw [(act_keeps _ _).1]; rfl
 have hstart:(den r L).2 a=KAt r L (low2 p.default).1.new a:=by
  unfold KAt
  have:(low2 p.default).1.new.parts=[]:=hz
  rw [this]; rfl
 rw [hstart,K_plain hq0 a]
 have hs:stepI r (iLoad 4#32) a=((rword r 4#32).1,0,none):=rfl
 rw [hs,w4]
 simp only
 rw [K_if w hq1,test_eq,hown,hnum,hkill]
 unfold decideF
 by_cases ha:r.arch=3221225534#32
 ·rw [if_pos (decide_eq_true ha),if_pos ha]
  cases p.cases.find? (fun c=>decide (c.number=r.number)) <;> rfl
 ·rw [if_neg (by simpa using ha),if_neg ha]
end Go.AM
end
section
namespace Go.AM
set_option maxRecDepth 20000
section
variable {E:Sy} {H H' H0 Z:AH} {Q:Value->AH->Prop}
theorem branchesF_le:∀ l:List RuleD,(branchesF l).length<=l.length
 | []=>Nat.le_refl _
 | r :: l=>by
  have:=branchesF_le l
  rw [branchesF]
  split
  ·simp; omega
  ·split
   ·simp
   ·simp; omega
theorem sortS_le (l:List RuleD):(sortS l).length<=4*l.length:=by
 have h:∀ k,(byRank l k).length<=l.length:=fun k=>List.length_filter_le _ _
 have h0:=h 0
 have h1:=h 1
 have h2:=h 2
 have h3:=h 3
 simp only [sortS,List.length_append]
 omega
theorem Nums.nodup {p:PolD} {ns:List (BitVec 32)} (h:Nums p ns):ns.Nodup:=h.up.imp fun {a b} hab e=>by subst e; omega
theorem Nums.len {p:PolD} {ns:List (BitVec 32)} (h:Nums p ns):ns.length<=p.rules.length:=by
 have:=nodup_le ns (p.rules.map RuleD.number) h.nodup fun n hn=>by
  obtain ⟨r,hr,rfl⟩:=(h.mem n).1 hn
  exact List.mem_map.2 ⟨r,hr,rfl⟩
 simpa using this
theorem plan_up {p:PolD} {ns:List (BitVec 32)} (h:Nums p ns):(planOf p ns).cases.Pairwise fun a b=>a.number.toNat<b.number.toNat:=by
 unfold planOf
 simp only
 rw [List.pairwise_map]
 exact h.up
theorem plan_branches {p:PolD} {ns:List (BitVec 32)}:∀ c∈(planOf p ns).cases,c.branches.length<=4*p.rules.length:=by
 intro c hc
 unfold planOf at hc
 obtain ⟨n,_,rfl⟩:=List.mem_map.1 hc
 have h1:=branchesF_le (sortS (ofNum p.rules n))
 have h2:=sortS_le (ofNum p.rules n)
 have h3:(ofNum p.rules n).length<=p.rules.length:=List.length_filter_le _ _
 show (branchesF (sortS (ofNum p.rules n))).length<=_
 omega
end
end Go.AM
end
section
namespace Go.AM
set_option maxRecDepth 20000
theorem ends_ret (A:List (BitVec 32×Nat)):∀ (l:List (BitVec 32)) (s:LwD),l≠[]->∃ l0 k,(l.foldl (LwD.end1 A) s).parts=l0++[retP k]
 | [],_,h=>(h rfl).elim
 | [a],s,_=>⟨(s.put (pHere (getN a A))).parts,a,rfl⟩
 | a :: b :: l,s,_=>ends_ret A (b :: l) (LwD.end1 A s a) (by simp)
theorem sum_le {α:Type} (f:α->Nat) (m:Nat):∀ l:List α,(∀ x∈l,f x<=m)->(l.map f).sum<=l.length*m
 | [],_=>by simp
 | x :: l,h=>by
  have h1:=sum_le f m l fun y hy=>h y (List.mem_cons_of_mem _ hy)
  have h2:=h x (List.mem_cons_self ..)
  simp only [List.map_cons,List.sum_cons,List.length_cons]
  rw [Nat.add_mul,Nat.one_mul]
  omega
theorem wP_le {p:PlanD} {a b c:Nat} (h1:p.cases.length<=a) (h2:∀ x∈p.cases,x.branches.length<=b) (h3:∀ x∈p.cases,∀ y∈x.branches,y.conds.length<=c):wP p<=20+8*a+a*(b*(12*c+5)+2):=by
 have h4:∀ x∈p.cases,wK x<=b*(12*c+5)+2:=by
  intro x hx
  have:wK x=(x.branches.map wC).sum+1+1:=rfl
  rw [this]
  have h5:=sum_le wC (12*c+5) x.branches fun y hy=>by
   have:=h3 x hx y hy
   unfold wC; omega
  have h6:=Nat.mul_le_mul_right (12*c+5) (h2 x hx)
  omega
 have h5:=sum_le wK _ p.cases h4
 have h6:=Nat.mul_le_mul_right (b*(12*c+5)+2) h1
 unfold wP
 omega
theorem tidyFrom_sub:∀ (l out:List CondD) (c:CondD),c∈tidyFrom out l->c∈out\/c∈l
 | [],_,_,h => .inl h
 | x :: l,out,c,h=>by
  unfold tidyFrom at h
  rcases tidyFrom_sub l _ c h with h1 | h1
  ·split at h1
   ·rcases List.mem_append.1 h1 with h2 | h2
    ·exact .inl h2
    ·rw [List.mem_singleton] at h2; subst h2; exact .inr (List.mem_cons_self ..)
   ·exact .inl h1
  ·exact .inr (List.mem_cons_of_mem _ h1)
theorem tidyFrom_len:∀ (l out:List CondD),(tidyFrom out l).length<=out.length+l.length
 | [],_=>by simp [tidyFrom]
 | x :: l,out=>by
  unfold tidyFrom
  have:=tidyFrom_len l (if alwaysC x=false/\x ∉ out then out++[x] else out)
  split at this
  ·rename_i h; rw [if_pos h]; simp at this ⊢; omega
  ·rename_i h; rw [if_neg h]; simp at this ⊢; omega
theorem branch_rule:∀ (l:List RuleD) (b:BranchD),b∈branchesF l->∃ x∈l,(∀ c∈b.conds,c∈x.conds)/\b.conds.length<=x.conds.length
 | [],b,h=>by simp [branchesF] at h
 | x :: l,b,h=>by
  unfold branchesF at h
  have hrec:b∈branchesF l->∃ y∈x :: l,(∀ c∈b.conds,c∈y.conds)/\b.conds.length<=y.conds.length:=fun h=>by
   obtain ⟨y,h1,h2⟩:=branch_rule l b h
   exact ⟨y,List.mem_cons_of_mem _ h1,h2⟩
  split at h
  ·exact hrec h
  split at h
  ·rw [List.mem_singleton] at h
   subst h
   exact ⟨x,List.mem_cons_self ..,by simp,by simp⟩
  ·rcases List.mem_cons.1 h with h | h
   ·subst h
    refine ⟨x,List.mem_cons_self ..,fun c hc =>?_,?_⟩
    ·rcases tidyFrom_sub x.conds [] c hc with h | h
     ·cases h
     ·exact h
    ·have:=tidyFrom_len x.conds []
     show (tidyFrom [] x.conds).length<=_
     simpa using this
   ·exact hrec h
theorem caseOf_rule {p:PolD} {n:BitVec 32} {b:BranchD} (h:b∈(caseOf p n).branches):∃ x∈p.rules,(∀ c∈b.conds,c∈x.conds)/\b.conds.length<=x.conds.length:=by
 obtain ⟨x,h1,h2⟩:=branch_rule _ b h
 refine ⟨x,?_,h2⟩
 have h3:∀ k,x∈byRank (ofNum p.rules n) k->x∈ofNum p.rules n:=fun k hk=>(List.mem_filter.1 hk).1
 have:x∈ofNum p.rules n:=by
  unfold sortS at h1
  simp only [List.mem_append] at h1
  rcases h1 with ((h | h) | h) | h <;> exact h3 _ h
 exact (List.mem_filter.1 this).1
def polIn (p:PolD):Prop:=∀ x∈p.rules,inCs x.conds
theorem plan_in {p:PolD} (h:polIn p) (ns:List (BitVec 32)):∀ c∈(planOf p ns).cases,∀ b∈c.branches,inCs b.conds:=by
 intro c hc b hb x hx
 obtain ⟨n,_,rfl⟩:=List.mem_map.1 hc
 obtain ⟨y,h1,h2,_⟩:=caseOf_rule hb
 exact h y h1 x (h2 x hx)
theorem plan_wP {p:PolD} {ns:List (BitVec 32)} (hn:Nums p ns) {a c:Nat} (h1:p.rules.length<=a) (h2:∀ x∈p.rules,x.conds.length<=c):wP (planOf p ns)<=20+8*a+a*(4*a*(12*c+5)+2):=by
 refine wP_le ?_ (fun x hx =>?_) fun x hx y hy =>?_
 ·have:=hn.len
  show (ns.map (caseOf p)).length<=_
  rw [List.length_map]; omega
 ·have:=plan_branches x hx; omega
 ·obtain ⟨n,_,rfl⟩:=List.mem_map.1 hx
  obtain ⟨z,h3,_,h4⟩:=caseOf_rule hy
  have:=h2 z h3
  omega
theorem scond_in (c:SCond):0<=c.cond.arg/\c.cond.arg<=5:=by
 have h:(c.arg % 6#8).toNat<6:=by
  rw [BitVec.toNat_umod]
  exact Nat.mod_lt _ (by decide)
 have:c.cond.arg=((c.arg % 6#8).toNat:Int):=by unfold SCond.cond; split <;> rfl
 rw [this]
 omega
theorem Small.pol_in (s:Small):polIn s.pol.pol:=by
 intro x hx c hc
 simp only [Small.pol,List.mem_map] at hx
 obtain ⟨y,_,rfl⟩:=hx
 simp only [SRule.rule,List.mem_map] at hc
 obtain ⟨z,_,rfl⟩:=hc
 exact scond_in z
theorem Small.pol_conds (s:Small):∀ x∈s.pol.pol.rules,x.conds.length<=4:=by
 intro x hx
 simp only [Small.pol,List.mem_map] at hx
 obtain ⟨y,_,rfl⟩:=hx
 simp only [SRule.rule,List.length_map,List.length_take]
 omega
end Go.AM
end
section
namespace Go.AM
set_option maxRecDepth 20000
def isLoad (p:PartD):Bool:=decide (p.kind=2#8)&&decide (p.insn.code=32#16)
def dblF:List PartD->List PartD
 | []=>[]
 | p :: l=>if isLoad p=true then p :: p :: dblF l else p :: dblF l
theorem peep_here {p:PartD} (h:p.kind=1#8) (l:List PartD) (now:Option (BitVec 32)):peepF (p :: l) now=p :: peepF l none:=by
 show (if p.kind=1#8 then _ else _)=_
 rw [if_pos h]
theorem peep_load {p:PartD} (h:isLoad p=true) (l:List PartD) (now:Option (BitVec 32)):peepF (p :: l) now=if now=some p.insn.k then peepF l now else p :: peepF l (some p.insn.k):=by
 simp only [isLoad,Bool.and_eq_true,decide_eq_true_eq] at h
 show (if p.kind=1#8 then _ else if p.kind=2#8/\p.insn.code=32#16 then _ else _)=_
 rw [if_neg (by rw [h.1]; decide),if_pos h]
theorem peep_plain {p:PartD} (h2:p.kind=2#8) (h:isLoad p=false) (l:List PartD) (now:Option (BitVec 32)):peepF (p :: l) now=p :: peepF l none:=by
 have hc:¬ (p.kind=2#8/\p.insn.code=32#16):=fun hc=>by simp [isLoad,hc.1,hc.2] at h
 show (if p.kind=1#8 then _ else if p.kind=2#8/\p.insn.code=32#16 then _ else if p.kind=2#8 then _ else _)=_
 rw [if_neg (by rw [h2]; decide),if_neg hc,if_pos h2]
theorem peep_jump {p:PartD} (h1:p.kind≠1#8) (h2:p.kind≠2#8) (l:List PartD) (now:Option (BitVec 32)):peepF (p :: l) now=p :: peepF l now:=by
 show (if p.kind=1#8 then _ else if p.kind=2#8/\p.insn.code=32#16 then _ else if p.kind=2#8 then _ else _)=_
 rw [if_neg h1,if_neg (fun h=>h2 h.1),if_neg h2]
theorem isLoad_kind {p:PartD} (h:isLoad p=true):p.kind=2#8/\p.insn.code=32#16:=by
 simpa [isLoad] using h
theorem den_load (r:RecD) {p:PartD} (h:isLoad p=true) (d:List (Int×Beh)×Beh):denStep r p d=(d.1,fun _=>d.2 (rword r p.insn.k).1):=by
 obtain ⟨h2,hc⟩:=isLoad_kind h
 unfold denStep
 rw [if_neg (by rw [h2]; decide),if_neg (by rw [h2]; decide),if_neg (by rw [h2]; decide)]
 have:∀ a,stepI r p.insn a=((rword r p.insn.k).1,0,none):=fun a=>by unfold stepI; rw [if_pos hc]
 simp only [this]
theorem den_plain (r:RecD) {p:PartD} (h1:p.kind≠1#8) (d d':List (Int×Beh)×Beh) (he:d'.1=d.1) (hb:p.kind=2#8->d'.2=d.2) (hk:p.kind=2#8\/p.kind=3#8\/p.kind=4#8):denStep r p d'=denStep r p d:=by
 unfold denStep
 rw [if_neg h1,if_neg h1]
 rcases hk with h | h | h
 ·rw [if_neg (by rw [h]; decide),if_neg (by rw [h]; decide),if_neg (by rw [h]; decide),if_neg (by rw [h]; decide),he,hb h]
 ·rw [if_neg (by rw [h]; decide),if_pos h,if_neg (by rw [h]; decide),if_pos h,he]
 ·rw [if_pos h,if_pos h,he]
theorem part_kind {p:PartD} (h:partOk p):p.kind=1#8\/p.kind=2#8\/p.kind=3#8\/p.kind=4#8:=by
 rcases h with h | h | ⟨h,_⟩ | ⟨h,_⟩
 ·exact .inl h
 ·exact .inr (.inr (.inr h))
 ·exact .inr (.inl h)
 ·exact .inr (.inr (.inl h))
theorem peep_den (r:RecD):∀ (l:List PartD) (now:Option (BitVec 32)),(∀ p∈l,partOk p)->(den r (peepF l now)).1=(den r l).1/\∀ a,(∀ k,now=some k->a=(rword r k).1)->(den r (peepF l now)).2 a=(den r l).2 a
 | [],_,_=>⟨rfl,fun _ _=>rfl⟩
 | p :: l,now,hp=>by
  have hl:∀ q∈l,partOk q:=fun q hq=>hp q (List.mem_cons_of_mem _ hq)
  have i0:=peep_den r l none hl
  have e0:(den r (peepF l none)).2=(den r l).2:=funext fun a=>i0.2 a (fun k h=>by cases h)
  rcases part_kind (hp p (List.mem_cons_self ..)) with h1 | h2 | h3 | h4
  ·rw [peep_here h1,den_cons,den_cons]
   unfold denStep
   rw [if_pos h1,if_pos h1,e0,i0.1]
   exact ⟨rfl,fun _ _=>rfl⟩
  ·cases hld:isLoad p with
   | true =>
    rw [peep_load hld]
    by_cases hn:now=some p.insn.k
    ·rw [if_pos hn]
     have i1:=peep_den r l now hl
     rw [den_cons,den_load r hld]
     refine ⟨i1.1,fun a ha =>?_⟩
     rw [i1.2 a ha]
     show _=(den r l).2 (rword r p.insn.k).1
     rw [ha _ hn]
    ·rw [if_neg hn]
     have i1:=peep_den r l (some p.insn.k) hl
     rw [den_cons,den_cons,den_load r hld,den_load r hld]
     refine ⟨i1.1,fun a _ =>?_⟩
     exact i1.2 _ fun k hk=>by cases hk; rfl
   | false =>
    rw [peep_plain h2 hld,den_cons,den_cons,den_plain r (by rw [h2]; decide) (den r l) (den r (peepF l none)) i0.1 (fun _=>e0) (.inl h2)]
    exact ⟨rfl,fun _ _=>rfl⟩
  ·have i1:=peep_den r l now hl
   rw [peep_jump (by rw [h3]; decide) (by rw [h3]; decide),den_cons,den_cons,den_plain r (by rw [h3]; decide) (den r l) (den r (peepF l now)) i1.1 (fun h=>by rw [h3] at h; exact absurd h (by decide)) (.inr (.inl h3))]
   exact ⟨rfl,fun _ _=>rfl⟩
  ·have i1:=peep_den r l now hl
   rw [peep_jump (by rw [h4]; decide) (by rw [h4]; decide),den_cons,den_cons,den_plain r (by rw [h4]; decide) (den r l) (den r (peepF l now)) i1.1 (fun h=>by rw [h4] at h; exact absurd h (by decide)) (.inr (.inr h4))]
   exact ⟨rfl,fun _ _=>rfl⟩
theorem dbl_den (r:RecD):∀ (l:List PartD),den r (dblF l)=den r l
 | []=>rfl
 | p :: l=>by
  unfold dblF
  split
  ·rename_i h
   rw [den_cons,den_cons,den_cons,dbl_den r l,den_load r h,den_load r h]
  ·rw [den_cons,den_cons,dbl_den r l]
theorem dbl_mem:∀ {l:List PartD} {p:PartD},p∈dblF l->p∈l
 | [],_,h=>by cases h
 | q :: l,p,h=>by
  unfold dblF at h
  split at h
  ·rcases List.mem_cons.1 h with h | h
   ·rw [h]; exact List.mem_cons_self ..
   ·rcases List.mem_cons.1 h with h | h
    ·rw [h]; exact List.mem_cons_self ..
    ·exact List.mem_cons_of_mem _ (dbl_mem h)
  ·rcases List.mem_cons.1 h with h | h
   ·rw [h]; exact List.mem_cons_self ..
   ·exact List.mem_cons_of_mem _ (dbl_mem h)
theorem peep_dbl_len:∀ (l:List PartD) (now:Option (BitVec 32)),(∀ p∈l,partOk p)->(peepF (dblF l) now).length<=l.length
 | [],_,_=>Nat.le_refl _
 | p :: l,now,hp=>by
  have hl:∀ q∈l,partOk q:=fun q hq=>hp q (List.mem_cons_of_mem _ hq)
  have ih:=fun n=>peep_dbl_len l n hl
  unfold dblF
  cases hld:isLoad p with
  | true =>
   rw [if_pos rfl,peep_load hld]
   by_cases hn:now=some p.insn.k
   ·rw [if_pos hn,peep_load hld,if_pos hn]
    have:=ih now
    simp only [List.length_cons]; omega
   ·rw [if_neg hn,peep_load hld,if_pos rfl]
    have:=ih (some p.insn.k)
    simp only [List.length_cons]; omega
  | false =>
   rw [if_neg (by decide)]
   rcases part_kind (hp p (List.mem_cons_self ..)) with h1 | h2 | h3 | h4
   ·rw [peep_here h1]; have:=ih none; simp only [List.length_cons]; omega
   ·rw [peep_plain h2 hld]; have:=ih none; simp only [List.length_cons]; omega
   ·rw [peep_jump (by rw [h3]; decide) (by rw [h3]; decide)]; have:=ih now; simp only [List.length_cons]; omega
   ·rw [peep_jump (by rw [h4]; decide) (by rw [h4]; decide)]; have:=ih now; simp only [List.length_cons]; omega
end Go.AM
end
section
namespace Go.AM
set_option maxRecDepth 20000
def nowC (o:Option (BitVec 32)):List Value:=[vb o.isSome,u32 (o.getD 0#32)]
section
variable {E:Sy} {H H' H0 Z:AH} {Q:Value->AH->Prop} {X:List Res}
theorem now_same (o:Option (BitVec 32)) (k:BitVec 32):binAgg [2,0] .eql (.agg (nowC o).toArray) (.agg [vb true,u32 k].toArray)=some (vb (decide (o=some k))):=by
 have hb:∀ a:Bool,sameCell 2 (vb a) (vb true)=some (a == true):=fun _=>rfl
 simp only [binAgg,nowC,List.toList_toArray,sameCells,hb,same_u32,Option.bind_some,Option.map_some]
 cases o with
 | none=>simp
 | some x=>simp
def peL (nb:Nat) (o:Option (BitVec 32)) (ov:Value) (out:List PartD):List Res:=[boxR nb (nowC o),growR 7 ov (partR out)]
theorem Has.setNow {nb:Nat} {o:Option (BitVec 32)} {ov:Value} {out:List PartD} (h:Has H0 Z H (peL nb o ov out++X)) (o':Option (BitVec 32)):∃ H',storeN 2 (ptr nb 0) (.agg (nowC o').toArray) H=some H'/\Has H0 Z H' (peL nb o' ov out++X):=by
 have hb:=h.box (k:=0) (b:=nb) (c:=nowC o) rfl
 refine ⟨H.put nb (.cells (nowC o') none),by rw [storeN_ptr,hb]; rfl,h.put (k:=0) (b:=nb) (c:=nowC o) rfl (nowC o')⟩
theorem peL_push {nb:Nat} {o:Option (BitVec 32)} {ov:Value} {out:List PartD} (h:Has H0 Z H (peL nb o ov out++X)) (hl:out.length<2 ^ 30) (p:PartD):∃ v' H',app 7 32 ov (slc H.next 0 1 1) (H.new (.cells p.cells none))=some (v',H')/\Has H0 Z H' (peL nb o v' (out++[p])++X):=by
 obtain ⟨v',H3,a1,a2,g⟩:=h.app1 (k:=1) (sz:=7) (v:=ov) (rows:=partR out) (bytes:=32) rfl p.cells rfl (by simp [PartD.cells]) (by decide) (by decide) (by simp only [partR,List.length_map]; omega)
 refine ⟨v',H3,a1,?_⟩
 have hr:partR (out++[p])=partR out++[p.cells]:=by simp [partR]
 show Has H0 Z H3 (boxR nb (nowC o) :: growR 7 v' (partR (out++[p])) :: X)
 rw [hr]
 exact g
theorem part_ext {b o:Nat} {p:PartD} (e:Ext H0 H) (hr:(H0.get b).row o 7=some p.cells):loadN 7 (ptr b o) H=some p.v:=by
 have:H.get b=H0.get b:=e.obj (o:=H0.get b) (fun hd=>by rw [hd] at hr; cases hr) rfl
 rw [loadN_ptr,this,hr]; rfl
theorem S.f12 (hE:Fold E) {v:Value} {l:List PartD} (hv:Rows H 7 v (partR l)) (hl:l.length<2 ^ 29) (hQ:∀ w H',Ext H H'->Rows H' 7 w (partR (peepF l none))->Q w H'):E.call (E.fid i.f12) [v] H Q:=by
 apply hE.f12
 have i0:(.int .i64 0:Value)=vi ((0:Nat):Int):=rfl
 have hlv:=hv.lenSlc
 have hpl:(partR l).length=l.length:=by simp [partR]
 rw [hpl] at hlv
 have g1:=((Has.begin (Ext.refl H) (Sub.refl H)).newbox [(.bool false),(.int .u32 0)]).nils 7
 simp only [F.f12,allocW_eq,hlv,i0,stdZ]
 generalize H.new (.cells [(.bool false),(.int .u32 0)] none)=H2 at *
 generalize H.next=nb at *
 refine LoopL.count l.length (fun k ls H'=>∃ ov out now,ls=[ov,ptr nb 0,v,vi l.length,vi k]/\Has H H H' (peL nb now ov out++[])/\out.length<=k/\out++peepF (l.drop k) now=peepF l none) ?_ ⟨nilS,[],none,rfl,g1,Nat.le_refl _,rfl⟩
 rintro k _ H3 X1 hk ih ⟨ov,out,now,rfl,g,hol,hpe⟩
 rcases Nat.lt_or_ge k l.length with hlt | hge
 rotate_left
 ·have hlt':decide ((k:Int)<l.length)=false:=decide_eq_false (by omega)
  rw [List.drop_eq_nil_of_le hge] at hpe
  have hpe:out=peepF l none:=by rw [<- hpe]; simp [peepF]
  simp only [F.f12_l1,i64_lss,hlt',stdZ]
  refine hQ _ _ g.ext ?_
  rw [<- hpe]
  exact g.rows (k:=1) (sz:=7) (v:=ov) (rows:=partR out) rfl
 have hlt':decide ((k:Int)<l.length)=true:=decide_eq_true (by omega)
 obtain ⟨b,o,f1,f2,_⟩:=part_ix hv hlt
 have lo:=part_ext g.ext f2
 have hinc:=i64_inc (i:=k) (by omega)
 rw [List.drop_eq_getElem_cons hlt] at hpe
 generalize l[k]=p at *
 have hst:=part_new p H3
 have bp:=AH.get_new_self H3 (.cells p.cells none)
 have g4:Has H H (H3.new (.cells p.cells none)) (peL nb now ov out++[boxR H3.next p.cells]):=g.newbox p.cells
 have c0:p.cells[0]? = some (u8 p.kind):=rfl
 have c3:p.cells[3]? = some (u16 p.insn.code):=rfl
 have c6:p.cells[6]? = some (u32 p.insn.k):=rfl
 have q1:(.int .u8 1:Value)=u8 1#8:=rfl
 have q2:(.int .u8 2:Value)=u8 2#8:=rfl
 have q32:(.int .u16 32:Value)=u16 32#16:=rfl
 have hbv0:buildV [(0,1),(1,1)] #[(.bool false),(.int .u32 0)] []=some (.agg (nowC none).toArray):=rfl
 have hbv1:buildV [(0,1),(1,1)] #[(.bool false),(.int .u32 0)] [(0,(.bool true)),(1,u32 p.insn.k)]=some (.agg (nowC (some p.insn.k)).toArray):=rfl
 simp only [F.f12_l1,i64_lss,hlt',f1,lo,allocW_eq,hst,bp,c0,q1,u8_eql,stdZ]
 generalize H3.new (.cells p.cells none)=H4 at *
 generalize H3.next=t at *
 have fin:∀ (now':Option (BitVec 32)) (K:AH),Has H H K (peL nb now' ov out++[boxR t p.cells])->(out++[p])++peepF (l.drop (k+1)) now'=peepF l none->F.f12_j1 E Q X1 ov (ptr nb 0) (ptr t 0) v (vi l.length) (vi k) K:=by
  intro now' K gk hk'
  have hbt:=gk.box (k:=2) (b:=t) (c:=p.cells) rfl
  have lot:loadN 7 (ptr t 0) K=some p.v:=by rw [loadN_ptr,hbt,row_all _ _ 7 rfl]; rfl
  have hbS:buildS 1 7 #[(.int .u8 0),(.int .i64 0),(.int .i64 0),(.int .u16 0),(.int .u8 0),(.int .u8 0),(.int .u32 0)] [(0,p.v)]=some (.cells p.cells none,mkSlc 1 1):=buildS_one 7 [u8 0#8,vi 0,vi 0,u16 0#16,u8 0#8,u8 0#8,u32 0#32] p.cells rfl rfl
  obtain ⟨w,K2,a1,g5⟩:=peL_push gk (by omega) p
  simp only [F.f12_j1,lot,hbS,AM.mk_some,mkSlc_eq,a1,hinc,stdZ]
  exact ih hlt _ _ ⟨w,out++[p],now',rfl,Has.dropLast (L:=peL nb now' w (out++[p])) g5,by simp; omega,hk'⟩
 have hcons:peepF (p :: l.drop (k+1)) now=if p.kind=1#8 then p :: peepF (l.drop (k+1)) none
  else if p.kind=2#8/\p.insn.code=32#16 then (if now=some p.insn.k then peepF (l.drop (k+1)) now else p :: peepF (l.drop (k+1)) (some p.insn.k))
  else if p.kind=2#8 then p :: peepF (l.drop (k+1)) none
  else p :: peepF (l.drop (k+1)) now:=rfl
 rw [hcons] at hpe
 by_cases o1:p.kind=1#8
 ·have hd:decide (p.kind=1#8)=true:=decide_eq_true o1
  rw [if_pos o1] at hpe
  obtain ⟨K,s1,gk⟩:=g4.setNow none
  simp only [hd,hbv0,s1,stdZ]
  exact fin none K gk (by rw [List.append_assoc]; exact hpe)
 have hd1:decide (p.kind=1#8)=false:=decide_eq_false o1
 rw [if_neg o1] at hpe
 simp only [hd1,bp,c0,q2,u8_eql,stdZ]
 by_cases o2:p.kind=2#8
 ·have hd:decide (p.kind=2#8)=true:=decide_eq_true o2
  simp only [hd,bp,c3,q32,u16_eql,stdZ]
  by_cases o3:p.insn.code=32#16
  ·have hd3:decide (p.insn.code=32#16)=true:=decide_eq_true o3
   rw [if_pos ⟨o2,o3⟩] at hpe
   have hbn:=g4.box (k:=0) (b:=nb) (c:=nowC now) rfl
   have lon:loadN 2 (ptr nb 0) H4=some (.agg (nowC now).toArray):=by rw [loadN_ptr,hbn,row_all _ _ 2 rfl]; rfl
   have hsame:binAgg [2,0] .eql (.agg (nowC now).toArray) (.agg (nowC (some p.insn.k)).toArray)=some (vb (decide (now=some p.insn.k))):=now_same now p.insn.k
   simp only [hd3,lon,bp,c6,hbv1,hsame,stdZ]
   by_cases o4:now=some p.insn.k
   ·have hd4:decide (now=some p.insn.k)=true:=decide_eq_true o4
    rw [if_pos o4] at hpe
    simp only [hd4,hinc,stdZ]
    exact ih hlt _ _ ⟨ov,out,now,rfl,Has.dropLast (L:=peL nb now ov out) g4,by omega,hpe⟩
   ·have hd4:decide (now=some p.insn.k)=false:=decide_eq_false o4
    rw [if_neg o4] at hpe
    obtain ⟨K,s1,gk⟩:=g4.setNow (some p.insn.k)
    simp only [hd4,bp,c6,hbv1,s1,stdZ]
    exact fin (some p.insn.k) K gk (by rw [List.append_assoc]; exact hpe)
  ·have hd3:decide (p.insn.code=32#16)=false:=decide_eq_false o3
   rw [if_neg (fun h=>o3 h.2),if_pos o2] at hpe
   obtain ⟨K,s1,gk⟩:=g4.setNow none
   simp only [hd3,hd,bp,c0,q2,u8_eql,hbv0,s1,stdZ]
   exact fin none K gk (by rw [List.append_assoc]; exact hpe)
 ·have hd:decide (p.kind=2#8)=false:=decide_eq_false o2
  rw [if_neg (fun h=>o2 h.1),if_neg o2] at hpe
  simp only [hd,bp,c0,q2,u8_eql,stdZ]
  exact fin now H4 g4 (by rw [List.append_assoc]; exact hpe)
end
end Go.AM
end
section
namespace Go.AM
set_option maxRecDepth 20000
def skipF:List PartD->List PartD
 | []=>[]
 | p :: l=>if p.kind=1#8 then skipF l else p :: l
def thread1 (p:PartD) (l:List PartD) (m:List (Int×Int)):List (Int×Int) :=
 if p.kind=1#8 then (match (skipF l).head? with
  | some q=>if q.kind=4#8 then aset p.to q.to m else m
  | none=>m) else m
def threadsF:List PartD->List (Int×Int)->List (Int×Int)
 | [],m=>m
 | p :: l,m=>threadsF l (thread1 p l m)
section
variable {E:Sy} {H H' H0 Z:AH} {Q:Value->AH->Prop} {X:List Res}
theorem threads_l2 (hE:Fold E) {v:Value} {l:List PartD} (hv:Rows H0 7 v (partR l)) (hl:l.length<2 ^ 29) {k:Nat} (hk:k<l.length) (h1:l[k].kind=1#8) {r t:Nat} {m:List (Int×Int)} (g:Has H0 Z H [mapR vi vi r m,boxR t l[k].cells]) {X0:List Value->AH->Prop}
  (next:∀ H',Has H0 Z H' [mapR vi vi r (thread1 l[k] (l.drop (k+1)) m)]->X0 [v,.map (some r),v,vi l.length,vi ((k+1:Nat):Int)] H') :
  LoopL (fun l H X1=>F.f44_l2 E Q X0 (nth l 0) (nth l 1) (nth l 2) (nth l 3) (nth l 4) (nth l 5) (nth l 6) H X1) [v,.map (some r),ptr t 0,vi k,v,vi l.length,vi k] H:=by
 have hlv:=hv.lenSlc
 have hpl:(partR l).length=l.length:=by simp [partR]
 rw [hpl] at hlv
 have hinck:=i64_inc (i:=k) (by omega)
 have hth:thread1 l[k] (l.drop (k+1)) m=match (skipF (l.drop k)).head? with
  | some q=>if q.kind=4#8 then aset l[k].to q.to m else m
  | none=>m:=by
  have:skipF (l.drop k)=skipF (l.drop (k+1)):=by
   rw [List.drop_eq_getElem_cons hk]
   show (if l[k].kind=1#8 then _ else _)=_
   rw [if_pos h1]
  unfold thread1
  rw [if_pos h1,this]
 refine LoopL.ind (fun n ls H'=>H=H'/\∃ j:Nat,n=l.length - j/\j<=l.length/\skipF (l.drop k)=skipF (l.drop j)/\ls=[v,.map (some r),ptr t 0,vi j,v,vi l.length,vi k]) ?_ (l.length - k) ⟨rfl,k,rfl,by omega,rfl,rfl⟩
 rintro n _ _ X1 ih ⟨rfl,j,rfl,hj,hs,rfl⟩
 have q1:(.int .u8 1:Value)=u8 1#8:=rfl
 have q4:(.int .u8 4:Value)=u8 4#8:=rfl
 rcases Nat.lt_or_ge j l.length with hlt | hge
 ·have hlt':decide ((j:Int)<l.length)=true:=decide_eq_true (by omega)
  obtain ⟨b,o,f1,f2,_⟩:=part_ix (hv.mono g.ext) hlt
  have c0:((H.get b).cell o)=some (u8 l[j].kind):=by have:=row_at f2 (j:=0) (by omega); simpa [PartD.cells] using this
  have c1:((H.get b).cell (o+1))=some (vi l[j].to):=by have:=row_at f2 (j:=1) (by omega); simpa [PartD.cells] using this
  have hinc:=i64_inc (i:=j) (by omega)
  have hdr:l.drop j=l[j] :: l.drop (j+1):=List.drop_eq_getElem_cons hlt
  have hsk:skipF (l.drop j)=if l[j].kind=1#8 then skipF (l.drop (j+1)) else l[j] :: l.drop (j+1):=by rw [hdr]; rfl
  generalize l[j]=p at *
  simp only [F.f44_l2,hlv,i64_lss,hlt',f1,c0,q1,u8_eql,stdZ]
  by_cases o1:p.kind=1#8
  ·have hd:decide (p.kind=1#8)=true:=decide_eq_true o1
   rw [if_pos o1] at hsk
   simp only [hd,hinc,stdZ]
   exact ih _ (by omega) _ _ ⟨rfl,j+1,rfl,by omega,by rw [hs,hsk],rfl⟩
  ·have hd:decide (p.kind=1#8)=false:=decide_eq_false o1
   rw [if_neg o1] at hsk
   rw [hs,hsk] at hth
   simp only [hd,hlv,i64_lss,hlt',f1,c0,q4,u8_eql,stdZ]
   by_cases o4:p.kind=4#8
   ·have hd4:decide (p.kind=4#8)=true:=decide_eq_true o4
    have hbt:=g.box (k:=1) (b:=t) (c:=l[k].cells) rfl
    have ct:l[k].cells[1]? = some (vi l[k].to):=rfl
    obtain ⟨H2,m1,g2⟩:=g.mapset (n:=0) (r:=r) (l:=m) (fk:=vi) (fv:=vi) rfl same_vi l[k].to p.to
    have hth:thread1 l[k] (l.drop (k+1)) m=aset l[k].to p.to m:=by rw [hth]; show (if p.kind=4#8 then _ else _)=_; rw [if_pos o4]
    rw [hth] at next
    simp only [hd4,hbt,ct,f1,c1,m1,hinck,stdZ]
    exact next _ (g2.drop 1)
   ·have hd4:decide (p.kind=4#8)=false:=decide_eq_false o4
    have hth:thread1 l[k] (l.drop (k+1)) m=m:=by rw [hth]; show (if p.kind=4#8 then _ else _)=_; rw [if_neg o4]
    rw [hth] at next
    simp only [hd4,hinck,stdZ]
    exact next _ (g.drop 1)
 ·have hlt':decide ((j:Int)<l.length)=false:=decide_eq_false (by omega)
  rw [hs,List.drop_eq_nil_of_le hge] at hth
  have hth:thread1 l[k] (l.drop (k+1)) m=m:=hth
  rw [hth] at next
  simp only [F.f44_l2,hlv,i64_lss,hlt',hinck,stdZ]
  exact next _ (g.drop 1)
theorem S.f44 (hE:Fold E) {v:Value} {l:List PartD} (hv:Rows H 7 v (partR l)) (hl:l.length<2 ^ 29) (hQ:∀ r H',Has H H H' [mapR vi vi r (threadsF l [])]->Q (.map (some r)) H'):E.call (E.fid i.f44) [v] H Q:=by
 apply hE.f44
 have hlv:=hv.lenSlc
 have hpl:(partR l).length=l.length:=by simp [partR]
 rw [hpl] at hlv
 have i0:(.int .i64 0:Value)=vi ((0:Nat):Int):=rfl
 have hmw:∀ (H:AH) (K:Value->AH->Prop),mapW H K=K (.map (some H.next)) (H.new (.map [] 0 true)):=fun _ _=>rfl
 have g1:=(Has.begin (Ext.refl H) (Sub.refl H)).newmap vi vi
 simp only [F.f44,hmw,hlv,i0,stdZ]
 generalize H.new (.map [] 0 true)=H1 at *
 generalize H.next=r at *
 refine LoopL.count l.length (fun k ls H'=>ls=[v,.map (some r),v,vi l.length,vi k]/\∃ m,Has H H H' [mapR vi vi r m]/\threadsF (l.drop k) m=threadsF l []) ?_ ⟨rfl,[],g1,rfl⟩
 rintro k _ H2 X1 hk ih ⟨rfl,m,g,hm⟩
 rcases Nat.lt_or_ge k l.length with hlt | hge
 ·have hlt':decide ((k:Int)<l.length)=true:=decide_eq_true (by omega)
  obtain ⟨b,o,f1,f2,_⟩:=part_ix hv hlt
  have lo:=part_ext g.ext f2
  have hinc:=i64_inc (i:=k) (by omega)
  rw [List.drop_eq_getElem_cons hlt] at hm
  have hm:threadsF (l.drop (k+1)) (thread1 l[k] (l.drop (k+1)) m)=threadsF l []:=hm
  have hst:=part_new l[k] H2
  have bp:=AH.get_new_self H2 (.cells l[k].cells none)
  have g3:=g.newbox l[k].cells
  have c0:l[k].cells[0]? = some (u8 l[k].kind):=rfl
  have q1:(.int .u8 1:Value)=u8 1#8:=rfl
  simp only [F.f44_l1,i64_lss,hlt',f1,lo,allocW_eq,hst,bp,c0,q1,u8_neq,stdZ]
  generalize H2.new (.cells l[k].cells none)=H3 at *
  generalize H2.next=t at *
  by_cases o1:l[k].kind=1#8
  ·have hd:decide (l[k].kind≠1#8)=false:=decide_eq_false (by simpa using o1)
   simp only [hd,stdZ]
   exact threads_l2 hE hv hl hlt o1 g3 fun H' g'=>ih hlt _ _ ⟨rfl,_,g',hm⟩
  ·have hd:decide (l[k].kind≠1#8)=true:=decide_eq_true o1
   have ht:thread1 l[k] (l.drop (k+1)) m=m:=by unfold thread1; rw [if_neg o1]
   rw [ht] at hm
   simp only [hd,hinc,stdZ]
   exact ih hlt _ _ ⟨rfl,m,g3.drop 1,hm⟩
 ·have hlt':decide ((k:Int)<l.length)=false:=decide_eq_false (by omega)
  rw [List.drop_eq_nil_of_le hge] at hm
  have hm:m=threadsF l []:=hm
  simp only [F.f44_l1,i64_lss,hlt',stdZ]
  rw [hm] at g
  exact hQ _ _ g
end
end Go.AM
end
section
namespace Go.AM
set_option maxRecDepth 20000
def redirF (w:List (Int×Int)) (p:PartD):PartD :=
 if p.kind=4#8 then { p with to:=alongF w w.length p.to }
 else if p.kind=3#8 then { p with to:=alongF w w.length p.to,els:=alongF w w.length p.els }
 else p
def used1 (u:List (Int×Bool)) (p:PartD):List (Int×Bool) :=
 if p.kind=4#8 then aset p.to true u
 else if p.kind=3#8 then aset p.els true (aset p.to true u)
 else u
def keepF (u:List (Int×Bool)):List PartD->Bool->List PartD
 | [],_=>[]
 | p :: l,dead =>
  if p.kind=1#8 then (if (alook p.to u).getD false=true then p :: keepF u l false else keepF u l dead)
  else if dead=true\/(p.kind=4#8/\followsF l p.to=true) then keepF u l dead
  else p :: keepF u l (decide (p.kind=4#8)||(decide (p.kind=2#8)&&decide (iclass p.insn.code=6#16)))
def onceF (l:List PartD):List PartD :=
 let out:=l.map (redirF (threadsF l []))
 keepF (out.foldl used1 []) out false
section
variable {E:Sy} {H H' H0 Z:AH} {Q:Value->AH->Prop} {X:List Res}
theorem Has.bset {L:List Res} {n t k:Nat} {c c':List Value} {v:Value} (h:Has H0 Z H L) (hn:L[n]? = some (boxR t c)) (hp:plain1 v=true) (hk:k<c.length) (hc:c.set k v=c'):∃ H',store1 (ptr t k) v H=some H'/\Has H0 Z H' (L.set n (boxR t c')):=by
 subst hc
 have hb:=h.box hn
 refine ⟨H.put t (.cells (c.set k v) none),?_,h.put hn _⟩
 rw [store1_ptr,if_pos hp,hb]
 simp only [hk,if_true]
def onL (r ur:Nat) (w:List (Int×Int)) (u:List (Int×Bool)) (ov:Value) (out:List PartD):List Res:=[mapR vi vi r w,mapR vi vb ur u,growR 7 ov (partR out)]
theorem once_j1 (hE:Fold E) {r ur t:Nat} {w:List (Int×Int)} {u:List (Int×Bool)} {ov v:Value} {out:List PartD} {p:PartD} (g:Has H0 Z H (onL r ur w u ov out++[boxR t p.cells])) (hl:out.length<2 ^ 30) {ln k:Nat} (hk:k<2 ^ 30) {X0:List Value->AH->Prop}
  (next:∀ ov' H',Has H0 Z H' (onL r ur w u ov' (out++[p]))->X0 [.map (some r),.map (some ur),ov',v,vi ln,vi ((k+1:Nat):Int)] H'):F.f43_j1 E Q X0 (.map (some r)) (.map (some ur)) ov (ptr t 0) v (vi ln) (vi k) H:=by
 have hbt:=g.box (k:=3) (b:=t) (c:=p.cells) rfl
 have lot:loadN 7 (ptr t 0) H=some p.v:=by rw [loadN_ptr,hbt,row_all _ _ 7 rfl]; rfl
 have hbS:buildS 1 7 #[(.int .u8 0),(.int .i64 0),(.int .i64 0),(.int .u16 0),(.int .u8 0),(.int .u8 0),(.int .u32 0)] [(0,p.v)]=some (.cells p.cells none,mkSlc 1 1):=buildS_one 7 [u8 0#8,vi 0,vi 0,u16 0#16,u8 0#8,u8 0#8,u32 0#32] p.cells rfl rfl
 have hinc:=i64_inc (i:=k) (by omega)
 obtain ⟨v',H3,a1,a2,g2⟩:=g.app1 (k:=2) (sz:=7) (v:=ov) (rows:=partR out) (bytes:=32) rfl p.cells rfl (by simp [PartD.cells]) (by decide) (by decide) (by simp only [partR,List.length_map]; omega)
 have hr:partR (out++[p])=partR out++[p.cells]:=by simp [partR]
 simp only [F.f43_j1,lot,hbS,AM.mk_some,mkSlc_eq,a1,hinc,stdZ]
 refine next v' H3 ?_
 show Has H0 Z H3 [mapR vi vi r w,mapR vi vb ur u,growR 7 v' (partR (out++[p]))]
 rw [hr]
 exact Has.dropLast (L:=[mapR vi vi r w,mapR vi vb ur u,growR 7 v' (partR out++[p.cells])]) g2
theorem once_l1 (hE:Fold E) {v:Value} {l:List PartD} (hv:Rows H0 7 v (partR l)) (hl:l.length<2 ^ 29) {r ur:Nat} {w:List (Int×Int)} (hw:w.length<2 ^ 30) (g0:Has H0 Z H (onL r ur w [] nilS []))
  {R:List Value->AH->Prop} (hR:∀ ov H',Has H0 Z H' (onL r ur w ((l.map (redirF w)).foldl used1 []) ov (l.map (redirF w))) ->
   (opt (lenSlc ov) fun v27=>LoopL (fun l H X0=>F.f43_l2 E Q (nth l 0) (nth l 1) (nth l 2) (nth l 3) (nth l 4) (nth l 5) (nth l 6) H X0) [.map (some ur),ov,(.slice none 0 0),(.bool false),ov,v27,(.int .i64 0)] H')) :
  LoopL (fun l H X0=>F.f43_l1 E Q (nth l 0) (nth l 1) (nth l 2) (nth l 3) (nth l 4) (nth l 5) H X0) [.map (some r),.map (some ur),(.slice none 0 0),v,vi l.length,(.int .i64 0)] H:=by
 have i0:(.int .i64 0:Value)=vi ((0:Nat):Int):=rfl
 rw [i0]
 refine LoopL.count l.length (fun k ls H'=>∃ ov,ls=[.map (some r),.map (some ur),ov,v,vi l.length,vi k]/\Has H0 Z H' (onL r ur w (((l.take k).map (redirF w)).foldl used1 []) ov ((l.take k).map (redirF w)))) ?_ ⟨nilS,rfl,g0⟩
 rintro k _ H1 X1 hk ih ⟨ov,rfl,g⟩
 rcases Nat.lt_or_ge k l.length with hlt | hge
 rotate_left
 ·have hke:k=l.length:=by omega
  subst hke
  have hlt':decide ((l.length:Int)<l.length)=false:=decide_eq_false (by omega)
  rw [List.take_length] at g
  simp only [F.f43_l1,i64_lss,hlt',stdZ]
  exact hR _ _ g
 have hlt':decide ((k:Int)<l.length)=true:=decide_eq_true (by omega)
 obtain ⟨b,o,f1,f2,_⟩:=part_ix hv hlt
 have lo:=part_ext g.ext f2
 have htk:(l.take (k+1)).map (redirF w)=(l.take k).map (redirF w)++[redirF w l[k]]:=by
  rw [List.take_succ,List.getElem?_eq_getElem hlt,List.map_append]; rfl
 have hlen:((l.take k).map (redirF w)).length<2 ^ 30:=by rw [List.length_map,List.length_take]; omega
 have hus:((l.take (k+1)).map (redirF w)).foldl used1 []=used1 (((l.take k).map (redirF w)).foldl used1 []) (redirF w l[k]):=by rw [htk,List.foldl_append]; rfl
 have ih:=ih hlt
 rw [htk] at ih
 rw [htk] at hus
 generalize l[k]=p at *
 rw [hus] at ih
 generalize (l.take k).map (redirF w)=out at *
 generalize out.foldl used1 []=u at *
 have hst:=part_new p H1
 have g2:=g.newbox p.cells
 have bp:=AH.get_new_self H1 (.cells p.cells none)
 have c0:p.cells[0]? = some (u8 p.kind):=rfl
 have c1:p.cells[1]? = some (vi p.to):=rfl
 have c2:p.cells[2]? = some (vi p.els):=rfl
 have q4:(.int .u8 4:Value)=u8 4#8:=rfl
 have q3:(.int .u8 3:Value)=u8 3#8:=rfl
 simp only [F.f43_l1,i64_lss,hlt',f1,lo,allocW_eq,hst,bp,c0,q4,u8_eql,stdZ]
 generalize H1.new (.cells p.cells none)=H2 at *
 generalize H1.next=t at *
 have hmw:MapAt vi vi H2 r w:=g2.mapAt (k:=0) rfl
 by_cases o4:p.kind=4#8
 ·have hd:decide (p.kind=4#8)=true:=decide_eq_true o4
  have hrd:redirF w p={ p with to:=alongF w w.length p.to }:=by unfold redirF; rw [if_pos o4]
  have hu1:used1 u (redirF w p)=aset (alongF w w.length p.to) true u:=by rw [hrd]; unfold used1; rw [if_pos (show PartD.kind { p with to:=alongF w w.length p.to }=4#8 from o4)]
  rw [hu1,hrd] at ih
  simp only [hd,bp,c1,stdZ]
  refine S.f37 hE hmw hw p.to ?_
  obtain ⟨H4,s4,g4⟩:=g2.bset (n:=3) (t:=t) (k:=1) (c:=p.cells) (c':=PartD.cells { p with to:=alongF w w.length p.to }) (v:=vi (alongF w w.length p.to)) rfl rfl (by simp [PartD.cells]) rfl
  have b4:=g4.box (k:=3) (b:=t) (c:=PartD.cells { p with to:=alongF w w.length p.to }) rfl
  have d1:(PartD.cells { p with to:=alongF w w.length p.to })[1]? = some (vi (alongF w w.length p.to)):=rfl
  obtain ⟨H5,m5,g5⟩:=g4.mapset (n:=1) (r:=ur) (l:=u) (fk:=vi) (fv:=vb) rfl same_vi (alongF w w.length p.to) true
  have m5:setMap 0 (.map (some ur)) (vi (alongF w w.length p.to)) (.bool true) H4=some H5:=m5
  simp only [s4,b4,d1,m5,stdZ]
  exact once_j1 hE (p:={ p with to:=alongF w w.length p.to }) g5 hlen (by omega) fun ov' H' g'=>ih _ _ ⟨ov',rfl,g'⟩
 have hd4:decide (p.kind=4#8)=false:=decide_eq_false o4
 simp only [hd4,q3,u8_eql,stdZ]
 by_cases o3:p.kind=3#8
 ·have hd:decide (p.kind=3#8)=true:=decide_eq_true o3
  have hrd:redirF w p={ p with to:=alongF w w.length p.to,els:=alongF w w.length p.els }:=by unfold redirF; rw [if_neg o4,if_pos o3]
  have hu1:used1 u (redirF w p)=aset (alongF w w.length p.els) true (aset (alongF w w.length p.to) true u):=by
   rw [hrd]; unfold used1
   rw [if_neg (show ¬ PartD.kind { p with to:=alongF w w.length p.to,els:=alongF w w.length p.els }=4#8 from o4),if_pos (show PartD.kind { p with to:=alongF w w.length p.to,els:=alongF w w.length p.els }=3#8 from o3)]
  rw [hu1,hrd] at ih
  simp only [hd,bp,c1,c2,stdZ]
  refine S.f37 hE hmw hw p.to ?_
  refine ⟨rfl,?_⟩
  simp only [stdZ]
  refine S.f37 hE hmw hw p.els ?_
  obtain ⟨H4,s4,g4⟩:=g2.bset (n:=3) (t:=t) (k:=1) (c:=p.cells) (c':=PartD.cells { p with to:=alongF w w.length p.to }) (v:=vi (alongF w w.length p.to)) rfl rfl (by simp [PartD.cells]) rfl
  obtain ⟨H5,s5,g5⟩:=g4.bset (n:=3) (t:=t) (k:=2) (c:=PartD.cells { p with to:=alongF w w.length p.to }) (c':=PartD.cells { p with to:=alongF w w.length p.to,els:=alongF w w.length p.els }) (v:=vi (alongF w w.length p.els)) rfl rfl (by simp [PartD.cells]) rfl
  have b5:=g5.box (k:=3) (b:=t) (c:=PartD.cells { p with to:=alongF w w.length p.to,els:=alongF w w.length p.els }) rfl
  have d1:(PartD.cells { p with to:=alongF w w.length p.to,els:=alongF w w.length p.els })[1]? = some (vi (alongF w w.length p.to)):=rfl
  have d2:(PartD.cells { p with to:=alongF w w.length p.to,els:=alongF w w.length p.els })[2]? = some (vi (alongF w w.length p.els)):=rfl
  obtain ⟨H6,m6,g6⟩:=g5.mapset (n:=1) (r:=ur) (l:=u) (fk:=vi) (fv:=vb) rfl same_vi (alongF w w.length p.to) true
  have m6:setMap 0 (.map (some ur)) (vi (alongF w w.length p.to)) (.bool true) H5=some H6:=m6
  have b6:=g6.box (k:=3) (b:=t) (c:=PartD.cells { p with to:=alongF w w.length p.to,els:=alongF w w.length p.els }) rfl
  obtain ⟨H7,m7,g7⟩:=g6.mapset (n:=1) (r:=ur) (l:=aset (alongF w w.length p.to) true u) (fk:=vi) (fv:=vb) rfl same_vi (alongF w w.length p.els) true
  have m7:setMap 0 (.map (some ur)) (vi (alongF w w.length p.els)) (.bool true) H6=some H7:=m7
  simp only [s4,s5,b5,d1,d2,m6,stdZ]
  refine ⟨by rw [b6]; rfl,?_⟩
  simp only [m7,stdZ]
  exact once_j1 hE (p:={ p with to:=alongF w w.length p.to,els:=alongF w w.length p.els }) g7 hlen (by omega) fun ov' H' g'=>ih _ _ ⟨ov',rfl,g'⟩
 ·have hd:decide (p.kind=3#8)=false:=decide_eq_false o3
  have hrd:redirF w p=p:=by unfold redirF; rw [if_neg o4,if_neg o3]
  have hu1:used1 u p=u:=by unfold used1; rw [if_neg o4,if_neg o3]
  rw [hrd,hu1] at ih
  simp only [hd,stdZ]
  exact once_j1 hE (p:=p) g2 hlen (by omega) fun ov' H' g'=>ih _ _ ⟨ov',rfl,g'⟩
end
end Go.AM
end
section
namespace Go.AM
set_option maxRecDepth 20000
section
variable {E:Sy} {H H' H0 Z:AH} {Q:Value->AH->Prop} {X:List Res}
theorem MapAt.look_bool {r:Nat} {l:List (Int×Bool)} (h:MapAt vi vb H r l) (a:Int):AM.look 0 (.bool false) false (.map (some r)) (vi a) H=some (vb ((alook a l).getD false)):=by
 have:=h.look (kd:=0) same_vi a (.bool false) false
 cases hk:alook a l with
 | none=>unfold alook at hk; rw [hk] at this; rw [this]; rfl
 | some n=>unfold alook at hk; rw [hk] at this; rw [this]; rfl
def kpL (ur:Nat) (u:List (Int×Bool)) (ov:Value) (out:List PartD) (kv:Value) (kept:List PartD):List Res:=[mapR vi vb ur u,growR 7 ov (partR out),growR 7 kv (partR kept)]
theorem once_j2 (hE:Fold E) {ur t:Nat} {u:List (Int×Bool)} {ov kv:Value} {out kept:List PartD} {p:PartD} (g:Has H0 Z H (kpL ur u ov out kv kept++[boxR t p.cells])) (hl:kept.length<2 ^ 30) {t9 t56:Value} {ln k:Nat} (hk:k<2 ^ 30) (dead:Value) {X0:List Value->AH->Prop}
  (next:∀ kv' H',Has H0 Z H' (kpL ur u ov out kv' (kept++[p]))->X0 [.map (some ur),ov,kv',dead,t56,vi ln,vi ((k+1:Nat):Int)] H'):F.f43_j2 E Q X0 (.map (some ur)) ov kv dead (ptr t 0) t56 (vi ln) (vi k) H:=by
 have hbt:=g.box (k:=3) (b:=t) (c:=p.cells) rfl
 have lot:loadN 7 (ptr t 0) H=some p.v:=by rw [loadN_ptr,hbt,row_all _ _ 7 rfl]; rfl
 have hbS:buildS 1 7 #[(.int .u8 0),(.int .i64 0),(.int .i64 0),(.int .u16 0),(.int .u8 0),(.int .u8 0),(.int .u32 0)] [(0,p.v)]=some (.cells p.cells none,mkSlc 1 1):=buildS_one 7 [u8 0#8,vi 0,vi 0,u16 0#16,u8 0#8,u8 0#8,u32 0#32] p.cells rfl rfl
 have hinc:=i64_inc (i:=k) (by omega)
 obtain ⟨v',H3,a1,a2,g2⟩:=g.app1 (k:=2) (sz:=7) (v:=kv) (rows:=partR kept) (bytes:=32) rfl p.cells rfl (by simp [PartD.cells]) (by decide) (by decide) (by simp only [partR,List.length_map]; omega)
 have hr:partR (kept++[p])=partR kept++[p.cells]:=by simp [partR]
 simp only [F.f43_j2,lot,hbS,AM.mk_some,mkSlc_eq,a1,hinc,stdZ]
 refine next v' H3 ?_
 show Has H0 Z H3 [mapR vi vb ur u,growR 7 ov (partR out),growR 7 v' (partR (kept++[p]))]
 rw [hr]
 exact Has.dropLast (L:=[mapR vi vb ur u,growR 7 ov (partR out),growR 7 v' (partR kept++[p.cells])]) g2
theorem once_l2 (hE:Fold E) {ur:Nat} {u:List (Int×Bool)} {ov:Value} {out:List PartD} (hl:out.length<2 ^ 29) (g0:Has H0 Z H (kpL ur u ov out nilS []))
    (hQ:∀ w H',Ext H0 H'->Rows H' 7 w (partR (keepF u out false))->Q w H') :
    LoopL (fun l H X0=>F.f43_l2 E Q (nth l 0) (nth l 1) (nth l 2) (nth l 3) (nth l 4) (nth l 5) (nth l 6) H X0) [.map (some ur),ov,(.slice none 0 0),(.bool false),ov,vi out.length,(.int .i64 0)] H:=by
  have i0:(.int .i64 0:Value)=vi ((0:Nat):Int):=rfl
  rw [i0]
  refine LoopL.count out.length (fun k ls H'=>∃ kv kept dead,ls=[.map (some ur),ov,kv,vb dead,ov,vi out.length,vi k]/\Has H0 Z H' (kpL ur u ov out kv kept)/\kept.length<=k/\kept++keepF u (out.drop k) dead=keepF u out false) ?_ ⟨nilS,[],false,rfl,g0,Nat.le_refl _,rfl⟩
  rintro k _ H1 X1 hk ih ⟨kv,kept,dead,rfl,g,hkl,hkp⟩
  rcases Nat.lt_or_ge k out.length with hlt | hge
  rotate_left
  · have hlt':decide ((k:Int)<out.length)=false:=decide_eq_false (by omega)
    rw [List.drop_eq_nil_of_le hge] at hkp
    have hkp:kept=keepF u out false:=by rw [<- hkp]; simp [keepF]
    simp only [F.f43_l2,i64_lss,hlt',stdZ]
    refine hQ _ _ g.ext ?_
    rw [<- hkp]
    exact g.rows (k:=2) (sz:=7) (v:=kv) (rows:=partR kept) rfl
  have hlt':decide ((k:Int)<out.length)=true:=decide_eq_true (by omega)
  have hrw:=g.rows (k:=1) (sz:=7) (v:=ov) (rows:=partR out) rfl
  obtain ⟨b,o,f1,_,lo⟩:=part_ix hrw hlt
  have hinc:=i64_inc (i:=k) (by omega)
  have ih:=ih hlt
  have hpo:(partR out).length=out.length:=by simp [partR]
  have hdt:((partR out).take out.length).drop (k+1)=partR (out.drop (k+1)):=by
    rw [<- hpo,List.take_length]; simp [partR]
  rw [List.drop_eq_getElem_cons hlt] at hkp
  generalize out[k]=p at *
  have hst:=part_new p H1
  have g2:=g.newbox p.cells
  have bp:=AH.get_new_self H1 (.cells p.cells none)
  have c0:p.cells[0]? = some (u8 p.kind):=rfl
  have c1:p.cells[1]? = some (vi p.to):=rfl
  have c3:p.cells[3]? = some (u16 p.insn.code):=rfl
  have q1:(.int .u8 1:Value)=u8 1#8:=rfl
  have q2:(.int .u8 2:Value)=u8 2#8:=rfl
  have q4:(.int .u8 4:Value)=u8 4#8:=rfl
  have q6:(.int .u16 6:Value)=u16 6#16:=rfl
  simp only [F.f43_l2,i64_lss,hlt',f1,lo,allocW_eq,hst,bp,c0,q1,u8_eql,stdZ]
  generalize H1.new (.cells p.cells none)=H2 at *
  generalize H1.next=t at *
  have skip:∀ {K:AH},Has H0 Z K (kpL ur u ov out kv kept++[boxR t p.cells])->kept++keepF u (out.drop (k+1)) dead=keepF u out false->X1 [.map (some ur),ov,kv,vb dead,ov,vi out.length,vi ((k+1:Nat):Int)] K:=fun gK h=>ih _ _ ⟨kv,kept,dead,rfl,Has.dropLast (L:=kpL ur u ov out kv kept) gK,by omega,h⟩
  have push:∀ {K:AH} (d':Bool),Has H0 Z K (kpL ur u ov out kv kept++[boxR t p.cells])->(kept++[p])++keepF u (out.drop (k+1)) d'=keepF u out false->F.f43_j2 E Q X1 (.map (some ur)) ov kv (vb d') (ptr t 0) ov (vi out.length) (vi k) K:=fun d' gK h =>
    once_j2 hE gK (by omega) (t9:=nilS) (by omega) (vb d') fun kv' H' g'=>ih _ _ ⟨kv',kept++[p],d',rfl,g',by simp; omega,h⟩
  have hcons:keepF u (p :: out.drop (k+1)) dead=if p.kind=1#8 then (if (alook p.to u).getD false=true then p :: keepF u (out.drop (k+1)) false else keepF u (out.drop (k+1)) dead)
    else if dead=true\/(p.kind=4#8/\followsF (out.drop (k+1)) p.to=true) then keepF u (out.drop (k+1)) dead
    else p :: keepF u (out.drop (k+1)) (decide (p.kind=4#8)||(decide (p.kind=2#8)&&decide (iclass p.insn.code=6#16))):=rfl
  rw [hcons] at hkp
  by_cases o1:p.kind=1#8
  · have hd:decide (p.kind=1#8)=true:=decide_eq_true o1
    have hlk:=(g2.mapAt (k:=0) (fk:=vi) (fv:=vb) (r:=ur) (l:=u) rfl).look_bool p.to
    rw [if_pos o1] at hkp
    simp only [hd,bp,c1,hlk,stdZ]
    cases hu:(alook p.to u).getD false with
    | true =>
      rw [hu,if_pos rfl] at hkp
      simp only [stdZ]
      exact push false g2 (by rw [List.append_assoc]; exact hkp)
    | false =>
      rw [hu,if_neg (by decide)] at hkp
      simp only [hinc,stdZ]
      exact skip g2 hkp
  have hd1:decide (p.kind=1#8)=false:=decide_eq_false o1
  rw [if_neg o1] at hkp
  simp only [hd1,stdZ]
  have stay:∀ {K:AH},Has H0 Z K (kpL ur u ov out kv kept++[boxR t p.cells])->¬ (dead=true\/(p.kind=4#8/\followsF (out.drop (k+1)) p.to=true))->F.f43_j3 E Q X1 (.map (some ur)) ov kv (vb dead) (ptr t 0) ov (vi out.length) (vi k) (vb false) K:=by
    intro K gK hn
    rw [if_neg hn] at hkp
    have bK:=gK.box (k:=3) (b:=t) (c:=p.cells) rfl
    simp only [F.f43_j3,bK,c0,q4,u8_eql,stdZ]
    by_cases o4:p.kind=4#8
    · have hd4:decide (p.kind=4#8)=true:=decide_eq_true o4
      rw [hd4,Bool.true_or] at hkp
      simp only [hd4,stdZ]
      exact push true gK (by rw [List.append_assoc]; exact hkp)
    · have hd4:decide (p.kind=4#8)=false:=decide_eq_false o4
      rw [hd4,Bool.false_or] at hkp
      simp only [hd4,bK,c0,q2,u8_eql,stdZ]
      by_cases o2:p.kind=2#8
      · have hd2:decide (p.kind=2#8)=true:=decide_eq_true o2
        rw [hd2,Bool.true_and] at hkp
        simp only [hd2,bK,c3,stdZ]
        refine S.f13 hE _ ?_
        simp only [q6,u16_eql,hd4,hd2,stdZ]
        exact push _ gK (by rw [List.append_assoc]; exact hkp)
      · have hd2:decide (p.kind=2#8)=false:=decide_eq_false o2
        rw [hd2,Bool.false_and] at hkp
        simp only [hd2,hd4,stdZ]
        exact push false gK (by rw [List.append_assoc]; exact hkp)
  have go:∀ {K:AH},Has H0 Z K (kpL ur u ov out kv kept++[boxR t p.cells])->(dead=true\/(p.kind=4#8/\followsF (out.drop (k+1)) p.to=true))->F.f43_j3 E Q X1 (.map (some ur)) ov kv (vb dead) (ptr t 0) ov (vi out.length) (vi k) (vb true) K:=by
    intro K gK hy
    rw [if_pos hy] at hkp
    simp only [F.f43_j3,hinc,stdZ]
    exact skip gK hkp
  cases dead with
  | true =>
    simp only [stdZ]
    exact go g2 (.inl rfl)
  | false =>
    simp only [bp,c0,q4,u8_eql,stdZ]
    by_cases o4:p.kind=4#8
    · have hd4:decide (p.kind=4#8)=true:=decide_eq_true o4
      have i1:(.int .i64 1:Value)=vi 1:=rfl
      obtain ⟨sl,rl⟩:=(g2.rows (k:=1) (sz:=7) (v:=ov) (rows:=partR out) rfl).slice' (lo:=some (vi ((k+1:Nat):Int))) (hi:=none) (i:=k+1) (j:=out.length) (.inl rfl) (.inr ⟨rfl,hpo.symm⟩) (by omega) (by omega)
      rw [hdt] at rl
      simp only [hd4,hinc,sl,bp,c1,stdZ]
      refine S.f38 hE rl (by rw [List.length_drop]; omega) p.to fun H3 e3 =>?_
      have g3:=g2.grow e3
      cases hf:followsF (out.drop (k+1)) p.to with
      | true =>
        simp only [hd4,stdZ]
        exact go g3 (.inr ⟨o4,hf⟩)
      | false =>
        simp only [hd4,stdZ]
        exact stay g3 (by rintro (h | h); · cases h
                          · rw [hf] at h; cases h.2)
    · have hd4:decide (p.kind=4#8)=false:=decide_eq_false o4
      simp only [hd4,stdZ]
      exact stay g2 (by rintro (h | h); · cases h
                        · exact o4 h.1)
end
end Go.AM
end
section
namespace Go.AM
set_option maxRecDepth 20000
def tidyF:Nat->List PartD->List PartD
 | 0,l=>l
 | f+1,l=>if (onceF l).length=l.length then onceF l else tidyF f (onceF l)
theorem keepF_len (u:List (Int×Bool)):∀ (l:List PartD) (d:Bool),(keepF u l d).length<=l.length
 | [],_=>Nat.le_refl _
 | p :: l,d=>by
  unfold keepF
  have h:=keepF_len u l
  split
  ·split
   ·have:=h false; simp only [List.length_cons]; omega
   ·have:=h d; simp only [List.length_cons]; omega
  ·split
   ·have:=h d; simp only [List.length_cons]; omega
   ·have:=h (decide (p.kind=4#8)||(decide (p.kind=2#8)&&decide (iclass p.insn.code=6#16))); simp only [List.length_cons]; omega
theorem onceF_len (l:List PartD):(onceF l).length<=l.length:=by
 unfold onceF
 have:=keepF_len ((l.map (redirF (threadsF l []))).foldl used1 []) (l.map (redirF (threadsF l []))) false
 rw [List.length_map] at this
 exact this
theorem aset_len {K V:Type} [DecidableEq K] (k:K) (v:V):∀ l:List (K×V),(aset k v l).length<=l.length+1
 | []=>by simp [aset]
 | p :: l=>by
  simp only [aset]
  split
  ·simp
  ·have:=aset_len k v l; simp only [List.length_cons]; omega
theorem threadsF_len:∀ (l:List PartD) (m:List (Int×Int)),(threadsF l m).length<=m.length+l.length
 | [],_=>Nat.le_refl _
 | p :: l,m=>by
  have h1:=threadsF_len l (thread1 p l m)
  have h2:(thread1 p l m).length<=m.length+1:=by
   unfold thread1
   split
   ·split
    ·split
     ·exact aset_len _ _ _
     ·exact Nat.le_succ _
    ·exact Nat.le_succ _
   ·exact Nat.le_succ _
  show (threadsF l (thread1 p l m)).length<=_
  simp only [List.length_cons]
  omega
section
variable {E:Sy} {H H' H0 Z:AH} {Q:Value->AH->Prop} {X:List Res}
theorem S.f43 (hE:Fold E) {v:Value} {l:List PartD} (hv:Rows H 7 v (partR l)) (hl:l.length<2 ^ 29) (hQ:∀ w H',Ext H H'->Rows H' 7 w (partR (onceF l))->Q w H'):E.call (E.fid i.f43) [v] H Q:=by
 apply hE.f43
 have hlv:=hv.lenSlc
 have hpl:(partR l).length=l.length:=by simp [partR]
 rw [hpl] at hlv
 have hmw:∀ (H:AH) (K:Value->AH->Prop),mapW H K=K (.map (some H.next)) (H.new (.map [] 0 true)):=fun _ _=>rfl
 simp only [F.f43,stdZ]
 refine S.f44 hE hv hl fun r H1 g1 =>?_
 have g2:=(g1.newmap vi vb).nils 7
 simp only [hmw,hlv,stdZ]
 generalize H1.new (.map [] 0 true)=H2 at *
 generalize H1.next=ur at *
 have hwl:=threadsF_len l []
 simp only [List.length_nil,Nat.zero_add] at hwl
 refine once_l1 hE hv hl (by omega) g2 (R:=fun _ _=>True) fun ov H3 g3 =>?_
 have hlo:=(g3.rows (k:=2) (sz:=7) (v:=ov) (rows:=partR (l.map (redirF (threadsF l [])))) rfl).lenSlc
 have hpo:(partR (l.map (redirF (threadsF l [])))).length=(l.map (redirF (threadsF l []))).length:=by simp [partR]
 rw [hpo] at hlo
 simp only [hlo,stdZ]
 exact once_l2 hE (by rw [List.length_map]; exact hl) ((g3.drop 0).nils 7) hQ
theorem S.f36 (hE:Fold E) {v:Value} {l:List PartD} (hv:Rows H 7 v (partR l)) (hl:l.length<2 ^ 29) (hQ:∀ w H',Ext H H'->Rows H' 7 w (partR (tidyF (l.length+1) l))->Q w H'):E.call (E.fid i.f36) [v] H Q:=by
 apply hE.f36
 simp only [F.f36,stdZ]
 refine LoopL.ind (fun n ls H'=>∃ tv l',ls=[tv]/\n=l'.length/\Ext H H'/\Rows H' 7 tv (partR l')/\l'.length<=l.length/\∃ f,l'.length<f/\tidyF f l'=tidyF (l.length+1) l) ?_ l.length ⟨v,l,rfl,rfl,Ext.refl _,hv,Nat.le_refl _,l.length+1,Nat.lt_succ_self _,rfl⟩
 rintro n _ H1 X1 ih ⟨tv,l',rfl,rfl,e1,hr,hll,f,hf,ht⟩
 obtain ⟨f,rfl⟩:∃ g,f=g+1:=⟨f - 1,by omega⟩
 have hts:tidyF (f+1) l'=if (onceF l').length=l'.length then onceF l' else tidyF f (onceF l'):=rfl
 rw [hts] at ht
 have hol:=onceF_len l'
 have hlv:=hr.lenSlc
 have hpl:∀ l:List PartD,(partR l).length=l.length:=fun l=>by simp [partR]
 rw [hpl] at hlv
 simp only [F.f36_l1,stdZ]
 refine S.f43 hE hr (by omega) fun w H2 e2 hw =>?_
 have hlw:=hw.lenSlc
 rw [hpl] at hlw
 simp only [hlw,hlv,i64_eql,stdZ]
 by_cases he:(onceF l').length=l'.length
 ·have hd:decide (((onceF l').length:Int)=(l'.length:Int))=true:=decide_eq_true (by omega)
  rw [if_pos he] at ht
  rw [ht] at hw
  simp only [hd,stdZ]
  exact hQ _ _ (e1.trans e2) hw
 ·have hd:decide (((onceF l').length:Int)=(l'.length:Int))=false:=decide_eq_false (by omega)
  rw [if_neg he] at ht
  simp only [hd,stdZ]
  exact ih (onceF l').length (by omega) _ _ ⟨w,onceF l',rfl,rfl,e1.trans e2,hw,by omega,f,by omega,ht⟩
end
end Go.AM
end
section
namespace Go.AM
set_option maxRecDepth 20000
theorem Small.rules_12 (s:Small):s.pol.pol.rules.length<=12:=by simp [Small.pol]; omega
theorem Grow.toZ {Z H:AH} {sz:Nat} {v:Value} {rows:List (List Value)} (h:Grow Z H sz v rows):Grow zH H sz v rows:=⟨h.1,h.2.imp id fun ⟨b,f,c,cs,_,h2⟩=>⟨b,f,c,cs,zH_get _,h2⟩⟩
section
variable {E:Sy} {H H' H0 Z:AH} {Q:Value->AH->Prop} {X:List Res} {fb:Nat} {c:List InsnD}
theorem fresh_store {H:AH} {z c:List Value} {n:Nat} (hz:z.length=n) (hc:c.length=n) (hp:c.all plain1=true):storeN n (ptr H.next 0) (.agg c.toArray) (H.new (.cells z none))=some (H.new (.cells c none)):=by
 rw [storeN_ptr,AH.get_new_self]
 have:AM.splice z 0 c=c:=by simp [splice,hz,hc]
 simp only [List.size_toArray,List.toList_toArray,hc,hz,hp,Nat.zero_add,Nat.le_refl,and_self,if_true,this,AH.new_put]
theorem fresh_load {H:AH} {c:List Value} {n:Nat} (hc:c.length=n):loadN n (ptr H.next 0) (H.new (.cells c none))=some (.agg c.toArray):=by rw [loadN_ptr,AH.get_new_self,row_all _ _ n hc]; rfl
theorem Fil.add (h:Fil H0 Z H fb c X) (r:Res) (e:Ext H H') (hp:r.P H') (hf:∀ b∈r.fp,H.next<=b/\b<H'.next) (hn:r.fp.Nodup):Fil H0 Z H' fb c (X++[r]):=by
 obtain ⟨lv,n1,n2,h⟩:=h
 exact ⟨lv,n1,n2,h.add r e hp hf hn⟩
theorem Fil.newbox (h:Fil H0 Z H fb c X) (cs:List Value):Fil H0 Z (H.new (.cells cs none)) fb c (X++[boxR H.next cs]):=by
 obtain ⟨lv,n1,n2,h⟩:=h
 exact ⟨lv,n1,n2,h.newbox cs⟩
theorem Fil.box {t:Nat} {cs:List Value} (h:Fil H0 Z H fb c (X++[boxR t cs])):H.get t = .cells cs none:=by
 obtain ⟨lv,n1,n2,h⟩:=h
 exact (h.all (boxR t cs) (by simp)).1
theorem Fil.dropLast {r:Res} (h:Fil H0 Z H fb c (X++[r])):Fil H0 Z H fb c X:=by
 obtain ⟨lv,n1,n2,h⟩:=h
 exact ⟨lv,n1,n2,Has.dropLast (L:=_ :: _ :: X) h⟩
theorem Fil.rows {v:Value} {sz:Nat} {rows:List (List Value)} (h:Fil H0 Z H fb c (growR sz v rows :: X)):Rows H sz v rows:=by
 obtain ⟨lv,n1,n2,h⟩:=h
 exact h.rows (k:=2) (sz:=sz) (v:=v) (rows:=rows) rfl
theorem low_len (p:PlanD):(lowerF p).parts.length<=3*wP p:=by
 have h3:(low3 p).1.big=(lower0 p.default).big+p.cases.length:=big_starts p.cases (lower0 p.default,[])
 have h0:=big_lower0 p.default
 have h4:(low4 p).big+(if p.cases.length=0 then 0 else 6)<=((low3 p).1.put (pPlain (iLoad 0#32))).big+7*p.cases.length+1:=big_choose (low3 p).2 (p.cases.length+1) p.cases ((low3 p).1.put (pPlain (iLoad 0#32))) (Nat.lt_succ_self _)
 rw [big_put] at h4
 have h5:=big_cases (low3 p).2 p.cases (low4 p)
 have hw:wP p=20+8*p.cases.length+(p.cases.map wK).sum:=rfl
 have h6:=big_ends (LwD.cases (low3 p).2 p.cases (low4 p)).order (LwD.cases (low3 p).2 p.cases (low4 p)).acts (LwD.cases (low3 p).2 p.cases (low4 p))
 have h7:(LwD.cases (low3 p).2 p.cases (low4 p)).order.length<=(LwD.cases (low3 p).2 p.cases (low4 p)).big:=by unfold LwD.big; omega
 have h8:(lowerF p).parts.length<=(lowerF p).big:=by unfold LwD.big; omega
 have h9:(lowerF p).big=(LwD.cases (low3 p).2 p.cases (low4 p)).big+2*(LwD.cases (low3 p).2 p.cases (low4 p)).order.length:=h6
 have h5:=big_cases (low3 p).2 p.cases (low4 p)
 omega
end
end Go.AM
end
